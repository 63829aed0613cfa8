/- Texts of the proof of ledgerlaw13.ClientPlays, part 32; no condition of its own. -/
import Derived.Deep.OwnRows
import Derived.Test.YtfnlhfaihoojfaaGreatDoorS8
set_option maxRecDepth 100000
set_option maxHeartbeats 4000000
namespace Go.Proofs.YtfnlhfaihoojfaaGreatDoor
open Go.RowKit
theorem DY(n:Nat):madeCells #[(.int .u8 0:Value)] n=gZ n:=by
 apply Array.ext
 ·simp[madeCells,gZ,bvs,zs]
 ·intro i h1 h2;simp[madeCells,gZ,bvs,bv,zs,Nat.mod_one]
theorem Fk{P:Program}{ops:Array Oper}{rest:List Oper}{o:Oper}{a:Act}{w:World}{Q:Exit->Act->World->Prop}(hgd:o.guard=none)(l c:Operand)(t:TypeId)(hop:o.op=Op.makeSlice t l c)(e:TypeId)(ht:P.underlying t=some (.slice e))(hinfo:(P.info? e).map (fun i=>(i.zero,i.size,i.bytes))=some (some (.int .u8 0),1,1))(L:Int)(n:Nat)(hl:a.eval l= .int .i64 L)(hc:a.eval c= .int .i64 L)(hL:L=(n:Int))(hn:n<=281474976710656)(h:∀w',Hd (ar w' w.heap.size e (zs n))->Hd (Below w.heap.size w w')->Hd (w'.heap.size=w.heap.size+1)->wpList P ops Q rest (a.put o.dst (.slice (some ⟨w.heap.size,0,none⟩) n n)) w'):wpList P ops Q (o::rest) a w:=by
 subst hL;obtain⟨i,hi,hz0,hz1,hz2⟩:=info_parts hinfo;refine wpList_make_row w hgd l c t hop e i (.int .u8 0) ht hi hz0 hz1 rfl .i64 .i64 n hl hc (by rw[hz2];omega) (by omega) ?_;refine h _ ?_ ((Below.refl _ _).alloc (Nat.le_refl _) _) (by show _=_;simp);rw[DY];exact tv n w e
def m80:List Nat:=List.replicate 80 165
theorem dX:m80.length=80:=by simp[m80]
def lh(xs:List Nat)(j:Nat):List Nat:=xs++(List.replicate j 165++zs (80-j))
theorem rp(xs:List Nat){j:Nat}(h:j<=80):(lh xs j).length=xs.length+80:=by simp[lh,zs];omega
theorem vo(xs:List Nat){j:Nat}(h:j<80):(lh xs j).set (xs.length+j) 165=lh xs (j+1):=by
 unfold lh zs;rw[List.set_append_right _ _ (by omega),show xs.length+j-xs.length=j by omega,List.set_append_right _ _ (by simp),List.length_replicate,Nat.sub_self,show 80-j=(80-(j+1))+1by omega,List.replicate_succ,List.set_cons_zero,List.replicate_succ'];simp
theorem yD(xs:List Nat):lh xs 80=xs++m80:=by simp[lh,m80,zs]
theorem vi(xs:List Nat){n:Nat}(h:xs.length=n):splice (zs (n+80)) 0 xs=lh xs 0:=by
 unfold splice lh;rw[List.take_zero,List.nil_append,Nat.zero_add,h,AH,List.drop_left' (ak n)];simp
def zW(n:Nat)(xs:List Nat)(w:World)(e:Ending)(w':World):Prop:=∃g,e= .returned (.slice (some ⟨g,0,none⟩) (n+80) (n+80))/\w.heap.size<=g/\ar w' g 5 (xs++m80)/\Below w.heap.size w w'
theorem il(A:Option Addr)(n c:Nat)(xs:List Nat)(w:World)(hx:RB w A n xs)(hn:n+80<=140737488355328):Calls Tryz.prog 11 #[.slice A n c] w (zW n xs w):=by
 have H:=aa hx;have hlx:=hx.1;have B:=aa hlx;clear hx hlx;go_enter Tryz.func11,Tryz.ntmps11;go_wp2_with(first|((with_reducible refine atS 8 ?_);refine Fk (by rfl) (.tmp 7) (.tmp 7) 36 rfl 5 ax aH _ (n+80) rfl rfl (by omega) (by omega) ?_;intro w1 I F M;(try simp only[Act.put,LS]))|((with_reducible refine atS 11 ?_);refine AC (by rfl) (.tmp 9) (.tmp 10) 36 36 rfl 5 ax dB A w.heap.size 0 (n+80) (n+80) n c rfl rfl (zs (n+80)) 5 I.o _ (H.o.below F.o) (by omega) (by rw[ak];omega) w.heap.size w F.o (Nat.le_refl _) ?_;intro w2 E C;rw[vi xs B.o]at E;have C:=aa C;(try simp only[Act.put,LS])));go_loopw[4](fun i wr=>∃j:Nat,j<=80/\i= .int .i64 ((n+j:Nat):Int)/\Hd (ar wr w.heap.size 5 (lh xs j))/\Hd (Below w.heap.size w wr))(fun i _=>n+80-(intOf i).toNat)
 case atStart=>exact⟨0,by omega,rfl,E.o,C.o⟩
 case round=>
  clear E C;obtain⟨j,hj,rfl,D,G⟩:=hrel;by_cases hlt:j<80
  ·have hlr:(lh xs j).length=n+80:=by rw[rp xs hj,B.o]
   have cc:=D.o.cell (i:=n+j) (by omega);have cf:=ab.frozen D.o (n+j);have J:Hd (ar (wr.setCell ⟨w.heap.size,n+j,none⟩ (.int .u8 165)) w.heap.size 5 (lh xs (j+1))):=by
    have h:=D.o.set (n+j) 165;rw[<-B.o,vo xs hlt,B.o]at h;exact h
   have K:Hd (Below w.heap.size w (wr.setCell ⟨w.heap.size,n+j,none⟩ (.int .u8 165))):=G.o.setCell (Nat.le_refl _) _;generalize(lh xs j).getD (n+j) 0=z at*;clear hlr;go_wp2_with fail;go_roundw
   case rel=>exact⟨j+1,by omega,by go_num,J.o,K.o⟩
   case measure=>simp[intOf];omega
  ·have L:Hd (ar wr w.heap.size 5 (xs++m80)):=by
    have h:=D.o;rwa[show j=80by omega,yD]at h
   go_wp2_with fail;go_ret;exact⟨w.heap.size,rfl,Nat.le_refl _,L.o,G.o⟩
theorem gg(g:Nat)(B:Option Addr)(n d:Nat)(ys:List Nat)(w:World)(hg:ar w g 5 (ys++m80))(hy:RB w B n ys)(hn:n+80<=140737488355328):Calls Tryz.prog 13 #[.slice (some ⟨g,0,none⟩) (n+80) (n+80), .slice B n d] w fun e w'=>e= .returned (.bool true)/\∃q,w'=w.drewN q:=by
 have D:=aa hg;have E:=aa hy;have hly:=hy.1;have A:=aa hly;have F:Hd ((ys++m80).length=n+80):=by
  show _=_;rw[List.length_append,dX,hly]
 clear hg hy hly;go_enter Tryz.func13,Tryz.ntmps13;go_wp2_with fail;go_loopw[5](fun i wr=>∃k q:Nat,k<=n+80/\i= .int .i64 k/\wr=w.drewN q)(fun i _=>n+80-(intOf i).toNat)
 case atStart=>exact⟨0,0,by omega,rfl,rfl⟩
 case round=>
  obtain⟨k,q,hk,rfl,rfl⟩:=hrel;by_cases hlt:k<n+80
  ·have cl:(w.drewN q).cell? ⟨g,k,none⟩=some (.int .u8 ((ys++m80).getD k 0:Nat)):=D.o.cell (i:=k) (by rw[F.o];exact hlt);have i0:(k:Int)<(n:Int)+80:=by omega
   have i1:(0:Int)<=(k:Int):=by omega
   by_cases hkn:k<n
   ·obtain⟨ad,rfl,_,hc⟩:=E.o.at_ hkn;have cy:(w.drewN q).cell? (ad.add k)=some (.int .u8 (ys.getD k 0:Nat)):=hc;have e:(ys++m80).getD k 0=ys.getD k 0:=by
     simp only[List.getD];rw[List.getElem?_append_left (by rw[A.o];exact hkn)]
    rw[e]at cl;clear e hc;generalize ys.getD k 0=y at*;have dk:decide ((k:Int)<(n:Int))=true:=by simpa using hkn
    have dk2:(k:Int)<(n:Int):=by omega
    have dk3:decide ((n:Int)<=(k:Int))=false:=by simpa using hkn
    have dk4:decide (n<=k)=false:=by simpa using hkn
    obtain⟨w2,hw2⟩:∃w2,w.drewN q=w2:=⟨_,rfl⟩;rw[hw2]at cl cy;rw[hw2];have C:=aa hw2;clear hw2;go_wp2_with fail;go_quiet(fail);go_wp2_with fail;go_roundw
    case rel=>exact⟨k+1,q+nq,by omega,by go_num,by rw[<-C.o,World.drewN_drewN]⟩
    case measure=>simp[intOf];omega
   ·have e:(ys++m80).getD k 0=165:=by
     simp only[List.getD];rw[List.getElem?_append_right (by rw[A.o];omega),A.o,m80,List.getElem?_replicate,if_pos (by omega)];rfl
    rw[e]at cl;clear e;have dk1:decide ((k:Int)<(n:Int))=false:=by simpa using hkn
    have dk2:decide (k<n)=false:=by simpa using hkn
    have dk3:decide ((n:Int)<=(k:Int))=true:=by
     simp;omega
    have dk4:decide (n<=k)=true:=by
     simp;omega
    obtain⟨w2,hw2⟩:∃w2,w.drewN q=w2:=⟨_,rfl⟩;rw[hw2]at cl;rw[hw2];have C:=aa hw2;clear hw2;go_wp2_with fail;go_quiet(fail);go_wp2_with fail;go_roundw
    case rel=>exact⟨k+1,q+nq,by omega,by go_num,by rw[<-C.o,World.drewN_drewN]⟩
    case measure=>simp[intOf];omega
  ·go_wp2_with fail;go_ret;exact⟨rfl,q,rfl⟩
theorem oT(A:Option Addr)(n c:Nat)(xs:List Nat)(w:World)(hx:RB w A n xs)(hA:A=none->c=0)(hn:n<=140737488355328):Calls Tryz.prog 37 #[.slice A n c] w (qc w xs):=by
 have B:=aa hx;have C:=aa hA;clear hx hA;go_enter Tryz.func37,Tryz.ntmps37;go_wp2_with(at_builtin;refine dc ax aH w rfl (.const (.slice none 0 0)) (.tmp 3) rfl w.heap.size (.slice none 0 0) [] (Own.nil _ _ _) A n c xs B.o C.o rfl rfl (by simp;omega) (Nat.le_refl _) ?_;intro v1 w1 hown1 hgrow1);go_ret;exact⟨_,rfl,hown1,(Below.refl w.heap.size w).grown hgrow1 (Nat.le_refl _) (fun k hk=>by cases hk)⟩
def mkN(n j:Nat):Nat:=(n+1)/2^(8*(j%3))%256
theorem ku(n j:Nat)(w:World)(hn:n<4611686018427387904)(hj:j<281474976710656):Calls Tryz.prog 26 #[.int .i64 n, .int .i64 j] w fun e w'=>e= .returned (.int .u8 (mkN n j:Nat))/\w'=w:=by
 obtain⟨r,hr⟩:∃r,j%3=r:=⟨_,rfl⟩;have hr3:r<3:=by omega
 have hm:(j:Int).tmod 3=(r:Int):=by rw[Int.tmod_eq_emod_of_nonneg (by omega)];omega
 have h1:IntKind.i64.wrap ((n:Int)+1)=(n:Int)+1:=IntWalk.i64_in _ (by omega);have A:Hd (mkN n j=(n+1)/2^(8*r)%256):=by show _=_;unfold mkN;rw[hr]
 clear hr;have hrr:r=0∨r=1∨r=2:=by omega
 rcases hrr with rfl|rfl|rfl
 ·go_enter Tryz.func26,Tryz.ntmps26;go_wp2_with fail;go_ret;exact⟨by rw[A.o];congr 2;simp,rfl⟩
 ·go_enter Tryz.func26,Tryz.ntmps26;go_wp2_with fail;go_ret;exact⟨by rw[A.o];congr 2,rfl⟩
 ·go_enter Tryz.func26,Tryz.ntmps26;go_wp2_with fail;go_ret;exact⟨by rw[A.o];congr 2,rfl⟩
theorem bO{U V:Nat->Prop}{a b c:World}(h:ae U a b)(k:ae V b c)(hv:∀B,B<b.heap.size->V B->U B∨a.heap.size<=B):ae U a c:=⟨k.os.trans h.os,k.tape.trans h.tape,k.output.trans h.output,Nat.le_trans h.size k.size,fun i hi hn=>(k.block i (Nat.lt_of_lt_of_le hi h.size) fun e=>by
  rcases hv i (Nat.lt_of_lt_of_le hi h.size) e with h1|h1
  ·exact hn h1
  ·omega).trans (h.block i hi hn)⟩
def pat(P:Nat->Value)(k:Nat):List Value:=(List.range k).map P
def nA(P:Nat->Value)(n k:Nat):List Value:=(List.range k).map fun i=>P (n+i)
theorem ey(P:Nat->Value)(k:Nat):(pat P k).length=k:=by simp[pat]
theorem fZ(P:Nat->Value)(n k:Nat):(nA P n k).length=k:=by simp[nA]
theorem jW(P:Nat->Value)(k i:Nat):(pat P k)[i]?=if i<k then some (P i)else none:=by
 unfold pat;rw[List.getElem?_map];split
 ·rename_i h;rw[List.getElem?_range h];rfl
 ·rename_i h;rw[List.getElem?_eq_none (by simpa using h)];rfl
theorem ml(P:Nat->Value)(n k i:Nat):(nA P n k)[i]?=if i<k then some (P (n+i))else none:=by
 unfold nA;rw[List.getElem?_map];split
 ·rename_i h;rw[List.getElem?_range h];rfl
 ·rename_i h;rw[List.getElem?_eq_none (by simpa using h)];rfl
theorem xC(P:Nat->Value)(n k:Nat):pat P n++nA P n k=pat P (n+k):=by
 apply List.ext_getElem?;intro i;rw[jW];by_cases h:i<n
 ·rw[List.getElem?_append_left (by rw[ey];exact h),jW,if_pos h,if_pos (by omega)]
 ·rw[List.getElem?_append_right (by rw[ey];omega),ey,ml];by_cases h2:i<n+k
  ·rw[if_pos (by omega),if_pos h2,show n+(i-n)=i by omega]
  ·rw[if_neg (by omega),if_neg h2]
def iV(P:Nat->Value)(e:TypeId)(sz:Nat)(w w':World):Prop:=∀(base:Nat)(u:Value)(j:Nat),w.ownsRow base e sz u j (pat P (j*sz))->w'.ownsRow base e sz u j (pat P (j*sz))
theorem iV.trans{P:Nat->Value}{e:TypeId}{sz:Nat}{a b c:World}(h:iV P e sz a b)(k:iV P e sz b c):iV P e sz a c:=fun base u n hu=>k base u n (h base u n hu)
theorem iV.below{P:Nat->Value}{e:TypeId}{sz:Nat}{w w':World}(h:Below w.heap.size w w'):iV P e sz w w':=fun _ _ _ hu=>(ae.ofBelow h).row hu fun _ _ h=>h
theorem iP(w:World)(o:Obj):Below w.heap.size w (w.drew.alloc o):=((Below.refl w.heap.size w).drew).alloc (Nat.le_refl _) o
theorem AR{P:Nat->Value}{cur:List Value}{k n j:Nat}(h:cur.take k=pat P k)(hn:cur.take n=pat P n):(cur.take n++(nA P n j++cur.drop (n+j))).take k=pat P k:=by
 apply List.ext_getElem?;intro i;rw[List.getElem?_take,jW];split
 ·rename_i hi;rw[hn];by_cases h1:i<n
  ·rw[List.getElem?_append_left (by rw[ey];exact h1),jW,if_pos h1]
  ·rw[List.getElem?_append_right (by rw[ey];omega),ey];by_cases h2:i-n<j
   ·rw[List.getElem?_append_left (by rw[fZ];exact h2),ml,if_pos h2,show n+(i-n)=i by omega]
   ·rw[List.getElem?_append_right (by rw[fZ];omega),fZ,List.getElem?_drop];have h3:(cur.take k)[i]?=some (P i):=by rw[h,jW,if_pos hi]
    rw[List.getElem?_take,if_pos hi]at h3;rw[show n+j+(i-n-j)=i by omega];exact h3
 ·rfl
theorem ry{P:Nat->Value}{e:TypeId}{sz:Nat}{w:World}{g n j cap:Nat}{cur:Array Value}(hg:w.heap[g]?=some (.cells cur e (0,0)))(hn:cur.toList.take (n*sz)=pat P (n*sz))(hs:cur.size=cap*sz)(hj:n+j<=cap):iV P e sz w (w.setRow g (cur.toList.take (n*sz)++nA P (n*sz) (j*sz)++cur.toList.drop (n*sz+j*sz)).toArray):=by
 have hjs:n*sz+j*sz<=cap*sz:=by rw[<-Nat.add_mul];exact Nat.mul_le_mul_right _ hj
 intro base u k hu;refine⟨hu.1,?_⟩;rcases hu.2with h|⟨g',cap',cur',rfl,h1,h2,h3,h4,h5,h6⟩
 ·exact .inl h
 ·refine .inr ?_;by_cases hgg:g'=g
  ·subst hgg;rw[hg]at h2;injection h2 with h2;injection h2 with h2;subst h2;refine⟨g',cap',_,rfl,h1,setRow_heap w g' cur _ e _ hg,h3,h4,?_,?_⟩
   ·simp only[List.size_toArray,List.length_append,List.length_take,List.length_drop,fZ,Array.length_toList];omega
   ·rw[List.append_assoc];exact AR h6 hn
  ·exact⟨g',cap',cur',rfl,h1,(setRow_other w g g' _ hgg).trans h2,h3,h4,h5,h6⟩
theorem pA{w:World}{e:TypeId}{news:List Value}:∀(q:Nat)(u:Value),news[q]?=some u->(w.alloc (.cells news.toArray e)).cell? ((⟨w.heap.size,0,none⟩:Addr).add q)=some u:=fun q u hq=>by
 rw[add_lit,Nat.zero_add,ab.cell (ab.new w e news.toArray),List.getElem?_toArray];exact hq
section
variable{P:Program}
theorem xZ{t e:TypeId}{z:Value}{by_ sz:Nat}(ht:P.underlying t=some (.slice e))(hinfo:(P.info? e).map (fun i=>(i.zero,i.size,i.bytes))=some (some z,sz,by_))(hzs:z.cells.size=sz)(hsz:0<sz){ops:Array Oper}{rest:List Oper}{o:Oper}{a:Act}{Q:Exit->Act->World->Prop}(w:World)(hgd:o.guard=none)(s x:Operand)(ho:o.op= .call {callee:= .builtin .append,args:=#[s,x],argTypes:=#[t,t]})(p:Nat->Value)(base:Nat)(v:Value)(n j:Nat)(hown:w.ownsRow base e sz v n (pat p (n*sz)))(hone:∀i,(p i).oneCell'=true)(cs:Array Value)(hcs:cs=(nA p (n*sz) (j*sz)).toArray)(hs:a.eval s=v)(hx:a.eval x= .slice (some ⟨w.heap.size,0,none⟩) j j)(hj:0<j)(hm:n+j<=140737488355328)(hlen:(n+j)*by_<=140737488355328)(hbase:base<=w.heap.size)(h:∀v' w',w'.ownsRow base e sz v' (n+j) (pat p ((n+j)*sz))->w.grownBy w' v.ownBlock->iT w v v'->iV p e sz w w'->wpList P ops Q rest (a.put o.dst v') w'):wpList P ops Q (o::rest) a (w.alloc (.cells cs e)):=by
 obtain⟨i,hi,hz0,hz1,hz2⟩:=info_parts hinfo;subst hcs;refine wpList_plain hgd fun K hK=>?_;have hW:Below w.heap.size w (w.alloc (.cells (nA p (n*sz) (j*sz)).toArray e)):=(Below.refl _ _).alloc (Nat.le_refl _) _;have hown1:=hown.alloc (.cells (nA p (n*sz) (j*sz)).toArray e);have hnews:=pA (w:=w) (e:=e) (news:=nA p (n*sz) (j*sz));have hl:(nA p (n*sz) (j*sz)).length=j*sz:=fZ _ _ _;have h1c:∀u∈nA p (n*sz) (j*sz),u.oneCell'=true:=fun u hu=>by
  obtain⟨k,_,rfl⟩:=List.mem_map.1 hu;exact hone _
 have hb63:n+j<=maxLen:=by unfold maxLen;omega
 obtain⟨v',w',hr,q1,q2,_,q4⟩:=run_append_own_at (P:=P) (w.alloc (.cells (nA p (n*sz) (j*sz)).toArray e)) base t o.type e i z sz by_ ht hi hz0 hz1 hz2 hzs hsz v n _ hown1 ⟨w.heap.size,0,none⟩ j j _ hl hnews h1c hb63 hlen (by simp;omega);have hfull:iV p e sz (w.alloc (.cells (nA p (n*sz) (j*sz)).toArray e)) w':=by
  rcases hown1.2with⟨rfl,rfl⟩|⟨g,cap,cur,rfl,hbg,hg,hnc,hcm,hsz2,htk⟩
  ·have hr2:=run_append_nil (P:=P) (w.alloc (.cells (nA p (0*sz) (j*sz)).toArray e)) t o.type e i z ht hi hz0 ⟨w.heap.size,0,none⟩ j j _ (by rw[hz1];exact hl) hnews hj (by omega) (by rw[hz2];simp only[Nat.zero_add]at hlen;omega);rw[hr]at hr2;injection hr2 with _ hw;rw[hw];exact iV.below (iP _ _)
  ·by_cases hroom:n+j<=cap
   ·have hr2:=run_append_room (P:=P) (w.alloc (.cells (nA p (n*sz) (j*sz)).toArray e)) t o.type e i ht hi g n cap cur hg ⟨w.heap.size,0,none⟩ j j _ (by rw[hz1];exact hl) hnews h1c hroom (by rw[hz1,hl,hsz2,<-Nat.add_mul];exact Nat.mul_le_mul_right _ hroom);rw[hr]at hr2;injection hr2 with _ hw;rw[hw,hz1,hl];exact ry hg htk hsz2 hroom
   ·have holds:∀(q:Nat)(u:Value),(pat p (n*sz))[q]?=some u->(w.alloc (.cells (nA p (n*sz) (j*sz)).toArray e)).cell? ((⟨g,0,none⟩:Addr).add q)=some u:=hown1.cells (g:=g) rfl;have hr2:=run_append_grow (P:=P) (w.alloc (.cells (nA p (n*sz) (j*sz)).toArray e)) t o.type e i z ht hi hz0 ⟨g,0,none⟩ n cap _ (by rw[hz1];exact hown1.1) holds ⟨w.heap.size,0,none⟩ j j _ (by rw[hz1];exact hl) hnews (by omega) (by omega) (growslice_fits (by omega) (by rw[hz2];exact hlen));rw[hr]at hr2;injection hr2 with _ hw;rw[hw];exact iV.below (iP _ _)
 unfold Oper.wp execOp;simp only[ho,resolve,invoke,builtin,Sem.run_bind,Sem.run_pure,Result.andThen_ok,List.map_toArray,List.map_cons,List.map_nil,hs,hx,hr];refine hK _ _ (h v' w' ?_ (aE (World.grownBy_alloc _ _ _) q2) ?_ (iV.trans (iV.below hW) hfull))
 ·rw[xC,<-Nat.add_mul]at q1;exact q1
 ·intro k hk;rcases q4 with q4|q4
  ·rw[q4]at hk;exact .inl hk
  ·rw[q4]at hk;injection hk with hk;simp at hk;exact .inr (by omega)
end
def aO(w:World)(e:TypeId)(sz:Nat)(v:Value)(n:Nat)(xs:List Value):Prop:=xs.length=n*sz/\((v= .slice none 0 0/\n=0)∨∃g f c cur,v= .slice (some ⟨g,f,none⟩) n c/\w.heap[g]?=some (.cells cur e (0,0))/\n<=c/\c<=maxLen/\cur.size=f+c*sz/\(cur.toList.drop f).take (n*sz)=xs)
section
variable{w w':World}{e:TypeId}{sz n:Nat}{v:Value}{xs:List Value}{U:Nat->Prop}
theorem aO.nil(w:World)(e:TypeId)(sz:Nat):aO w e sz (.slice none 0 0) 0 []:=⟨by simp, .inl ⟨rfl,rfl⟩⟩
theorem aO.lt(h:aO w e sz v n xs):∀k,v.ownBlock=some k->k<w.heap.size:=by
 intro k hk;rcases h.2with⟨rfl,_⟩|⟨g,f,c,cur,rfl,hg,_⟩
 ·simp[Value.ownBlock]at hk
 ·simp[Value.ownBlock]at hk;subst hk;exact(Array.getElem?_eq_some_iff.1 hg).1
theorem aO.touch(ht:ae U w w')(h:aO w e sz v n xs)(hn:∀k,v.ownBlock=some k->¬U k):aO w' e sz v n xs:=by
 refine⟨h.1,?_⟩;rcases h.2with h1|⟨g,f,c,cur,rfl,h2,h3⟩
 ·exact .inl h1
 ·have hg:g<w.heap.size:=(Array.getElem?_eq_some_iff.1 h2).1;exact .inr ⟨g,f,c,cur,rfl,(ht.block g hg (hn g rfl)).trans h2,h3⟩
theorem aO.cells{b f c:Nat}(h:aO w e sz (.slice (some ⟨b,f,none⟩) n c) n xs):∀j u,xs[j]?=some u->w.cell? ((⟨b,f,none⟩:Addr).add j)=some u:=by
 intro j u hu;rcases h.2with⟨h1,_⟩|⟨g',f',c',cur,h1,hgg,_,_,_,htake⟩
 ·cases h1
 ·injection h1 with h1 _ _;injection h1 with h1;injection h1 with h1 h2;subst h1 h2;rw[add_lit,cell_of_row w _ _ cur e (0,0) hgg];rw[<-htake,List.getElem?_take]at hu;split at hu
  ·rw[List.getElem?_drop]at hu;simpa using hu
  ·cases hu
theorem aO.form(h:aO w e sz v n xs):∃A c,v= .slice A n c/\n<=c/\c<=maxLen/\(A=none->c=0)/\(∀ad,A=some ad->∃g f,ad=⟨g,f,none⟩):=by
 rcases h.2with⟨h,h0⟩|⟨g,f,c,cur,h,_,h1,h2,_⟩
 ·exact⟨none,0,by rw[h,h0],by omega,Nat.zero_le _,fun _=>rfl,fun ad e=>by cases e⟩
 ·exact⟨_,_,h,h1,h2,fun e=>(by cases e),fun ad e=>⟨g,f,by injection e with e;exact e.symm⟩⟩
theorem aO.drop{A:Option Addr}{c k:Nat}(h:aO w e sz (.slice A n c) n xs)(hk:k<=n)(h0:0<n):∃g f,A=some ⟨g,f,none⟩/\aO w e sz (.slice (some ⟨g,f+k*sz,none⟩) (n-k) (c-k)) (n-k) (xs.drop (k*sz)):=by
 have hks:k*sz<=n*sz:=Nat.mul_le_mul_right _ hk;rcases h.2with⟨h1,h2⟩|⟨g,f,c',cur,h1,h2,h3,h4,h5,h6⟩
 ·omega
 ·injection h1 with h1 _ h1c;subst h1 h1c;have hkc:k*sz<=c*sz:=Nat.mul_le_mul_right _ (by omega);refine⟨g,f,rfl,by rw[List.length_drop,h.1,Nat.sub_mul], .inr ⟨g,f+k*sz,c-k,cur,rfl,h2,by omega,by omega,by rw[h5,Nat.sub_mul];omega,?_⟩⟩;rw[<-h6,List.drop_take,List.drop_drop,Nat.sub_mul]
end
section
variable{P:Program}(w:World)
theorem kX(t ty e:TypeId)(i:TypeInfo)(ht:P.underlying t=some (.slice e))(hi:P.info? e=some i)(g f sLen sCap:Nat)(cur:Array Value)(hg:w.heap[g]?=some (.cells cur e (0,0)))(a:Addr)(m c:Nat)(news:List Value)(hl:news.length=m*i.size)(hnews:∀j u,news[j]?=some u->w.cell? (a.add j)=some u)(h1:∀u∈news,u.oneCell'=true)(hroom:sLen+m<=sCap)(hfit:f+sLen*i.size+news.length<=cur.size):(Builtin.append_ #[t,t] ty #[.slice (some ⟨g,f,none⟩) sLen sCap, .slice (some a) m c]).run P w= .ok (.slice (some ⟨g,f,none⟩) (sLen+m) sCap) (w.setRow g (cur.toList.take (f+sLen*i.size)++news++cur.toList.drop (f+sLen*i.size+news.length)).toArray):=by
 have hf:=run_firstCells_some (P:=P) w i.size m a m c news hl hnews;have hst:=run_storeCells_at P g (f+sLen*i.size) e news 0 cur w hg (by simpa using hfit) h1;simp only[Nat.add_zero]at hst;simp[Builtin.append_,run_underlying ht,sizeOf,typeInfo,hi,Builtin.lenOf,hroom,hf,Addr.add_lit,hst]
theorem jj(t ty e:TypeId)(i:TypeInfo)(z:Value)(sz by_:Nat)(ht:P.underlying t=some (.slice e))(hi:P.info? e=some i)(hz:i.zero=some z)(hsize:i.size=sz)(hby:i.bytes=by_)(hzs:z.cells.size=sz)(v:Value)(n:Nat)(xs:List Value)(hown:aO w e sz v n xs)(a:Addr)(m c:Nat)(news:List Value)(hl:news.length=m*sz)(hnews:∀j u,news[j]?=some u->w.cell? (a.add j)=some u)(h1:∀u∈news,u.oneCell'=true)(h0:0<m)(h63:n+m<=maxLen)(hbytes:(n+m)*by_<=140737488355328):∃v' w',(Builtin.append_ #[t,t] ty #[v, .slice (some a) m c]).run P w= .ok v' w'/\aO w' e sz v' (n+m) (xs++news)/\w.grownBy w' v.ownBlock/\(v'.ownBlock=v.ownBlock∨v'.ownBlock=some w.heap.size):=by
 subst hsize;subst hby;have hsmall:n+m<=9223372036854775807:=by simp only[maxLen]at h63;omega
 have hlen:(xs++news).length=(n+m)*i.size:=by rw[List.length_append,hown.1,hl,Nat.add_mul]
 have grown:∀(old:Nat),old<n+m->∀(row:Option Nat),aO (w.drew.alloc (.cells (xs.toArray++news.toArray++Builtin.zeroCells z.cells (grownCap w (n+m) old e-(n+m))) e)) e i.size (.slice (some ⟨w.heap.size,0,none⟩) (n+m) (grownCap w (n+m) old e)) (n+m) (xs++news)/\w.grownBy (w.drew.alloc (.cells (xs.toArray++news.toArray++Builtin.zeroCells z.cells (grownCap w (n+m) old e-(n+m))) e)) row:=by
  intro old ho row;have hge:=grownCap_ge w (n+m) old e;have hcm:grownCap w (n+m) old e<=maxLen:=grownCap_le_maxLen w (n+m) old e h63;refine⟨⟨hlen, .inr ⟨w.heap.size,0,_,_,rfl,heap_alloc_new w.drew _,hge,hcm,?_,?_⟩⟩,⟨rfl,rfl,rfl,by simp,fun k hk _=>heap_alloc_old w.drew _ hk⟩⟩
  ·simp only[Array.size_append,List.size_toArray,size_zeroCells,hzs,hown.1,hl,<-Nat.add_mul,Nat.zero_add];congr 1;omega
  ·simp only[Array.toList_append,List.append_assoc,List.drop_zero];rw[<-List.append_assoc,<-hlen];exact List.take_left
 rcases hown.2with⟨rfl,rfl⟩|⟨g,f,cap,cur,rfl,hg,hnc,hcm,hcs,htake⟩
 ·have hx:xs=[]:=List.eq_nil_of_length_eq_zero (by simpa using hown.1);subst hx;have hr:=run_append_nil (P:=P) w t ty e i z ht hi hz a m c news hl hnews (by omega) (by omega) (by have hb:=hbytes;simp only[Nat.zero_add]at hb;omega);have hgr:=grown 0 (by omega) (Value.ownBlock (.slice none 0 0));simp only[Nat.zero_add,List.nil_append,Array.empty_append]at hgr⊢;exact⟨_,_,hr,hgr.1,hgr.2,Or.inr rfl⟩
 ·by_cases hroom:n+m<=cap
  ·have hfit:f+n*i.size+news.length<=cur.size:=by
    have:=Nat.mul_le_mul_right i.size hroom;rw[Nat.add_mul]at this;rw[hl,hcs];omega
   have hr:=kX (P:=P) w t ty e i ht hi g f n cap cur hg a m c news hl hnews h1 hroom hfit;refine⟨_,_,hr,⟨hlen, .inr ⟨g,f,cap,_,rfl,setRow_heap w g cur _ e _ hg,hroom,hcm,?_,?_⟩⟩,⟨rfl,rfl,rfl,by simp,fun k _ hk=>setRow_other w g k _ (fun e=>hk (by simp[Value.ownBlock,e]))⟩,Or.inl rfl⟩
   ·simp only[List.size_toArray,List.length_append,List.length_take,List.length_drop,Array.length_toList];omega
   ·have hfc:f<=cur.toList.length:=by rw[Array.length_toList];omega
    rw[List.take_add,htake]at*;rw[List.append_assoc,List.append_assoc,List.drop_left' (by rw[List.length_take];omega),<-List.append_assoc,<-hlen];exact List.take_left
  ·have holds:∀j u,xs[j]?=some u->w.cell? ((⟨g,f,none⟩:Addr).add j)=some u:=hown.cells;have hr:=run_append_grow (P:=P) w t ty e i z ht hi hz ⟨g,f,none⟩ n cap xs hown.1 holds a m c news hl hnews (by omega) (by omega) (growslice_fits (by omega) hbytes);have hgr:=grown cap (by omega) (Value.ownBlock (.slice (some ⟨g,f,none⟩) n cap));exact⟨_,_,hr,hgr.1,hgr.2,Or.inr rfl⟩
theorem sh{t e:TypeId}{z:Value}{by_ sz:Nat}(ht:P.underlying t=some (.slice e))(hinfo:(P.info? e).map (fun i=>(i.zero,i.size,i.bytes))=some (some z,sz,by_))(hzs:z.cells.size=sz){ops:Array Oper}{rest:List Oper}{o:Oper}{a:Act}{Q:Exit->Act->World->Prop}(hgd:o.guard=none)(s x:Operand)(ho:o.op= .call {callee:= .builtin .append,args:=#[s,x],argTypes:=#[t,t]})(v:Value)(n:Nat)(xs:List Value)(hown:aO w e sz v n xs)(m:Nat)(cs:List Value)(ca:Array Value)(hca:ca=cs.toArray)(hcl:cs.length=m*sz)(hone:∀u∈cs,u.oneCell'=true)(hs:a.eval s=v)(k:Nat)(hk:k=w.heap.size)(hx:a.eval x= .slice (some ⟨k,0,none⟩) m m)(h0:0<m)(hm:n+m<=140737488355328)(hlen:(n+m)*by_<=140737488355328)(h:∀v' w',aO w' e sz v' (n+m) (xs++cs)->w.grownBy w' v.ownBlock->iT w v v'->wpList P ops Q rest (a.put o.dst v') w'):wpList P ops Q (o::rest) a (w.alloc (.cells ca e)):=by
 obtain⟨i,hi,hz,hs1,hby⟩:=info_parts hinfo;subst hca hk;have hW:Below w.heap.size w (w.alloc (.cells cs.toArray e)):=(Below.refl _ _).alloc (Nat.le_refl _) _;obtain⟨v',w',hr,h2,h3,h4⟩:=jj (P:=P) (w.alloc (.cells cs.toArray e)) t o.type e i z sz by_ ht hi hz hs1 hby hzs v n xs (hown.touch (ae.ofBelow hW) fun _ _ h=>h) ⟨w.heap.size,0,none⟩ m m cs hcl pA hone h0 (by unfold maxLen;omega) hlen;refine wpList_plain hgd fun K hK=>?_;unfold Oper.wp execOp;simp only[ho,resolve,invoke,builtin,Sem.run_bind,Sem.run_pure,Result.andThen_ok,List.map_toArray,List.map_cons,List.map_nil,hs,hx,hr];refine hK _ _ (h v' w' h2 (aE (World.grownBy_alloc _ _ _) h3) fun k hk=>?_);rcases h4 with h4|h4
 ·rw[h4]at hk;exact .inl hk
 ·rw[h4]at hk;injection hk with hk;simp at hk;exact .inr (by omega)
end
def cj(xs:List Nat):List Nat:=xs.map fun x=>x^^^255
theorem aW(xs:List Nat):(cj xs).length=xs.length:=by simp[cj]
theorem pu{xs:List Nat}(h:IsB xs):IsB (cj xs):=fun x hx=>by
 obtain⟨y,hy,rfl⟩:=List.mem_map.1 hx;exact rO (h y hy) (by omega)
theorem jb(xs:List Nat):cj (cj xs)=xs:=by
 unfold cj;rw[List.map_map];conv=>rhs;rw[<-List.map_id xs]
 refine List.map_congr_left fun x _=>?_;simp[Nat.xor_assoc]
def jL(xs ys:List Nat)(j:Nat):List Nat:=cj (xs.take j)++ys.drop j
theorem oK(xs ys:List Nat):jL xs ys 0=ys:=by simp[jL,cj]
theorem qI{xs ys:List Nat}{n:Nat}(h:xs.length=n)(h2:ys.length=n):jL xs ys n=cj xs:=by
 unfold jL;rw[List.take_of_length_le (by omega),List.drop_eq_nil_of_le (by omega),List.append_nil]
theorem ma{xs ys:List Nat}{n j:Nat}(h:xs.length=n)(h2:ys.length=n)(hj:j<=n):(jL xs ys j).length=n:=by
 unfold jL;rw[List.length_append,aW,List.length_take,List.length_drop];omega
theorem oL{xs ys:List Nat}{n j:Nat}(h:xs.length=n)(h2:ys.length=n)(hj:j<n):(jL xs ys j).set j (xs.getD j 0^^^255)=jL xs ys (j+1):=by
 have e:ys.drop j=ys.getD j 0::ys.drop (j+1):=by
  rw[List.drop_eq_getElem_cons (by omega)];simp[List.getD,show j<ys.length by omega]
 have hl:(cj (xs.take j)).length=j:=by rw[aW,List.length_take];omega
 unfold jL;rw[List.set_append_right _ _ (by omega),hl,Nat.sub_self,e,List.set_cons_zero,aJ (by omega)];unfold cj;rw[List.map_append];simp
theorem vR{xs:List Nat}{n j:Nat}(h:xs.length=n)(hj:j<n):(jL xs xs j).getD j 0=xs.getD j 0:=by
 have hl:(cj (xs.take j)).length=j:=by rw[aW,List.length_take];omega
 unfold jL;simp only[List.getD];rw[List.getElem?_append_right (by omega),hl,Nat.sub_self,List.getElem?_drop,Nat.add_zero]
def CX(w:World)(g:Nat)(xs rest:List Nat)(e:Ending)(w':World):Prop:=∃v,e= .returned v/\bn w' w.heap.size v (cj xs)/\ar w' g 5 (cj xs++rest)/\ae (fun B=>B=g) w w'
theorem fg(A:Option Addr)(n c:Nat)(xs:List Nat)(g cap:Nat)(ys rest:List Nat)(w:World)(hx:RB w A n xs)(hA:A=none->c=0)(hg:ar w g 5 (ys++rest))(hy:ys.length=n)(hn:n<=140737488355328):Calls Tryz.prog 14 #[.slice A n c, .slice (some ⟨g,0,none⟩) n cap] w (CX w g xs rest):=by
 have F:=aa hx;have I:=aa hA;have D:=aa hg;have H:=aa hy;clear hx hA hg hy;go_enter Tryz.func14,Tryz.ntmps14;go_wp2_with fail;refine(oT A n c xs w F.o I.o hn).mono ?_;rintro e w1⟨v,rfl,hown,hb⟩;have C:=aa F.o.1;obtain⟨A1,c1,rfl,_⟩:=hown.form;rw[C.o]at hown⊢;have E:=aa hown;have J:=aa hb;have K:=dA D hb;have hgl:g<w.heap.size:=ab.lt D.o;have M:=aa hgl;have N:=aa F.o.isB;clear hown hb D F I hgl;go_wp2_with fail;go_loopw[6](fun i wr=>∃j:Nat,j<=n/\i= .int .i64 (j:Int)/\Hd (bn wr w.heap.size (.slice A1 n c1) (jL xs xs j))/\Hd (ar wr g 5 (jL xs ys j++rest))/\Hd (ae (fun B=>B=g) w wr))(fun i _=>n-(intOf i).toNat)
 case atStart=>exact⟨0,by omega,rfl,by rw[oK];exact E.o,by rw[oK];exact K.o,(ae.ofBelow J.o).mono fun _ _ h=>h.elim⟩
 case round=>
  clear E J K;obtain⟨j,hj,rfl,E,D,L⟩:=hrel;by_cases hlt:j<n
  ·have hlt':(j:Int)<n:=by omega
   have hll:(jL xs xs j).length=n:=ma C.o C.o hj;have hll2:(jL xs ys j).length=n:=ma C.o H.o hj;obtain⟨G,c2,e2,hbg,hgs,hfr,hcell⟩:=E.o.shape (by rw[hll];omega);injection e2 with e2 _ e3;subst e2 e3;have hc:=hcell j (by rw[hll];omega);rw[vR C.o hlt]at hc;have hfz:=hfr j;have hxb:xs.getD j 0<256:=N.o _ (bL (by rw[C.o];exact hlt));have hown:=E.o;unfold bn at hown;rw[<-hll]at hown;have hset:=hown.set j (xs.getD j 0^^^255) (rO hxb (by omega));rw[hll,oL C.o C.o hlt]at hset;have hgG:g≠G:=by have:=M.o;omega
   have hg1:=D.o.far (p:=⟨G,j,none⟩) hgG (.int .u8 ((xs.getD j 0^^^255:Nat):Int));have cc:=ar.cell hg1 (i:=j) (by rw[List.length_append];omega);have cf:=ab.frozen hg1 j;have hg2:=ar.set hg1 j (xs.getD j 0^^^255);rw[List.set_append_left _ _ (by omega),oL C.o H.o hlt]at hg2;have hs:=ae.grown (ai (wr.setCell ⟨G,j,none⟩ (.int .u8 ((xs.getD j 0^^^255:Nat):Int))) (g:=g) j (.int .u8 ((xs.getD j 0^^^255:Nat):Int)));have O:=aa (hs.own hset fun k hk e=>by injection hk with hk;injection e with e;exact hgG (e.symm.trans hk.symm));have P:=aa (bO (bO L.o (ae.grown (ai wr (g:=G) j (.int .u8 ((xs.getD j 0^^^255:Nat):Int)))) fun B _(h:some B=some G)=>by injection h with h;exact .inr (by omega)) hs fun B _(h:some B=some g)=>by injection h with h;exact .inl h);have Q:=aa hg2;clear hcell hfr hown hset hll hll2 hg1 hg2 hs;generalize(jL xs ys j++rest).getD j 0=z at*;have hx8:bits .xor .u8 ((xs.getD j 0:Nat):Int) 255=((xs.getD j 0^^^255:Nat):Int):=Ff _ 255 hxb (by omega);generalize xs.getD j 0^^^255=y at*;generalize xs.getD j 0=x at*;go_wp2_with fail;go_roundw
   case rel=>exact⟨j+1,by omega,by go_num,O.o,Q.o,P.o⟩
   case measure=>simp[intOf];omega
  ·have e:j=n:=by omega
   have R:Hd (bn wr w.heap.size (.slice A1 n c1) (cj xs)):=by
    have h:=E.o;rwa[e,qI C.o C.o]at h
   have S:Hd (ar wr g 5 (cj xs++rest)):=by
    have h:=D.o;rwa[e,qI C.o H.o]at h
   clear E D;have hnlt:¬(j:Int)<n:=by omega
   go_wp2_with fail;go_ret;exact⟨_,rfl,R.o,S.o,L.o⟩
end Go.Proofs.YtfnlhfaihoojfaaGreatDoor
