/- Texts of the proof of ledgerlaw13.ClientPlays, part 18; no condition of its own. -/
import Derived.Test.YtfnlhfaihoojfaaGreatDoorS17
set_option maxRecDepth 100000
set_option maxHeartbeats 4000000
namespace Go.Proofs.YtfnlhfaihoojfaaGreatDoor
open Go.RowKit
theorem kW(ks:List Nat)(A:Option Addr)(n c:Nat)(xs:List Nat)(w:World)(hk:IsB ks)(hkl:ks.length=32)(hx:RB w A n xs)(hn:n<=1073741824):Calls Tryz.prog 88 #[.agg (bvs ks).toArray, .slice A n c] w fun e w'=>Below w.heap.size w w'/\∃V,e= .returned V/\bn w' w.heap.size V (en ks xs):=by
 have E:=aa (And.intro hkl hk);have I:=aa hx;have hxl:=hx.1;clear hk hkl hx;go_enter Tryz.func88,Tryz.ntmps88;go_wp2_with(with_reducible refine atS 8 ?_);refine bh (G:=fun w2=>Hd (wpList _ _ _ _ _ w2)) fun w2 J D Q=>?_;have M:Hd (ar w2 w.heap.size 37 ks):=J;clear J;refine aa ?_;go_wp2_with fail;have N:Hd (Below w2.heap.size w2 (w2.alloc (.cells #[.int .u8 0] 5))):=(Below.refl _ _).alloc (Nat.le_refl _) _;have O:Hd (bn (w2.alloc (.cells #[.int .u8 0] 5)) w2.heap.size (.slice (some ⟨w2.heap.size,0,none⟩) 1 1) (0::ks.take 0)):=gH 0 (by omega);go_loopw[5,6](fun v i wr=>∃k:Nat,k<=32/\i= .int .i64 k/\Hd (bn wr w2.heap.size v (0::ks.take k))/\Hd (Below w2.heap.size w2 wr))(fun _ i _=>32-(intOf i).toNat)
 case atStart=>exact⟨0,by omega,rfl,O.o,N.o⟩
 case round=>
  obtain⟨k,hk,rfl,C,B⟩:=hrel;by_cases hlt:k<32
  ·have hlt':(k:Int)<32:=by omega
   have hk32:k<ks.length:=by rw[E.o.1];exact hlt
   have hc:wr.cell? ⟨w.heap.size,k,none⟩=some (.int .u8 (ks.getD k 0:Nat)):=(ar.cell (ab.below M.o B.o) hk32);have hx8:ks.getD k 0<256:=E.o.2 _ (bL hk32);have F:Hd (0::ks.take (k+1)=0::ks.take k++[ks.getD k 0]):=by show _=_;rw[aJ hk32];rfl
   have hln:(0::ks.take k).length+1<=140737488355328:=by rw[List.length_cons,List.length_take];omega
   clear hk32;generalize ks.getD k 0=b at*;go_wp2_with(at_builtin;refine iu ax aH wr rfl (.tmp 13) (.tmp 17) rfl w2.heap.size _ _ C.o b hx8 rfl rfl hln B.o.size ?_;intro v' w1 hown1 hgrow1);have H:=aa (B.o.grown hgrow1 B.o.size C.o.ge);go_roundw
   case rel=>exact⟨k+1,by omega,by go_num,by rw[F.o];exact hown1,H.o⟩
   case measure=>simp[intOf];omega
  ·have hnlt:¬(k:Int)<32:=by omega
   have K:Hd (ks.take k=ks):=List.take_of_length_le (by rw[E.o.1];omega);rw[K.o]at C;clear hlt K;go_wp2_with fail;go_loopw[5,7](fun v i wr=>∃j:Nat,j<=n/\i= .int .i64 j/\Hd (bn wr w2.heap.size v (0::(ks++xs.take j)))/\Hd (Below w2.heap.size w2 wr))(fun _ i _=>n-(intOf i).toNat)
   case atStart=>exact⟨0,by omega,rfl,by rw[List.take_zero,List.append_nil];exact C.o,B.o⟩
   case round=>
    clear C B;obtain⟨j,hj,rfl,C,B⟩:=hrel;by_cases hlt2:j<n
    ·have hlt2':(j:Int)<n:=by omega
     have hj32:j<xs.length:=by omega
     have L:=I.o.below (D.o.trans (B.o.mono D.o.size));obtain⟨ad,rfl,hb,hc⟩:=L.at_ hlt2;clear L;have hx8:xs.getD j 0<256:=I.o.2.1 _ (bL hj32);have F:Hd (0::(ks++xs.take (j+1))=0::(ks++xs.take j)++[xs.getD j 0]):=by show _=_;rw[aJ hj32];simp
     have hln:(0::(ks++xs.take j)).length+1<=140737488355328:=by rw[List.length_cons,List.length_append,List.length_take,E.o.1];omega
     clear hj32;generalize xs.getD j 0=b at*;go_wp2_with(at_builtin;refine iu ax aH wr rfl (.tmp 25) (.tmp 30) rfl w2.heap.size _ _ C.o b hx8 rfl rfl hln B.o.size ?_;intro v' w1 hown1 hgrow1);have H:=aa (B.o.grown hgrow1 B.o.size C.o.ge);go_roundw
     case rel=>exact⟨j+1,by omega,by go_num,by rw[F.o];exact hown1,H.o⟩
     case measure=>simp[intOf];omega
    ·obtain rfl:j=n:=by omega
     have P:Hd (xs.take j=xs):=List.take_of_length_le (by omega);rw[P.o]at C;go_wp2_with fail;go_ret;exact⟨D.o.trans (B.o.mono D.o.size),_,rfl,C.o.mono D.o.size⟩
theorem mU(wd:Int)(ks:List Nat)(A:Option Addr)(n c:Nat)(xs:List Nat)(w:World)(hk:IsB ks)(hkl:ks.length=32)(hx:RB w A n xs)(hn:n<=1073741824)(ht:du w):Calls Tryz.prog 52 #[.int .i64 wd, .agg (bvs ks).toArray, .slice A n c] w fun e w'=>e= .returned (.agg (bvs (aZ wd (en ks xs))).toArray)/\Below w.heap.size w w':=by
 have B:=aa (And.intro hkl hk);have O:=aa hx;have D:=aa ht;have hxl:=hx.1;clear hk hkl hx ht;go_enter Tryz.func52,Tryz.ntmps52;go_wp2_with(with_reducible refine atS 8 ?_);refine bV (G:=fun w2=>Hd (wpList _ _ _ _ _ w2)) fun w2 E F H U=>?_;have I:Hd (ar w2 w.heap.size 37 ks):=E;have J:Hd (ar w2 (w.heap.size+1) 34 (zs 32)):=F;clear E F;refine aa ?_;go_wp2_with(refine ac (o:=⟨some 8,_,_,_,_,_⟩) (by rfl) 37 (.tmp 4) rfl ⟨w.heap.size,0,none⟩ 32 ks rfl (I.o.whole B.o.2 B.o.1) (by omega) (by kernel_rfl) (by kernel_rfl) ?_);refine(kW ks A n c xs w2 B.o.2 B.o.1 (O.o.below H.o) hn).mono ?_;rintro e w3⟨hb3,V,rfl,ho⟩;obtain⟨A3,c3,rfl,hx3,_,hA3,_⟩:=ho.form;have K:=aa hx3;have P:=aa hA3;have C:=aQ H hb3;have Q:=dA J hb3;have L:Hd ((en ks xs).length+128<=140737488355328):=by show _<=_;unfold en;rw[List.length_cons,List.length_append,B.o.1];omega
 have R:Hd (du w3):=⟨D.o.1.below C.o,D.o.2.below C.o⟩;obtain⟨T,M⟩:∃T,Hd (en ks xs=T):=⟨_,rfl⟩;rw[M.o]at K L⊢;clear hb3 ho hx3 hA3 I J;go_wp2_with fail;refine(kp A3 T.length c3 T wd w3 K.o P.o L.o R.o).mono ?_;rintro e w4⟨rfl,hb4⟩;have N:=aQ C hb4;have S:=dA Q hb4;clear hb4;go_wp2_with(refine aq (o:=⟨none,_,_,_,_,_⟩) (by rfl) 34 (.tmp 6) (.tmp 13) rfl 0 [] (bvs (zs 32)) (bvs (aZ wd T)) [] rfl rfl (bj S.o) rfl (by simp[bvs,zs,aw]) (by rw[ag];simp[bvs,aw]) (fun u hu=>ah _ u hu) ?_;intro w7 h7 g7);exact bH rfl rfl (aN h7) (aw _ _) aF ag rfl ⟨by rw[M.o],N.o.grown g7 N.o.size fun k hk=>by injection hk with hk;omega⟩
theorem Br(ks:List Nat)(i:Nat)(w:World)(hB:IsB ks)(hl:ks.length=32)(hi:i<256):Calls Tryz.prog 89 #[.agg (bvs ks).toArray, .int .i64 i] w fun e w'=>e= .returned (.int .i64 (cU ks i:Nat))/\Below w.heap.size w w':=by
 have hc:=ar.cell (ab.new w 37 (bvs ks).toArray:ar _ _ _ ks) (i:=i/8) (by omega);have hx8:=fQ hB (i/8);have A:Hd (cU ks i=ks.getD (i/8) 0/2^(7-i%8)%2):=rfl;have B:=aa ((Below.refl w.heap.size w).alloc (Nat.le_refl _) (.cells (bvs ks).toArray 37));clear hB hl;generalize ks.getD (i/8) 0=x at*;generalize cU ks i=z at*;generalize hww:w.alloc (.cells (bvs ks).toArray 37)=w1 at*;have hq:((i:Int).tdiv 8)=((i/8:Nat):Int):=by rw[Int.tdiv_eq_ediv_of_nonneg (by omega)];rfl
 have hr:((i:Int).tmod 8)=((i%8:Nat):Int):=by rw[Int.tmod_eq_emod_of_nonneg (by omega)];rfl
 go_enter Tryz.func89,Tryz.ntmps89;go_wp2_with fail;clear hq hr hc hww;go_loopw[5,6](fun v j wr=>∃k:Nat,i%8<=k/\k<=7/\j= .int .i64 k/\v= .int .i64 ((x/2^(k-i%8):Nat):Int)/\wr=w1)(fun _ j _=>8-(intOf j).toNat)
 case atStart=>exact⟨i%8,by omega,by omega,rfl,by rw[Nat.sub_self];simp,rfl⟩
 case round=>
  obtain⟨k,hk1,hk2,rfl,rfl,rfl⟩:=hrel;have hd8:x/2^(k-i%8)<256:=Nat.lt_of_le_of_lt (Nat.div_le_self _ _) hx8;by_cases hlt:k<7
  ·have C:=aa (qM (x:=x) hk1);have hlt':(k:Int)<7:=by omega
   generalize x/2^(k-i%8)=y at*;have hq2:((y:Int).tdiv 2)=((y/2:Nat):Int):=by rw[Int.tdiv_eq_ediv_of_nonneg (by omega)];rfl
   go_wp2_with fail;go_roundw
   case rel=>exact⟨k+1,by omega,by omega,by go_num,by rw[<-C.o];simp,trivial⟩
   case measure=>simp[intOf];omega
  ·obtain rfl:k=7:=by omega
   generalize x/2^(7-i%8)=y at*;have hr2:((y:Int).tmod 2)=((y%2:Nat):Int):=by rw[Int.tmod_eq_emod_of_nonneg (by omega)];rfl
   go_wp2_with fail;go_ret;exact⟨by rw[A.o];simp,B.o⟩
section
variable{P:Program}
theorem fG{t e:TypeId}{z:Value}{by_:Nat}(ht:P.underlying t=some (.slice e))(hinfo:(P.info? e).map (fun i=>(i.zero,i.size,i.bytes))=some (some z,32,by_))(hzs:z.cells.size=32){ops:Array Oper}{rest:List Oper}{o:Oper}{a:Act}{Q:Exit->Act->World->Prop}(w:World)(hgd:o.guard=none)(s x:Operand)(ho:o.op= .call {callee:= .builtin .append,args:=#[s,x],argTypes:=#[t,t]})(base:Nat)(v:Value)(n:Nat)(xs:List Value)(hown:w.ownsRow base e 32 v n xs)(cs:List Value)(hcl:cs.length=32)(hone:∀u∈cs,u.oneCell'=true)(hs:a.eval s=v)(hx:a.eval x= .slice (some ⟨w.heap.size,0,none⟩) 1 1)(hlen:(n+1)*by_<=140737488355328)(hm:n+1<=140737488355328)(hbase:base<=w.heap.size)(h:∀v' w',w'.ownsRow base e 32 v' (n+1) (xs++cs)->w.grownBy w' v.ownBlock->iT w v v'->wpList P ops Q rest (a.put o.dst v') w'):wpList P ops Q (o::rest) a (w.alloc (.cells cs.toArray e)):=by
 obtain⟨v',w',hr,h1,h2,h3⟩:=mb (o:=o) ht hinfo hzs w s x ho base v n xs hown cs hcl hone hs hx hlen hm hbase;refine wpList_plain hgd fun K hK=>?_;unfold Oper.wp;rw[hr];exact hK _ _ (h v' w' h1 h2 h3)
end
theorem cN:Tryz.prog.underlying 27=some (.slice 34):=by kernel_rfl
theorem eO:(Tryz.prog.info? 34).map (fun i=>(i.zero,i.size,i.bytes))=some (some (.agg (gZ 32)),32,32):=by kernel_rfl
def wW(w:World)(g:Nat)(wd:Int):Prop:=g<w.heap.size/\∀k,k<257->w.rangeAt g (k*32) (bvs (ay wd k))
theorem wW.below{w w':World}{g:Nat}{wd:Int}(h:wW w g wd)(hb:Below w.heap.size w w'):wW w' g wd:=⟨Nat.lt_of_lt_of_le h.1 hb.size,fun k hk=>aV hb h.1 (h.2 k hk)⟩
theorem sJ{w:World}{base g n c k:Nat}{wd:Int}(h:w.ownsRow base 34 32 (.slice (some ⟨g,0,none⟩) n c) n (bvs (dS wd n)))(hk:k<n):w.rangeAt g (k*32) (bvs (ay wd k)):=fun j v hj=>by
 have hj32:j<32:=by
  have:=(List.getElem?_eq_some_iff.1 hj).1;simpa[bvs,al]using this
 rw[World.ownsRow.cellAt h _ (by omega)];have e:=pC wd (h:=k) (n:=n) hk;have e2:=congrArg (fun l:List Nat=>(bvs l)[j]?) e;simp only[bvs,List.getElem?_map,List.getElem?_take,if_pos hj32,List.getElem?_drop]at e2 hj⊢;rw[show k*32+j=32*k+j by omega,e2,hj]
theorem jt{w:World}{base n size:Nat}{e:TypeId}{v:Value}{xs:List Value}(h:w.ownsRow base e size v n xs)(hn:0<n):∃g c,v= .slice (some ⟨g,0,none⟩) n c/\base<=g/\g<w.heap.size/\n<=c:=by
 rcases h.2with⟨_,h0⟩|⟨g,cap,cur,e1,hb,_,hnc,_⟩
 ·omega
 ·exact⟨g,cap,e1,hb,(h.lt g (by rw[e1];rfl)).2,hnc⟩
def Fo(wd:Int)(w:World)(e:Ending)(w':World):Prop:=∃g c,e= .returned (.slice (some ⟨g,0,none⟩) 257 c)/\wW w' g wd/\w.heap.size<=g/\257<=c/\Below w.heap.size w w'
theorem ep(wd:Int)(w:World)(ht:du w):Calls Tryz.prog 24 #[.int .i64 wd] w (Fo wd w):=by
 have J:=aa ht;clear ht;go_enter Tryz.func24,Tryz.ntmps24;go_wp2_with fail;have N:Hd (Below w.heap.size w (w.alloc (.cells #[.int .u8 2] 5))):=(Below.refl _ _).alloc (Nat.le_refl _) _;have Z:Hd (RB (w.alloc (.cells #[.int .u8 2] 5)) (some ⟨w.heap.size,0,none⟩) 1 [2]):=(gH 2 (by omega):bn (w.alloc (.cells #[.int .u8 2] 5)) w.heap.size (.slice (some ⟨w.heap.size,0,none⟩) 1 1) [2]).reads;refine(kp _ 1 1 [2] wd _ Z.o (fun h=>by cases h) (by omega) ⟨J.o.1.below N.o,J.o.2.below N.o⟩).mono ?_;rintro e w4⟨rfl,hb4⟩;have G:=aQ N hb4;have a:Hd (aZ wd [2]=ay wd 0):=rfl;rw[a.o];clear hb4;go_wp2_with(first|((with_reducible refine atS 3 ?_);refine aC (by rfl) 34 rfl _ _ aD ?_;intro w5 R O b)|(refine aq (o:=⟨none,_,_,_,_,_⟩) (by rfl) 34 (.tmp 3) (.tmp 8) rfl 0 [] (bvs (zs 32)) (bvs (ay wd 0)) [] rfl rfl (bj R.o) rfl (by simp[bvs,zs,al]) (by rw[ag];simp[bvs,al]) (fun u hu=>ah _ u hu) ?_;intro w6 h6 g6;have hB6:ar w6 w4.heap.size 34 (ay wd 0):=aN h6)|((with_reducible refine atS 9 ?_);refine ac (by rfl) 34 (.tmp 3) rfl ⟨w4.heap.size,0,none⟩ 32 (ay wd 0) rfl (hB6.whole (bu _ _) (al _ _)) (by omega) (by kernel_rfl) (by kernel_rfl) ?_)|((with_reducible refine atS 10 ?_);refine aR rfl w6 27 34 _ 32 (.tmp 9) rfl cN aD (by decide) (by decide) (bvs (ay wd 0)).toArray rfl (by simp[bvs,al]) ?_));have S:Hd (w4.heap.size<w6.heap.size):=ab.lt hB6;have K:Hd (Below w.heap.size w w6):=(G.o.trans (O.o.mono G.o.size)).grown g6 (Nat.le_trans G.o.size O.o.size) fun k hk=>by injection hk with hk;have:=G.o.size;omega
 have d:Hd (Below w.heap.size w (w6.alloc (.cells (bvs (ay wd 0)).toArray 34))):=K.o.alloc K.o.size _;have f:Hd (ar (w6.alloc (.cells (bvs (ay wd 0)).toArray 34)) w4.heap.size 34 (ay wd 0)):=ab.alloc hB6 _;have j:Hd ((w6.alloc (.cells (bvs (ay wd 0)).toArray 34)).ownsRow w6.heap.size 34 32 (.slice (some ⟨w6.heap.size,0,none⟩) 1 1) 1 (bvs (dS wd 1))):=by
  refine⟨?_, .inr ⟨w6.heap.size,1,(bvs (ay wd 0)).toArray,rfl,Nat.le_refl _,ab.new _ _ _,Nat.le_refl _,by simp[maxLen],?_,?_⟩⟩
  ·simp[dS,bvs,al]
  ·simp[bvs,al]
  ·rw[Nat.one_mul,List.take_of_length_le (by simp[bvs,al])];simp[dS]
 clear R O b h6 g6 hB6;generalize w6.alloc (.cells (bvs (ay wd 0)).toArray 34)=w9 at*;go_loopw[4,5](fun v i wr=>∃h:Nat,h<=256/\i= .int .i64 h/\Hd (wr.ownsRow w6.heap.size 34 32 v (h+1) (bvs (dS wd (h+1))))/\Hd (ar wr w4.heap.size 34 (ay wd h))/\Hd (Below w.heap.size w wr))(fun _ i _=>256-(intOf i).toNat)
 case atStart=>exact⟨0,by omega,rfl,j.o,f.o,d.o⟩
 case round=>
  obtain⟨h,hh,rfl,D,H,I⟩:=hrel;by_cases hlt:h<256
  ·have hlt':(h:Int)<256:=by omega
   have P:Hd (ay wd (h+1)=aZ wd (aU wd (ay wd h) (ay wd h))):=rfl;have A:=aa (And.intro (al wd h) (bu wd h));have C:=aa (And.intro (al wd (h+1)) (bu wd (h+1)));have M:Hd (bvs (dS wd (h+1))++bvs (ay wd (h+1))=bvs (dS wd (h+1+1))):=by show _=bvs (dS wd (h+1)++ay wd (h+1));rw[ip]
   obtain⟨E,l⟩:∃E,Hd (ay wd h=E):=⟨_,rfl⟩;obtain⟨F,T⟩:∃F,Hd (ay wd (h+1)=F):=⟨_,rfl⟩;obtain⟨L1,m⟩:∃L,Hd (dS wd (h+1)=L):=⟨_,rfl⟩;obtain⟨L2,U⟩:∃L,Hd (dS wd (h+1+1)=L):=⟨_,rfl⟩;rw[l.o]at H P A;rw[T.o]at P C M;rw[m.o]at D M;rw[U.o]at M;have Q:Hd (∀B,u4.ownBlock=some B->w6.heap.size<=B):=fun B hB=>(di D.o hB).1;go_wp2_with(first|((with_reducible refine atS 16 ?_);refine ac (by rfl) 34 (.tmp 3) rfl ⟨w4.heap.size,0,none⟩ 32 E rfl (H.o.whole A.o.2 A.o.1) (by omega) (by kernel_rfl) (by kernel_rfl) ?_)|((with_reducible refine atS 17 ?_);refine ac (by rfl) 34 (.tmp 3) rfl ⟨w4.heap.size,0,none⟩ 32 E rfl (H.o.whole A.o.2 A.o.1) (by omega) (by kernel_rfl) (by kernel_rfl) ?_));refine(dK wd E E wr A.o.2 A.o.1 A.o.2 A.o.1 ⟨J.o.1.below I.o,J.o.2.below I.o⟩).mono ?_;rintro e w7⟨rfl,hb7⟩;rw[<-P.o];have n:=dA H hb7;have V:=aQ I hb7;have p:Hd (w7.ownsRow w6.heap.size 34 32 u4 (h+1) (bvs L1)):=(ae.ofBelow hb7).row D.o fun _ _ h=>h;clear hb7 D H I;go_wp2_with(first|(refine aq (o:=⟨none,_,_,_,_,_⟩) (by rfl) 34 (.tmp 3) (.tmp 18) rfl 0 [] (bvs E) (bvs F) [] rfl rfl (bj n.o) rfl (by simp[bvs,A.o.1,C.o.1]) (by rw[ag];simp[bvs,C.o.1]) (fun u hu=>ah _ u hu) ?_;intro w8 h8 g8;have W:Hd (ar w8 w4.heap.size 34 F):=aN h8;have X:Hd (w8.ownsRow w6.heap.size 34 32 u4 (h+1) (bvs L1)):=(ae.one g8).row p.o (fun B hB e=>by have h1:=Q.o B hB;have h2:=S.o;omega);have Y:Hd (Below w.heap.size w w8):=V.o.grown g8 V.o.size (fun k hk=>by injection hk with hk;have:=G.o.size;omega))|((with_reducible refine atS 20 ?_);refine ac (by rfl) 34 (.tmp 3) rfl ⟨w4.heap.size,0,none⟩ 32 F rfl (W.o.whole C.o.2 C.o.1) (by omega) (by kernel_rfl) (by kernel_rfl) ?_)|((with_reducible refine atS 21 ?_);refine aR rfl w8 27 34 _ 32 (.tmp 20) rfl cN aD (by decide) (by decide) (bvs F).toArray rfl (by simp[bvs,C.o.1]) ?_)|(with_reducible refine atS 22 ?_));have hd:(bvs F).length=32:=by simp[bvs,C.o.1]
   refine fG (t:=27) (e:=34) (o:=⟨some 22,_,_,_,_,_⟩) cN eO (by rfl) w8 (by rfl) (.tmp 19) (.tmp 21) (by rfl) w6.heap.size u4 (h+1) (bvs L1) X.o (bvs F) hd (fun u hu=>ah _ u hu) (by rfl) (by rfl) (by omega) (by omega) (by obtain⟨g',c',e',q1,q2,_⟩:=jt X.o (by omega);omega) ?_;intro v9 w9' ho9 hg9 hl9;have q:Hd (w9'.ownsRow w6.heap.size 34 32 v9 (h+1+1) (bvs L2)):=by rw[<-M.o];exact ho9
   have r:Hd (ar w9' w4.heap.size 34 F):=(ae.grown hg9).blk W.o fun e=>by have h1:=Q.o _ e.symm;have h2:=S.o;omega
   have s:Hd (Below w.heap.size w w9'):=Y.o.grown hg9 Y.o.size fun k hk=>by have h1:=Q.o k hk;have h2:=K.o.size;omega
   clear hg9 hl9 ho9 hd;go_wp2_with fail;go_roundw
   case rel=>exact⟨h+1,by omega,by go_num,by rw[U.o];exact q.o,by rw[T.o];exact r.o,s.o⟩
   case measure=>simp[intOf];omega
  ·have hh256:h=256:=by omega
   subst hh256;obtain⟨g,c,hv,hg1,hg2,hc⟩:=jt D.o (by omega);subst hv;go_wp2_with fail;go_ret;exact⟨g,c,rfl,⟨hg2,fun k hk=>sJ D.o hk⟩,Nat.le_trans K.o.size hg1,hc,I.o⟩
theorem zy{wd:Int}{d:List Nat}(hl:d.length=32)(ht:eZ wd d=true):jp d wd=d:=by
 unfold eZ at ht;rw[decide_eq_true_eq]at ht;have h1:=Ds ht;rw[List.length_drop,hl]at h1;unfold jp;rw[<-h1,List.take_append_drop]
theorem ol{n:Nat}(hn:n<=256)(w:World):Calls Tryz.prog 16 #[.int .i64 n, .int .i64 0, .int .i64 256] w fun e w'=>e= .returned (.int .i64 (n:Nat))/\w'=w:=by
 refine(iG n 0 256 w).mono ?_;rintro e w'⟨rfl,rfl⟩;refine⟨?_,rfl⟩;congr 2;rw[if_neg (by omega),if_neg (by omega)]
theorem vu(g c:Nat)(wd:Int)(ks d:List Nat)(h:Nat)(w:World)(hE:wW w g wd)(hh:h<=256)(hk:IsB ks)(hkl:ks.length=32)(hd:IsB d)(hdl:d.length=32)(hdt:eZ wd d=true)(ht:du w):Calls Tryz.prog 53 #[.slice (some ⟨g,0,none⟩) 257 c, .int .i64 wd, .agg (bvs ks).toArray, .int .i64 0, .agg (bvs d).toArray, .int .i64 h] w fun e w'=>e= .returned (.agg (bvs (bd wd ks d (ay wd) h)).toArray)/\Below w.heap.size w w':=by
 have f:=aa hE;have I:=aa (And.intro hkl hk);have E:=aa (And.intro hdl hd);have HG:=aa (zy hdl hdt);have J:=aa ht;have L:Hd (∀j,(bd wd ks d (ay wd) j).length=32/\IsB (bd wd ks d (ay wd) j)):=fun j=>dy wd ks (ay wd) hdl hd j;have O:Hd (∀j,bd wd ks d (ay wd) (j+1)=aZ wd (upT wd ks j (bd wd ks d (ay wd) j) (ay wd j))):=fun j=>rfl;have l:Hd (bd wd ks d (ay wd) 0=d):=rfl;have HZ:=aa (ol (n:=0) (by omega));clear hE hk hkl hd hdl hdt ht;have hh2:(h:Int)<=256:=by omega
 obtain⟨F,HF⟩:∃F:Nat->List Nat,Hd (bd wd ks d (ay wd)=F):=⟨_,rfl⟩;rw[HF.o]at L O l⊢;obtain⟨Em,P⟩:∃F:Nat->List Nat,Hd (ay wd=F):=⟨_,rfl⟩;have HH:Hd (∀j,(Em j).length=32/\IsB (Em j)):=fun j=>by rw[<-P.o];exact⟨al _ _,bu _ _⟩
 have m:Hd (g<w.heap.size/\∀k,k<257->w.rangeAt g (k*32) (bvs (Em k))):=by rw[<-P.o];exact f.o
 rw[P.o]at O;clear f;go_enter Tryz.func53,Tryz.ntmps53;go_wp2_with fail;refine fC (G:=fun w2=>Calls _ _ _ w2 _) fun w2 p q r HW HS=>?_;have s:Hd (ar w2 w.heap.size 37 ks):=p;have Q:Hd (ar w2 (w.heap.size+1) 34 d):=q;have t:Hd (ar w2 (w.heap.size+1+1) 34 (zs 32)):=r;clear p q r;refine(HZ.o w2).mono ?_;rintro e w3⟨rfl,rfl⟩;go_wp2_with fail;refine(ol hh w3).mono ?_;rintro e w4⟨rfl,rfl⟩;go_wp2_with(refine ac (o:=⟨some 21,_,_,_,_,_⟩) (by rfl) 34 (.tmp 10) rfl ⟨w.heap.size+1,0,none⟩ 32 d rfl (Q.o.whole E.o.2 E.o.1) (by omega) (by kernel_rfl) (by kernel_rfl) ?_);refine(oq d wd w4 E.o.2 E.o.1).mono ?_;rintro e w5⟨rfl,hb5⟩;rw[HG.o];have v:=dA s hb5;have x:=dA Q hb5;have y:=dA t hb5;have R:=aQ HW hb5;clear hb5 s Q t;go_wp2_with(refine aq (o:=⟨none,_,_,_,_,_⟩) (by rfl) 34 (.tmp 10) (.tmp 23) rfl 0 [] (bvs d) (bvs d) [] rfl rfl (bj x.o) rfl rfl (by rw[ag];simp[bvs,E.o.1]) (fun u hu=>ah _ u hu) ?_;intro w6 h6 g6);have HI:Hd (ar w6 w.heap.size 37 ks):=(ae.one g6).blk v.o (by omega);have HJ:Hd (ar w6 (w.heap.size+1) 34 (F 0)):=by rw[l.o];exact aN h6
 have HL:Hd (ar w6 (w.heap.size+1+1) 34 (zs 32)):=(ae.one g6).blk y.o (by omega);have HM:Hd (Below w.heap.size w w6):=R.o.grown g6 R.o.size fun k hk=>by injection hk with hk;omega
 clear h6 g6 v x y R;go_loopw[15,16](fun i _ wr=>∃j:Nat,j<=h/\i= .int .i64 j/\Hd (ar wr w.heap.size 37 ks)/\Hd (ar wr (w.heap.size+1) 34 (F j))/\Hd (ar wr (w.heap.size+1+1) 34 (zs 32))/\Hd (Below w.heap.size w wr))(fun i _ _=>h-(intOf i).toNat)
 case atStart=>exact⟨0,by omega,rfl,HI.o,HJ.o,HL.o,HM.o⟩
 case round=>
  obtain⟨j,hj,rfl,T,U,V,M⟩:=hrel;by_cases hlt:j<h
  ·have hlt':(j:Int)<h:=by omega
   have hj257:(j:Int)<257:=by omega
   have hjn:j<256:=by omega
   clear hlt;go_wp2_with(refine ac (o:=⟨some 30,_,_,_,_,_⟩) (by rfl) 37 (.tmp 8) rfl ⟨w.heap.size,0,none⟩ 32 ks rfl (T.o.whole I.o.2 I.o.1) (by omega) (by kernel_rfl) (by kernel_rfl) ?_);rw[show(255:Int)-(j:Int)=((255-j:Nat):Int)by omega];refine(Br ks (255-j) wr I.o.2 I.o.1 (by omega)).mono ?_;rintro e w7⟨rfl,hb7⟩;have z:=dA T hb7;have N:=dA U hb7;have HA:=dA V hb7;have B:=aQ M hb7;have HB:Hd (∀W,Below w.heap.size w W->W.rangeAt g (j*32) (bvs (Em j))):=fun W hb=>aV hb m.o.1 (m.o.2 j (by omega));have A:=aa (And.intro (L.o j) (And.intro (L.o (j+1)) (HH.o j)));have HC:=aa (O.o j);clear hb7 T U V M;by_cases hbit:cU ks (255-j)=0
   ·have X:Hd (aZ wd (aU wd (F j) (Em j))=F (j+1)):=by
     show _=_;rw[HC.o];unfold upT aI;rw[if_pos hbit]
    have hbi:((cU ks (255-j):Nat):Int)=0:=by omega
    rw[hbi];clear hbit hbi;go_upto_region 9with fail;have hu:=bE;have hsz1:(Tryz.prog.info? 34).map (·.size)=some (bvs (F j)).length:=by rw[ag];simp[bvs,A.o.1.1]
    have hsz2:(Tryz.prog.info? 34).map (·.size)=some (bvs (Em j)).length:=by rw[ag];simp[bvs,A.o.2.2.1]
    have H:Hd (∀W,Below w7.heap.size w7 W->W.rangeAt (w.heap.size+1) 0 (bvs (F j))/\W.rangeAt g (j*32) (bvs (Em j))):=fun W hb=>⟨ab.range (ab.below N.o hb),HB.o W (B.o.trans (hb.mono B.o.size))⟩;refine bA (S:=fun w'=>w'.rangeAt (w.heap.size+1) 0 (bvs (F j))/\w'.rangeAt g (j*32) (bvs (Em j))) 7 (by kernel_rfl) (H.o _ (af (Below.refl _ _) 1)) fun hH=>?_;have D:Hd (Below w7.heap.size w7 w7.drew):=af (Below.refl _ _) 1;generalize w7.drew=w8 at*;refine tua 0 [6,7] ?_;refine tul 1 [6,7] ?_;refine tua 2 [4,5,6,7] ?_;refine tua 3 [4,5,6,7] ?_;refine tua 4 [5,6,7] ?_;refine tul 5 [6,7] ?_;clear hu hsz1 hsz2 hH;refine rdu 6 fun K hK=>?_;go_simp;go_at_call 18;refine(dK wd (F j) (Em j) w8 A.o.1.2 A.o.1.1 A.o.2.2.2 A.o.2.2.1 ⟨J.o.1.below (B.o.trans (D.o.mono B.o.size)),J.o.2.below (B.o.trans (D.o.mono B.o.size))⟩).mono ?_;rintro e w9⟨rfl,hb9⟩;have C:=aQ D hb9;rw[X.o];refine hK.out _ _ (fun _=>H.o _ C.o) ?_;clear hK hb9;refine b9 (i:=7) (o:=⟨none,_,_,_,_,_⟩) (by kernel_rfl) rfl (fun K hK=>?_);refine aA (o:=⟨none,_,_,_,_,_⟩) (by rfl) 34 (.tmp 10) (.tmp 42) rfl 0 [] (bvs (F j)) (bvs (F (j+1))) [] rfl rfl (bj (ab.below N.o C.o)) rfl (by simp[bvs,A.o.1.1,A.o.2.1.1]) (by rw[ag];simp[bvs,A.o.2.1.1]) (fun u hu=>ah _ u hu) ?_;intro w10 h10 g10;have Y:Hd (ar w10 w.heap.size 37 ks):=(ae.one g10).blk (ab.below z.o C.o) (by omega);have Z:Hd (ar w10 (w.heap.size+1) 34 (F (j+1))):=aN h10;have a:Hd (ar w10 (w.heap.size+1+1) 34 (zs 32)):=(ae.one g10).blk (ab.below HA.o C.o) (by omega);have b:Hd (Below w.heap.size w w10):=(B.o.trans (C.o.mono B.o.size)).grown g10 (Nat.le_trans B.o.size C.o.size) fun k hk=>by injection hk with hk;omega
    refine hK.out _ _ (fun h=>by cases h) ?_;clear hK h10 g10;refine co (by kernel_rfl) ?_ _;go_wp2_with fail;go_roundw
    case rel=>exact⟨j+1,by omega,by go_num,Y.o,Z.o,a.o,b.o⟩
    case measure=>simp[intOf];omega
   ·have X:Hd (aZ wd (aU wd (Em j) (F j))=F (j+1)):=by
     show _=_;rw[HC.o];unfold upT aI;rw[if_neg hbit]
    have hbi:¬((cU ks (255-j):Nat):Int)=0:=by omega
    generalize cU ks (255-j)=bk at*;clear hbit;go_upto_region 10with fail;have hu:=bE;have hsz1:(Tryz.prog.info? 34).map (·.size)=some (bvs (F j)).length:=by rw[ag];simp[bvs,A.o.1.1]
    have hsz2:(Tryz.prog.info? 34).map (·.size)=some (bvs (Em j)).length:=by rw[ag];simp[bvs,A.o.2.2.1]
    have H:Hd (∀W,Below w7.heap.size w7 W->W.rangeAt (w.heap.size+1) 0 (bvs (F j))/\W.rangeAt g (j*32) (bvs (Em j))):=fun W hb=>⟨ab.range (ab.below N.o hb),HB.o W (B.o.trans (hb.mono B.o.size))⟩;refine bA (S:=fun w'=>w'.rangeAt (w.heap.size+1) 0 (bvs (F j))/\w'.rangeAt g (j*32) (bvs (Em j))) 7 (by kernel_rfl) (H.o _ (af (Below.refl _ _) 1)) fun hH=>?_;have D:Hd (Below w7.heap.size w7 w7.drew):=af (Below.refl _ _) 1;generalize w7.drew=w8 at*;refine tua 0 [6,7] ?_;refine tua 1 [3,4,6,7] ?_;refine tua 2 [3,4,6,7] ?_;refine tua 3 [4,6,7] ?_;refine tul 4 [6,7] ?_;refine tul 5 [6,7] ?_;clear hu hsz1 hsz2 hH;refine rdu 6 fun K hK=>?_;go_simp;go_at_call 18;refine(dK wd (Em j) (F j) w8 A.o.2.2.2 A.o.2.2.1 A.o.1.2 A.o.1.1 ⟨J.o.1.below (B.o.trans (D.o.mono B.o.size)),J.o.2.below (B.o.trans (D.o.mono B.o.size))⟩).mono ?_;rintro e w9⟨rfl,hb9⟩;have C:=aQ D hb9;rw[X.o];refine hK.out _ _ (fun _=>H.o _ C.o) ?_;clear hK hb9;refine b9 (i:=7) (o:=⟨none,_,_,_,_,_⟩) (by kernel_rfl) rfl (fun K hK=>?_);refine aA (o:=⟨none,_,_,_,_,_⟩) (by rfl) 34 (.tmp 10) (.tmp 49) rfl 0 [] (bvs (F j)) (bvs (F (j+1))) [] rfl rfl (bj (ab.below N.o C.o)) rfl (by simp[bvs,A.o.1.1,A.o.2.1.1]) (by rw[ag];simp[bvs,A.o.2.1.1]) (fun u hu=>ah _ u hu) ?_;intro w10 h10 g10;have Y:Hd (ar w10 w.heap.size 37 ks):=(ae.one g10).blk (ab.below z.o C.o) (by omega);have Z:Hd (ar w10 (w.heap.size+1) 34 (F (j+1))):=aN h10;have a:Hd (ar w10 (w.heap.size+1+1) 34 (zs 32)):=(ae.one g10).blk (ab.below HA.o C.o) (by omega);have b:Hd (Below w.heap.size w w10):=(B.o.trans (C.o.mono B.o.size)).grown g10 (Nat.le_trans B.o.size C.o.size) fun k hk=>by injection hk with hk;omega
    refine hK.out _ _ (fun h=>by cases h) ?_;clear hK h10 g10;refine co (by kernel_rfl) ?_ _;go_wp2_with fail;go_roundw
    case rel=>exact⟨j+1,by omega,by go_num,Y.o,Z.o,a.o,b.o⟩
    case measure=>simp[intOf];omega
  ·have hnlt:¬(j:Int)<h:=by omega
   obtain rfl:j=h:=by omega
   have A:=aa (L.o j);go_wp2_with(first|(refine ac (o:=⟨some 50,_,_,_,_,_⟩) (by rfl) 34 (.tmp 10) rfl ⟨w.heap.size+1,0,none⟩ 32 (F j) rfl (U.o.whole A.o.2 A.o.1) (by omega) (by kernel_rfl) (by kernel_rfl) ?_)|(refine aq (o:=⟨none,_,_,_,_,_⟩) (by rfl) 34 (.tmp 12) (.tmp 50) rfl 0 [] (bvs (zs 32)) (bvs (F j)) [] rfl rfl (bj V.o) rfl (by simp[bvs,zs,A.o.1]) (by rw[ag];simp[bvs,A.o.1]) (fun u hu=>ah _ u hu) ?_;intro w9 h9 g9));exact bH rfl rfl (aN h9) A.o.1 aF ag rfl ⟨rfl,M.o.grown g9 M.o.size fun k hk=>by injection hk with hk;omega⟩
def long(x:Chg):Bool:=!x.del&&decide (128<x.val.length)
def dI(X:Nat->Chg):Nat->Bool
 |0=>false
 |n+1=>dI X n||long (X n)
theorem lS{X:Nat->Chg}{n k:Nat}(h:k<n)(hl:long (X k)=true):dI X n=true:=by
 induction n with
 |zero=>omega
 |succ n ih=>
  rw[dI];by_cases e:k=n
  ·subst e;rw[hl,Bool.or_true]
  ·rw[ih (by omega),Bool.true_or]
theorem sX{X:Nat->Chg}{n:Nat}(h:dI X n=false){k:Nat}(hk:k<n):long (X k)=false:=by
 cases hl:long (X k)with
 |false=>rfl
 |true=>rw[lS hk hl]at h;cases h
def fM(X:Nat->Chg)(n hO:Nat):Nat:=if hO<n then 31 else if dI X n then 32 else 0
def mE(X:Nat->Chg)(k:List Nat):Nat->Bool
 |0=>false
 |j+1=>mE X k j||decide (k=(X j).key)
def pQ(X:Nat->Chg):Nat->Int
 |0=>-1
 |n+1=>if 0<=pQ X n then pQ X n else if mE X (X n).key n then n else-1
theorem mo{X:Nat->Chg}{n m:Nat}(h:fM X n m=0):n<=m/\dI X n=false:=by
 unfold fM at h;split at h
 ·omega
 ·split at h
  ·omega
  ·rename_i h1 h2;exact⟨by omega,by simpa using h2⟩
def eJ:List Nat->Nat
 |[]=>0
 |x::xs=>x*256^xs.length+eJ xs
theorem xG:∀{xs:List Nat},IsB xs->eJ xs<256^xs.length
 |[],_=>by simp[eJ]
 |x::xs,h=>by
  have h1:=xG (xs:=xs) (fun y hy=>h y (List.mem_cons_of_mem _ hy));have h2:x<256:=h x List.mem_cons_self;have h3:x*256^xs.length<=255*256^xs.length:=Nat.mul_le_mul_right _ (by omega);simp only[eJ,List.length_cons,Nat.pow_succ];omega
theorem fo:∀(xs ys:List Nat)(i:Nat),IsB xs->IsB ys->xs.length=ys.length->i<xs.length->(∀j,j<i->xs.getD j 0=ys.getD j 0)->xs.getD i 0<ys.getD i 0->eJ xs<eJ ys
 |[],_,i,_,_,_,hi,_,_=>by simp at hi
 |_::_,[],i,_,_,hl,_,_,_=>by simp at hl
 |x::xs,y::ys,0,hx,hy,hl,_,_,h=>by
  have h1:=xG (xs:=xs) (fun z hz=>hx z (List.mem_cons_of_mem _ hz));simp only[List.length_cons,Nat.add_right_cancel_iff]at hl;simp only[List.getD_cons_zero]at h;have h3:(x+1)*256^xs.length<=y*256^xs.length:=Nat.mul_le_mul_right _ (by omega);rw[Nat.add_mul]at h3;simp only[eJ,<-hl];omega
 |x::xs,y::ys,i+1,hx,hy,hl,hi,hs,h=>by
  simp only[List.length_cons,Nat.add_right_cancel_iff]at hl;simp only[List.length_cons]at hi;have h0:=hs 0 (by omega);simp only[List.getD_cons_zero]at h0;have h1:=fo xs ys i (fun z hz=>hx z (List.mem_cons_of_mem _ hz)) (fun z hz=>hy z (List.mem_cons_of_mem _ hz)) hl (by omega) (fun j hj=>by
   have:=hs (j+1) (by omega);simpa using this) (by simpa using h);simp only[eJ,<-hl,h0];omega
theorem tQ{xs ys:List Nat}(hx:IsB xs)(hy:IsB ys)(hl:xs.length=32)(hl2:ys.length=32)(h:eJ xs=eJ ys):xs=ys:=by
 refine Classical.byContradiction fun hne=>?_;obtain⟨i,hi,hs,hd⟩:=lG hl hl2 hne;rcases Nat.lt_or_gt_of_ne hd with h1|h1
 ·have:=fo xs ys i hx hy (by omega) (by omega) hs h1;omega
 ·have:=fo ys xs i hy hx (by omega) (by omega) (fun j hj=>(hs j hj).symm) h1;omega
def pT(a b:Nat):Int:=if a<b then-1 else if b<a then 1 else 0
theorem nI(ds es:List Nat)(w:World)(hB:IsB ds)(hl:ds.length=32)(hB2:IsB es)(hl2:es.length=32):Calls Tryz.prog 139 #[.agg (bvs ds).toArray, .agg (bvs es).toArray] w fun e w'=>e= .returned (.int .i64 (pT (eJ ds) (eJ es)))/\Below w.heap.size w w':=by
 by_cases h:ds=es
 ·subst h;exact jN ds ds 32 _ w hB hl hB hl (Nat.le_refl _) (fun _ _=>rfl) (fun h=>by omega) (fun _=>by unfold pT;simp) (fun h=>by omega)
 ·obtain⟨d,hd⟩:=lG hl hl2 h;refine jN ds es d _ w hB hl hB2 hl2 (by have:=hd.1;omega) hd.2.1 (fun _=>hd.2.2) (fun e=>by have:=hd.1;omega) (fun _=>?_);by_cases hlt:ds.getD d 0<es.getD d 0
  ·have:=fo ds es d hB hB2 (by omega) (by have:=hd.1;omega) hd.2.1 hlt;unfold pT;rw[if_pos this,if_pos hlt]
  ·have:=fo es ds d hB2 hB (by omega) (by have:=hd.1;omega) (fun j hj=>(hd.2.1 j hj).symm) (by have:=hd.2.2;omega);unfold pT;rw[if_neg (by omega),if_pos this,if_neg hlt]
end Go.Proofs.YtfnlhfaihoojfaaGreatDoor
