/- Texts of the proof of ledgerlaw13.ClientPlays, part 1; no condition of its own. -/
import Derived.BigQuiet
import Derived.StillTailTactics
import Derived.Test.YtfnlhfaihoojfaaGreatDoorS0
set_option maxRecDepth 100000
set_option maxHeartbeats 4000000
namespace Go.Proofs.YtfnlhfaihoojfaaGreatDoor
open Go.RowKit
def uv(x:Nat):Value:= .int .u32 (x:Int)
def uvs(xs:List Nat):List Value:=xs.map uv
theorem bg(xs:List Nat):(uvs xs).length=xs.length:=by simp[uvs]
theorem xc(xs:List Nat){i:Nat}(h:i<xs.length):(uvs xs)[i]?=some (.int .u32 (xs.getD i 0:Nat)):=by
 simp[uvs,uv,List.getD,h]
def ee(w:World)(g:Nat)(t:TypeId)(xs:List Nat):Prop:=ab w g t (uvs xs).toArray
section
variable{w:World}{g:Nat}{t:TypeId}{xs:List Nat}
theorem ee.cell(h:ee w g t xs){i:Nat}(hi:i<xs.length):w.cell? ⟨g,i,none⟩=some (.int .u32 (xs.getD i 0:Nat)):=by
 rw[ab.cell h i];simp[uvs,uv,List.getD,hi]
theorem ee.set(h:ee w g t xs)(i x:Nat):ee (w.setCell ⟨g,i,none⟩ (.int .u32 (x:Int))) g t (xs.set i x):=by
 have:=ab.stored h i (.int .u32 (x:Int));unfold ee;rw[show(uvs (xs.set i x)).toArray=(uvs xs).toArray.setIfInBounds i (.int .u32 (x:Int))by simp[uvs,uv,List.map_set]];exact this
end
def TabU(w:World)(g:Nat)(xs:List Nat):Prop:=g<w.heap.size/\∀j,j<xs.length->w.cell? ⟨g,j,none⟩=some (.int .u32 (xs.getD j 0:Nat))
theorem TabU.keep{w w':World}{g:Nat}{xs:List Nat}(h:TabU w g xs)(hs:w.heap.size<=w'.heap.size)(hb:w'.heap[g]?=w.heap[g]?):TabU w' g xs:=⟨Nat.lt_of_lt_of_le h.1 hs,fun j hj=>by rw[World.cell?_of_block (w:=w) (a:=⟨g,j,none⟩) hb];exact h.2 j hj⟩
theorem TabU.below{w w':World}{g:Nat}{xs:List Nat}(h:TabU w g xs)(hb:Below w.heap.size w w'):TabU w' g xs:=h.keep hb.size (hb.block g h.1)
theorem TabU.grown{w w':World}{g:Nat}{xs:List Nat}{row:Option Nat}(h:TabU w g xs)(hb:w.grownBy w' row)(hg:some g≠row):TabU w' g xs:=h.keep hb.size (hb.block g h.1 hg)
def cH(L rest:List Nat)(h t:Nat):List Value:=uvs L++(bvs rest++[.int .i64 (h:Int), .int .u64 (t:Int)])
def dP(w:World)(g:Nat)(L rest:List Nat)(h t:Nat):Prop:=ab w g 161 (cH L rest h t).toArray/\L.length=8/\rest.length=64
section
variable{w w':World}{g:Nat}{L rest:List Nat}{h t:Nat}
theorem dP.state(H:dP w g L rest h t){i:Nat}(hi:i<8):w.cell? ⟨g,i,none⟩=some (.int .u32 (L.getD i 0:Nat)):=by
 rw[ab.cell H.1 i,List.getElem?_toArray,cH,List.getElem?_append_left (by rw[bg,H.2.1];exact hi)];exact xc L (by rw[H.2.1];exact hi)
theorem dP.byte(H:dP w g L rest h t){i:Nat}(hi:i<64):w.cell? ⟨g,8+i,none⟩=some (.int .u8 (rest.getD i 0:Nat)):=by
 rw[ab.cell H.1,List.getElem?_toArray,cH,List.getElem?_append_right (by rw[bg,H.2.1];omega),bg,H.2.1,show 8+i-8=i by omega,List.getElem?_append_left (by simp[bvs,H.2.2];exact hi)];simp[bvs,bv,List.getD,show i<rest.length by rw[H.2.2];exact hi]
theorem dP.have_(H:dP w g L rest h t):w.cell? ⟨g,72,none⟩=some (.int .i64 (h:Int)):=by
 rw[ab.cell H.1,List.getElem?_toArray,cH,List.getElem?_append_right (by rw[bg,H.2.1];omega),bg,H.2.1,List.getElem?_append_right (by simp[bvs,H.2.2])];simp[bvs,H.2.2]
theorem dP.taken(H:dP w g L rest h t):w.cell? ⟨g,73,none⟩=some (.int .u64 (t:Int)):=by
 rw[ab.cell H.1,List.getElem?_toArray,cH,List.getElem?_append_right (by rw[bg,H.2.1];omega),bg,H.2.1,List.getElem?_append_right (by simp[bvs,H.2.2])];simp[bvs,H.2.2]
theorem dP.frozen(H:dP w g L rest h t)(i:Nat):w.frozen? ⟨g,i,none⟩=false:=ab.frozen H.1 i
theorem dP.lt(H:dP w g L rest h t):g<w.heap.size:=ab.lt H.1
theorem dP.setState(H:dP w g L rest h t){i:Nat}(hi:i<8)(x:Nat):dP (w.setCell ⟨g,i,none⟩ (.int .u32 (x:Int))) g (L.set i x) rest h t:=by
 refine⟨?_,by rw[List.length_set];exact H.2.1,H.2.2⟩;have:=ab.stored H.1 i (.int .u32 (x:Int));rw[show(cH (L.set i x) rest h t).toArray=(cH L rest h t).toArray.setIfInBounds i (.int .u32 (x:Int))by
  simp only[cH,uvs,List.setIfInBounds_toArray,List.map_set];rw[List.set_append_left _ _ (by rw[List.length_map,H.2.1];exact hi)];rfl];exact this
theorem dP.setHave(H:dP w g L rest h t)(x:Nat):dP (w.setCell ⟨g,72,none⟩ (.int .i64 (x:Int))) g L rest x t:=by
 refine⟨?_,H.2.1,H.2.2⟩;have:=ab.stored H.1 72 (.int .i64 (x:Int));rw[show(cH L rest x t).toArray=(cH L rest h t).toArray.setIfInBounds 72 (.int .i64 (x:Int))by
  simp only[cH,List.setIfInBounds_toArray];rw[List.set_append_right _ _ (by rw[bg,H.2.1];omega),bg,H.2.1,List.set_append_right _ _ (by simp[bvs,H.2.2])];simp[bvs,H.2.2]];exact this
theorem dP.setTaken(H:dP w g L rest h t)(x:Nat):dP (w.setCell ⟨g,73,none⟩ (.int .u64 (x:Int))) g L rest h x:=by
 refine⟨?_,H.2.1,H.2.2⟩;have:=ab.stored H.1 73 (.int .u64 (x:Int));rw[show(cH L rest h x).toArray=(cH L rest h t).toArray.setIfInBounds 73 (.int .u64 (x:Int))by
  simp only[cH,List.setIfInBounds_toArray];rw[List.set_append_right _ _ (by rw[bg,H.2.1];omega),bg,H.2.1,List.set_append_right _ _ (by simp[bvs,H.2.2])];simp[bvs,H.2.2]];exact this
theorem dP.keep(H:dP w g L rest h t)(hb:w'.heap[g]?=w.heap[g]?):dP w' g L rest h t:=⟨hb.trans H.1,H.2⟩
theorem dP.below(H:dP w g L rest h t)(hb:Below w.heap.size w w'):dP w' g L rest h t:=H.keep (hb.block g H.lt)
theorem dP.grown{row:Option Nat}(H:dP w g L rest h t)(hb:w.grownBy w' row)(hg:some g≠row):dP w' g L rest h t:=H.keep (hb.block g H.lt hg)
theorem dP.reads(H:dP w g L rest h t)(hB:IsB rest):RB w (some ⟨g,8,none⟩) 64 rest:=⟨H.2.2,hB,fun _=>⟨_,rfl,H.lt,fun j x hj=>by
  have hj':j<64:=by
   rcases Nat.lt_or_ge j 64with h|h
   ·exact h
   ·rw[List.getElem?_eq_none (by rw[H.2.2];exact h)]at hj;cases hj
  rw[add_lit,H.byte hj'];simp[List.getD,hj]⟩⟩
end
theorem St.list_length(s:St):s.list.length=8:=rfl
theorem St.list_w{s:St}(h:s.Ok):IsW s.list:=by
 obtain⟨h1,h2,h3,h4,h5,h6,h7,h8⟩:=h;intro x hx;simp only[St.list,List.mem_cons,List.not_mem_nil,or_false]at hx;rcases hx with rfl|rfl|rfl|rfl|rfl|rfl|rfl|rfl<;>assumption
theorem wN(s v:St){k:Nat}(hk:k<8):(my s v).list.getD k 0=(s.list.getD k 0+v.list.getD k 0)%4294967296:=by
 rcases k with _|_|_|_|_|_|_|_|k;all_goals first|rfl|omega
def wR(s v:St)(k:Nat):List Nat:=(my s v).list.take k++s.list.drop k
theorem sE(s v:St){k:Nat}(hk:k<=8):(wR s v k).length=8:=by
 simp only[wR,List.length_append,List.length_take,List.length_drop,St.list_length];omega
theorem xH(s v:St){k:Nat}(hk:k<8):(wR s v k).getD k 0=s.list.getD k 0:=by
 unfold wR;simp only[List.getD];rw[List.getElem?_append_right (by rw[List.length_take,St.list_length];omega),List.length_take,St.list_length,show k-min k 8=0 by omega,List.getElem?_drop];rfl
theorem qD(s v:St){k:Nat}(hk:k<8):(wR s v k).set k ((s.list.getD k 0+v.list.getD k 0)%4294967296)=wR s v (k+1):=by
 unfold wR;rw[List.set_append_right _ _ (by rw[List.length_take,St.list_length];omega),List.length_take,St.list_length,show k-min k 8=0 by omega,aJ (by rw[St.list_length];exact hk),wN s v hk,List.append_assoc];congr 1;rw[List.drop_eq_getElem_cons (show k<s.list.length by rw[St.list_length];exact hk)];rfl
theorem tT(s v:St):wR s v 8=(my s v).list:=rfl
theorem num{k:IntKind}{a b:Int}(h:a=b):Value.int k a= .int k b:=by rw[h]
theorem yq{P:Program}{w:World}{ops:Array Oper}{rest:List Oper}{o:Oper}{a:Act}{Q:Exit->Act->World->Prop}(hgd:o.guard=none)(t:TypeId)(x ix:Operand)(ho:o.op= .slice t x (some ix) none none)(ht:P.underlying t=some (.slice (P.elem t)))(hsz:(P.info? (P.elem t)).map (·.size)=some 1)(A:Option Addr)(m d k:Nat)(hx:a.eval x= .slice A m d)(hi:a.eval ix= .int .i64 (k:Int))(hk:k<=m)(hmd:m<=d)(h:∀B,Hd ((k<m->B=A.map (·.add k))/\(∀ad,B=some ad->∃ad',A=some ad'/\ad'.block=ad.block)/\(A=none->B=none))->wpList P ops Q rest (a.put o.dst (.slice B (m-k) (d-k))) w):wpList P ops Q (o::rest) a w:=by
 refine wpList_plain hgd fun K hK=>?_;have hs:(sizeOf (P.elem t)).run P w= .ok 1 w:=by
  cases hq:P.info? (P.elem t)with
  |none=>simp[hq]at hsz
  |some i=>
   have h1:i.size=1:=by simpa[hq]using hsz
   simp[sizeOf,typeInfo,hq,h1]
 have hrun:(Instr.sliceAt t (.slice A m d) (some (.int .i64 (k:Int))) none none).run P w= .ok (.slice (if d=k then A else A.map (·.add k)) (m-k) (d-k)) w:=by
  rw[run_sliceAt_slice w t _ _ _ _ ht,run_slice_l w t A m d ht .i64 (k:Int) (by omega) (by omega),hs];simp only[Result.andThen_ok,sliced,Int.toNat_natCast,Nat.mul_one]
 have h2:=h (if d=k then A else A.map (·.add k)) (show _/\_/\_ from⟨fun hlt=>if_neg (by omega),fun ad e=>by
   split at e
   ·exact⟨ad,e,rfl⟩
   ·rcases A with _|b
    ·cases e
    ·injection e with e;exact⟨b,rfl,by rw[<-e,bX]⟩,fun e=>by subst e;split<;>rfl⟩);unfold Oper.wp execOp;simp only[ho,hx,hi,Option.map,Sem.run_bind,Sem.run_pure,hrun,Result.andThen_ok];exact hK _ _ h2
theorem xj(i a b:Nat)(hb:b<2^i):a*2^i|||b=a*2^i+b:=by
 rw[Nat.mul_comm,Nat.two_pow_add_eq_or_of_lt hb]
theorem xX(a b c d:Nat)(ha:a<256)(hb:b<256)(hc:c<256)(hd:d<256):bits .or .u32 (bits .or .u32 (bits .or .u32 ((a:Int)*16777216) ((b:Int)*65536)) ((c:Int)*256)) (d:Int)=((beW a b c d:Nat):Int):=by
 have e1:((a:Int)*16777216)=((a*16777216:Nat):Int):=by omega
 have e2:((b:Int)*65536)=((b*65536:Nat):Int):=by omega
 have e3:((c:Int)*256)=((c*256:Nat):Int):=by omega
 rw[e1,e2,e3,Dp _ _ (by omega) (by omega),show a*16777216|||b*65536=a*16777216+b*65536from xj 24 a (b*65536) (by omega),Dp _ _ (by omega) (by omega),show(a*16777216+b*65536)|||c*256=(a*16777216+b*65536)+c*256by
   have:=xj 16 (a*256+b) (c*256) (by omega);rwa[show(a*256+b)*2^16=a*16777216+b*65536by omega]at this,Dp _ _ (by omega) (by omega),show(a*16777216+b*65536+c*256)|||d=(a*16777216+b*65536+c*256)+d by
   have:=xj 8 (a*65536+b*256+c) d (by omega);rwa[show(a*65536+b*256+c)*2^8=a*16777216+b*65536+c*256by omega]at this];rfl
def bD(bl:List Nat)(k:Nat):List Nat:=dr bl k++List.replicate (64-k) 0
theorem bG(bl:List Nat){k:Nat}(h:k<=64):(bD bl k).length=64:=by
 rw[bD,List.length_append,dg,List.length_replicate];omega
theorem iC(bl:List Nat){k x:Nat}(h:k<64)(hx:x=if k<16then nN bl k else Am (dr bl k) k):(bD bl k).set k x=bD bl (k+1):=by
 subst hx;unfold bD;rw[List.set_append_right _ _ (by rw[dg];omega),dg,Nat.sub_self,show 64-k=(64-(k+1))+1by omega,List.replicate_succ,List.set_cons_zero];show _=(dr bl k++[_])++_;simp
theorem fm(bl:List Nat){k i:Nat}(h:i<k):(bD bl k).getD i 0=(dr bl k).getD i 0:=by
 unfold bD;simp only[List.getD];rw[List.getElem?_append_left (by rw[dg];exact h)]
theorem Dm(a b c:Nat)(ha:a<4294967296)(hb:b<4294967296)(hc:c<4294967296):bits .xor .u32 (bits .xor .u32 (a:Int) (b:Int)) (c:Int)=((a^^^b^^^c:Nat):Int):=by
 rw[wX _ _ ha hb,wX _ _ (tw ha hb) hc]
theorem gU(m x:Nat)(i:Int)(w:World)(hx:x<4294967296)(h0:1<=m)(h1:m<=31)(hi:i=-(m:Int)):Calls Tryz.prog 126 #[.int .u32 x, .int .i64 i] w fun e w'=>e= .returned (.int .u32 (rot x m:Nat))/\w'=w:=by
 subst hi;exact Bd x m w hx h0 h1
theorem Fr(a b c d:Nat):((a:Int)+b+c+d)%4294967296=(((a+b+c+d)%4294967296:Nat):Int):=by omega
theorem tA{bl:List Nat}(hB:IsB bl)(k:Nat):IsW (bD bl k):=(tB hB k).app fun x hx=>by
 have:=(List.mem_replicate.1 hx).2;omega
theorem nU(bl:List Nat):bD bl 64=dr bl 64:=by simp[bD]
theorem oM{e:Nat}(h:e<4294967296):bits .xor .u32 (bits .xor .u32 (rot e 6:Int) (rot e 11:Int)) (rot e 25:Int)=((wY e:Nat):Int):=Dm _ _ _ (gA h _) (gA h _) (gA h _)
theorem oN{e:Nat}(h:e<4294967296):bits .xor .u32 (bits .xor .u32 (rot e 2:Int) (rot e 13:Int)) (rot e 22:Int)=((Aw e:Nat):Int):=Dm _ _ _ (gA h _) (gA h _) (gA h _)
theorem yL{e f g:Nat}(he:e<4294967296)(hf:f<4294967296)(hg:g<4294967296):bits .xor .u32 (g:Int) (bits .and .u32 (e:Int) (bits .xor .u32 (f:Int) (g:Int)))=((CZ e f g:Nat):Int):=by
 rw[wX _ _ hf hg,pX _ _ he (tw hf hg),wX _ _ hg (gJ he)];rfl
theorem yV{a b c:Nat}(ha:a<4294967296)(hb:b<4294967296)(hc:c<4294967296):bits .or .u32 (bits .and .u32 (a:Int) (b:Int)) (bits .and .u32 (c:Int) (bits .or .u32 (a:Int) (b:Int)))=((hO a b c:Nat):Int):=by
 rw[Dp _ _ ha hb,pX _ _ ha hb,pX _ _ hc (xF ha hb),Dp _ _ (gJ ha) (gJ hc)];rfl
theorem DP(a b c d e f g z kk wk:Nat):(((z:Int)+(wY e:Nat)+(CZ e f g:Nat)+kk+wk)%4294967296+(((Aw a:Nat):Int)+(hO a b c:Nat))%4294967296)%4294967296=(((C0 ⟨a,b,c,d,e,f,g,z⟩ kk wk+EF ⟨a,b,c,d,e,f,g,z⟩)%4294967296:Nat):Int):=by
 simp only[C0,EF];omega
theorem DN(a b c d e f g z kk wk:Nat):((d:Int)+((z:Int)+(wY e:Nat)+(CZ e f g:Nat)+kk+wk)%4294967296)%4294967296=(((d+C0 ⟨a,b,c,d,e,f,g,z⟩ kk wk)%4294967296:Nat):Int):=by
 simp only[C0];omega
theorem pz{P:Program}{t e:TypeId}{n:Nat}{cs:Array Value}{k:Nat}{v:Value}(w:World)(hu:P.underlying t=some (.array n e))(hp:P.plainKey e=true)(hs:(P.info? e).map (·.size)=some 1)(hk:k<n)(hv:cs[k]?=some v):(Instr.index t (.agg cs) (.int .i64 (k:Int))).run P w= .ok v w:=by
 cases hq:P.info? e with
 |none=>simp[hq]at hs
 |some i=>
  have h1:i.size=1:=by simpa[hq]using hs
  have h2:=run_part_plain (P:=P) w hp (off:=k) hv;have h3:(0:Int)<=(k:Int)/\(k:Int)<(n:Int):=⟨by omega,by omega⟩;simp[Instr.index,run_underlying hu,asIntOf,Sem.run_bind,h3,sizeOf,typeInfo,hq,h1,h2];intro h;omega
theorem lO{a b:World}{row:Option Nat}(h:a.grownBy b row):a.grownBy b.drew row:=⟨h.os,h.tape,h.output,h.size,h.block⟩
def uz(gh:Nat)(s:St)(bl rest:List Nat)(h t:Nat)(w w':World):Prop:=dP w' gh (tp s bl).list rest h t/\w.grownBy w' (some gh)
theorem AW(gh:Nat)(A:Option Addr)(c:Nat)(bl rest:List Nat)(s:St)(h t:Nat)(w:World)(hx:RB w A 64 bl)(hh:dP w gh s.list rest h t)(hs:s.Ok)(hk:TabU w 3 kL)(hne:gh≠3):Calls Tryz.prog 118 #[.pointer (some ⟨gh,0,none⟩), .slice A 64 c] w fun e w'=>e= .returned (.tuple #[])/\uz gh s bl rest h t w w':=by
 have G:=aa hx;have S:=aa hh;have Q:=aa hs;have T:=aa hk;have l:=aa hne;clear hx hh hs hk hne;go_enter Tryz.func118,Tryz.ntmps118;go_wp2_with fail;have I:Hd (ee (w.alloc (.cells (uvs (List.replicate 64 0)).toArray 130)) w.heap.size 130 (List.replicate 64 0)):=ab.new w _ _;have J:=aa ((Below.refl w.heap.size w).alloc (Nat.le_refl _) (.cells (uvs (List.replicate 64 0)).toArray 130));generalize hw1:w.alloc (.cells (uvs (List.replicate 64 0)).toArray 130)=w1 at I J;change Code.wp _ _ _ _ (w.alloc (.cells (uvs (List.replicate 64 0)).toArray 130));rw[hw1];clear hw1;go_loopw[24](fun i wr=>∃k:Nat,k<=16/\i= .int .i64 k/\Hd (ee wr w.heap.size 130 (bD bl k))/\Hd (Below w.heap.size w wr))(fun i _=>16-(intOf i).toNat)
 case atStart=>exact⟨0,by omega,rfl,I.o,J.o⟩
 case round=>
  clear I J;obtain⟨k,hk,rfl,C,B⟩:=hrel;by_cases hlt:k<16
  ·obtain⟨ad,rfl,hb0,hcell⟩:=(G.o.below B.o).2.2 (by omega);have hl:=G.o.1;have c0:=hcell (4*k) _ (bK (by omega));have c1:=iA (by omega) (hcell (4*k+1) _ (bK (by omega)));have c2:=iA (by omega) (hcell (4*k+2) _ (bK (by omega)));have c3:=iA (by omega) (hcell (4*k+3) _ (bK (by omega)));have b0:=iL G.o.isB (4*k);have b1:=iL G.o.isB (4*k+1);have b2:=iL G.o.isB (4*k+2);have b3:=iL G.o.isB (4*k+3);have U:Hd (nN bl k=beW (bl.getD (4*k) 0) (bl.getD (4*k+1) 0) (bl.getD (4*k+2) 0) (bl.getD (4*k+3) 0)):=rfl;have hc:=C.o.cell (i:=k) (by rw[bG _ (by omega)];omega);have hf:=ab.frozen C.o k;clear hcell hl;generalize bl.getD (4*k) 0=x0 at*;generalize bl.getD (4*k+1) 0=x1 at*;generalize bl.getD (4*k+2) 0=x2 at*;generalize bl.getD (4*k+3) 0=x3 at*;generalize(bD bl k).getD k 0=z at*;have i0:(0:Int)<=4*(k:Int):=by omega
   have i1:(0:Int)<=4*(k:Int)+1:=by omega
   have i2:(0:Int)<=4*(k:Int)+2:=by omega
   have i3:(0:Int)<=4*(k:Int)+3:=by omega
   have j0:4*(k:Int)<64:=by omega
   have j1:4*(k:Int)+1<64:=by omega
   have j2:4*(k:Int)+2<64:=by omega
   have j3:4*(k:Int)+3<64:=by omega
   have n0:(4*(k:Int)).toNat=4*k:=by omega
   have n1:(4*(k:Int)+1).toNat=4*k+1:=by omega
   have n2:(4*(k:Int)+2).toNat=4*k+2:=by omega
   have n3:(4*(k:Int)+3).toNat=4*k+3:=by omega
   have jk:(k:Int)<64:=by omega
   go_wp2_with fail;refine wp_region_still_tail 35 (by kernel_rfl) (by kernel_rfl) ?_;simp only[List.take_succ_cons,List.take_zero,List.drop_succ_cons,List.drop_zero];repeat(refine wpStill_step (fun K hK=>?_);go_simp;(try go_bits);refine hK _ ?_;clear hK K)
   try refine wpStill_nil ?_
   change wpList _ _ _ _ _ wr.drew;have L:Hd (ee (wr.drew.setCell ⟨w.heap.size,k,none⟩ (.int .u32 (beW x0 x1 x2 x3:Nat))) w.heap.size 130 (bD bl (k+1))):=by
    have h:=ee.set (w:=wr.drew) C.o k (beW x0 x1 x2 x3);rwa[iC bl (by omega) (by rw[if_pos hlt];exact U.o.symm)]at h
   have M:Hd (Below w.heap.size w (wr.drew.setCell ⟨w.heap.size,k,none⟩ (.int .u32 (beW x0 x1 x2 x3:Nat)))):=(af B.o 1).setCell (Nat.le_refl _) _;have hbe:=xX x0 x1 x2 x3 b0 b1 b2 b3;go_wp2_with fail;go_roundw
   case rel=>exact⟨k+1,by omega,by go_num,L.o,M.o⟩
   case measure=>simp[intOf];omega
  ·have hk16:16<=k:=by omega
   go_wp2_with fail;go_loopw[6](fun i wr=>∃k:Nat,16<=k/\k<=64/\i= .int .i64 k/\Hd (ee wr w.heap.size 130 (bD bl k))/\Hd (Below w.heap.size w wr))(fun i _=>64-(intOf i).toNat)
   case atStart=>exact⟨16,by omega,by omega,rfl,(show k=16by omega)▸C.o,B.o⟩
   case round=>
    clear C B;obtain⟨w1,rfl⟩:∃w1,w1=wr:=⟨_,rfl⟩;obtain⟨k,hk6,hk,rfl,C,B⟩:=hrel;by_cases hlt:k<64
    ·have hw:=tA G.o.isB k;have cx:=C.o.cell (i:=k-2) (by rw[bG _ hk];omega);have cy:=C.o.cell (i:=k-15) (by rw[bG _ hk];omega);have cu:=C.o.cell (i:=k-7) (by rw[bG _ hk];omega);have cv:=C.o.cell (i:=k-16) (by rw[bG _ hk];omega);have cz:=C.o.cell (i:=k) (by rw[bG _ hk];omega);have cf:=ab.frozen C.o k;have lx:=hw.getD (k-2);have ly:=hw.getD (k-15);have lu:=hw.getD (k-7);have lv:=hw.getD (k-16);have N:Hd (Am (dr bl k) k=(Af ((bD bl k).getD (k-2) 0)+(bD bl k).getD (k-7) 0+Aj ((bD bl k).getD (k-15) 0)+(bD bl k).getD (k-16) 0)%4294967296):=by
      show _=_;rw[fm bl (show k-2<k by omega),fm bl (show k-7<k by omega),fm bl (show k-15<k by omega),fm bl (show k-16<k by omega)];rfl
     clear hw;generalize(bD bl k).getD (k-2) 0=x at*;generalize(bD bl k).getD (k-15) 0=y at*;generalize(bD bl k).getD (k-7) 0=u at*;generalize(bD bl k).getD (k-16) 0=v at*;generalize(bD bl k).getD k 0=z at*;have i0:(2:Int)<=(k:Int):=by omega
     have i1:(15:Int)<=(k:Int):=by omega
     have i2:(7:Int)<=(k:Int):=by omega
     have i3:(16:Int)<=(k:Int):=by omega
     have i4:(0:Int)<=(k:Int):=by omega
     have j0:(k:Int)-2<64:=by omega
     have j1:(k:Int)-15<64:=by omega
     have j2:(k:Int)-7<64:=by omega
     have j3:(k:Int)-16<64:=by omega
     have j4:(k:Int)<64:=by omega
     have n0:((k:Int)-2).toNat=k-2:=by omega
     have n1:((k:Int)-15).toNat=k-15:=by omega
     have n2:((k:Int)-7).toNat=k-7:=by omega
     have n3:((k:Int)-16).toNat=k-16:=by omega
     have hl1:bits .xor .u32 (bits .xor .u32 (rot x 17:Int) (rot x 19:Int)) ((x:Int)/1024)=((Af x:Nat):Int):=by
      rw[show(x:Int)/1024=((x/1024:Nat):Int)by omega];exact Dm _ _ _ (gA lx _) (gA lx _) (jy lx 10)
     have hl0:bits .xor .u32 (bits .xor .u32 (rot y 7:Int) (rot y 18:Int)) ((y:Int)/8)=((Aj y:Nat):Int):=by
      rw[show(y:Int)/8=((y/8:Nat):Int)by omega];exact Dm _ _ _ (gA ly _) (gA ly _) (jy ly 3)
     go_wp2_with fail;go_quiet(fail);go_wp2_with(first|(go_at_call 126;((with_reducible refine(gU 17 _ _ _ lx (by omega) (by omega) (by omega)).mono ?_);rintro e w'⟨rfl,rfl⟩))|(go_at_call 126;((with_reducible refine(gU 19 _ _ _ lx (by omega) (by omega) (by omega)).mono ?_);rintro e w'⟨rfl,rfl⟩))|(go_at_call 126;((with_reducible refine(gU 7 _ _ _ ly (by omega) (by omega) (by omega)).mono ?_);rintro e w'⟨rfl,rfl⟩))|(go_at_call 126;((with_reducible refine(gU 18 _ _ _ ly (by omega) (by omega) (by omega)).mono ?_);rintro e w'⟨rfl,rfl⟩)));replace cu:(w1.drewN nq).cell? ⟨w.heap.size,k-7,none⟩=some (.int .u32 (u:Int)):=cu;replace cv:(w1.drewN nq).cell? ⟨w.heap.size,k-16,none⟩=some (.int .u32 (v:Int)):=cv;replace cz:(w1.drewN nq).cell? ⟨w.heap.size,k,none⟩=some (.int .u32 (z:Int)):=cz;replace cf:(w1.drewN nq).frozen? ⟨w.heap.size,k,none⟩=false:=cf;replace C:Hd (ee (w1.drewN nq) w.heap.size 130 (bD bl k)):=C.o;replace B:Hd (Below w.heap.size w (w1.drewN nq)):=aa (af B.o nq);clear cx cy;generalize w1.drewN nq=w2 at*;refine wp_region_still_tail 15 (by kernel_rfl) (by kernel_rfl) ?_;simp only[List.take_succ_cons,List.take_zero,List.drop_succ_cons,List.drop_zero];repeat(refine wpStill_step (fun K hK=>?_);go_simp;(try go_bits);refine hK _ ?_;clear hK K)
     try refine wpStill_nil ?_
     change wpList _ _ _ _ _ w2.drew;have L:Hd (∀e:Int,e=(((Af x+u+Aj y+v)%4294967296:Nat):Int)->ee (w2.drew.setCell ⟨w.heap.size,k,none⟩ (.int .u32 e)) w.heap.size 130 (bD bl (k+1))):=by
      intro e he;subst he;have h:=ee.set (w:=w2.drew) C.o k ((Af x+u+Aj y+v)%4294967296);rwa[iC bl (by omega) (by rw[if_neg (by omega)];exact N.o.symm)]at h
     have M:Hd (∀e:Value,Below w.heap.size w (w2.drew.setCell ⟨w.heap.size,k,none⟩ e)):=fun e=>(af B.o 1).setCell (Nat.le_refl _) _;go_wp2_with fail;go_roundw
     case rel=>exact⟨k+1,by omega,by omega,by go_num,L.o _ (Fr _ _ _ _),M.o _⟩
     case measure=>simp[intOf];omega
    ·have E:Hd (ee w1 w.heap.size 130 (dr bl 64)):=by
      have h:=C.o;rwa[show k=64by omega,nU]at h
     clear C;have D:Hd (dP w1 gh s.list rest h t):=S.o.below B.o;have F:Hd (TabU w1 3 kL):=T.o.below B.o;have k0:=D.o.state (i:=0) (by omega);have k1:=D.o.state (i:=1) (by omega);have k2:=D.o.state (i:=2) (by omega);have k3:=D.o.state (i:=3) (by omega);have k4:=D.o.state (i:=4) (by omega);have k5:=D.o.state (i:=5) (by omega);have k6:=D.o.state (i:=6) (by omega);have k7:=D.o.state (i:=7) (by omega);replace k0:w1.cell? ⟨gh,0,none⟩=some (.int .u32 (s.a:Int)):=k0;replace k1:w1.cell? ⟨gh,1,none⟩=some (.int .u32 (s.b:Int)):=k1;replace k2:w1.cell? ⟨gh,2,none⟩=some (.int .u32 (s.c:Int)):=k2;replace k3:w1.cell? ⟨gh,3,none⟩=some (.int .u32 (s.d:Int)):=k3;replace k4:w1.cell? ⟨gh,4,none⟩=some (.int .u32 (s.e:Int)):=k4;replace k5:w1.cell? ⟨gh,5,none⟩=some (.int .u32 (s.f:Int)):=k5;replace k6:w1.cell? ⟨gh,6,none⟩=some (.int .u32 (s.g:Int)):=k6;replace k7:w1.cell? ⟨gh,7,none⟩=some (.int .u32 (s.h:Int)):=k7;go_wp2_with fail;go_quiet(fail);replace E:Hd (ee (w1.drewN nq) w.heap.size 130 (dr bl 64)):=E.o;replace D:Hd (dP (w1.drewN nq) gh s.list rest h t):=D.o;replace F:Hd (TabU (w1.drewN nq) 3 kL):=F.o;replace B:Hd (Below w.heap.size w (w1.drewN nq)):=aa (af B.o nq);clear k0 k1 k2 k3 k4 k5 k6 k7;generalize w1.drewN nq=w2 at*;go_wp2_with fail;go_loopw[11,12,13,14,15,16,17,18,146](fun u1 u2 u3 u4 u5 u6 u7 u8 i wr=>∃k a b c d e f g z:Nat,k<=64/\i= .int .i64 k/\u1= .int .u32 a/\u2= .int .u32 b/\u3= .int .u32 c/\u4= .int .u32 d/\u5= .int .u32 e/\u6= .int .u32 f/\u7= .int .u32 g/\u8= .int .u32 z/\Hd (ff s (dr bl 64) k=⟨a,b,c,d,e,f,g,z⟩)/\Hd (ee wr w.heap.size 130 (dr bl 64))/\Hd (dP wr gh s.list rest h t)/\Hd (TabU wr 3 kL)/\Hd (Below w.heap.size w wr))(fun _ _ _ _ _ _ _ _ i _=>64-(intOf i).toNat)
     case atStart=>exact⟨0,s.a,s.b,s.c,s.d,s.e,s.f,s.g,s.h,by omega,rfl,rfl,rfl,rfl,rfl,rfl,rfl,rfl,rfl,rfl,E.o,D.o,F.o,B.o⟩
     case round=>
      clear E D F B;obtain⟨k,a,b,c,d,e,f,g,z,hk,rfl,rfl,rfl,rfl,rfl,rfl,rfl,rfl,rfl,O,E,D,F,B⟩:=hrel;obtain⟨w3,rfl⟩:∃w3,w3=wr:=⟨_,rfl⟩;have hok:=oo Q.o (dr bl 64) k;rw[O.o]at hok;obtain⟨la,lb,lc,ld,le,lf,lg,lz⟩:=hok;simp only at la lb lc ld le lf lg lz;by_cases hlt:k<64
      ·have cw:=E.o.cell (i:=k) (by rw[dg];exact hlt);have ck:=F.o.2 k hlt;have hj:(k:Int)<64:=by omega
       have hi:(0:Int)<=(k:Int):=by omega
       have V:Hd (ff s (dr bl 64) (k+1)=th ⟨a,b,c,d,e,f,g,z⟩ (kL.getD k 0) ((dr bl 64).getD k 0)):=by
        show _=_;rw[<-O.o];rfl
       generalize(dr bl 64).getD k 0=wk at*;generalize kL.getD k 0=kk at*;have h1:=oM le;have h0:=oN la;have hp:=yL le lf lg;have hm:=yV la lb lc;go_wp2_with fail;go_quiet((first|(go_at_call 126;exact Calls.quiet_of_same (gU 6 _ _ _ le (by omega) (by omega) (by omega)))|(go_at_call 126;exact Calls.quiet_of_same (gU 11 _ _ _ le (by omega) (by omega) (by omega)))|(go_at_call 126;exact Calls.quiet_of_same (gU 25 _ _ _ le (by omega) (by omega) (by omega)))));go_wp2_with(first|(go_at_call 126;((with_reducible refine(gU 2 _ _ _ la (by omega) (by omega) (by omega)).mono ?_);rintro e w'⟨rfl,rfl⟩))|(go_at_call 126;((with_reducible refine(gU 13 _ _ _ la (by omega) (by omega) (by omega)).mono ?_);rintro e w'⟨rfl,rfl⟩))|(go_at_call 126;((with_reducible refine(gU 22 _ _ _ la (by omega) (by omega) (by omega)).mono ?_);rintro e w'⟨rfl,rfl⟩)));go_roundw
       case rel=>exact⟨k+1,_,a,b,c,_,e,f,g,by omega,by go_num,num (DP a b c d e f g z kk wk),rfl,rfl,rfl,num (DN a b c d e f g z kk wk),rfl,rfl,rfl,V.o,E.o,D.o,F.o,af B.o nq⟩
       case measure=>simp[intOf];omega
      ·have W:Hd (ff s (dr bl 64) 64=⟨a,b,c,d,e,f,g,z⟩):=by
        have h:=O.o;rwa[show k=64by omega]at h
       have hv:(⟨a,b,c,d,e,f,g,z⟩:St).list=[a,b,c,d,e,f,g,z]:=rfl;have X:=aa hv;clear hv;go_wp2_with fail;go_loopw[215](fun i wr=>∃k:Nat,k<=8/\i= .int .i64 k/\Hd (dP wr gh (wR s ⟨a,b,c,d,e,f,g,z⟩ k) rest h t)/\Hd (w.grownBy wr (some gh)))(fun i _=>8-(intOf i).toNat)
       case atStart=>exact⟨0,by omega,rfl,D.o,jO B.o _⟩
       case round=>
        clear D B F E;obtain⟨k,hk,rfl,H,R⟩:=hrel;obtain⟨w4,rfl⟩:∃w4,w4=wr:=⟨_,rfl⟩;by_cases hlt:k<8
        ·have hc:=H.o.state (i:=k) hlt;rw[xH _ _ hlt]at hc;have hf:=H.o.frozen k;have hn:=qD s ⟨a,b,c,d,e,f,g,z⟩ hlt;rw[X.o]at hn;have hx:#[Value.int .u32 a, .int .u32 b, .int .u32 c, .int .u32 d, .int .u32 e, .int .u32 f, .int .u32 g, .int .u32 z][k]?=some (.int .u32 (([a,b,c,d,e,f,g,z]:List Nat).getD k 0:Nat)):=by
          have:=xc [a,b,c,d,e,f,g,z] (i:=k) hlt;rw[<-this,<-List.getElem?_toArray];rfl
         have hsl:=(St.list_w Q.o).getD k;generalize([a,b,c,d,e,f,g,z]:List Nat).getD k 0=vk at*;generalize s.list.getD k 0=sk at*;have N:=aa hn;clear hn;have hj:(k:Int)<8:=by omega
         have hi:(0:Int)<=(k:Int):=by omega
         have hrun:=fun w=>pz (P:=Tryz.prog) (t:=129) (e:=128) w Tryz.underlying129 (by kernel_rfl) (by kernel_rfl) hlt hx;clear hx;go_wp2_with fail;refine wp_region_still_tail 11 (by kernel_rfl) (by kernel_rfl) ?_;simp only[List.take_succ_cons,List.take_zero,List.drop_succ_cons,List.drop_zero];repeat(refine wpStill_step (fun K hK=>?_);go_simp;(try go_bits);refine hK _ ?_;clear hK K)
         try refine wpStill_nil ?_
         change wpList _ _ _ _ _ w4.drew;have Y:Hd (dP (w4.drew.setCell ⟨gh,k,none⟩ (.int .u32 (((sk:Int)+vk)%4294967296))) gh (wR s ⟨a,b,c,d,e,f,g,z⟩ (k+1)) rest h t):=by
          have h:=dP.setState (w:=w4.drew) H.o hlt ((sk+vk)%4294967296);rw[N.o]at h;rwa[show(((sk+vk)%4294967296:Nat):Int)=((sk:Int)+vk)%4294967296by omega]at h
         have Z:Hd (w.grownBy (w4.drew.setCell ⟨gh,k,none⟩ (.int .u32 (((sk:Int)+vk)%4294967296))) (some gh)):=aE (b:=w4.drew) (lO R.o) (ai w4.drew (g:=gh) k _);clear hrun;go_wp2_with fail;go_roundw
         case rel=>exact⟨k+1,by omega,by go_num,Y.o,Z.o⟩
         case measure=>simp[intOf];omega
        ·have j:Hd (uz gh s bl rest h t w w4):=by
          have h1:=H.o;rw[show k=8by omega,tT]at h1;refine⟨?_,R.o⟩;unfold tp;rw[W.o];exact h1
         go_wp2_with fail;go_end0;exact⟨rfl,j.o⟩
end Go.Proofs.YtfnlhfaihoojfaaGreatDoor
