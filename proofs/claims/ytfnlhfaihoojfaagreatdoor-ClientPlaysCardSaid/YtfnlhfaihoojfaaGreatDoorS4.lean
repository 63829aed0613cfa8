/- Texts of the proof of ledgerlaw13.ClientPlays, part 4; no condition of its own. -/
import Derived.Deep.QuietTactic
import Derived.Test.YtfnlhfaihoojfaaGreatDoorS3
set_option maxRecDepth 100000
set_option maxHeartbeats 4000000
namespace Go.Proofs.YtfnlhfaihoojfaaGreatDoor
open Go.RowKit
def gj(width:Int):Nat:=(min (max width 0) 32).toNat
def jp(ds:List Nat)(width:Int):List Nat:=ds.take (gj width)++zs (32-gj width)
theorem lH(width:Int):gj width<=32:=by unfold gj;omega
theorem bI{ds:List Nat}(hl:ds.length=32)(width:Int):(jp ds width).length=32:=by
 have:=lH width;simp[jp,zs,hl];omega
theorem gI{ds:List Nat}(hB:IsB ds)(width:Int):IsB (jp ds width):=(hB.take _).app (dY _)
theorem xd:Tryz.prog.underlying 36=some (.slice 5):=by kernel_rfl
theorem Cn{X ds:List Nat}{k:Nat}(h1:k<X.length)(h2:X.length=ds.length):(X.take k++ds.drop k).set k (X.getD k 0)=X.take (k+1)++ds.drop (k+1):=by
 rw[List.set_append_right _ _ (by rw[List.length_take];omega),List.length_take,show k-min k X.length=0 by omega,aJ h1,List.append_assoc];congr 1;rw[List.drop_eq_getElem_cons (show k<ds.length by omega)];rfl
theorem Co{X ds:List Nat}{k:Nat}(h1:k<X.length)(h2:X.length=ds.length)(h:X.getD k 0=ds.getD k 0):X.take k++ds.drop k=X.take (k+1)++ds.drop (k+1):=by
 rw[aJ h1,h,List.append_assoc];congr 1;rw[List.drop_eq_getElem_cons (show k<ds.length by omega)];simp[List.getD,show k<ds.length by omega]
theorem xM{ds:List Nat}(hl:ds.length=32){width:Int}{k:Nat}(hk:k<32):(jp ds width).getD k 0=if width<=k then 0 else ds.getD k 0:=by
 unfold jp;have hc:gj width=(min (max width 0) 32).toNat:=rfl;simp only[List.getD];rw[List.getElem?_append,List.length_take,hl];by_cases h:width<=k
 ·rw[if_neg (by omega),if_pos h];simp only[zs,List.getElem?_replicate];split<;>rfl
 ·rw[if_pos (by omega),if_neg h,List.getElem?_take,if_pos (by omega)]
theorem oq(ds:List Nat)(width:Int)(w:World)(hB:IsB ds)(hl:ds.length=32):Calls Tryz.prog 39 #[.agg (bvs ds).toArray, .int .i64 width] w fun e w'=>e= .returned (.agg (bvs (jp ds width)).toArray)/\Below w.heap.size w w':=by
 have M:=aa hB;have A:=aa hl;clear hB hl;go_enter Tryz.func39,Tryz.ntmps39;go_wp2_with fail;refine bV (G:=fun w2=>Code.wp _ _ _ _ w2) fun w2 H I J V=>?_;have N:Hd (ar w2 w.heap.size 34 ds):=H;have O:Hd (ar w2 (w.heap.size+1) 34 (zs 32)):=I;clear H I;go_loopw[5](fun i wr=>∃k:Nat,k<=32/\i= .int .i64 k/\Hd (ar wr w.heap.size 34 ((jp ds width).take k++ds.drop k))/\Hd (w2.grownBy wr (some w.heap.size)))(fun i _=>32-(intOf i).toNat)
 case atStart=>exact⟨0,by omega,rfl,N.o,World.grownBy.refl _ _⟩
 case round=>
  obtain⟨k,hk,rfl,B,C⟩:=hrel;have D:Hd (((jp ds width).take k++ds.drop k).length=32):=by
   show _=32;rw[List.length_append,List.length_take,List.length_drop,bI A.o,A.o];omega
  by_cases hlt:k<32
  ·have hc:=B.o.cell (i:=k) (by rw[D.o];exact hlt);have hf:=ab.frozen B.o k;by_cases hw:width<=k
   ·have hs:=B.o.set k 0;have e:(jp ds width).getD k 0=0:=by rw[xM A.o hlt,if_pos hw]
    have st:=Cn (X:=jp ds width) (ds:=ds) (k:=k) (by rw[bI A.o];exact hlt) (by rw[bI A.o,A.o]);rw[e]at st;rw[st]at hs;have E:=aa hs;have P:=aa (aE C.o (ai wr (g:=w.heap.size) k (.int .u8 ((0:Nat):Int))));clear hs e st D;generalize((jp ds width).take k++ds.drop k).getD k 0=z at*;go_wp2;go_roundw
    case rel=>exact⟨k+1,by omega,by go_num,E.o,P.o⟩
    case measure=>simp[intOf];omega
   ·have hs:=B.o;rw[Co (by rw[bI A.o];exact hlt) (by rw[bI A.o,A.o]) (by rw[xM A.o hlt,if_neg hw])]at hs;have E:=aa hs;clear hs hc hf D;go_wp2;go_roundw
    case rel=>exact⟨k+1,by omega,by go_num,E.o,C.o⟩
    case measure=>simp[intOf];omega
  ·have Q:Hd (ar wr w.heap.size 34 (jp ds width)):=by
    have h:=B.o;rw[show k=32by omega,List.take_of_length_le (by rw[bI A.o];exact Nat.le_refl _),List.drop_of_length_le (by rw[A.o];exact Nat.le_refl _),List.append_nil]at h;exact h
   have R:Hd (ar wr (w.heap.size+1) 34 (zs 32)):=ab.grown O.o C.o (by simp);have S:Hd (Below w.heap.size w wr):=J.o.grown C.o J.o.size (fun k hk=>by cases hk;exact Nat.le_refl _);have K:=aa (Q.o.whole (gI M.o width) (bI A.o width));have F:=aa (bI A.o width);clear D;obtain⟨cs,L⟩:∃cs,Hd (jp ds width=cs):=⟨_,rfl⟩;rw[L.o]at K F;go_wp2_with(first|(refine ac (o:=⟨some 15,_,_,_,_,_⟩) (by rfl) 34 (.tmp 2) rfl ⟨w.heap.size,0,none⟩ 32 cs rfl K.o (by omega) aF ag ?_)|(refine iW (o:=⟨none,_,_,_,_,_⟩) (by rfl) 34 (.tmp 4) (.tmp 15) rfl (w.heap.size+1) 32 cs (zs 32) 34 rfl rfl R.o ag F.o (ak 32) w.heap.size w S.o (by omega) ?_;intro wf T U));exact bH (g:=w.heap.size+1) (n:=32) rfl rfl T.o F.o aF ag rfl ⟨by rw[L.o],U⟩
theorem lQ{ds:List Nat}(hl:ds.length=32){k:Nat}(hk:k<=32):splice (zs 32) 0 (ds.take k)=ds.take k++zs (32-k):=by
 unfold splice;rw[List.take_zero,List.nil_append,List.length_take,hl,show 0+min k 32=k by omega];congr 1;unfold zs;rw[List.drop_replicate]
theorem sd(ds:List Nat)(width:Int)(w:World)(hB:IsB ds)(hl:ds.length=32):Calls Tryz.prog 83 #[.agg (bvs ds).toArray, .int .i64 width] w fun e w'=>e= .returned (.agg (bvs (jp ds width)).toArray)/\Below w.heap.size w w':=by
 have M:=aa hB;have D:=aa hl;clear hB hl;go_enter Tryz.func83,Tryz.ntmps83;go_wp2_with fail;all_goals
  refine fC (G:=fun w2=>Code.wp _ _ _ _ w2) fun w2 T U V E W=>?_;have N:Hd (ar w2 w.heap.size 34 ds):=T;have F:Hd (ar w2 (w.heap.size+1) 34 (zs 32)):=U;have H:Hd (ar w2 (w.heap.size+1+1) 34 (zs 32)):=V;clear T U V W
 ·rename_i h2;rw[if_neg (by omega)]at h2;have B:=aa ((N.o.whole M.o D.o).take (k:=32) (by omega));have I:Hd (splice (zs 32) 0 (ds.take 32)=jp ds width):=by
   show _=_;rw[lQ D.o (by omega)];unfold jp;rw[show gj width=32by unfold gj;omega]
  have A:=aa (bI D.o width);have J:=aa (gI M.o width);obtain⟨cs,K⟩:∃cs,Hd (jp ds width=cs):=⟨_,rfl⟩;rw[K.o]at I A J;go_still_tail 4,(by kernel_rfl);change wpList _ _ _ _ _ w2.drew;replace B:Hd (RB w2.drew (some ⟨w.heap.size,0,none⟩) 32 (ds.take 32)):=B.o;replace H:Hd (ar w2.drew (w.heap.size+1+1) 34 (zs 32)):=H.o;replace F:Hd (ar w2.drew (w.heap.size+1) 34 (zs 32)):=F.o;replace E:Hd (Below w.heap.size w w2.drew):=aa (af E.o 1);clear N;generalize w2.drew=w2 at*;go_wp2_with(first|(refine AC (o:=⟨some 13,_,_,_,_,_⟩) (by rfl) (.tmp 10) (.tmp 12) 36 36 rfl 5 xd dB (some ⟨w.heap.size,0,none⟩) (w.heap.size+1+1) 0 32 32 32 32 rfl rfl (zs 32) 34 H.o _ B.o (by omega) (by rw[ak];omega) (w.heap.size+1+1) w2 (Below.refl _ _) (Nat.le_refl _) ?_;intro w3 L C;rw[I.o]at L;have O:=aa (ab.belowB F.o C (by omega));have P:=aa (E.o.trans (C.mono (by omega)));have Q:=aa (L.o.whole J.o A.o);clear C)|(refine ac (o:=⟨some 14,_,_,_,_,_⟩) (by rfl) 34 (.tmp 5) rfl ⟨w.heap.size+1+1,0,none⟩ 32 cs rfl Q.o (by omega) aF ag ?_)|(refine iW (o:=⟨none,_,_,_,_,_⟩) (by rfl) 34 (.tmp 4) (.tmp 14) rfl (w.heap.size+1) 32 cs (zs 32) 34 rfl rfl O.o ag A.o (ak 32) w.heap.size w P.o (by omega) ?_;intro wf R S));exact bH (g:=w.heap.size+1) (n:=32) rfl rfl R.o A.o aF ag rfl ⟨by rw[K.o],S⟩
 ·rename_i h2;clear h2;have B:=aa ((N.o.whole M.o D.o).take (k:=0) (by omega));have I:Hd (splice (zs 32) 0 (ds.take 0)=jp ds width):=by
   show _=_;rw[lQ D.o (by omega)];unfold jp;rw[show gj width=0 by unfold gj;omega]
  have A:=aa (bI D.o width);have J:=aa (gI M.o width);obtain⟨cs,K⟩:∃cs,Hd (jp ds width=cs):=⟨_,rfl⟩;rw[K.o]at I A J;go_still_tail 4,(by kernel_rfl);change wpList _ _ _ _ _ w2.drew;replace B:Hd (RB w2.drew (some ⟨w.heap.size,0,none⟩) 0 (ds.take 0)):=B.o;replace H:Hd (ar w2.drew (w.heap.size+1+1) 34 (zs 32)):=H.o;replace F:Hd (ar w2.drew (w.heap.size+1) 34 (zs 32)):=F.o;replace E:Hd (Below w.heap.size w w2.drew):=aa (af E.o 1);clear N;generalize w2.drew=w2 at*;go_wp2_with(first|(refine AC (o:=⟨some 13,_,_,_,_,_⟩) (by rfl) (.tmp 10) (.tmp 12) 36 36 rfl 5 xd dB (some ⟨w.heap.size,0,none⟩) (w.heap.size+1+1) 0 0 32 0 32 rfl rfl (zs 32) 34 H.o _ B.o (by omega) (by rw[ak];omega) (w.heap.size+1+1) w2 (Below.refl _ _) (Nat.le_refl _) ?_;intro w3 L C;rw[I.o]at L;have O:=aa (ab.belowB F.o C (by omega));have P:=aa (E.o.trans (C.mono (by omega)));have Q:=aa (L.o.whole J.o A.o);clear C)|(refine ac (o:=⟨some 14,_,_,_,_,_⟩) (by rfl) 34 (.tmp 5) rfl ⟨w.heap.size+1+1,0,none⟩ 32 cs rfl Q.o (by omega) aF ag ?_)|(refine iW (o:=⟨none,_,_,_,_,_⟩) (by rfl) 34 (.tmp 4) (.tmp 14) rfl (w.heap.size+1) 32 cs (zs 32) 34 rfl rfl O.o ag A.o (ak 32) w.heap.size w P.o (by omega) ?_;intro wf R S));exact bH (g:=w.heap.size+1) (n:=32) rfl rfl R.o A.o aF ag rfl ⟨by rw[K.o],S⟩
 ·rename_i h2;rw[if_neg (by omega)]at h2;obtain⟨k,rfl⟩:∃k:Nat,width=k:=⟨width.toNat,by omega⟩;have B:=aa ((N.o.whole M.o D.o).take (k:=k) (by omega));have I:Hd (splice (zs 32) 0 (ds.take k)=jp ds (k:Int)):=by
   show _=_;rw[lQ D.o (by omega)];unfold jp;rw[show gj (k:Int)=k by unfold gj;omega]
  have A:=aa (bI D.o (k:Int));have J:=aa (gI M.o (k:Int));obtain⟨cs,K⟩:∃cs,Hd (jp ds (k:Int)=cs):=⟨_,rfl⟩;rw[K.o]at I A J;go_still_tail 4,(by kernel_rfl);change wpList _ _ _ _ _ w2.drew;replace B:Hd (RB w2.drew (some ⟨w.heap.size,0,none⟩) k (ds.take k)):=B.o;replace H:Hd (ar w2.drew (w.heap.size+1+1) 34 (zs 32)):=H.o;replace F:Hd (ar w2.drew (w.heap.size+1) 34 (zs 32)):=F.o;replace E:Hd (Below w.heap.size w w2.drew):=aa (af E.o 1);clear N;generalize w2.drew=w2 at*;go_wp2_with(first|(refine AC (o:=⟨some 13,_,_,_,_,_⟩) (by rfl) (.tmp 10) (.tmp 12) 36 36 rfl 5 xd dB (some ⟨w.heap.size,0,none⟩) (w.heap.size+1+1) 0 k 32 k 32 rfl rfl (zs 32) 34 H.o _ B.o (by omega) (by rw[ak];omega) (w.heap.size+1+1) w2 (Below.refl _ _) (Nat.le_refl _) ?_;intro w3 L C;rw[I.o]at L;have O:=aa (ab.belowB F.o C (by omega));have P:=aa (E.o.trans (C.mono (by omega)));have Q:=aa (L.o.whole J.o A.o);clear C)|(refine ac (o:=⟨some 14,_,_,_,_,_⟩) (by rfl) 34 (.tmp 5) rfl ⟨w.heap.size+1+1,0,none⟩ 32 cs rfl Q.o (by omega) aF ag ?_)|(refine iW (o:=⟨none,_,_,_,_,_⟩) (by rfl) 34 (.tmp 4) (.tmp 14) rfl (w.heap.size+1) 32 cs (zs 32) 34 rfl rfl O.o ag A.o (ak 32) w.heap.size w P.o (by omega) ?_;intro wf R S));exact bH (g:=w.heap.size+1) (n:=32) rfl rfl R.o A.o aF ag rfl ⟨by rw[K.o],S⟩
def zX(x j:Nat):Nat:=x/2^(7-j)%2
def cU(ks:List Nat)(i:Nat):Nat:=zX (ks.getD (i/8) 0) (i%8)
def len8(x:Nat):Nat:=if x=0then 0 else if x<2then 1 else if x<4then 2 else if x<8then 3 else if x<16then 4 else if x<32then 5 else if x<64then 6 else if x<128then 7 else 8
def lz8(x:Nat):Nat:=8-len8 x
theorem Ek(x j:Nat):zX x j<2:=Nat.mod_lt _ (by decide)
theorem BM{z:Nat}(h0:¬z=0)(h:z<256):∃e,e<=7/\lz8 z=7-e/\2^e<=z/\z<2^(e+1):=by
 unfold lz8 len8;rw[if_neg h0];by_cases h1:z<2
 ·rw[if_pos h1];exact⟨0,by omega,rfl,by omega,by omega⟩
 rw[if_neg h1];by_cases h2:z<4
 ·rw[if_pos h2];exact⟨1,by omega,rfl,by omega,by omega⟩
 rw[if_neg h2];by_cases h3:z<8
 ·rw[if_pos h3];exact⟨2,by omega,rfl,by omega,by omega⟩
 rw[if_neg h3];by_cases h4:z<16
 ·rw[if_pos h4];exact⟨3,by omega,rfl,by omega,by omega⟩
 rw[if_neg h4];by_cases h5:z<32
 ·rw[if_pos h5];exact⟨4,by omega,rfl,by omega,by omega⟩
 rw[if_neg h5];by_cases h6:z<64
 ·rw[if_pos h6];exact⟨5,by omega,rfl,by omega,by omega⟩
 rw[if_neg h6];by_cases h7:z<128
 ·rw[if_pos h7];exact⟨6,by omega,rfl,by omega,by omega⟩
 rw[if_neg h7];exact⟨7,by omega,rfl,by omega,by omega⟩
theorem j6{a b:Nat}(h:a^^^b=0):a=b:=by
 have h2:=congrArg (· ^^^b) h;simpa[Nat.xor_assoc]using h2
theorem xv(x y e:Nat):(x^^^y)/2^e=x/2^e^^^y/2^e:=by
 rw[<-Nat.shiftRight_eq_div_pow,<-Nat.shiftRight_eq_div_pow,<-Nat.shiftRight_eq_div_pow,Nat.shiftRight_xor_distrib]
theorem qE{x y e:Nat}(h:x/2^e<y/2^e):x<y:=by
 rcases Nat.lt_or_ge x y with h1|h1
 ·exact h1
 ·have:=Nat.div_le_div_right (c:=2^e) h1;omega
theorem wF{x y:Nat}(hx:x<256)(hy:y<256)(h:¬x=y):lz8 (x^^^y)<8/\(∀j,j<lz8 (x^^^y)->zX x j=zX y j)/\((x<y/\zX x (lz8 (x^^^y))=0/\zX y (lz8 (x^^^y))=1)∨(y<x/\zX x (lz8 (x^^^y))=1/\zX y (lz8 (x^^^y))=0)):=by
 have hz0:¬x^^^y=0:=fun e=>h (j6 e);obtain⟨e,he,hl,h1,h2⟩:=BM hz0 (Nat.xor_lt_two_pow (n:=8) hx hy);rw[hl];have hh:x/2^(e+1)=y/2^(e+1):=by
  apply j6;rw[<-xv];exact Nat.div_eq_of_lt h2
 have hn:¬x/2^e=y/2^e:=fun k=>by
  have h3:=xv x y e;rw[k,Nat.xor_self]at h3;have h4:=Nat.div_pos h1 (Nat.two_pow_pos e);omega
 refine⟨by omega,fun j hj=>?_,?_⟩
 ·unfold zX;rw[show 7-j=(e+1)+(6-j-e)by omega,Nat.pow_add,<-Nat.div_div_eq_div_mul,<-Nat.div_div_eq_div_mul,hh]
 ·unfold zX;rw[show 7-(7-e)=e by omega];rw[Nat.pow_succ,<-Nat.div_div_eq_div_mul,<-Nat.div_div_eq_div_mul]at hh;by_cases hp:x/2^e<y/2^e
  ·exact .inl ⟨qE hp,by omega,by omega⟩
  ·exact .inr ⟨qE (show y/2^e<x/2^e by omega),by omega,by omega⟩
theorem fQ{ks:List Nat}(hB:IsB ks)(b:Nat):ks.getD b 0<256:=by
 rcases Nat.lt_or_ge b ks.length with h2|h2
 ·exact hB _ (bL h2)
 ·simp[List.getD,List.getElem?_eq_none h2]
def EI(ds es:List Nat)(i:Nat):Prop:=i<32/\(∀j,j<i->ds.getD j 0=es.getD j 0)/\¬ds.getD i 0=es.getD i 0
theorem lG{ds es:List Nat}(h1:ds.length=32)(h2:es.length=32)(h:¬ds=es):∃i,EI ds es i:=by
 have key:∀n,n<=32->(∀j,j<n->ds.getD j 0=es.getD j 0)∨∃i,EI ds es i:=fun n=>by
  induction n with
  |zero=>exact fun _=> .inl fun j hj=>by omega
  |succ n ih=>
   intro hn;rcases ih (by omega)with h|h
   ·by_cases e:ds.getD n 0=es.getD n 0
    ·refine .inl fun j hj=>?_;rcases Nat.lt_or_ge j n with h'|h'
     ·exact h j h'
     ·rw[show j=n by omega];exact e
    ·exact .inr ⟨n,by omega,h,e⟩
   ·exact .inr h
 rcases key 32 (by omega)with h3|h3
 ·exfalso;apply h;apply List.ext_getElem?;intro b;rcases Nat.lt_or_ge b 32with hb|hb
  ·rw[bK (by omega),bK (by omega),h3 b hb]
  ·rw[List.getElem?_eq_none (by omega),List.getElem?_eq_none (by omega)]
 ·exact h3
def te(ds es:List Nat)(i:Nat):Nat:=8*i+lz8 (ds.getD i 0^^^es.getD i 0)
theorem pE{ds es:List Nat}(hd:IsB ds)(he:IsB es){i:Nat}(h:EI ds es i):te ds es i<256/\(∀j,j<te ds es i->cU ds j=cU es j)/\((ds.getD i 0<es.getD i 0/\cU ds (te ds es i)=0/\cU es (te ds es i)=1)∨(es.getD i 0<ds.getD i 0/\cU ds (te ds es i)=1/\cU es (te ds es i)=0)):=by
 obtain⟨h1,h2,h3⟩:=h;obtain⟨k1,k2,k3⟩:=wF (fQ hd i) (fQ he i) h3;unfold te;generalize lz8 (ds.getD i 0^^^es.getD i 0)=l at*;refine⟨by omega,fun j hj=>?_,?_⟩
 ·unfold cU;rcases Nat.lt_or_ge (j/8) i with h|h
  ·rw[h2 _ h]
  ·rw[show j/8=i by omega];exact k2 _ (by omega)
 ·unfold cU;rw[show(8*i+l)/8=i by omega,show(8*i+l)%8=l by omega];exact k3
structure eY(w:World):Prop where
 begin_:TabU w 2 hL
 round_:TabU w 3 kL
theorem eY.below{w w':World}(h:eY w)(hb:Below w.heap.size w w'):eY w':=⟨h.1.below hb,h.2.below hb⟩
theorem eY.grown{w w':World}{g:Nat}(h:eY w)(hb:w.grownBy w' (some g))(h1:g≠2)(h2:g≠3):eY w':=⟨h.1.grown hb (fun e=>h1 (by injection e with e;exact e.symm)),h.2.grown hb (fun e=>h2 (by injection e with e;exact e.symm))⟩
section
variable{w w1 w2 w3 w4 w5:World}
theorem uq(A:Hd (Below w1.heap.size w1 w2))(B:Hd (w2.grownBy w3 (some w1.heap.size)))(C:Hd (w3.grownBy w4 (some w1.heap.size)))(D:Hd (Below w4.heap.size w4 w5)):Below w1.heap.size w1 w5:=by
 have h2:=A.o;have h3:=h2.grown B.o h2.size (fun k hk=>by injection hk with hk;omega);have h4:=h3.grown C.o h3.size (fun k hk=>by injection hk with hk;omega);exact h4.trans (D.o.mono h4.size)
theorem wA(A:Hd (Below w.heap.size w w1))(B:Hd (Below w1.heap.size w1 w2))(C:Hd (w2.grownBy w3 (some w1.heap.size)))(D:Hd (w3.grownBy w4 (some w1.heap.size)))(E:Hd (Below w4.heap.size w4 w5)):Below w.heap.size w w5:=A.o.trans ((uq B C D E).mono A.o.size)
theorem Cj(A:Hd (ab w1 w.heap.size 34 (gZ 32)))(B:Hd (w1.heap.size=w.heap.size+1))(C:Hd (Below w1.heap.size w1 w2))(D:Hd (w2.grownBy w3 (some w1.heap.size)))(E:Hd (w3.grownBy w4 (some w1.heap.size)))(F:Hd (Below w4.heap.size w4 w5)):ar w5 w.heap.size 34 (zs 32):=ab.belowB A.o (uq C D E F) (by rw[B.o];omega)
end
theorem pD(A:Option Addr)(n c:Nat)(xs:List Nat)(w:World)(hx:RB w A n xs)(hnc:n<=c)(hn:n<=140737488355328)(ht:eY w):Calls Tryz.prog 84 #[.slice A n c] w fun e w'=>e= .returned (.agg (bvs (kY xs)).toArray)/\Below w.heap.size w w':=by
 have J:=aa hx;have H:Hd (0<n->∀ad,A=some ad->ad.block<w.heap.size):=fun hp ad e=>by
  obtain⟨ad',e',hb,_⟩:=hx.2.2 hp;rw[e]at e';injection e' with e';rw[e'];exact hb
 have C:=aa ht;clear hx ht;go_enter Tryz.func84,Tryz.ntmps84;go_wp2_with(first|(refine aC (o:=⟨some 2,_,_,_,_,_⟩) (by rfl) 34 rfl _ _ aD ?_;intro w1 K B F)|(refine aj (o:=⟨some 4,_,_,_,_,_⟩) (by rfl) 129 (.global 2) rfl 2 0 (uvs hL) rfl (C.o.below B.o).1.range uE (by rw[kn];rfl) ?_)|(refine aM (o:=⟨some 5,_,_,_,_,_⟩) (by rfl) 161 #[(0, .tmp 4)] rfl [(0, .agg (uvs hL).toArray)] (by simp[go_sem]) _ Eh ?_)|(refine aC (o:=⟨some 3,_,_,_,_,_⟩) (by rfl) 161 rfl _ _ Dd ?_;intro w2 L D Q)|(refine De (o:=⟨none,_,_,_,_,_⟩) (by rfl) 161 (.tmp 3) (.tmp 5) rfl w1.heap.size hL (zs 64) 0 0 rfl rfl (by decide) (by decide) _ (by rfl) L.o xh ?_;intro w3 M hg3;have E:=aa hg3;clear hg3)|(go_at_call 104;((refine(qg w1.heap.size A n c [] xs _ (RB.grownBy ((J.o.below B.o).below D.o) E.o (fun hp ad e h=>by have h1:=H.o hp ad e;have h2:=F.o;injection h with h;omega)) hnc hn (fun hp ad e h=>by have h1:=H.o hp ad e;have h2:=F.o;omega) (wP M.o) (((C.o.below B.o).below D.o).2.grown E.o (fun e=>by have h1:=(C.o.below B.o).2.1;injection e with e;omega)) (fun e=>by have h1:=(C.o.below B.o).2.1;omega)).mono ?_);rintro e w4⟨rfl,hh4,hg4⟩;have N:=aa hh4;have G:=aa hg4;clear hh4 hg4))|(go_at_call 105;((refine(B0 w1.heap.size xs _ N.o ((((C.o.below B.o).below D.o).2.grown E.o (fun e=>by have h1:=(C.o.below B.o).2.1;injection e with e;omega)).grown G.o (fun e=>by have h1:=(C.o.below B.o).2.1;injection e with e;omega))).mono ?_);rintro e w5⟨rfl,hb5⟩;have I:=aa hb5;clear hb5))|(refine iW (o:=⟨none,_,_,_,_,_⟩) (by rfl) 34 (.tmp 2) (.tmp 8) rfl w.heap.size 32 (kY xs) (zs 32) 34 rfl rfl (Cj K F D E G I) ag (cS xs) (ak 32) w.heap.size w (wA B D E G I) (by omega) ?_;intro wf O P));exact bH (g:=w.heap.size) (n:=32) rfl rfl O.o (cS xs) aF ag rfl ⟨rfl,P⟩
theorem Fy{P:Program}{ops:Array Oper}{rest:List Oper}{o:Oper}{a:Act}{w:World}{Q:Exit->Act->World->Prop}(h:Hd (wpList P ops Q (o::rest) a w)):wpList P ops Q (o::rest) a w:=h
theorem a8{P:Program}{ops:Array Oper}{rest:List Oper}{o:Oper}{a:Act}{w:World}{Q:Exit->Act->World->Prop}(hgd:o.guard=none)(ty:TypeId)(x y:Operand)(ho:o.op= .store ty x y)(g:Nat)(cs old:List Value)(t:TypeId)(hx:a.eval x= .pointer (some ⟨g,0,none⟩))(hy:a.eval y= .agg cs.toArray)(hL:ab w g t old.toArray)(hi:(P.info? ty).map (·.size)=some cs.length)(hl:old.length=cs.length)(h1:∀v∈cs,v.oneCell'=true)(h:∀w',Hd (ab w' g t cs.toArray)->Hd (w.grownBy w' (some g))->Hd (w'.heap.size=w.heap.size)->wpList P ops Q rest (a.put o.dst undef) w'):wpList P ops Q (o::rest) a w:=by
 refine wpList_store_row hgd ty x y ho g _ hx hy t _ hL (by rw[hi];simp) (by simp[hl]) (by
  rw[Array.all_eq_true_iff_forall_mem];intro v hv;exact h1 v (by simpa using hv)) (h _ ?_ (fv _) (by show _=_;simp[World.setRow]));show _=_;exact setRow_heap w g _ _ t (0,0) hL
theorem j7(xs:List Nat):∀u∈uvs xs,u.oneCell'=true:=by
 intro u hu;simp only[uvs,List.mem_map]at hu;obtain⟨x,_,rfl⟩:=hu;rfl
theorem ij{P:Program}{fn:Func}{p:Tmp}{ty:TypeId}{R:Ending->World->Prop}{x:Act}{w:World}{g:Nat}{t:TypeId}{cs:List Value}(h:fn.results=#[.cell p ty])(hp:x.tmps.getD p undef= .pointer (some ⟨g,0,none⟩))(hb:ab w g t cs.toArray)(hrow:(P.underlying ty).map (·.isRow)=some true)(hi:(P.info? ty).map (·.size)=some cs.length)(hd:x.defers=[])(hR:R (.returned (.agg cs.toArray)) w):bodyPost P fn R .ret x w:=by
 refine bodyPost_ret (v:= .agg cs.toArray) ?_ hd hR;obtain⟨d,hu,hdr⟩:=gq hrow;have h2:=run_loadVar_mid (P:=P) w g 0 ty cs d hb.range hu hdr hi;rw[jg h,hp];simp[asAddr,Result.andThen,h2]
def nF(n:Nat):Array Value:=(uvs (zs n)).toArray
theorem rZ:(Tryz.prog.info? 130).map (fun i=>(i.zero,i.size))=some (some (.agg (nF 64)),64):=by kernel_rfl
theorem xn:(Tryz.prog.info? 129).map (fun i=>(i.zero,i.size))=some (some (.agg (nF 8)),8):=by kernel_rfl
theorem xi:(Tryz.prog.underlying 130).map (·.isRow)=some true:=by kernel_rfl
theorem mJ:(Tryz.prog.info? 130).map (·.size)=some 64:=by kernel_rfl
theorem gQ(m x:Nat)(i:Int)(w:World)(hx:x<4294967296)(h0:1<=m)(h1:m<=31)(hi:i=(m:Int)):Calls Tryz.prog 101 #[.int .u32 x, .int .u64 i] w fun e w'=>e= .returned (.int .u32 (rot x m:Nat))/\w'=w:=by
 subst hi;exact AP x m w hx h0 h1
theorem EP{xs:List Nat}{a k:Nat}(hk:k<64):((xs.drop a).take 64).getD k 0=xs.getD (a+k) 0:=by
 simp only[List.getD,List.getElem?_take,List.getElem?_drop,if_pos hk]
theorem ye(ws:List Nat)(A:Option Addr)(n c a:Nat)(xs:List Nat)(w:World)(hx:RB w A n xs)(ha:a+64<=n)(hn:n<=140737488355328)(hws:dr ((xs.drop a).take 64) 64=ws):Calls Tryz.prog 78 #[.slice A n c, .int .i64 a] w fun e w'=>e= .returned (.agg (uvs ws).toArray)/\Below w.heap.size w w':=by
 have D:=aa hx;have R:Hd (IsB ((xs.drop a).take 64)):=(hx.isB.drop _).take _;have E:Hd (∀k,k<64->((xs.drop a).take 64).getD k 0=xs.getD (a+k) 0):=fun k hk=>EP hk;clear hx;generalize hbl:(xs.drop a).take 64=bl at*;clear hbl;have S:Hd (∀k,64<=k->k<=64->bD bl k=ws):=fun k h1 h2=>by rw[show k=64by omega,nU,hws]
 have F:Hd (∀k:Nat,(uvs ws).length=64):=fun _=>by rw[bg,<-hws,dg]
 clear hws;go_enter Tryz.func78,Tryz.ntmps78;go_wp2_with(first|(refine aC (o:=⟨some 4,_,_,_,_,_⟩) (by rfl) 130 rfl _ _ rZ ?_;intro w1 T P I)|(refine aC (o:=⟨some 5,_,_,_,_,_⟩) (by rfl) 130 rfl _ _ rZ ?_;intro w2 G Q U));have J:Hd (ee w2 w1.heap.size 130 (bD bl 0)):=G.o;have L:Hd (Below w1.heap.size w1 w2):=Q.o;clear G Q U;obtain⟨gw,H⟩:∃gw,w1.heap.size=gw:=⟨_,rfl⟩;rw[H]at J L;have M:=aa H;rw[H];clear H;go_loopw[6](fun i wr=>∃k:Nat,k<=16/\i= .int .i64 k/\Hd (ee wr gw 130 (bD bl k))/\Hd (Below gw w1 wr))(fun i _=>16-(intOf i).toNat)
 case atStart=>exact⟨0,by omega,rfl,J.o,L.o⟩
 case round=>
  clear J L;obtain⟨k,hk,rfl,B,C⟩:=hrel;by_cases hlt:k<16
  ·obtain⟨ad,rfl,hb0,hcell⟩:=((D.o.below P.o).below (C.o.mono (by rw[M.o];exact Nat.le_refl _))).2.2 (by omega);have hl:=D.o.1;have c0:=hcell (a+4*k) _ (bK (by omega));have c1:=iA (by omega) (hcell (a+4*k+1) _ (bK (by omega)));have c2:=iA (by omega) (hcell (a+4*k+2) _ (bK (by omega)));have c3:=iA (by omega) (hcell (a+4*k+3) _ (bK (by omega)));have b0:=iL D.o.isB (a+4*k);have b1:=iL D.o.isB (a+4*k+1);have b2:=iL D.o.isB (a+4*k+2);have b3:=iL D.o.isB (a+4*k+3);have V:Hd (nN bl k=beW (xs.getD (a+4*k) 0) (xs.getD (a+4*k+1) 0) (xs.getD (a+4*k+2) 0) (xs.getD (a+4*k+3) 0)):=by
    show _=_;unfold nN;rw[E.o _ (by omega),E.o _ (by omega),E.o _ (by omega),E.o _ (by omega)];rfl
   have hc:=B.o.cell (i:=k) (by rw[bG _ (by omega)];omega);have hf:=ab.frozen B.o k;clear hcell hl;generalize xs.getD (a+4*k) 0=x0 at*;generalize xs.getD (a+4*k+1) 0=x1 at*;generalize xs.getD (a+4*k+2) 0=x2 at*;generalize xs.getD (a+4*k+3) 0=x3 at*;generalize(bD bl k).getD k 0=z at*;have jn:(a:Int)+4*(k:Int)+3<(n:Int):=by omega
   have i0:(0:Int)<=(a:Int)+4*(k:Int):=by omega
   have i1:(0:Int)<=(a:Int)+4*(k:Int)+1:=by omega
   have i2:(0:Int)<=(a:Int)+4*(k:Int)+2:=by omega
   have i3:(0:Int)<=(a:Int)+4*(k:Int)+3:=by omega
   have j0:(a:Int)+4*(k:Int)<(n:Int):=by omega
   have j1:(a:Int)+4*(k:Int)+1<(n:Int):=by omega
   have j2:(a:Int)+4*(k:Int)+2<(n:Int):=by omega
   have n0:((a:Int)+4*(k:Int)).toNat=a+4*k:=by omega
   have n1:((a:Int)+4*(k:Int)+1).toNat=a+4*k+1:=by omega
   have n2:((a:Int)+4*(k:Int)+2).toNat=a+4*k+2:=by omega
   have n3:((a:Int)+4*(k:Int)+3).toNat=a+4*k+3:=by omega
   have jk:(k:Int)<64:=by omega
   go_wp2_with fail;refine wp_region_still_tail 31 (by kernel_rfl) (by kernel_rfl) ?_;simp only[List.take_succ_cons,List.take_zero,List.drop_succ_cons,List.drop_zero];repeat(refine wpStill_step (fun K hK=>?_);go_simp;(try go_bits);refine hK _ ?_;clear hK K)
   try refine wpStill_nil ?_
   change wpList _ _ _ _ _ wr.drew;have N:Hd (ee (wr.drew.setCell ⟨gw,k,none⟩ (.int .u32 (beW x0 x1 x2 x3:Nat))) gw 130 (bD bl (k+1))):=by
    have h:=ee.set (w:=wr.drew) B.o k (beW x0 x1 x2 x3);rwa[iC bl (by omega) (by rw[if_pos hlt];exact V.o.symm)]at h
   have O:Hd (Below gw w1 (wr.drew.setCell ⟨gw,k,none⟩ (.int .u32 (beW x0 x1 x2 x3:Nat)))):=(af C.o 1).setCell (Nat.le_refl _) _;have hbe:=xX x0 x1 x2 x3 b0 b1 b2 b3;go_wp2_with fail;go_roundw
   case rel=>exact⟨k+1,by omega,by go_num,N.o,O.o⟩
   case measure=>simp[intOf];omega
  ·have hk16:16<=k:=by omega
   go_wp2_with fail;go_loopw[8](fun i wr=>∃k:Nat,16<=k/\k<=64/\i= .int .i64 k/\Hd (ee wr gw 130 (bD bl k))/\Hd (Below gw w1 wr))(fun i _=>64-(intOf i).toNat)
   case atStart=>exact⟨16,by omega,by omega,rfl,(show k=16by omega)▸B.o,C.o⟩
   case round=>
    clear B C;obtain⟨w3,rfl⟩:∃w3,w3=wr:=⟨_,rfl⟩;obtain⟨k,hk6,hk,rfl,B,C⟩:=hrel;by_cases hlt:k<64
    ·have hw:=tA R.o k;have cx:=B.o.cell (i:=k-2) (by rw[bG _ hk];omega);have cy:=B.o.cell (i:=k-15) (by rw[bG _ hk];omega);have cu:=B.o.cell (i:=k-7) (by rw[bG _ hk];omega);have cv:=B.o.cell (i:=k-16) (by rw[bG _ hk];omega);have cz:=B.o.cell (i:=k) (by rw[bG _ hk];omega);have cf:=ab.frozen B.o k;have lx:=hw.getD (k-2);have ly:=hw.getD (k-15);have lu:=hw.getD (k-7);have lv:=hw.getD (k-16);have W:Hd (Am (dr bl k) k=(Af ((bD bl k).getD (k-2) 0)+(bD bl k).getD (k-7) 0+Aj ((bD bl k).getD (k-15) 0)+(bD bl k).getD (k-16) 0)%4294967296):=by
      show _=_;rw[fm bl (show k-2<k by omega),fm bl (show k-7<k by omega),fm bl (show k-15<k by omega),fm bl (show k-16<k by omega)];rfl
     clear hw;generalize(bD bl k).getD (k-2) 0=x at*;generalize(bD bl k).getD (k-15) 0=y at*;generalize(bD bl k).getD (k-7) 0=u at*;generalize(bD bl k).getD (k-16) 0=v at*;generalize(bD bl k).getD k 0=z at*;have i0:(2:Int)<=(k:Int):=by omega
     have i1:(15:Int)<=(k:Int):=by omega
     have i2:(7:Int)<=(k:Int):=by omega
     have i3:(16:Int)<=(k:Int):=by omega
     have i4:(0:Int)<=(k:Int):=by omega
     have j0:(k:Int)-2<64:=by omega
     have j1:(k:Int)-15<64:=by omega
     have j2:(k:Int)-7<64:=by omega
     have j3:(k:Int)-16<64:=by omega
     have j4:(k:Int)<64:=by omega
     have n0:((k:Int)-2).toNat=k-2:=by omega
     have n1:((k:Int)-15).toNat=k-15:=by omega
     have n2:((k:Int)-7).toNat=k-7:=by omega
     have n3:((k:Int)-16).toNat=k-16:=by omega
     have hl1:bits .xor .u32 (bits .xor .u32 (rot x 17:Int) (rot x 19:Int)) ((x:Int)/1024)=((Af x:Nat):Int):=by
      rw[show(x:Int)/1024=((x/1024:Nat):Int)by omega];exact Dm _ _ _ (gA lx _) (gA lx _) (jy lx 10)
     have hl0:bits .xor .u32 (bits .xor .u32 (rot y 7:Int) (rot y 18:Int)) ((y:Int)/8)=((Aj y:Nat):Int):=by
      rw[show(y:Int)/8=((y/8:Nat):Int)by omega];exact Dm _ _ _ (gA ly _) (gA ly _) (jy ly 3)
     go_wp2_with fail;go_quiet((first|(go_at_call 101;exact Calls.quiet_of_same (gQ 17 _ _ _ lx (by omega) (by omega) (by omega)))|(go_at_call 101;exact Calls.quiet_of_same (gQ 19 _ _ _ lx (by omega) (by omega) (by omega)))));clear cx;replace cy:(w3.drewN nq).cell? ⟨gw,k-15,none⟩=some (.int .u32 (y:Int)):=cy;replace cu:(w3.drewN nq).cell? ⟨gw,k-7,none⟩=some (.int .u32 (u:Int)):=cu;replace cv:(w3.drewN nq).cell? ⟨gw,k-16,none⟩=some (.int .u32 (v:Int)):=cv;replace cz:(w3.drewN nq).cell? ⟨gw,k,none⟩=some (.int .u32 (z:Int)):=cz;replace cf:(w3.drewN nq).frozen? ⟨gw,k,none⟩=false:=cf;replace B:Hd (ee (w3.drewN nq) gw 130 (bD bl k)):=B.o;replace C:Hd (Below gw w1 (w3.drewN nq)):=aa (af C.o _);generalize w3.drewN nq=w4 at*;go_wp2_with fail;go_quiet((first|(go_at_call 101;exact Calls.quiet_of_same (gQ 7 _ _ _ ly (by omega) (by omega) (by omega)))|(go_at_call 101;exact Calls.quiet_of_same (gQ 18 _ _ _ ly (by omega) (by omega) (by omega)))));clear cy;replace cu:(w4.drewN nq).cell? ⟨gw,k-7,none⟩=some (.int .u32 (u:Int)):=cu;replace cv:(w4.drewN nq).cell? ⟨gw,k-16,none⟩=some (.int .u32 (v:Int)):=cv;replace cz:(w4.drewN nq).cell? ⟨gw,k,none⟩=some (.int .u32 (z:Int)):=cz;replace cf:(w4.drewN nq).frozen? ⟨gw,k,none⟩=false:=cf;replace B:Hd (ee (w4.drewN nq) gw 130 (bD bl k)):=B.o;replace C:Hd (Below gw w1 (w4.drewN nq)):=aa (af C.o _);generalize w4.drewN nq=w5 at*;go_wp2_with fail;refine wp_region_still_tail 15 (by kernel_rfl) (by kernel_rfl) ?_;simp only[List.take_succ_cons,List.take_zero,List.drop_succ_cons,List.drop_zero];repeat(refine wpStill_step (fun K hK=>?_);go_simp;(try go_bits);refine hK _ ?_;clear hK K)
     try refine wpStill_nil ?_
     change wpList _ _ _ _ _ w5.drew;have N:Hd (∀e:Int,e=(((Af x+u+Aj y+v)%4294967296:Nat):Int)->ee (w5.drew.setCell ⟨gw,k,none⟩ (.int .u32 e)) gw 130 (bD bl (k+1))):=by
      intro e he;subst he;have h:=ee.set (w:=w5.drew) B.o k ((Af x+u+Aj y+v)%4294967296);rwa[iC bl (by omega) (by rw[if_neg (by omega)];exact W.o.symm)]at h
     have O:Hd (∀e:Value,Below gw w1 (w5.drew.setCell ⟨gw,k,none⟩ e)):=fun e=>(af C.o 1).setCell (Nat.le_refl _) _;go_wp2_with fail;go_roundw
     case rel=>exact⟨k+1,by omega,by omega,by go_num,N.o _ (Fr _ _ _ _),O.o _⟩
     case measure=>simp[intOf];omega
    ·have X:Hd (ee w3 gw 130 ws):=by
      have h:=B.o;rwa[S.o k (by omega) hk]at h
     have G:Hd (ab w3 w.heap.size 130 (uvs (zs 64)).toArray):=ab.belowB T.o C.o (by rw[<-M.o,I.o];omega);clear B;go_wp2_with(first|((with_reducible refine atS 103 ?_);refine aj (by rfl) 130 (.tmp 5) rfl gw 0 (uvs ws) rfl (ab.range X.o) xi (by rw[mJ,F.o 0]) ?_)|((with_reducible refine atU ?_);refine a8 (o:=⟨none,_,_,_,_,_⟩) (by rfl) 130 (.tmp 4) (.tmp 103) rfl w.heap.size (uvs ws) (uvs (zs 64)) 130 rfl rfl G.o (by rw[mJ,F.o 0]) (by rw[F.o 0];rfl) (j7 _) ?_;intro w6 Y Z d));have b:Hd (Below w.heap.size w w6):=(P.o.trans (C.o.mono (by rw[<-M.o,I.o];omega))).grown Z.o (by
      have h1:=C.o.size;have h2:=I.o;omega) (fun k hk=>by injection hk with hk;omega);exact ij (g:=w.heap.size) rfl rfl Y.o xi (by rw[mJ,F.o 0]) rfl ⟨rfl,b.o⟩
end Go.Proofs.YtfnlhfaihoojfaaGreatDoor
