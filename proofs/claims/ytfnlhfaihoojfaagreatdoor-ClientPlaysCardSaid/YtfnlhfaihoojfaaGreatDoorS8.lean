/- Texts of the proof of ledgerlaw13.ClientPlays, part 8; no condition of its own. -/
import Derived.Lib.BitFns
import Derived.WalkSpells
import Derived.Laws.OwnMore
import Derived.Test.YtfnlhfaihoojfaaGreatDoorS7
set_option maxRecDepth 100000
set_option maxHeartbeats 4000000
namespace Go.Proofs.YtfnlhfaihoojfaaGreatDoor
open Go.RowKit
theorem nu:∀x:Fin 256,Lib.onesCount x.val=jT x.val:=by decide+kernel
theorem Bw(x:Int)(w:World)(h0:0<=x)(h1:x<=255):Calls Tryz.prog 116 #[.int .u8 x] w fun e w'=>e= .returned (.int .i64 (Lib.onesCount x.toNat))/\w'=w:=by
 rw[<-Lib.pop8_int x h0 h1];go_enter Tryz.func116,Tryz.ntmps116;go_wp2;go_ret;refine⟨?_,rfl⟩;generalize Lib.pop8 x=l;show Ending.returned (.int .i64 (wrap64 l))=_;congr 2;unfold wrap64;omega
theorem Bv(x:Nat)(w:World)(hx:x<256):Calls Tryz.prog 116 #[.int .u8 x] w fun e w'=>e= .returned (.int .i64 (jT x:Nat))/\w'=w:=by
 have h:=Bw (x:Int) w (by omega) (by omega);rw[Int.toNat_natCast,show Lib.onesCount x=jT x from nu ⟨x,hx⟩]at h;exact h
theorem pp(x:Nat):jT x<=8:=by unfold jT;omega
theorem iy{ds:List Nat}:cW ds<=8*ds.length:=by
 induction ds with
 |nil=>simp[cW]
 |cons x r ih=>
  have:=pp x;unfold cW at ih⊢;simp only[List.map_cons,List.sum_cons,List.length_cons];omega
theorem ou{ds:List Nat}{k:Nat}(h:k<ds.length):cW (ds.take (k+1))=cW (ds.take k)+jT (ds.getD k 0):=by
 rw[aJ h];unfold cW;rw[List.map_append,List.sum_append];simp
theorem tE:Tryz.prog.underlying 33=some (.array 32 5):=by kernel_rfl
theorem mm(ds:List Nat)(w:World)(hB:IsB ds)(hl:ds.length=32):Calls Tryz.prog 100 #[.agg (bvs ds).toArray] w fun e w'=>e= .returned (.int .i64 (cW ds:Nat))/\Below w.heap.size w w':=by
 have B:=aa hB;have A:=aa hl;clear hB hl;go_enter Tryz.func100,Tryz.ntmps100;go_wp2_with(with_reducible refine atS 6 ?_);refine bh (G:=fun w2=>Hd (wpList _ _ _ _ _ w2)) fun w2 C E F=>?_;have D:Hd (ar w2 w.heap.size 33 ds):=C;clear C F;refine aa ?_;go_wp2_with(refine ac (o:=⟨some 6,_,_,_,_,_⟩) (by rfl) 33 (.tmp 1) rfl ⟨w.heap.size,0,none⟩ 32 ds rfl (D.o.whole B.o A.o) (by omega) (by kernel_rfl) (by kernel_rfl) ?_);clear D;go_loop[3,5,7](fun n _ i=>∃k:Nat,i= .int .i64 (k:Int)/\Hd (k<=32)/\n= .int .i64 (cW (ds.take k):Nat))(fun _ _ i=>32-(intOf i).toNat)
 case atStart=>exact⟨0,rfl,Nat.zero_le _,rfl⟩
 case round=>
  obtain⟨k,rfl,H,rfl⟩:=hrel;have hk32:(k:Int)<=32:=by have:=H.o;omega
  by_cases hlt:(k:Int)<32
  ·have hx8:=B.o _ (bL (show k<ds.length by rw[A.o];omega));have hix:∀w:World,(Instr.index 33 (.agg (bvs ds).toArray) (.int .i64 (k:Int))).run Tryz.prog w= .ok (.int .u8 (ds.getD k 0:Nat)) w:=fun w=>by
    have h3:(bvs ds).toArray[k]?=some (.int .u8 (ds.getD k 0:Nat)):=by
     rw[List.getElem?_toArray,bvs,List.getElem?_map,bK (by rw[A.o];omega)];rfl
    exact pz w tE (by kernel_rfl) dB (by omega) h3
   have I:Hd (cW (ds.take (k+1))=cW (ds.take k)+jT (ds.getD k 0)):=ou (by rw[A.o];omega);have J:=aa (fun W=>Bv (ds.getD k 0) W hx8);have h1:=iy (ds:=ds.take k);have h2:(ds.take k).length<=32:=by rw[List.length_take];omega
   have h3:((cW (ds.take k):Nat):Int)<=256:=by omega
   have h4:=pp (ds.getD k 0);clear h1 h2;generalize cW (ds.take k)=m at*;generalize jT (ds.getD k 0)=z at*;generalize ds.getD k 0=x at*;go_wp2_with fail;refine(J.o w2).mono ?_;rintro e w3⟨rfl,rfl⟩;go_wp2_with fail;go_round
   case rel=>exact⟨k+1,by go_num,(show k+1<=32by omega),by rw[I.o];go_num⟩
   case measure=>simp[intOf];omega
  ·obtain rfl:k=32:=by omega
   go_wp2_with fail;go_ret;exact⟨by rw[List.take_of_length_le (by rw[A.o];exact Nat.le_refl _)];rfl,E.o⟩
abbrev jS(w:World)(g:Nat)(A:Option Addr)(n c:Nat)(s:Bool):Prop:=ab w g 156 #[.slice A n c, .bool s]
theorem fE{w:World}{g:Nat}{A:Option Addr}{n c:Nat}{s:Bool}(h:jS w g A n c s):w.cell? ⟨g,0,none⟩=some (.slice A n c)/\w.cell? ⟨g,1,none⟩=some (.bool s)/\w.frozen? ⟨g,0,none⟩=false/\w.frozen? ⟨g,1,none⟩=false:=⟨h.cell 0,h.cell 1,h.frozen 0,h.frozen 1⟩
def zV(g:Nat)(w:World)(e:Ending)(w':World):Prop:=e= .returned (.slice none 0 0)/\jS w' g none 0 0 true/\w.grownBy w' (some g)
def E8(g:Nat)(A:Option Addr)(n c k:Nat)(s:Bool)(w:World)(e:Ending)(w':World):Prop:=e= .returned (.slice A k k)/\(∃A',jS w' g A' (n-k) (c-k) s/\(k<n->A'=A.map (·.add k))/\(A'=none->c-k=0)/\∀ad',A'=some ad'->∃ad,A=some ad/\ad'.block=ad.block)/\w.grownBy w' (some g)
theorem jC(g:Nat)(A:Option Addr)(n c k:Nat)(s:Bool)(w:World)(h:jS w g A n c s)(hk:n<k):Calls Tryz.prog 103 #[.pointer (some ⟨g,0,none⟩), .int .i64 k] w (zV g w):=by
 obtain⟨c0,c1,f0,f1⟩:=fE h;have hs1:Hd (jS (w.setCell ⟨g,1,none⟩ (.bool true)) g A n c true):=ab.stored h 1 _;obtain⟨d0,d1,e0,e1⟩:=fE hs1.o;have hs2:Hd (jS ((w.setCell ⟨g,1,none⟩ (.bool true)).setCell ⟨g,0,none⟩ (.slice none 0 0)) g none 0 0 true):=ab.stored hs1.o 0 _;have hg:Hd (w.grownBy ((w.setCell ⟨g,1,none⟩ (.bool true)).setCell ⟨g,0,none⟩ (.slice none 0 0)) (some g)):=aE (ai w 1 _) (ai _ 0 _);have hlt:(n:Int)<k:=by omega
 clear h hk;go_enter Tryz.func103,Tryz.ntmps103;go_wp2_with fail;go_ret;exact⟨rfl,hs2.o,hg.o⟩
theorem jV(g:Nat)(A:Option Addr)(n c k:Nat)(s:Bool)(w:World)(h:jS w g A n c s)(hk:k<=n)(hnc:n<=c)(hA:A=none->c=0)(hc:c<=maxLen):Calls Tryz.prog 103 #[.pointer (some ⟨g,0,none⟩), .int .i64 k] w (E8 g A n c k s w):=by
 obtain⟨c0,c1,f0,f1⟩:=fE h;have B:Hd (jS w g A n c s):=h;unfold maxLen at hc;have hk1:¬(n:Int)<k:=by omega
 have hk2:(k:Int)<=n:=by omega
 have hk3:(n:Int)<=c:=by omega
 have hk4:(c:Int)<=9223372036854775807:=by omega
 have C:Hd (A=none->c=0):=hA;clear h hA;rcases A with _|ad
 ·have hc0:=C.o rfl;obtain rfl:c=0:=hc0;obtain rfl:n=0:=by omega
  obtain rfl:k=0:=by omega
  clear hk hnc hc hk1 hk2 hk3 hk4;go_enter Tryz.func103,Tryz.ntmps103;go_wp2_with fail;go_ret;exact⟨rfl,⟨none,ab.stored B.o 0 _,fun h=>by omega,fun _=>rfl,fun _ h=>by cases h⟩,ai _ 0 _⟩
 ·by_cases hck:c=k
  ·obtain rfl:n=k:=by omega
   subst hck;clear hk hnc hc hk1 hk2 hk3;go_enter Tryz.func103,Tryz.ntmps103;go_wp2_with fail;go_ret;exact⟨rfl,⟨some ad,by rw[Nat.sub_self];exact ab.stored B.o 0 _,fun h=>by omega,fun h=>(by cases h),fun ad' h=>⟨ad,rfl,by injection h with h;rw[h]⟩⟩,ai _ 0 _⟩
  ·clear hk hnc hc;go_enter Tryz.func103,Tryz.ntmps103;go_wp2_with fail;go_ret;exact⟨rfl,⟨some (ad.add k),ab.stored B.o 0 _,fun _=>rfl,fun h=>(by cases h),fun ad' h=>⟨ad,rfl,by injection h with h;rw[<-h,bX]⟩⟩,ai _ 0 _⟩
theorem p9(ad:Addr)(n c:Nat)(w:World):(binOp .eql 36 (.slice (some ad) n c) (.slice none 0 0)).run Tryz.prog w= .ok (.bool false) w:=by
 rw[Lib.run_eql_slice_nil w 36 5 (some ad) n c 0 0 ax];rfl
theorem rT(w:World):(binOp .eql 36 (.slice none 0 0) (.slice none 0 0)).run Tryz.prog w= .ok (.bool true) w:=by
 rw[Lib.run_eql_slice_nil w 36 5 none 0 0 0 0 ax];rfl
def Ae(xs:List Nat):Nat:=xs.getD 0 0+256*xs.getD 1 0
theorem FE(x y:Nat)(hx:x<256)(hy:y<256):bits .or .i64 (x:Int) ((y:Int)*256)=((x+256*y:Nat):Int):=by
 show IntKind.i64.wrap ((BitVec.ofInt 64 (x:Int)|||BitVec.ofInt 64 ((y:Int)*256)).toNat:Int)=_;have e:((y:Int))*256=((256*y:Nat):Int):=by omega
 rw[e,BitVec.toNat_or,lw _ (by omega),lw _ (by omega),Nat.or_comm];have h:=Nat.two_pow_add_eq_or_of_lt (show x<2^8by omega) y;rw[show 256*y|||x=2^8*y+x from h.symm,IntKind.wrap_i64];omega
theorem rv(g:Nat)(A:Option Addr)(n c:Nat)(s:Bool)(w:World)(h:jS w g A n c s)(hk:n<2):Calls Tryz.prog 117 #[.pointer (some ⟨g,0,none⟩)] w fun e w'=>e= .returned (.int .i64 0)/\jS w' g none 0 0 true/\w.grownBy w' (some g):=by
 have B:=aa (jC g A n c 2 s w h (by omega));clear h hk;go_enter Tryz.func117,Tryz.ntmps117;go_wp2_with fail;refine B.o.mono ?_;rintro e w1⟨rfl,h1,h2⟩;have C:=aa h1;have D:=aa h2;clear h1 h2;have hny:=rT w1;go_wp2_with fail;go_ret;exact⟨rfl,C.o,D.o⟩
theorem yR(g:Nat)(A:Option Addr)(n c:Nat)(xs:List Nat)(s:Bool)(w:World)(h:jS w g A n c s)(hx:RB w A n xs)(hg:∀ad,A=some ad->ad.block≠g)(hk:2<=n)(hnc:n<=c)(hA:A=none->c=0)(hc:c<=maxLen):Calls Tryz.prog 117 #[.pointer (some ⟨g,0,none⟩)] w fun e w'=>e= .returned (.int .i64 (Ae xs:Nat))/\(∃A',jS w' g A' (n-2) (c-2) s/\(2<n->A'=A.map (·.add 2))/\(A'=none->c-2=0)/\∀ad',A'=some ad'->∃ad,A=some ad/\ad'.block=ad.block)/\w.grownBy w' (some g):=by
 have F:=aa (jV g A n c 2 s w h hk hnc hA hc);have D:=aa hx;have G:=aa hg;obtain⟨ad,rfl,_,_⟩:=hx.at_ (show 0<n by omega);have b0:=hx.isB _ (bL (show 0<xs.length by rw[hx.1];omega));have b1:=hx.isB _ (bL (show 1<xs.length by rw[hx.1];omega));have H:Hd (Ae xs=xs.getD 0 0+256*xs.getD 1 0):=rfl;have M:=aa hk;have E:Hd (∀W,RB W (some ad) n xs->W.cell? ad=some (.int .u8 (xs.getD 0 0:Nat))/\W.cell? (ad.add 1)=some (.int .u8 (xs.getD 1 0:Nat))):=fun W hX=>by
  obtain⟨_,e0,_,hc0⟩:=hX.at_ (show 0<n by omega);injection e0 with e0;subst e0;obtain⟨_,e1,_,hc1⟩:=hX.at_ (show 1<n by omega);injection e1 with e1;subst e1;rw[show ad.add 0=ad by simp[Addr.add]]at hc0;exact⟨hc0,hc1⟩
 clear h hx hg hk hnc hA hc;obtain⟨xl,C⟩:∃xl,Hd (xl=xs):=⟨_,rfl⟩;have I:Hd (RB w (some ad) n xl):=by rw[C.o];exact D.o
 have J:Hd (∀W,RB W (some ad) n xl->W.cell? ad=some (.int .u8 (xs.getD 0 0:Nat))/\W.cell? (ad.add 1)=some (.int .u8 (xs.getD 1 0:Nat))):=by rw[C.o];exact E.o
 clear D E C;generalize xs.getD 0 0=x0 at*;generalize xs.getD 1 0=x1 at*;have K:=aa (FE x0 x1 b0 b1);go_enter Tryz.func117,Tryz.ntmps117;go_wp2_with fail;refine F.o.mono ?_;rintro e w1⟨rfl,h1,h2⟩;have L:=aa h1;have B:=aa h2;obtain⟨c0,c1⟩:=J.o w1 (I.o.grownBy h2 fun _ ad' e=>by
  injection e with e;subst e;intro e2;injection e2 with e2;exact G.o ad rfl e2);clear h1 h2;have c2:=iA (k:=1) (by decide) c1;clear c1;have hx0:IntKind.i64.wrap (x0:Int)=x0:=by rw[IntKind.wrap_i64];omega
 have hx1:IntKind.i64.wrap (x1:Int)=x1:=by rw[IntKind.wrap_i64];omega
 have hx2:IntKind.i64.wrap ((x1:Int)*256)=(x1:Int)*256:=by rw[IntKind.wrap_i64];omega
 have ho:=K.o;have hnn:=p9 ad 2 2 w1;go_wp2_with fail;go_quiet(fail);go_wp2_with fail;go_ret;obtain⟨A',q1,q2,q3⟩:=L.o;refine⟨?_,⟨A',q1,q2,q3⟩,⟨B.o.os,B.o.tape,B.o.output,B.o.size,B.o.block⟩⟩;rw[H.o];push_cast;rfl
structure ae(U:Nat->Prop)(w w':World):Prop where
 os:w'.os=w.os
 tape:w'.tape=w.tape
 output:w'.output=w.output
 size:w.heap.size<=w'.heap.size
 block:∀k,k<w.heap.size->¬U k->w'.heap[k]?=w.heap[k]?
section
variable{U V:Nat->Prop}{w w' w'':World}
theorem ae.refl(U:Nat->Prop)(w:World):ae U w w:=⟨rfl,rfl,rfl,Nat.le_refl _,fun _ _ _=>rfl⟩
theorem ae.mono(h:ae U w w')(hv:∀k,k<w.heap.size->U k->V k):ae V w w':=⟨h.os,h.tape,h.output,h.size,fun k hk hn=>h.block k hk fun hu=>hn (hv k hk hu)⟩
theorem ae.trans(h:ae U w w')(k:ae U w' w''):ae U w w'':=⟨k.os.trans h.os,k.tape.trans h.tape,k.output.trans h.output,Nat.le_trans h.size k.size,fun i hi hn=>(k.block i (Nat.lt_of_lt_of_le hi h.size) hn).trans (h.block i hi hn)⟩
theorem ae.grown{row:Option Nat}(h:w.grownBy w' row):ae (fun k=>some k=row) w w':=⟨h.os,h.tape,h.output,h.size,fun k hk hn=>h.block k hk hn⟩
theorem ae.ofBelow(h:Below w.heap.size w w'):ae (fun _=>False) w w':=⟨h.os,h.tape,h.output,h.size,fun k hk _=>h.block k hk⟩
theorem ae.toBelow{B:Nat}{w0:World}(h:ae U w w')(hb:Below B w0 w)(hB:B<=w.heap.size)(hu:∀k,U k->B<=k):Below B w0 w':=⟨h.os.trans hb.os,h.tape.trans hb.tape,h.output.trans hb.output,Nat.le_trans hb.size h.size,fun k hk=>(h.block k (by omega) (fun hu'=>by have:=hu k hu';omega)).trans (hb.block k hk)⟩
theorem ae.row{base:Nat}{e:TypeId}{size n:Nat}{v:Value}{xs:List Value}(ht:ae U w w')(h:w.ownsRow base e size v n xs)(hn:∀k,v.ownBlock=some k->¬U k):w'.ownsRow base e size v n xs:=by
 refine⟨h.1,?_⟩;rcases h.2with h1|⟨g,cap,cur,rfl,h1,h2,h3⟩
 ·exact .inl h1
 ·refine .inr ⟨g,cap,cur,rfl,h1,?_,h3⟩;have hg:g<w.heap.size:=by
   rcases Nat.lt_or_ge g w.heap.size with h'|h'
   ·exact h'
   ·rw[Array.getElem?_eq_none h']at h2;cases h2
  exact(ht.block g hg (hn g rfl)).trans h2
theorem ae.own{base:Nat}{e:TypeId}{v:Value}{xs:List Nat}(ht:ae U w w')(h:Own e w base v xs)(hn:∀k,v.ownBlock=some k->¬U k):Own e w' base v xs:=⟨ht.row h.1 hn,h.2⟩
theorem ae.blk{g:Nat}{t:TypeId}{cs:Array Value}(ht:ae U w w')(h:ab w g t cs)(hn:¬U g):ab w' g t cs:=(ht.block g h.lt hn).trans h
end
section
variable{U V:Nat->Prop}{w w' w'':World}
theorem ae.rb{A:Option Addr}{n:Nat}{xs:List Nat}(ht:ae U w w')(h:RB w A n xs)(hn:∀ad,A=some ad->¬U ad.block):RB w' A n xs:=by
 refine⟨h.1,h.2.1,fun hn0=>?_⟩;obtain⟨ad,e,hb,hc⟩:=h.2.2 hn0;refine⟨ad,e,Nat.lt_of_lt_of_le hb ht.size,fun j x hj=>?_⟩;rw[World.cell?_of_block (w:=w) (a:=ad.add j) (by rw[bX];exact ht.block _ hb (hn ad e))];exact hc j x hj
theorem ae.one{g:Nat}(h:w.grownBy w' (some g)):ae (fun B=>B=g) w w':=(ae.grown h).mono fun k _ hk=>by injection hk
theorem ae.drewN(h:ae U w w')(n:Nat):ae U w (w'.drewN n):=⟨h.os,h.tape,h.output,h.size,h.block⟩
end
end Go.Proofs.YtfnlhfaihoojfaaGreatDoor
