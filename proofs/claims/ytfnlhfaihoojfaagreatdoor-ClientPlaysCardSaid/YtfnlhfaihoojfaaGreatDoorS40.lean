/- Texts of the proof of ledgerlaw13.ClientPlays, part 40; no condition of its own. -/
import Derived.Test.YtfnlhfaihoojfaaGreatDoorS39
set_option maxRecDepth 100000
set_option maxHeartbeats 4000000
namespace Go.Proofs.YtfnlhfaihoojfaaGreatDoor
open Go.RowKit
theorem CP(gb base N:Nat)(S:Nat->Prop)(o:OpV)(xs ys:List Nat)(Ao Bo Ax Ay Bc:Option Addr)(ao bo cx cy Cc:Nat)(w:World)(h:mA w gb base N S o xs ys Ao ao Bo bo Ax cx Ay cy Bc Cc)(hkd:o.kd=4):Calls Tryz.prog 12 #[.pointer (some ⟨gb,0,none⟩), .agg o.cs.toArray, .slice Ax xs.length cx, .slice Ay ys.length cy, .agg (chC o.x Bc Cc).toArray] w (lk gb base (N+2) S w):=by
 have A:=aa h;have W:=aa hkd;clear h hkd;have J:=aa A.o.hA;obtain⟨D,hD⟩:∃D,rM (wU o.wd o.root xs o.x) o.wd o.x xs=D:=⟨_,rfl⟩;obtain⟨E,hE⟩:∃E,wU o.wd o.root xs o.x=E:=⟨_,rfl⟩;have B:Hd (D.length=32/\IsB D):=by rw[<-hD];exact sY _ _ _ _
 have H:Hd (∀w2,Below w.heap.size w w2->Calls Tryz.prog 6 #[.int .i64 o.wd, .agg (bvs o.root).toArray, .slice Ax xs.length cx, .agg (chC o.x Bc Cc).toArray] w2 fun e w'=>Below w2.heap.size w2 w'/\e= .returned (.tuple #[.agg (bvs D).toArray, .int .i64 (E:Nat)])):=fun w2 hb=>have h:=A.o.below hb
  (nt o.wd o.root Ax xs.length cx xs o.x Bc Cc w2 h.ok.root.2 h.ok.root.1 h.ok.xk.2 h.ok.xk.1 h.lX.rb (h.lX.lt h.px) h.lX.le h.lX.non h.lX.cm h.lX.sz h.lC.rb h.lC.non h.ht).mono fun e w' hq=>by
   have h1:=hq.uni;rw[hD,hE]at h1;exact h1
 have I:Hd (∀w2,Below w.heap.size w w2->Calls Tryz.prog 34 #[.int .i64 o.wd, .agg (bvs o.root).toArray, .slice Ao xs.length ao, .agg (chC o.x o.Av o.Cv).toArray] w2 fun e w'=>Below w2.heap.size w2 w'/\e= .returned (.tuple #[.agg (bvs D).toArray, .int .i64 (E:Nat)])):=fun w2 hb=>have h:=A.o.below hb
  (rt o.wd o.root Ao xs.length ao xs o.x o.Av o.Cv w2 h.ok.root.2 h.ok.root.1 h.ok.xk.2 h.ok.xk.1 h.lA.rb h.lA.le h.lA.sz h.lV.rb h.ht1).mono fun e w' hq=>by
   have h1:=hq.uni;rw[hD,hE]at h1;exact h1
 clear hD hE;obtain⟨n,hn⟩:∃n,xs.length=n:=⟨_,rfl⟩;obtain⟨m,hm⟩:∃m,ys.length=m:=⟨_,rfl⟩;rw[hn]at H I J⊢;rw[hm];clear hn hm;go_enter Tryz.func12,Tryz.ntmps12;go_upto_region 1with fail;refine bV (G:=fun w2=>Code.wp _ _ _ _ w2) fun w2 K L M c=>?_;have C:Hd (bp w2 w.heap.size o):=K;have O:Hd (ab w2 (w.heap.size+1) 39 (chC o.x Bc Cc).toArray):=L;clear K L;have q0:=C.o.kd;rw[W.o]at q0;have q1:=C.o.wd;go_wp2_with(first|((with_reducible refine atS 145 ?_);refine aj (by rfl) 34 (.tmp 144) rfl w.heap.size 2 (bvs o.root) rfl C.o.root (by kernel_rfl) (by rw[ag];simp[bvs,A.o.ok.root.1]) ?_)|((with_reducible refine atS 147 ?_);refine aj (by rfl) 39 (.tmp 9) rfl (w.heap.size+1) 0 (chC o.x Bc Cc) rfl (ab.range O.o) be (by rw[aK,am A.o.ok.xk.1]) ?_));refine(H.o w2 M.o).mono ?_;rintro e w3⟨hb3,rfl⟩;have P:Hd (bp w3 w.heap.size o):=ab.below C.o hb3;have X:=aQ M hb3;clear hb3 q0 q1 C H O;go_wp2_with(first|((with_reducible refine atS 22 ?_);refine dU (s:=⟨none,_,_,_,_,_⟩) (by rfl) (by rfl) 34 rfl (.tmp 22) (.tmp 149) rfl (bvs (zs 32)) (bvs D) 32 aD rfl (by simp[bvs,B.o.1]) rfl rfl (ah _) ?_;intro w4 Q R d;(try simp only[Act.put,LS]);have F:Hd (bp w4 w.heap.size o):=ab.below P.o R.o;have q1:=F.o.wd;have q2:=F.o.a A.o.ok;rw[J.o]at q2)|((with_reducible refine atS 155 ?_);refine aj (by rfl) 34 (.tmp 154) rfl w.heap.size 2 (bvs o.root) rfl F.o.root (by kernel_rfl) (by rw[ag];simp[bvs,A.o.ok.root.1]) ?_)|((with_reducible refine atS 159 ?_);refine aj (by rfl) 39 (.tmp 158) rfl w.heap.size 68 (chC o.x o.Av o.Cv) rfl (F.o.x A.o.ok) be (by rw[aK,am A.o.ok.xk.1]) ?_));have T:=aQ X R.o;refine(I.o w4 T.o).mono ?_;rintro e w5⟨hb5,rfl⟩;have U:=aQ T hb5;have Y:=dA Q hb5;clear hb5 q1 q2 F P I Q;have heq:∀w:World,(Op.equalIn 10000 34 (.agg (bvs D).toArray) (.agg (bvs D).toArray)).run Tryz.prog w= .ok true w:=fun w=>by
  have h:=fP w B.o.2 B.o.2 B.o.1 B.o.1;rwa[decide_eq_true rfl]at h
 go_wp2_with(first|((with_reducible refine atS 24 ?_);refine dU (s:=⟨none,_,_,_,_,_⟩) (by rfl) (by rfl) 34 rfl (.tmp 24) (.tmp 161) rfl (bvs (zs 32)) (bvs D) 32 aD rfl (by simp[bvs,B.o.1]) rfl rfl (ah _) ?_;intro w6 Z V f;(try simp only[Act.put,LS]);have b:Hd (ar w6 w3.heap.size 34 D):=ab.below Y.o V.o)|((with_reducible refine atS 163 ?_);refine ac (by rfl) 34 (.tmp 22) rfl ⟨w3.heap.size,0,none⟩ 32 D rfl (b.o.whole B.o.2 B.o.1) (by omega) (by kernel_rfl) (by kernel_rfl) ?_)|((with_reducible refine atS 164 ?_);refine ac (by rfl) 34 (.tmp 24) rfl ⟨w5.heap.size,0,none⟩ 32 D rfl (ar.whole Z.o B.o.2 B.o.1) (by omega) (by kernel_rfl) (by kernel_rfl) ?_));go_ret;exact⟨rfl,(k9.none A.o.bk (U.o.trans (V.o.mono U.o.size))).mono (by omega)⟩
theorem CN(gb base N:Nat)(S:Nat->Prop)(o:OpV)(xs ys:List Nat)(Ao Bo Ax Ay Bc:Option Addr)(ao bo cx cy Cc:Nat)(w:World)(h:mA w gb base N S o xs ys Ao ao Bo bo Ax cx Ay cy Bc Cc)(hkd:o.kd=5):Calls Tryz.prog 12 #[.pointer (some ⟨gb,0,none⟩), .agg o.cs.toArray, .slice Ax xs.length cx, .slice Ay ys.length cy, .agg (chC o.x Bc Cc).toArray] w (lk gb base (N+2) S w):=by
 have A:=aa h;have W:=aa hkd;clear h hkd;have J:=aa A.o.hA;have K:=aa A.o.hB;obtain⟨L,hL⟩:∃L,uF (CY o.wd o.root o.key xs ys o.x) o.wd o.key o.x xs ys=L:=⟨_,rfl⟩;obtain⟨E,hE⟩:∃E,CY o.wd o.root o.key xs ys o.x=E:=⟨_,rfl⟩;have D:Hd (∀w2,Below w.heap.size w w2->Calls Tryz.prog 35 #[.int .i64 o.wd, .agg (bvs o.root).toArray, .agg (bvs o.key).toArray, .slice Ax xs.length cx, .slice Ay ys.length cy, .agg (chC o.x Bc Cc).toArray] w2 fun e w'=>Below w2.heap.size w2 w'/\∃V,e= .returned (.tuple #[V, .int .i64 (E:Nat)])/\bn w' w2.heap.size V L/\L.length<=9000):=fun w2 hb=>have h:=A.o.below hb
  (yG o.wd o.root o.key Ax xs.length cx xs Ay ys.length cy ys o.x Bc Cc w2 h.ok.root.2 h.ok.root.1 h.ok.key.2 h.ok.key.1 h.ok.xk.2 h.ok.xk.1 h.lX.rb (h.lX.lt h.px) h.lX.le h.lX.non h.lX.cm h.lX.sz h.lY.rb (h.lY.lt h.py) h.lY.le h.lY.non h.lY.cm h.lY.sz h.lC.rb h.lC.non h.ht).mono fun e w' hq=>by
   have h1:=hq.uni h.lX.isB;rw[hL,hE]at h1;exact h1
 have F:Hd (∀w2,Below w.heap.size w w2->Calls Tryz.prog 36 #[.int .i64 o.wd, .agg (bvs o.root).toArray, .agg (bvs o.key).toArray, .slice Ao xs.length ao, .slice Bo ys.length bo, .agg (chC o.x o.Av o.Cv).toArray] w2 fun e w'=>Below w2.heap.size w2 w'/\∃V,e= .returned (.tuple #[V, .int .i64 (E:Nat)])/\bn w' w2.heap.size V L/\L.length<=9000):=fun w2 hb=>have h:=A.o.below hb
  (ve o.wd o.root o.key Ao xs.length ao xs Bo ys.length bo ys o.x o.Av o.Cv w2 h.ok.root.2 h.ok.root.1 h.ok.key.2 h.ok.key.1 h.ok.xk.2 h.ok.xk.1 h.lA.rb h.lA.le h.lA.sz h.lB.rb h.lB.le h.lB.sz h.lV.rb h.lV.non h.ht1).mono fun e w' hq=>by
   have h1:=hq.uni h.lX.isB;rw[hL,hE]at h1;exact h1
 clear hL hE;obtain⟨n,hn⟩:∃n,xs.length=n:=⟨_,rfl⟩;obtain⟨m,hm⟩:∃m,ys.length=m:=⟨_,rfl⟩;rw[hn]at D F J⊢;rw[hm]at D F K⊢;clear hn hm;go_enter Tryz.func12,Tryz.ntmps12;go_upto_region 1with fail;refine bV (G:=fun w2=>Code.wp _ _ _ _ w2) fun w2 M O H c=>?_;have C:Hd (bp w2 w.heap.size o):=M;have P:Hd (ab w2 (w.heap.size+1) 39 (chC o.x Bc Cc).toArray):=O;clear M O;have q0:=C.o.kd;rw[W.o]at q0;have q1:=C.o.wd;go_wp2_with(first|((with_reducible refine atS 177 ?_);refine aj (by rfl) 34 (.tmp 176) rfl w.heap.size 2 (bvs o.root) rfl C.o.root (by kernel_rfl) (by rw[ag];simp[bvs,A.o.ok.root.1]) ?_)|((with_reducible refine atS 179 ?_);refine aj (by rfl) 37 (.tmp 178) rfl w.heap.size 34 (bvs o.key) rfl (C.o.key A.o.ok) (by kernel_rfl) (by rw[aB];simp[bvs,A.o.ok.key.1]) ?_)|((with_reducible refine atS 182 ?_);refine aj (by rfl) 39 (.tmp 9) rfl (w.heap.size+1) 0 (chC o.x Bc Cc) rfl (ab.range P.o) be (by rw[aK,am A.o.ok.xk.1]) ?_));refine(D.o w2 H.o).mono ?_;rintro e w3⟨hb3,V,rfl,ho3,hl3⟩;have B:Hd (bp w3 w.heap.size o):=ab.below C.o hb3;have Q:=aQ H hb3;have R:=aa ho3;have T:=aa hl3;clear hb3 ho3 hl3 q0 q1 C D P;have q1:=B.o.wd;have q2:=B.o.a A.o.ok;have q3:=B.o.b A.o.ok;rw[J.o]at q2;rw[K.o]at q3;go_wp2_with(first|((with_reducible refine atS 190 ?_);refine aj (by rfl) 34 (.tmp 189) rfl w.heap.size 2 (bvs o.root) rfl B.o.root (by kernel_rfl) (by rw[ag];simp[bvs,A.o.ok.root.1]) ?_)|((with_reducible refine atS 192 ?_);refine aj (by rfl) 37 (.tmp 191) rfl w.heap.size 34 (bvs o.key) rfl (B.o.key A.o.ok) (by kernel_rfl) (by rw[aB];simp[bvs,A.o.ok.key.1]) ?_)|((with_reducible refine atS 198 ?_);refine aj (by rfl) 39 (.tmp 197) rfl w.heap.size 68 (chC o.x o.Av o.Cv) rfl (B.o.x A.o.ok) be (by rw[aK,am A.o.ok.xk.1]) ?_));refine(F.o w3 Q.o).mono ?_;rintro e w4⟨hb4,U,rfl,hu4,_⟩;have X:=aQ Q hb4;have I:=aa (R.o.below hb4);obtain⟨A1,c1,e1,r1,_⟩:=I.o.form;obtain⟨B1,d1,f1,s1,_⟩:=hu4.form;have x1:=dn 36 9 5 ax (by kernel_rfl) (by kernel_rfl) r1;have y1:=dn 36 9 5 ax (by kernel_rfl) (by kernel_rfl) s1;subst e1 f1;clear hb4 hu4 R B F q1 q2 q3 r1 s1;obtain⟨k1,hk1⟩:∃k,L.length=k:=⟨_,rfl⟩;rw[hk1]at x1 y1 I T⊢;have Y:=aa hk1;clear hk1;generalize kf L=t1 at*;go_wp2_with fail;refine(tY A.o.bk X.o I.o H.o.size A.o.base (by have:=T.o;have:=Y.o;omega) A.o.nB).mono ?_;rintro e w5⟨rfl,hto⟩;have Z:=aa (hto.mono (Nat.le_succ _));clear hto;go_wp2_with fail;go_ret;exact⟨rfl,Z.o⟩
theorem nr(gb base N:Nat)(S:Nat->Prop)(o:OpV)(xs ys:List Nat)(Ao Bo Ax Ay Bc:Option Addr)(ao bo cx cy Cc:Nat)(w:World)(h:mA w gb base N S o xs ys Ao ao Bo bo Ax cx Ay cy Bc Cc):Calls Tryz.prog 12 #[.pointer (some ⟨gb,0,none⟩), .agg o.cs.toArray, .slice Ax xs.length cx, .slice Ay ys.length cy, .agg (chC o.x Bc Cc).toArray] w (lk gb base (N+2) S w):=by
 by_cases h1:o.kd=1
 ·exact CS gb base N S o xs ys Ao Bo Ax Ay Bc ao bo cx cy Cc w h h1
 by_cases h2:o.kd=2
 ·exact CR gb base N S o xs ys Ao Bo Ax Ay Bc ao bo cx cy Cc w h h2
 by_cases h3:o.kd=3
 ·exact CQ gb base N S o xs ys Ao Bo Ax Ay Bc ao bo cx cy Cc w h h3
 by_cases h4:o.kd=4
 ·exact CP gb base N S o xs ys Ao Bo Ax Ay Bc ao bo cx cy Cc w h h4
 by_cases h5:o.kd=5
 ·exact CN gb base N S o xs ys Ao Bo Ax Ay Bc ao bo cx cy Cc w h h5
 exact CT gb base N S o xs ys Ao Bo Ax Ay Bc ao bo cx cy Cc w h h1 h2 h3 h4 h5
def Las(S:Nat->Prop)(w:World)(P:World->Prop):Prop:=∀W,ae S w W->P W
theorem Las.now{S:Nat->Prop}{w:World}{P:World->Prop}(h:Las S w P):P w:=h w (ae.refl _ _)
structure KSt(w W:World)(gb base N:Nat)(S S1:Nat->Prop):Prop where
 bk:Bk W gb base N S1
 sub:∀B,S1 B->S B∨w.heap.size<=B
 tch:ae S w W
section
variable{w W W':World}{gb base N M:Nat}{S S1 V:Nat->Prop}
theorem KSt.start(h:Bk w gb base N S):KSt w w gb base N S S:=⟨h,fun _ h=> .inl h,ae.refl _ _⟩
theorem KSt.o(h:KSt w W gb base N S S1):k9 gb base N S w W:=⟨S1,h.bk,h.sub,h.tch⟩
theorem KSt.touch(h:KSt w W gb base N S S1)(ht:ae V W W')(hv:∀B,V B->w.heap.size<=B/\¬S1 B):KSt w W' gb base N S S1:=⟨h.bk.touch ht fun B hB hV=>(hv B hV).2 hB,h.sub,bO h.tch ht fun B _ hV=> .inr (hv B hV).1⟩
theorem KSt.below(h:KSt w W gb base N S S1)(hb:Below W.heap.size W W'):KSt w W' gb base N S S1:=h.touch (ae.ofBelow hb) fun _ h=>h.elim
theorem KSt.step(h:KSt w W gb base N S S1)(ht:k9 gb base M S1 W W'):∃S2,KSt w W' gb base M S S2/\(∀B,S2 B->S1 B∨W.heap.size<=B)/\ae S1 W W':=by
 obtain⟨S2,a,b,c⟩:=ht;have hs:=h.tch.size;refine⟨S2,⟨a,fun B hB=>?_,bO h.tch c fun B _ hB=>h.sub B hB⟩,b,c⟩;rcases b B hB with k|k
 ·exact h.sub B k
 ·exact .inr (by omega)
theorem KSt.keep{lb:Option Nat}{e:Ending}(h:KSt w W gb base N S S1)(hk:pZ gb base N S1 lb W e W')(hl:∀B,lb=some B->w.heap.size<=B):∃S2,KSt w W' gb base (N+1) S S2/\(∀B,S2 B->S1 B∨lb=some B∨W.heap.size<=B)/\ae (fun B=>S1 B∨lb=some B) W W':=by
 obtain⟨_,S2,a,b,c⟩:=hk;have hs:=h.tch.size;refine⟨S2,⟨a,fun B hB=>?_,bO h.tch c fun B _ hB=>?_⟩,b,c⟩
 ·rcases b B hB with k|k|k
  ·exact h.sub B k
  ·exact .inr (hl B k)
  ·exact .inr (by omega)
 ·rcases hB with k|k
  ·exact h.sub B k
  ·exact .inr (hl B k)
end
theorem se{w:World}{g:Nat}{x:Chg}{A:Option Addr}{C:Nat}(h:ab w g 39 (chC x A C).toArray)(hl:x.key.length=32)(A':Option Addr)(C' n:Nat)(ys:List Nat)(hn:ys.length=n):ab (w.setCell ⟨g,33,none⟩ (.slice A' n C')) g 39 (chC (x.with ys) A' C').toArray:=by
 subst hn;have h1:=ab.stored h 33 (.slice A' ys.length C');rw[List.setIfInBounds_toArray,mu,lr _ _ _ _ (by simp[fR,hl])]at h1;rw[mu];exact h1
theorem Ee(x:Chg)(ys zs:List Nat)(A:Option Addr)(C:Nat)(h:ys.length=zs.length):chC (x.with ys) A C=chC (x.with zs) A C:=by
 unfold chC Chg.with;dsimp only;rw[h]
theorem gB(x:Chg)(ys:List Nat):(x.with ys).val=ys:=rfl
structure PS(w W:World)(gb base N:Nat)(S S1:Nat->Prop)(o:OpV)(gx gy gv go gc:Nat)(xs ys vs:List Nat):Prop where
 k:KSt w W gb base N S S1
 bx:ar W gx 5 (xs++m80)
 by_:ar W gy 5 (ys++m80)
 bv:ar W gv 5 (vs++m80)
 bo:bp W go o
 bc:ab W gc 39 (chC (o.x.with vs) (some ⟨gv,0,none⟩) (vs.length+80)).toArray
 ge:w.heap.size<=gx/\w.heap.size<=gy/\w.heap.size<=gv/\w.heap.size<=go/\w.heap.size<=gc
 ne:gx≠gy/\gx≠gv/\gx≠go/\gx≠gc/\gy≠gv/\gy≠go/\gy≠gc/\gv≠go/\gv≠gc/\go≠gc
 fr:∀B,S1 B->B≠gx/\B≠gy/\B≠gv/\B≠go/\B≠gc
 iB:IsB xs/\IsB ys/\IsB vs
section
variable{w W W':World}{gb base N M:Nat}{S S1 V:Nat->Prop}{o:OpV}{gx gy gv go gc:Nat}{xs ys vs zs:List Nat}
theorem PS.touch(h:PS w W gb base N S S1 o gx gy gv go gc xs ys vs)(ht:ae V W W')(hv:∀B,V B->w.heap.size<=B/\¬S1 B/\B≠gx/\B≠gy/\B≠gv/\B≠go/\B≠gc):PS w W' gb base N S S1 o gx gy gv go gc xs ys vs:={h with
  k:=h.k.touch ht fun B hB=>⟨(hv B hB).1,(hv B hB).2.1⟩
  bx:=ht.blk h.bx fun e=>(hv _ e).2.2.1 rfl
  by_:=ht.blk h.by_ fun e=>(hv _ e).2.2.2.1 rfl
  bv:=ht.blk h.bv fun e=>(hv _ e).2.2.2.2.1 rfl
  bo:=ht.blk h.bo fun e=>(hv _ e).2.2.2.2.2.1 rfl
  bc:=ht.blk h.bc fun e=>(hv _ e).2.2.2.2.2.2 rfl}
theorem PS.below(h:PS w W gb base N S S1 o gx gy gv go gc xs ys vs)(hb:Below W.heap.size W W'):PS w W' gb base N S S1 o gx gy gv go gc xs ys vs:=h.touch (ae.ofBelow hb) fun _ h=>h.elim
theorem PS.no(h:PS w W gb base N S S1 o gx gy gv go gc xs ys vs):¬S1 gx/\¬S1 gy/\¬S1 gv/\¬S1 go/\¬S1 gc:=⟨fun e=>(h.fr _ e).1 rfl,fun e=>(h.fr _ e).2.1 rfl,fun e=>(h.fr _ e).2.2.1 rfl,fun e=>(h.fr _ e).2.2.2.1 rfl,fun e=>(h.fr _ e).2.2.2.2 rfl⟩
theorem PS.setX(h:PS w W gb base N S S1 o gx gy gv go gc xs ys vs)(ht:ae (fun B=>B=gx) W W')(hb:ar W' gx 5 (zs++m80))(hz:IsB zs):PS w W' gb base N S S1 o gx gy gv go gc zs ys vs:=by
 obtain⟨n1,n2,n3,n4,n5,n6,n7,n8,n9,n10⟩:=h.ne;exact{h with
  k:=h.k.touch ht fun B hB=>hB▸⟨h.ge.1,h.no.1⟩
  bx:=hb
  by_:=ht.blk h.by_ fun e=>n1 e.symm
  bv:=ht.blk h.bv fun e=>n2 e.symm
  bo:=ht.blk h.bo fun e=>n3 e.symm
  bc:=ht.blk h.bc fun e=>n4 e.symm
  iB:=⟨hz,h.iB.2⟩}
theorem PS.setY(h:PS w W gb base N S S1 o gx gy gv go gc xs ys vs)(ht:ae (fun B=>B=gy) W W')(hb:ar W' gy 5 (zs++m80))(hz:IsB zs):PS w W' gb base N S S1 o gx gy gv go gc xs zs vs:=by
 obtain⟨n1,n2,n3,n4,n5,n6,n7,n8,n9,n10⟩:=h.ne;exact{h with
  k:=h.k.touch ht fun B hB=>hB▸⟨h.ge.2.1,h.no.2.1⟩
  bx:=ht.blk h.bx n1
  by_:=hb
  bv:=ht.blk h.bv fun e=>n5 e.symm
  bo:=ht.blk h.bo fun e=>n6 e.symm
  bc:=ht.blk h.bc fun e=>n7 e.symm
  iB:=⟨h.iB.1,hz,h.iB.2.2⟩}
theorem PS.setV(h:PS w W gb base N S S1 o gx gy gv go gc xs ys vs)(ht:ae (fun B=>B=gv) W W')(hb:ar W' gv 5 (zs++m80))(hz:IsB zs)(hl:zs.length=vs.length):PS w W' gb base N S S1 o gx gy gv go gc xs ys zs:=by
 obtain⟨n1,n2,n3,n4,n5,n6,n7,n8,n9,n10⟩:=h.ne;exact{h with
  k:=h.k.touch ht fun B hB=>hB▸⟨h.ge.2.2.1,h.no.2.2.1⟩
  bx:=ht.blk h.bx n2
  by_:=ht.blk h.by_ n5
  bv:=hb
  bo:=ht.blk h.bo fun e=>n8 e.symm
  bc:=by
   rw[Ee o.x zs vs _ _ hl,hl];exact ht.blk h.bc fun e=>n9 e.symm
  iB:=⟨h.iB.1,h.iB.2.1,hz⟩}
theorem PS.step(h:PS w W gb base N S S1 o gx gy gv go gc xs ys vs)(ht:k9 gb base M S1 W W'):∃S2,PS w W' gb base M S S2 o gx gy gv go gc xs ys vs/\(∀B,S2 B->S1 B∨W.heap.size<=B)/\ae S1 W W':=by
 obtain⟨S2,hk,hs,htt⟩:=h.k.step ht;have l1:=ab.lt h.bx;have l2:=ab.lt h.by_;have l3:=ab.lt h.bv;have l4:=ab.lt h.bo;have l5:=ab.lt h.bc;refine⟨S2,{h with
  k:=hk
  bx:=htt.blk h.bx h.no.1
  by_:=htt.blk h.by_ h.no.2.1
  bv:=htt.blk h.bv h.no.2.2.1
  bo:=htt.blk h.bo h.no.2.2.2.1
  bc:=htt.blk h.bc h.no.2.2.2.2
  fr:=fun B hB=>?_},hs,htt⟩;rcases hs B hB with k|k
 ·exact h.fr B k
 ·exact⟨by omega,by omega,by omega,by omega,by omega⟩
theorem rW{g:Nat}{zs:List Nat}{W:World}(h:ar W g 5 (zs++m80))(hB:IsB zs)(hn:zs.length+80<=140737488355328):Lay W (some ⟨g,0,none⟩) zs (zs.length+80):=by
 have hB2:IsB (zs++m80):=hB.app fun x hx=>by
  have:=List.eq_of_mem_replicate hx;omega
 have h1:=ar.reads h hB2 (o:=0) (n:=zs.length) (by simp[dX]);rw[List.drop_zero,List.take_left]at h1;exact⟨h1,(fun _ ad e=>by injection e with e;rw[<-e];exact ab.lt h),by omega,(fun e=>by cases e),(by unfold maxLen;omega),by omega⟩
theorem rS{g n:Nat}{zs:List Nat}{W:World}(h:ar W g 5 zs)(hB:IsB zs)(hl:zs.length=n)(hn:n<=140737488355328):bn W 0 (.slice (some ⟨g,0,none⟩) n n) zs:=by
 subst hl;refine⟨⟨by simp[bvs], .inr ⟨g,zs.length,(bvs zs).toArray,rfl,Nat.zero_le _,h,Nat.le_refl _,by unfold maxLen;omega,by simp[bvs],?_⟩⟩,hB⟩;rw[List.toList_toArray,List.take_of_length_le (by simp[bvs])]
end
end Go.Proofs.YtfnlhfaihoojfaaGreatDoor
