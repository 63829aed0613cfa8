/- Texts of the proof of ledgerlaw13.ClientPlays, part 38; no condition of its own. -/
import Derived.Test.YtfnlhfaihoojfaaGreatDoorS37
set_option maxRecDepth 100000
set_option maxHeartbeats 4000000
namespace Go.Proofs.YtfnlhfaihoojfaaGreatDoor
open Go.RowKit
theorem oC{x:Chg}(h:dD x=false):x.del=true∨x.val.length<=128:=by
 unfold dD at h;cases hdl:x.del with
 |true=>exact .inl rfl
 |false=>rw[hdl]at h;simp at h;exact .inr h
theorem pq(wd:Int)(x:Chg)(A:Option Addr)(C:Nat)(w:World)(hk:IsB x.key)(hkl:x.key.length=32)(hv:RB w A x.val.length x.val)(hA:A=none->C=0)(hl:dD x=false)(ht:eY w):Calls Tryz.prog 22 #[.int .i64 wd, .agg (chC x A C).toArray] w fun e w'=>e= .returned (.agg (bvs (eK wd x)).toArray)/\Below w.heap.size w w':=by
 have F:=aa (And.intro hkl hk);have U:=aa hv;have V:=aa hA;have W:=aa (oC hl);have Q:=aa ht;obtain⟨D,J⟩:∃D,Hd (eK wd x=D):=⟨_,rfl⟩;have E:Hd (D.length=32/\IsB D):=by rw[<-J.o];exact dN _ _
 rw[J.o];clear hk hkl hv hA hl ht;go_enter Tryz.func22,Tryz.ntmps22;go_upto_region 1with fail;refine bV (G:=fun w2=>Code.wp _ _ _ _ w2) fun w2 R S H Z=>?_;have L:Hd (ib w2 w.heap.size x A C):=R;have T:Hd (ar w2 (w.heap.size+1) 34 (zs 32)):=S;clear R S;have hc32:=L.o.del F.o.1;have hc33:=L.o.val F.o.1;obtain⟨dl,K⟩:∃dl,Hd (x.del=dl):=⟨_,rfl⟩;rw[K.o]at hc32;cases dl with
 |true=>
  have M:Hd (ay wd 0=D):=by
   rw[<-J.o];show _=aZ wd (bQ x.key (!x.del) x.val);rw[K.o];rfl
  go_wp2_with fail;refine(mY wd w2 (Q.o.below H.o)).mono ?_;rintro e w3⟨rfl,hb3⟩;rw[M.o];have I:=aQ H hb3;have N:=aa (T.o.later hb3);clear hb3 hc32 hc33;go_wp2_with((with_reducible refine atT 4 ?_);refine a8 (o:=⟨none,_,_,_,_,_⟩) rfl 34 (.tmp 4) (.tmp 8) rfl (w.heap.size+1) (bvs D) (bvs (zs 32)) 34 rfl rfl N.o (by rw[ag];simp[bvs,E.o.1]) (by simp[bvs,zs,E.o.1]) (ah _) ?_;intro wz O P X);exact bH rfl rfl O.o E.o.1 aF ag rfl ⟨rfl,(ae.one P.o).toBelow I.o I.o.size fun B h=>by omega⟩
 |false=>
  have Y:Hd (x.val.length<=128):=by
   rcases W.o with h|h
   ·rw[K.o]at h;cases h
   ·exact h
  have M:Hd (aZ wd (en x.key x.val)=D):=by
   rw[<-J.o];show _=aZ wd (bQ x.key (!x.del) x.val);rw[K.o];rfl
  go_wp2_with((with_reducible refine atS 11 ?_);refine aj (by rfl) 37 (.tmp 10) rfl w.heap.size 0 (bvs x.key) rfl L.o.key (by kernel_rfl) (by rw[aB];simp[bvs,F.o.1]) ?_);refine(tU wd x.key A x.val.length C x.val w2 F.o.2 F.o.1 (U.o.below H.o) V.o (by have:=Y.o;omega) (Q.o.below H.o)).mono ?_;rintro e w3⟨rfl,hb3⟩;rw[M.o];have I:=aQ H hb3;have N:=aa (T.o.later hb3);clear hb3 hc32 hc33;go_wp2_with((with_reducible refine atT 4 ?_);refine a8 (o:=⟨none,_,_,_,_,_⟩) rfl 34 (.tmp 4) (.tmp 14) rfl (w.heap.size+1) (bvs D) (bvs (zs 32)) 34 rfl rfl N.o (by rw[ag];simp[bvs,E.o.1]) (by simp[bvs,zs,E.o.1]) (ah _) ?_;intro wz O P X);exact bH rfl rfl O.o E.o.1 aF ag rfl ⟨rfl,(ae.one P.o).toBelow I.o I.o.size fun B h=>by omega⟩
theorem yU(h:Int)(d n:List Nat)(w:World):Calls Tryz.prog 23 #[.int .i64 h, .agg (bvs d).toArray, .agg (bvs n).toArray] w fun e w'=>e= .returned (.tuple #[])/\Below w.heap.size w w':=by
 go_enter Tryz.func23,Tryz.ntmps23;go_wp2_with fail;exact bodyPost_end (results_none rfl _ _ _) rfl ⟨rfl,((Below.refl _ _).alloc (Nat.le_refl _) _).alloc (by simp) _⟩
theorem zh(g:Nat)(c:Ck)(p:Pr)(ds:Nat->List Nat):Eye 23 #[] g c p ds (fun _ U _=>∀B,¬U B)where
 enters:=fN Tryz.func23 (by kernel_rfl) (by kernel_rfl)
 lt:=fun h B hB=>absurd hB (h B)
 keep:=fun h _ _=>h
 call:=fun h U b w _ hj hr hf=>(yU h (ds h) (av c.wd p h) w).mono fun _ w'⟨h1,h2⟩=>⟨h1,U,b,hj,hr.below h2, .inl rfl,(ae.ofBelow h2).mono fun _ _ h=>h.elim,mx.refl _ _,hf⟩
theorem nt(wd:Int)(root:List Nat)(A:Option Addr)(n k:Nat)(xs:List Nat)(x:Chg)(B:Option Addr)(C:Nat)(w:World)(hr:IsB root)(hrl:root.length=32)(hk:IsB x.key)(hkl:x.key.length=32)(hx:RB w A n xs)(hlt:∀ad,A=some ad->ad.block<w.heap.size)(hnc:n<=k)(hA:A=none->k=0)(hkm:k<=maxLen)(hn:n<=140737488355328)(hv:RB w B x.val.length x.val)(hB:B=none->C=0)(ht:eY w):Calls Tryz.prog 6 #[.int .i64 wd, .agg (bvs root).toArray, .slice A n k, .agg (chC x B C).toArray] w (EE (wU wd root xs x) wd root xs x w):=by
 have J:=aa (And.intro hrl hr);have F:=aa (And.intro hkl hk);have v:=aa hx;have y:=aa hv;have z:=aa hB;have H:=aa (And.intro hlt (And.intro hnc (And.intro hA (And.intro hkm hn))));have b:=aa ht;clear hr hrl hk hkl hx hlt hnc hA hkm hn hv hB ht;suffices h:∀E,wU wd root xs x=E->Calls Tryz.prog 6 #[.int .i64 wd, .agg (bvs root).toArray, .slice A n k, .agg (chC x B C).toArray] w (EE E wd root xs x w)from h _ rfl;intro E hE;obtain⟨E0,d⟩:∃E0,Hd (dj wd root x.key xs=E0):=⟨_,rfl⟩;have M:Hd (E=if E0=0then(if dD x then 32 else 0)else E0):=by rw[<-hE,<-d.o];rfl
 clear hE;go_enter Tryz.func6,Tryz.ntmps6;go_upto_region 1with fail;refine fC (G:=fun w2=>Code.wp _ _ _ _ w2) fun w2 f i j K HS=>?_;have l:Hd (ar w2 w.heap.size 34 root):=f;have N:Hd (ib w2 (w.heap.size+1) x B C):=i;have O:Hd (ar w2 (w.heap.size+1+1) 34 (zs 32)):=j;clear f i j;go_wp2_with(first|((with_reducible refine atS 14 ?_);refine ac (by rfl) 34 (.tmp 5) rfl ⟨w.heap.size,0,none⟩ 32 root rfl (l.o.whole J.o.2 J.o.1) (by omega) (by kernel_rfl) (by kernel_rfl) ?_)|((with_reducible refine atS 16 ?_);refine aj (by rfl) 37 (.tmp 15) rfl (w.heap.size+1) 0 (bvs x.key) rfl N.o.key (by kernel_rfl) (by rw[aB];simp[bvs,F.o.1]) ?_));refine(kO wd root x.key xs A n k w2 J.o.1 J.o.2 F.o.1 F.o.2 (v.o.below K.o) (fun ad e=>Nat.lt_of_lt_of_le (H.o.1 ad e) K.o.size) H.o.2.1 H.o.2.2.1 H.o.2.2.2.1 H.o.2.2.2.2 (b.o.below K.o)).mono ?_;rintro e w3⟨g,c,rfl,hg,hck,hok,hwd,hky,hbl,hb3,hyes⟩;rw[d.o]at hyes⊢;have Q:=aQ K hb3;have R:=aa (N.o.later hb3);have S:=aa (O.o.later hb3);have m:Hd (w.heap.size+1+1<g):=by have h1:=O.o.lt;show _<_;omega
 have T:=aa hyes;have q:=aa (And.intro hwd hky);clear hg hck hok hwd hky hbl hb3 hyes N O l;by_cases hE0:E0=0
 ·obtain⟨p,hp,hf,hpp,hrd,_⟩:=T.o hE0;have U:=aa (And.intro hp (And.intro hf hpp));have r:=aa hrd;have D:Hd (E=if dD x then 32 else 0):=by rw[M.o,if_pos hE0];rfl
  subst hE0;clear hp hf hpp hrd T M;obtain⟨lg,L⟩:∃lg,Hd (dD x=lg):=⟨_,rfl⟩;rw[L.o]at D;go_wp2_with((with_reducible refine atS 25 ?_);refine aj (by rfl) 39 (.tmp 7) rfl (w.heap.size+1) 0 (chC x B C) rfl R.o.all be (by rw[aK,am F.o.1]) ?_);refine(m7 x B C w3 F.o.1).mono ?_;rintro e w4⟨rfl,hb4⟩;rw[L.o];have I:=aQ Q hb4;have HA:=aa (R.o.later hb4);have V:=aa (S.o.later hb4);have s:=aa (r.o.below hb4);clear hb4 R S r;cases lg with
  |true=>
   rw[if_pos rfl]at D;go_wp2_with(first|((with_reducible refine atS 27 ?_);refine aM (by rfl) 34 #[] rfl [] (by rfl) _ built_d0 ?_)|((with_reducible refine atT 8 ?_);refine a8 (o:=⟨none,_,_,_,_,_⟩) rfl 34 (.tmp 8) (.tmp 27) rfl (w.heap.size+1+1) (bvs (zs 32)) (bvs (zs 32)) 34 rfl rfl V.o (by rw[ag];simp[bvs,zs]) rfl (ah _) ?_;intro w7 W X HB));exact bC rfl rfl W.o aF (by rw[ag];simp[bvs,zs]) rfl rfl ⟨(ae.one X.o).toBelow I.o I.o.size fun B h=>by omega,fun _=>by rw[D.o];rfl,fun h=>absurd (D.o.symm.trans h) (by decide)⟩
  |false=>
   rw[if_neg (by decide)]at D;go_wp2_with((with_reducible refine atS 30 ?_);refine aj (by rfl) 39 (.tmp 7) rfl (w.heap.size+1) 0 (chC x B C) rfl HA.o.all be (by rw[aK,am F.o.1]) ?_);refine(pq wd x B C w4 F.o.2 F.o.1 (y.o.below I.o) z.o L.o (b.o.below I.o)).mono ?_;rintro e w5⟨rfl,hb5⟩;have t:=aQ I hb5;have HC:=aa (V.o.later hb5);have HE:=aa (s.o.below hb5);clear hb5 s V;go_wp2_with fail;refine(fX 23 #[] g c p (eK wd x) _ (fun _=>False) c.blank w5 (zh g c p _) (fun _ h=>h) HE.o (uf (fun _ h=>h) _ _) (dN wd x).1 (dN wd x).2).mono ?_;rintro e w6⟨rfl,U6,b6,_,_,_,ht6,_⟩;have HF:Hd (bd c.wd c.key (eK wd x) (av c.wd p) 256=wV wd x p):=by rw[q.o.1,q.o.2];rfl
   rw[HF.o];obtain⟨P,Y⟩:∃P,Hd (wV wd x p=P):=⟨_,rfl⟩;have Z:Hd (P.length=32/\IsB P):=by rw[<-Y.o];exact js _ _ _ _ (dN wd x).1 (dN wd x).2 _
   rw[Y.o];have a:Hd (ae (fun B=>B=g) w5 w6):=ht6.mono fun B _ h=>h.elim (fun h=>h.elim) id;have u:Hd (Below w.heap.size w w6):=a.o.toBelow t.o t.o.size fun B h=>by have:=m.o;omega
   have HH:Hd (ar w6 (w.heap.size+1+1) 34 (zs 32)):=a.o.blk HC.o (by have:=m.o;omega);clear ht6 a;go_wp2_with((with_reducible refine atT 8 ?_);refine a8 (o:=⟨none,_,_,_,_,_⟩) rfl 34 (.tmp 8) (.tmp 32) rfl (w.heap.size+1+1) (bvs P) (bvs (zs 32)) 34 rfl rfl HH.o (by rw[ag];simp[bvs,Z.o.1]) (by simp[bvs,zs,Z.o.1]) (ah _) ?_;intro wz HI HJ HL);exact bC rfl rfl HI.o aF (by rw[ag];simp[bvs,Z.o.1]) rfl rfl ⟨(ae.one HJ.o).toBelow u.o u.o.size fun B h=>by omega,fun h=>absurd D.o h,fun _=>⟨p,U.o.1,U.o.2.1,U.o.2.2,L.o,by rw[Y.o];rfl⟩⟩
 ·have hEi:¬(E0:Int)=0:=by omega
  have D:Hd (E=E0):=by rw[M.o,if_neg hE0];rfl
  clear T;go_wp2_with(first|((with_reducible refine atS 23 ?_);refine aM (by rfl) 34 #[] rfl [] (by rfl) _ built_d0 ?_)|((with_reducible refine atT 8 ?_);refine a8 (o:=⟨none,_,_,_,_,_⟩) rfl 34 (.tmp 8) (.tmp 23) rfl (w.heap.size+1+1) (bvs (zs 32)) (bvs (zs 32)) 34 rfl rfl S.o (by rw[ag];simp[bvs,zs]) rfl (ah _) ?_;intro w7 W X HB));exact bC rfl rfl W.o aF (by rw[ag];simp[bvs,zs]) rfl rfl ⟨(ae.one X.o).toBelow Q.o Q.o.size fun B h=>by omega,fun _=>by rw[D.o];rfl,fun h=>absurd (D.o.symm.trans h) hE0⟩
theorem qH{gb base N M:Nat}{S S1:Nat->Prop}{u:Value}{l:List Nat}{w w1:World}(hb:Bk w1 gb base N S1)(ht:ae S w w1)(h2:∀B,S1 B->S B∨w.heap.size<=B)(hu:bn w1 M u l)(hM:w.heap.size<=M)(hf:∀B,u.ownBlock=some B->¬S1 B)(hbase:base<=w.heap.size)(hl:l.length<=10000)(hN:N<=2305843009213693952):Calls Tryz.prog 15 #[.pointer (some ⟨gb,0,none⟩),u] w1 fun e w2=>e= .returned (.tuple #[])/\k9 gb base (N+1) S w w2:=by
 have hge:∀B,u.ownBlock=some B->w.heap.size<=B:=fun B hB=>Nat.le_trans hM (hu.lt B hB).1;exact(jw gb base N M S1 u l w1 hb hu (fun B hB=>⟨hf B hB,Nat.le_trans hbase (hge B hB)⟩) (Nat.le_trans hbase ht.size) (by omega) hN).mono fun e w2 h=>⟨h.1,k9.keep ht h2 h hge⟩
theorem tX{gb base N M:Nat}{S:Nat->Prop}{u u2:Value}{l l2:List Nat}{w w1:World}(hb:Bk w gb base N S)(hW:Below w.heap.size w w1)(hu:bn w1 M u l)(hu2:bn w1 M u2 l2)(ha:cM u u2)(hM:w.heap.size<=M)(hbase:base<=w.heap.size)(hl:l.length<=10000)(hN:N<=1152921504606846976):Calls Tryz.prog 15 #[.pointer (some ⟨gb,0,none⟩),u] w1 fun e w2=>e= .returned (.tuple #[])/\∃S1,Bk w2 gb base (N+1) S1/\ae S w w2/\(∀B,S1 B->S B∨w.heap.size<=B)/\bn w2 M u2 l2/\∀B,u2.ownBlock=some B->¬S1 B:=by
 have hge:∀B,u.ownBlock=some B->w.heap.size<=B:=fun B hB=>Nat.le_trans hM (hu.lt B hB).1;have hge2:∀B,u2.ownBlock=some B->w.heap.size<=B:=fun B hB=>Nat.le_trans hM (hu2.lt B hB).1;have hno:∀B,w.heap.size<=B->¬S B:=fun B hB hs=>by
  have:=(hb.bnd B hs).2;omega
 refine(jw gb base N M S u l w1 (hb.below hW) hu (fun B hB=>⟨hno B (hge B hB),Nat.le_trans hbase (hge B hB)⟩) (Nat.le_trans hbase hW.size) (by omega) (by omega)).mono ?_;rintro e w2⟨he,S1,hb1,hs1,ht1⟩;refine⟨he,S1,hb1,bO ((ae.ofBelow hW).mono fun _ _ h=>h.elim) ht1 fun B _ h=>h.imp id (hge B),fun B hB=>?_,ht1.own hu2 fun B hB h=>?_,fun B hB h=>?_⟩
 ·rcases hs1 B hB with h|h|h
  ·exact .inl h
  ·exact .inr (hge B h)
  ·have:=hW.size;exact .inr (by omega)
 ·rcases h with h|h
  ·exact hno B (hge2 B hB) h
  ·exact ha B h hB
 ·rcases hs1 B h with h|h|h
  ·exact hno B (hge2 B hB) h
  ·exact ha B h hB
  ·have:=(hu2.lt B hB).2;omega
theorem CQ(gb base N:Nat)(S:Nat->Prop)(o:OpV)(xs ys:List Nat)(Ao Bo Ax Ay Bc:Option Addr)(ao bo cx cy Cc:Nat)(w:World)(h:mA w gb base N S o xs ys Ao ao Bo bo Ax cx Ay cy Bc Cc)(hkd:o.kd=3):Calls Tryz.prog 12 #[.pointer (some ⟨gb,0,none⟩), .agg o.cs.toArray, .slice Ax xs.length cx, .slice Ay ys.length cy, .agg (chC o.x Bc Cc).toArray] w (lk gb base (N+2) S w):=by
 have A:=aa h;have X:=aa hkd;clear h hkd;have R:=aa A.o.hA;have T:=aa A.o.hB;have I:Hd (∀w2,Below w.heap.size w w2->Calls Tryz.prog 32 #[.int .i64 o.wd, .agg (bvs o.root).toArray, .agg (bvs o.key).toArray, .slice Ax xs.length cx, .slice Ay ys.length cy] w2 fun e w'=>Below w2.heap.size w2 w'/\∃V1 V2 ok l1 l2,e= .returned (.tuple #[V1,V2, .bool ok])/\bn w' w2.heap.size V1 l1/\bn w' w2.heap.size V2 l2/\cM V1 V2/\l1.length<=200/\l2.length<=200/\uI o.wd o.root o.key xs ys ok l1 l2):=fun w2 hb=>have h:=A.o.below hb
  (sK o.wd o.root o.key xs ys Ax xs.length cx Ay ys.length cy w2 h.ok.root.1 h.ok.root.2 h.ok.key.1 h.ok.key.2 h.lX.rb (h.lX.lt h.px) h.lX.le h.lX.non h.lX.cm h.lX.sz h.lY.rb (h.lY.lt h.py) h.lY.le h.lY.non h.lY.cm h.lY.sz h.ht).mono fun e w' hq=>hq.uni h.ok.key.1 h.lX.isB h.lY.isB;have J:Hd (∀w2,Below w.heap.size w w2->Calls Tryz.prog 33 #[.int .i64 o.wd, .agg (bvs o.root).toArray, .agg (bvs o.key).toArray, .slice Ao xs.length ao, .slice Bo ys.length bo] w2 fun e w'=>Below w2.heap.size w2 w'/\∃V1 V2 ok l1 l2,e= .returned (.tuple #[V1,V2, .bool ok])/\bn w' w2.heap.size V1 l1/\bn w' w2.heap.size V2 l2/\cM V1 V2/\l1.length<=200/\l2.length<=200/\uI o.wd o.root o.key xs ys ok l1 l2):=fun w2 hb=>have h:=A.o.below hb
  (rq o.wd o.root o.key xs ys Ao xs.length ao Bo ys.length bo w2 h.ok.root.1 h.ok.root.2 h.ok.key.1 h.ok.key.2 h.lA.rb h.lA.le h.lA.sz h.lB.rb h.lB.le h.lB.sz h.ht1).mono fun e w' hq=>hq.uni h.ok.key.1 h.lX.isB h.lY.isB;obtain⟨n,hn⟩:∃n,xs.length=n:=⟨_,rfl⟩;obtain⟨m,hm⟩:∃m,ys.length=m:=⟨_,rfl⟩;rw[hn]at I J R⊢;rw[hm]at I J T⊢;clear hn hm;go_enter Tryz.func12,Tryz.ntmps12;go_upto_region 1with fail;refine bV (G:=fun w2=>Code.wp _ _ _ _ w2) fun w2 H K C Y=>?_;have D:Hd (bp w2 w.heap.size o):=H;clear H K;have q0:=D.o.kd;rw[X.o]at q0;have q1:=D.o.wd;go_wp2_with(first|((with_reducible refine atS 92 ?_);refine aj (by rfl) 34 (.tmp 91) rfl w.heap.size 2 (bvs o.root) rfl D.o.root (by kernel_rfl) (by rw[ag];simp[bvs,A.o.ok.root.1]) ?_)|((with_reducible refine atS 94 ?_);refine aj (by rfl) 37 (.tmp 93) rfl w.heap.size 34 (bvs o.key) rfl (D.o.key A.o.ok) (by kernel_rfl) (by rw[aB];simp[bvs,A.o.ok.key.1]) ?_));refine(I.o w2 C.o).mono ?_;rintro e w3⟨hb3,V1,V2,ok,l1,l2,rfl,ho1,ho2,hap,hl1,hl2,hex⟩;have E:Hd (bp w3 w.heap.size o):=ab.below D.o hb3;have U:=aQ C hb3;have H:=aa ho1;have K:=aa ho2;have L:=aa hap;have F:=aa (And.intro hl1 hl2);have V:=aa hex;clear hb3 ho1 ho2 hap hl1 hl2 hex q0 q1 D I;have q1:=E.o.wd;have q2:=E.o.a A.o.ok;have q3:=E.o.b A.o.ok;rw[R.o]at q2;rw[T.o]at q3;go_wp2_with(first|((with_reducible refine atS 105 ?_);refine aj (by rfl) 34 (.tmp 104) rfl w.heap.size 2 (bvs o.root) rfl E.o.root (by kernel_rfl) (by rw[ag];simp[bvs,A.o.ok.root.1]) ?_)|((with_reducible refine atS 107 ?_);refine aj (by rfl) 37 (.tmp 106) rfl w.heap.size 34 (bvs o.key) rfl (E.o.key A.o.ok) (by kernel_rfl) (by rw[aB];simp[bvs,A.o.ok.key.1]) ?_));refine(J.o w3 U.o).mono ?_;rintro e w4⟨hb4,U1,U2,ok',m1,m2,rfl,hu1,hu2,_,_,_,hex⟩;obtain⟨rfl,rfl,rfl⟩:=V.o.unique hex;have W:=aQ U hb4;have M:=aa (H.o.below hb4);have O:=aa (K.o.below hb4);obtain⟨A1,c1,e1,r1,_⟩:=M.o.form;obtain⟨A2,c2,e2,r2,_⟩:=O.o.form;obtain⟨B1,d1,f1,s1,_⟩:=hu1.form;obtain⟨B2,d2,f2,s2,_⟩:=hu2.form;have x1:=dn 36 9 5 ax (by kernel_rfl) (by kernel_rfl) r1;have x2:=dn 36 9 5 ax (by kernel_rfl) (by kernel_rfl) r2;have y1:=dn 36 9 5 ax (by kernel_rfl) (by kernel_rfl) s1;have y2:=dn 36 9 5 ax (by kernel_rfl) (by kernel_rfl) s2;subst e1 e2 f1 f2;clear hb4 hu1 hu2 hex H K E J q1 q2 q3 r1 r2 s1 s2 V;obtain⟨k1,hk1⟩:∃k,l1.length=k:=⟨_,rfl⟩;obtain⟨k2,hk2⟩:∃k,l2.length=k:=⟨_,rfl⟩;rw[hk1]at x1 y1 M L F⊢;rw[hk2]at x2 y2 O L F⊢;have P:=aa (And.intro hk1 hk2);clear hk1 hk2;generalize kf l1=t1 at*;generalize kf l2=t2 at*;cases ok with
 |true=>
  go_wp2_with fail;refine(tX A.o.bk W.o M.o O.o L.o C.o.size A.o.base (by have:=F.o;have:=P.o;omega) A.o.nB).mono ?_;rintro e w5⟨rfl,S1,hb5,ht5,hs5,ho5,hf5⟩;have B:=aa (And.intro hb5 (And.intro ht5 (And.intro hs5 (And.intro ho5 hf5))));clear hb5 ht5 hs5 ho5 hf5;go_wp2_with fail;refine(qH B.o.1 B.o.2.1 B.o.2.2.1 B.o.2.2.2.1 C.o.size B.o.2.2.2.2 A.o.base (by have:=F.o;have:=P.o;omega) (by have:=A.o.nB;omega)).mono ?_;rintro e w6⟨rfl,hto⟩;have Q:=aa hto;clear hto;go_wp2_with fail;go_ret;exact⟨rfl,Q.o⟩
 |false=>
  go_wp2_with fail;refine(tX A.o.bk W.o M.o O.o L.o C.o.size A.o.base (by have:=F.o;have:=P.o;omega) A.o.nB).mono ?_;rintro e w5⟨rfl,S1,hb5,ht5,hs5,ho5,hf5⟩;have B:=aa (And.intro hb5 (And.intro ht5 (And.intro hs5 (And.intro ho5 hf5))));clear hb5 ht5 hs5 ho5 hf5;go_wp2_with fail;refine(qH B.o.1 B.o.2.1 B.o.2.2.1 B.o.2.2.2.1 C.o.size B.o.2.2.2.2 A.o.base (by have:=F.o;have:=P.o;omega) (by have:=A.o.nB;omega)).mono ?_;rintro e w6⟨rfl,hto⟩;have Q:=aa hto;clear hto;go_wp2_with fail;go_ret;exact⟨rfl,Q.o⟩
def Fh(base:Nat)(p:Pr)(w:World)(e:Ending)(w':World):Prop:=(∃v,e= .returned (.tuple #[v, .int .i64 0])/\bn w' base v (pS p))/\Below w.heap.size w w'
theorem Ba:(Tryz.prog.info? 33).map (·.size)=some 32:=by kernel_rfl
theorem ue(L:List (List Nat))(h:∀s∈L,s.length=32):L.flatten.length=L.length*32:=by
 induction L with
 |nil=>rfl
 |cons a r ih=>rw[List.flatten_cons,List.length_append,h a (by simp),ih fun s hs=>h s (by simp[hs]),List.length_cons];omega
theorem wu(base:Nat)(p:Pr)(AV:Option Addr)(cV:Nat)(S:Value)(w:World)(hp:p.Ok)(hV:RB w AV p.val.length p.val)(hA:AV=none->cV=0)(hS:ko w base S p.sums):Calls Tryz.prog 74 #[.agg (prC p.found (.slice AV p.val.length cV) p.bits S).toArray] w (Fh w.heap.size p w):=by
 obtain⟨R,u⟩:∃R,Hd (pS p=R):=⟨_,rfl⟩;have y:Hd (R=kg p.found p.val++(p.bits++p.sums.flatten)):=by rw[<-u.o];rfl
 obtain⟨As,ns,cs,hSf⟩:=db hS;have hns:ns=p.sums.length:=by
  rcases hS.2with⟨e,h0⟩|⟨g,cap,cur,e,_⟩
  ·rw[hSf]at e;injection e with e1 e2 e3;omega
  ·rw[hSf]at e;injection e with e1 e2 e3
 subst hSf hns;have HF:Hd (cW p.bits=p.sums.length):=hp.sl.symm;have hone:cW p.bits<=256:=by have:=iy (ds:=p.bits);have:=hp.bl;omega
 have HG:Hd (p.sums.length<=256):=by rw[hp.sl];exact hone
 have HH:Hd (p.val.length<=128):=hp.vl;have HI:Hd (p.found=false->p.val=[]):=hp.vn;have B:=aa (And.intro hp.bl hp.bB);have Q:Hd (∀s∈p.sums,IsB s/\s.length=32):=hp.sB;have HJ:=aa (And.intro hV hA);have HK:=aa hS;have HL:Hd (∀e w',(∃v,e= .returned (.tuple #[v, .int .i64 0])/\bn w' w.heap.size v R)/\Below w.heap.size w w'->Fh w.heap.size p w e w'):=fun e w' h=>by
  unfold Fh;rw[u.o];exact h
 refine Calls.mono ?_ HL.o;clear hp hV hA hS hone u HL;obtain⟨f,vl,bits,sums⟩:=p;dsimp only at*;obtain⟨fl,Y⟩:∃fl,Hd (sums.flatten=fl):=⟨_,rfl⟩;have HN:Hd (fl.length=sums.length*32):=by rw[<-Y.o];exact ue _ fun s hs=>(Q.o s hs).2
 have HY:Hd (∀W,Below w.heap.size w W->∀j,j<sums.length->∃g D,As=some ⟨g,0,none⟩/\sums.length<=cs/\W.rangeAt g (j*32) (bvs D)/\D.length=32/\IsB D/\fl.take ((j+1)*32)=fl.take (j*32)++D):=fun W hW j hj=>by
  have h1:=dq.of_sums ((ae.ofBelow hW).row HK.o fun _ _ h=>h);obtain⟨g,c,e,_,_,hc⟩:=h1.head (by omega);injection e with e1 e2 e3;subst e1 e3;have hg:sums.getD j (zs 32)=sums[j]:=by rw[List.getD_eq_getElem?_getD,List.getElem?_eq_getElem hj];rfl
  have hm:=Q.o _ (List.getElem_mem hj);refine⟨g,sums[j],rfl,hc,?_,hm.2,hm.1,?_⟩
  ·have h2:=h1.range (k:=j) (fun i hi=>by rw[List.getD_eq_getElem?_getD,List.getElem?_eq_getElem hi];exact(Q.o _ (List.getElem_mem hi)).2) hj;rwa[hg]at h2
  ·rw[<-Y.o];have h3:∀n,n<=sums.length->sums.flatten.take (n*32)=(sums.take n).flatten:=fun n hn=>by
    have h4:sums.flatten=(sums.take n).flatten++(sums.drop n).flatten:=by rw[<-List.flatten_append,List.take_append_drop]
    rw[h4,List.take_left'];rw[ue _ fun s hs=>(Q.o s (List.mem_of_mem_take hs)).2,List.length_take];congr 1;omega
   rw[h3 _ hj,h3 _ (by omega),List.take_succ_eq_append_getElem hj,List.flatten_append];simp
 rw[Y.o]at y;clear Y HK Q;generalize sums.length=n at*;have hnI:(n:Int)<=256:=by have:=HG.o;omega
 go_enter Tryz.func74,Tryz.ntmps74;go_upto_region 1with fail;refine bh (G:=fun w2=>Code.wp _ _ _ _ w2) fun w2 C HW HS=>?_;have a:Hd (cG w2 w.heap.size f (.slice AV vl.length cV) bits (.slice As n cs)):=C;clear C;obtain⟨m,J⟩:∃m,Hd (vl.length=m):=⟨_,rfl⟩;have HZ:Hd (m<=128):=by rw[<-J.o];exact HH.o
 have HP:Hd (f=false->m=0):=fun h=>by rw[<-J.o,HI.o h];rfl
 rw[J.o]at a⊢;have z:Hd (RB w AV m vl/\(AV=none->cV=0)):=by rw[<-J.o];exact HJ.o
 clear HJ HH;have hmI:(m:Int)<=128:=by have:=HZ.o;omega
 have T:Hd (∀W,Below w2.heap.size w2 W->W.cell? ⟨w.heap.size,0,none⟩=some (.bool f)/\W.cell? ⟨w.heap.size,1,none⟩=some (.slice AV m cV)/\W.cell? ⟨w.heap.size,34,none⟩=some (.slice As n cs)/\W.rangeAt w.heap.size 2 (bvs bits)):=fun W hb=>by
  have h1:=ab.below a.o hb;exact⟨h1.cell 0,h1.cell 1,cG.sumsCell h1 B.o.1,ab.rangeOf (X:=[.bool f, .slice AV m cV]) (Z:=[.slice As n cs]) h1 rfl⟩
 go_cut[30]from 7to 30(fun v wx=>v= .bool false/\Hd (Below w2.heap.size w2 wx))
 case first=>
  have hub:=tE;have hszb:(Tryz.prog.info? 33).map (·.size)=some (bvs bits).length:=by rw[Ba];simp[bvs,B.o.1]
  have b:Hd (Below w2.heap.size w2 w2.drew):=af (Below.refl _ _) 1;have h128:¬(128:Int)<(m:Int):=by omega
  cases f with
  |false=>
   have hm0:=HP.o rfl;subst hm0;refine wp_region_held_drew (S:=fun w'=>w'.cell? ⟨w.heap.size,0,none⟩=some (.bool false)/\w'.cell? ⟨w.heap.size,1,none⟩=some (.slice AV 0 cV)/\w'.cell? ⟨w.heap.size,34,none⟩=some (.slice As n cs)/\w'.rangeAt w.heap.size 2 (bvs bits)) (by kernel_rfl) (T.o _ b.o) fun hH=>?_;generalize w2.drew=w3 at*;refine tka 0 ?_;refine tka 1 ?_;refine tka 2 ?_;refine tka 3 ?_;refine tka 4 ?_;refine tka 5 ?_;refine tka 6 ?_;refine tka 7 ?_;refine tka 8 ?_;refine tka 9 ?_;refine tka 10 ?_;refine tka 11 ?_;refine tka 12 ?_;refine tka 13 ?_;refine tka 14 ?_;refine tka 15 ?_;refine tka 16 ?_;refine tkl 17 ?_;refine tka 19 ?_;refine tka 20 ?_;refine tka 21 ?_;refine rdy 18 fun K hK=>?_;go_simp;go_at_call 100;refine(mm bits w3 B.o.2 B.o.1).mono ?_;rintro e w4⟨rfl,hb4⟩;have E:=aQ b hb4;refine hK.out _ _ (T.o _ E.o) (fun hH=>?_);clear hK hb4;rw[HF.o];refine tka 22 ?_;refine tka 23 ?_;clear hH hub hszb;refine bN ?_;go_wp2_with fail;go_meet
   case rel=>exact⟨rfl,E⟩
  |true=>
   refine wp_region_held_drew (S:=fun w'=>w'.cell? ⟨w.heap.size,0,none⟩=some (.bool true)/\w'.cell? ⟨w.heap.size,1,none⟩=some (.slice AV m cV)/\w'.cell? ⟨w.heap.size,34,none⟩=some (.slice As n cs)/\w'.rangeAt w.heap.size 2 (bvs bits)) (by kernel_rfl) (T.o _ b.o) fun hH=>?_;generalize w2.drew=w3 at*;refine tka 0 ?_;refine tka 1 ?_;refine tka 2 ?_;refine tka 3 ?_;refine tka 4 ?_;refine tka 5 ?_;refine tka 6 ?_;refine tka 7 ?_;refine tka 8 ?_;refine tks 9 ?_;refine tks 10 ?_;refine tks 11 ?_;refine tks 12 ?_;refine tka 13 ?_;refine tka 14 ?_;refine tka 15 ?_;refine tka 16 ?_;refine tkl 17 ?_;refine tka 19 ?_;refine tka 20 ?_;refine tka 21 ?_;refine rdy 18 fun K hK=>?_;go_simp;go_at_call 100;refine(mm bits w3 B.o.2 B.o.1).mono ?_;rintro e w4⟨rfl,hb4⟩;have E:=aQ b hb4;refine hK.out _ _ (T.o _ E.o) (fun hH=>?_);clear hK hb4;rw[HF.o];refine tka 22 ?_;refine tka 23 ?_;clear hH hub hszb;refine bN ?_;go_wp2_with fail;go_meet
   case rel=>exact⟨rfl,E⟩
 case rest=>
  obtain⟨rfl,HA⟩:=hcut;obtain⟨w4,rfl⟩:∃x,x=wc:=⟨_,rfl⟩;have M:Hd (cG w4 w.heap.size f (.slice AV m cV) bits (.slice As n cs)):=ab.below a.o HA.o;have E:=aQ HW HA.o;clear T HA a;have hc1:w4.cell? ⟨w.heap.size,1,none⟩=some (.slice AV m cV):=M.o.cell 1;have hc34:w4.cell? ⟨w.heap.size,34,none⟩=some (.slice As n cs):=cG.sumsCell M.o B.o.1;go_wp2_with(with_reducible refine atS 41 ?_);clear hc1 hc34;obtain⟨i,hi,hz,hs,hby⟩:=info_parts aH;refine wpList_make_own w4 (o:=⟨some 41,_,_,_,_,_⟩) rfl (.const (.int .i64 0)) (.tmp 40) 36 rfl w4.heap.size 5 i _ 1 ax hi hz hs .i64 .i64 _ (3+m+32+32*n) rfl rfl (by omega) (by rw[hby];omega) (by unfold maxLen;omega) (Nat.le_refl _) ?_;intro w5 ho5 hg5;have d:Hd (bn w5 w4.heap.size (.slice (some ⟨w4.heap.size,0,none⟩) 0 (3+m+32+32*n)) []):=⟨ho5,IsB.nil⟩;have L:Hd (Below w4.heap.size w4 w5):=(Below.refl _ _).grown hg5 (Nat.le_refl _) fun k hk=>by cases hk
  clear hi hz hs hby ho5 hg5;have l:Hd (cG w5 w.heap.size f (.slice AV m cV) bits (.slice As n cs)):=ab.below M.o L.o;have N:Hd (∀W,Below w4.heap.size w4 W->cG W w.heap.size f (.slice AV m cV) bits (.slice As n cs)/\Below w.heap.size w W):=fun W hW=>⟨ab.below M.o hW,E.o.trans (hW.mono E.o.size)⟩;have hc0:w5.cell? ⟨w.heap.size,0,none⟩=some (.bool f):=l.o.cell 0;have Ha:Hd (w.heap.size<w4.heap.size):=M.o.lt;clear M E;go_upto_if 43with fail;go_cut[4]from 44to 62(fun v wx=>Hd (bn wx w4.heap.size v (kg f vl))/\Hd (Below w4.heap.size w4 wx))
  case first=>
   cases f with
   |true=>
    have hm:(m:Int).tmod 256=(m:Int):=by rw[Int.tmod_eq_emod_of_nonneg (by omega)];omega
    have hc1:w5.cell? ⟨w.heap.size,1,none⟩=some (.slice AV m cV):=l.o.cell 1;have q:Hd (bn (w5.alloc (.cells #[.int .u8 1, .int .u8 (m:Int), .int .u8 0] 5)) w5.heap.size (.slice (some ⟨w5.heap.size,0,none⟩) 3 3) [1,m,0]):=qB 1 m 0 (by omega) (by omega) (by omega);have Hb:Hd (kg true vl=[1,m,0]++vl):=by
     show _=_;unfold kg;rw[if_pos rfl,J.o,Nat.mod_eq_of_lt (by omega),Nat.div_eq_of_lt (by omega)];rfl
    have hq:(m:Int)/256=0:=by omega
    have O:Hd (Below w5.heap.size w5 (w5.alloc (.cells #[.int .u8 1, .int .u8 (m:Int), .int .u8 0] 5))):=(Below.refl _ _).alloc (Nat.le_refl _) _;have P:=aa (d.o.below O.o);have H:Hd (Below w4.heap.size w4 (w5.alloc (.cells #[.int .u8 1, .int .u8 (m:Int), .int .u8 0] 5))):=L.o.trans (O.o.mono L.o.size);go_wp2_with(first|(at_builtin;refine dc (o:=⟨some 55,_,_,_,_,_⟩) ax aH _ (by rfl) (.tmp 44) (.tmp 54) (by rfl) w4.heap.size _ [] P.o _ 3 3 [1,m,0] q.o.reads (fun h=>by cases h) (by rfl) (by rfl) (by decide) H.o.size ?_;intro V w6 ho6 hg6)|(with_reducible refine atS 58 ?_));have U:Hd (bn w6 w4.heap.size V ([1,m,0])):=ho6;have I:Hd (Below w4.heap.size w4 w6):=H.o.grown hg6 H.o.size P.o.ge;have hc2:w6.cell? ⟨w.heap.size,1,none⟩=some (.slice AV m cV):=(N.o w6 I.o).1.cell 1;have Hc:=aa (z.o.1.below (N.o w6 I.o).2);clear q H ho6 hg6 hm hq hc1 hc0 d P O l L;refine aa ?_;go_wp2_with(at_builtin;refine dc (o:=⟨some 59,_,_,_,_,_⟩) ax aH w6 (by rfl) (.tmp 56) (.tmp 58) (by rfl) w4.heap.size V [1,m,0] U.o AV m cV vl Hc.o z.o.2 (by rfl) (by rfl) (by simp;omega) I.o.size ?_;intro V8 w8 ho8 hg8);go_meet
    case rel=>exact⟨by rw[Hb.o];exact ho8,I.o.grown hg8 I.o.size U.o.ge⟩
   |false=>
    have q:Hd (bn (w5.alloc (.cells #[.int .u8 0] 5)) w5.heap.size (.slice (some ⟨w5.heap.size,0,none⟩) 1 1) [0]):=gH 0 (by omega);have O:Hd (Below w5.heap.size w5 (w5.alloc (.cells #[.int .u8 0] 5))):=(Below.refl _ _).alloc (Nat.le_refl _) _;have P:=aa (d.o.below O.o);have H:Hd (Below w4.heap.size w4 (w5.alloc (.cells #[.int .u8 0] 5))):=L.o.trans (O.o.mono L.o.size);go_wp2_with(at_builtin;refine dc (o:=⟨some 62,_,_,_,_,_⟩) ax aH _ (by rfl) (.tmp 60) (.tmp 61) (by rfl) w4.heap.size _ [] P.o _ 1 1 [0] q.o.reads (fun h=>by cases h) (by rfl) (by rfl) (by decide) H.o.size ?_;intro V w6 ho6 hg6);go_meet
    case rel=>exact⟨ho6,H.o.grown hg6 H.o.size P.o.ge⟩
  case rest=>
   obtain⟨F,A⟩:=hcut;obtain⟨w6,rfl⟩:∃x,x=wc:=⟨_,rfl⟩;generalize u4=V0 at*;have HC:Hd ((kg f vl).length<=131):=by
    show _<=_;unfold kg;cases f with
    |true=>have:=J.o;simp;omega
    |false=>simp
   obtain⟨r,HQ⟩:∃r,Hd (kg f vl=r):=⟨_,rfl⟩;rw[HQ.o]at F HC y;have HT:=aa (N.o w6 A.o).1;have HU:Hd (RB w6 (some ⟨w.heap.size,2,none⟩) 32 bits):=cG.rb HT.o B.o.1 B.o.2;clear hc0 d L l HQ z J HI HP;go_wp2_with(at_builtin;refine dc (o:=⟨some 66,_,_,_,_,_⟩) ax aH w6 (by rfl) (.tmp 63) (.tmp 65) (by rfl) w4.heap.size V0 r F.o _ 32 32 bits HU.o (fun h=>by cases h) (by rfl) (by rfl) (by have:=HC.o;omega) A.o.size ?_;intro V7 w7 ho7 hg7;have hc7:w7.cell? ⟨w.heap.size,34,none⟩=some (.slice As n cs):=cG.sumsCell (N.o w7 (A.o.grown hg7 A.o.size F.o.ge)).1 B.o.1);have I:Hd (Below w4.heap.size w4 w7):=A.o.grown hg7 A.o.size F.o.ge;obtain⟨C,HD⟩:∃C,Hd (r++bits=C):=⟨_,rfl⟩;have He:Hd (C.length<=200):=by rw[<-HD.o];show _<=_;rw[List.length_append,B.o.1];have:=HC.o;omega
   have U:Hd (bn w7 w4.heap.size V7 C):=by rw[<-HD.o];exact ho7
   have Hf:Hd (R=C++fl):=by rw[y.o,<-HD.o,List.append_assoc];rfl
   clear ho7 hg7 F A HU HT hc7;go_loopw[4,6,70](fun v _ j wr=>∃k:Nat,k<=n/\j= .int .i64 k/\Hd (bn wr w4.heap.size v (C++fl.take (k*32)))/\Hd (Below w4.heap.size w4 wr))(fun _ _ j _=>n-(intOf j).toNat)
   case atStart=>exact⟨0,by omega,rfl,by rw[Nat.zero_mul,List.take_zero,List.append_nil];exact U,I⟩
   case round=>
    clear U I;obtain⟨k,hk,rfl,F,A⟩:=hrel;by_cases hlt:k<n
    ·have hltI:(k:Int)<(n:Int):=by omega
     obtain⟨g,D,hAe,hnc,hrd,hDl,hDB,hft⟩:=HY.o wr (N.o wr A.o).2 k hlt;subst hAe;have Hg:=aa hrd;have t:=aa (And.intro hDl hDB);have Hh:=aa hft;have Hi:Hd ((C++fl.take (k*32)).length<=20000):=by show _<=_;rw[List.length_append,List.length_take];have:=He.o;have:=HN.o;have:=HG.o;omega
     clear hrd hDl hDB hft;go_wp2_with(first|((with_reducible refine atS 73 ?_);refine aj (by rfl) 34 (.tmp 72) rfl g (k*32) (bvs D) rfl Hg.o (by kernel_rfl) (by rw[ag];simp[bvs,t.o.1]) ?_)|((with_reducible refine atS 6 ?_);refine dU (s:=⟨none,_,_,_,_,_⟩) (by rfl) (by rfl) 34 rfl (.tmp 6) (.tmp 73) rfl (bvs (zs 32)) (bvs D) 32 aD rfl (by simp[bvs,t.o.1]) rfl rfl (ah _) ?_;intro w8 Hj HV Ho;(try simp only[Act.put,LS]);have HX:=aa (F.o.below HV.o);have HE:Hd (Below w4.heap.size w4 w8):=A.o.trans (HV.o.mono A.o.size);have Hk:Hd (RB w8 (some ⟨wr.heap.size,0,none⟩) 32 D):=ar.whole Hj.o t.o.2 t.o.1)|(at_builtin;refine dc (o:=⟨some 76,_,_,_,_,_⟩) ax aH w8 (by rfl) (.tmp 74) (.tmp 75) (by rfl) w4.heap.size _ _ HX.o _ 32 32 D Hk.o (fun h=>by cases h) (by rfl) (by rfl) (by have:=Hi.o;omega) HE.o.size ?_;intro V9 w9 ho9 hg9));have Hl:Hd (Below w4.heap.size w4 w9):=HE.o.grown hg9 HE.o.size HX.o.ge;have Hm:Hd (bn w9 w4.heap.size V9 (C++fl.take ((k+1)*32))):=by rw[Hh.o,<-List.append_assoc];exact ho9
     clear ho9 hg9;go_roundw
     case rel=>exact⟨k+1,by omega,by go_num,Hm,Hl⟩
     case measure=>simp[intOf];omega
    ·have hnlt:¬(k:Int)<(n:Int):=by omega
     have Hn:Hd (fl.take (k*32)=fl):=List.take_of_length_le (by rw[HN.o];omega);rw[Hn.o,<-Hf.o]at F;go_wp2_with fail;go_ret2;exact⟨⟨_,rfl,F.o.mono (by have:=Ha.o;omega)⟩,(N.o _ A.o).2⟩
end Go.Proofs.YtfnlhfaihoojfaaGreatDoor
