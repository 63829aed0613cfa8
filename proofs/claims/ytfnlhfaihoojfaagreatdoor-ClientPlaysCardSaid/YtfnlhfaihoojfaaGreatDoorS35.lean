/- Texts of the proof of ledgerlaw13.ClientPlays, part 35; no condition of its own. -/
import Derived.Test.YtfnlhfaihoojfaaGreatDoorS30
import Derived.Test.YtfnlhfaihoojfaaGreatDoorS34
set_option maxRecDepth 100000
set_option maxHeartbeats 4000000
namespace Go.Proofs.YtfnlhfaihoojfaaGreatDoor
open Go.RowKit
def PxJ(base B4:Nat)(ds:Nat->List Nat)(h:Nat)(U:Nat->Prop)(w:World):Prop:=∃v,ab w B4 27 #[v]/\w.ownsRow base 34 32 v h (bvs (bZ ds h))/\(∀B,U B↔B=B4∨v.ownBlock=some B)/\base<=B4/\(∀B,v.ownBlock=some B->B≠B4)
section
variable{base B4 h:Nat}{ds:Nat->List Nat}{U V:Nat->Prop}{w w':World}
theorem PxJ.lt(hj:PxJ base B4 ds h U w):∀B,U B->B<w.heap.size:=fun B hB=>by
 obtain⟨v,h1,h2,h3,_⟩:=hj;rcases(h3 B).1 hB with rfl|h
 ·exact h1.lt
 ·exact(di h2 h).2
theorem PxJ.keep(hj:PxJ base B4 ds h U w)(ht:ae V w w')(hn:∀B,V B->¬U B):PxJ base B4 ds h U w':=by
 obtain⟨v,h1,h2,h3,h4⟩:=hj;exact⟨v,ht.blk h1 (fun hV=>hn _ hV ((h3 _).2 (.inl rfl))),ht.row h2 (fun B hB hV=>hn _ hV ((h3 _).2 (.inr hB))),h3,h4⟩
end
theorem yO(base B4 g:Nat)(ds:Nat->List Nat)(c:Ck)(p:Pr)(h:Nat)(U:Nat->Prop)(b:Value)(w:World)(n:List Nat)(hh:h<256)(hd:IsB (ds h))(hdl:(ds h).length=32)(hj:PxJ base B4 ds h U w)(hr:aX w g (c.blanked b) p)(hf:Far U g (c.blanked b)):Calls Tryz.prog 96 #[.int .i64 h, .agg (bvs (ds h)).toArray, .agg (bvs n).toArray, .pointer (some ⟨B4,0,none⟩)] w (EB g c p (PxJ base B4 ds) h U b w):=by
 have d:=aa hj.lt;obtain⟨v,h1,h2,h3,h4,h5⟩:=hj;have I:=aa h1;have J:=aa h2;have E:=aa h3;have K:=aa h4;have L:=aa h5;have M:=aa hr;have N:=aa hf;have A:=aa (And.intro hdl hd);have O:Hd (bZ ds (h+1)=bZ ds h++ds h):=rfl;have hhI:(h:Int)<256:=by omega
 clear hd hdl hr hf h1 h2 h3 h4 h5;obtain⟨va,vn,vc,rfl⟩:=db J.o;obtain⟨D,hD⟩:∃D,ds h=D:=⟨_,rfl⟩;rw[hD]at A O⊢;clear hD;go_enter Tryz.func96,Tryz.ntmps96;go_wp2_with(with_reducible refine atS 7 ?_);refine bV (G:=fun w2=>Hd (wpList _ _ _ _ _ w2)) fun w2 P Y C f=>?_;have Q:Hd (ar w2 w.heap.size 34 D):=P;have F:Hd (ab w2 B4 27 #[.slice va vn vc]):=ab.below I.o C.o;have R:Hd (w2.ownsRow base 34 32 (.slice va vn vc) h (bvs (bZ ds h))):=(ae.ofBelow C.o).row J.o fun _ _ h=>h;have S:Hd (B4<w.heap.size):=I.o.lt;have hc7:=ab.cell F.o 0;clear P Y;refine aa ?_;go_wp2_with(first|((with_reducible refine atS 8 ?_);refine ac (by rfl) 34 (.tmp 5) rfl ⟨w.heap.size,0,none⟩ 32 D rfl (Q.o.whole A.o.2 A.o.1) (by omega) (by kernel_rfl) (by kernel_rfl) ?_)|((with_reducible refine atS 9 ?_);refine aR rfl w2 27 34 _ 32 (.tmp 8) rfl cN aD (by decide) (by decide) (bvs D).toArray rfl (by simp[bvs,A.o.1]) ?_)|(with_reducible refine atS 10 ?_));clear hc7;have hd1:(bvs D).length=32:=by simp[bvs,A.o.1]
 have hbs:base<=w2.heap.size:=by have:=K.o;have:=S.o;have:=C.o.size;omega
 refine fG (t:=27) (e:=34) (o:=⟨some 10,_,_,_,_,_⟩) cN eO (by rfl) w2 (by rfl) (.tmp 7) (.tmp 9) (by rfl) base (.slice va vn vc) h (bvs (bZ ds h)) R.o (bvs D) hd1 (fun u hu=>ah _ u hu) (by rfl) (by rfl) (by omega) (by omega) hbs ?_;intro v3 w3 ho3 hg3 hl3;obtain⟨s3a,s3n,s3c,e3⟩:=db ho3;subst e3;have hne:¬some B4=(Value.slice va vn vc).ownBlock:=fun e=>L.o B4 e.symm rfl;have H:Hd (ab w3 B4 27 #[.slice va vn vc]):=(ae.grown hg3).blk F.o hne;have Z:Hd (w3.ownsRow base 34 32 (.slice s3a s3n s3c) (h+1) (bvs (bZ ds (h+1)))):=by
  rw[O.o,show bvs (bZ ds h++D)=bvs (bZ ds h)++bvs D by simp[bvs]];exact ho3
 have a:Hd (ae (fun B=>some B=(Value.slice va vn vc).ownBlock) w w3):=((ae.ofBelow C.o).mono fun _ _ h=>h.elim).trans (ae.grown hg3);have T:Hd (∀B,(Value.slice s3a s3n s3c).ownBlock=some B->(Value.slice va vn vc).ownBlock=some B∨w2.heap.size<=B):=hl3;have hc10:=ab.cell H.o 0;have hf10:=ab.frozen H.o 0;have V:Hd (w.heap.size<=w2.heap.size):=C.o.size;clear ho3 hg3 hl3 hd1 hbs F R Q hne;go_wp2_with fail;refine bodyPost_end (results_none rfl _ _ _) rfl ⟨rfl,?_⟩;have hne3:∀B,(Value.slice s3a s3n s3c).ownBlock=some B->B≠B4:=fun B hB=>by
  rcases T.o B hB with h|h
  ·exact L.o B h
  ·have:=S.o;have:=V.o;omega
 have t4:ae (fun B=>B=B4) w3 (w3.setCell ⟨B4,0,none⟩ (.slice s3a s3n s3c)):=ae.one (ai w3 0 _);have W:ae U w (w3.setCell ⟨B4,0,none⟩ (.slice s3a s3n s3c)):=(a.o.mono fun B _ e=>(E.o B).2 (.inr e.symm)).trans (t4.mono fun B _ e=>(E.o B).2 (.inl e));have X:mx w U (fun B=>B=B4∨(Value.slice s3a s3n s3c).ownBlock=some B):=fun B hB=>by
  rcases hB with rfl|hB
  ·exact .inl ((E.o _).2 (.inl rfl))
  ·rcases T.o B hB with h|h
   ·exact .inl ((E.o _).2 (.inr h))
   ·exact .inr (Nat.le_trans V.o h)
 refine⟨fun B=>B=B4∨(Value.slice s3a s3n s3c).ownBlock=some B,b,⟨.slice s3a s3n s3c,ab.stored H.o 0 _,t4.row Z.o fun B hB e=>hne3 B hB e,fun B=>Iff.rfl,K.o,hne3⟩,M.o.far W N.o, .inl rfl,W.mono fun _ _ h=> .inl h,X,N.o.same M.o X⟩
theorem Ce(base B4 g:Nat)(c:Ck)(p:Pr):Eye 96 #[.pointer (some ⟨B4,0,none⟩)] g c p (bd c.wd c.key (aZ c.wd (bQ c.key p.found p.val)) (av c.wd p)) (PxJ base B4 (bd c.wd c.key (aZ c.wd (bQ c.key p.found p.val)) (av c.wd p)))where
 enters:=fN Tryz.func96 (by kernel_rfl) (by kernel_rfl)
 lt:=fun h B hB=>h.lt B hB
 keep:=fun h ht hn=>h.keep ht hn
 call:=fun h U b w hh hj hr hf=>by
  have h1:=dy c.wd c.key (av c.wd p) (aw c.wd (bQ c.key p.found p.val)) (aY c.wd (bQ c.key p.found p.val)) h;exact yO base B4 g _ c p h U b w _ hh h1.2 h1.1 hj hr hf
theorem BA(wd:Int)(ks xs:List Nat)(A:Option Addr)(n k:Nat)(w:World)(hk:ks.length=32)(hkB:IsB ks)(hx:RB w A n xs)(hlt:∀ad,A=some ad->ad.block<w.heap.size)(hnc:n<=k)(hA:A=none->k=0)(hkm:k<=maxLen)(hn:n<=140737488355328)(ht:eY w):Calls Tryz.prog 61 #[.int .i64 wd, .agg (bvs ks).toArray, .slice A n k] w (rN (nK wd xs) wd ks xs w):=by
 have K:=aa (And.intro hk hkB);have HX:=aa hx;have i:=aa hlt;have M:=aa (And.intro hnc (And.intro hA (And.intro hkm hn)));have l:=aa ht;suffices h:∀E,nK wd xs=E->Calls Tryz.prog 61 #[.int .i64 wd, .agg (bvs ks).toArray, .slice A n k] w (rN E wd ks xs w)from h _ rfl;intro E hE;have m:=aa hE;clear hk hkB hx hlt hnc hA hkm hn ht hE;go_enter Tryz.func61,Tryz.ntmps61;go_wp2_with(with_reducible refine atS 13 ?_);refine bh (G:=fun w2=>Hd (wpList _ _ _ _ _ w2)) fun w2 C q HS=>?_;have HQ:Hd (ar w2 w.heap.size 37 ks):=C;clear C;refine aa ?_;go_wp2_with(first|((with_reducible refine atS 13 ?_);refine ac (by rfl) 37 (.tmp 4) rfl ⟨w.heap.size,0,none⟩ 32 ks rfl (HQ.o.whole K.o.2 K.o.1) (by omega) (by kernel_rfl) (by kernel_rfl) ?_)|(refine aM (o:=⟨some 15,_,_,_,_,_⟩) (by rfl) 96 #[(0, .tmp 12),(1, .tmp 13),(2, .tmp 14)] rfl [(0, .int .i64 wd),(1, .agg (bvs ks).toArray),(2, .slice A n k)] (by simp[go_sem]) _ (zO wd ks _ K.o.1 rfl) ?_)|(with_reducible refine atS 18 ?_));refine bh (G:=fun w3=>Hd (wpList _ _ _ _ _ w3)) fun w3 C HR Hf=>?_;have Q:Hd (fx w3 w2.heap.size (eI wd ks (.slice A n k) (zs 32))):=C;have HU:=aQ q HR.o;have N:Hd (w.heap.size<=w2.heap.size):=q.o.size;clear C;refine aa ?_;go_wp2_with fail;refine bh (G:=fun w4=>Calls _ _ _ w4 _) fun w4 C s HV=>?_;have R:Hd (fx w4 w2.heap.size (eI wd ks (.slice A n k) (zs 32))):=ab.below Q.o s.o;have F:=aQ HU s.o;have x:Ctx w4 w2.heap.size xs A n k:=by
  have h1:=l.o.lt;have h2:=N.o;exact⟨l.o.below (F.o),by omega,by omega,R.o.lt,HX.o.below F.o,fun ad e=>⟨by have:=i.o ad e;have:=F.o.size;omega,by have:=i.o ad e;omega⟩,M.o.1,M.o.2.1,M.o.2.2.1,M.o.2.2.2⟩
 have O:Hd (w3.heap.size≠w2.heap.size/\w3.heap.size<w4.heap.size):=by have h3:=Q.o.lt;have h4:=HV.o;show _/\_;omega
 have S:Hd (∀j,j<3->w4.cell? ⟨w3.heap.size,j,none⟩=some (.func (.func (iK j)) #[.pointer (some ⟨w2.heap.size,0,none⟩)] #[])):=fun j hj=>by
  rw[ab.cell C.o j];match j,hj with
  |0,_=>rfl
  |1,_=>rfl
  |2,_=>rfl
 have T:Hd (fD w4 w2.heap.size wd ks (zs 32) xs A n k 0 w4):=⟨eI wd ks (.slice A n k) (zs 32),R.o,ju K.o.1 K.o.2 (ak 32) (dY 32),rfl,rfl,rfl,rfl, .inl rfl,ae.refl _ _⟩;have U:=aa x;clear C x Q R;refine(ER U.o O.o.1 O.o.2 S.o T.o).mono ?_;rintro e w5⟨r,rfl,h0,h1⟩;by_cases hr0:r=0
 ·subst hr0;obtain⟨hw,c,p,hst,hp',hrd,hov,hf⟩:=h0 rfl;have V:Hd (E=0):=by rw[<-m.o,fW hw hp'];exact hf
  have y:=aa (And.intro hp' hf);have W:=aa hrd;have z:Hd (mz w5 c.v p.val):=i6 hov hrd.pok.vl;have HA:=aa (And.intro hst.wdE hst.keyE);have P:Hd (Below w.heap.size w w5):=hst.tch.toBelow F.o F.o.size fun B hB=>by rw[hB];exact N.o
  clear h0 h1 hst hp' hrd hov S T U O hw hf;go_wp2_with fail;refine bh (G:=fun w6=>Calls _ _ _ w6 _) fun w6 C X Hg=>?_;have HB:Hd (ab w6 w5.heap.size 27 #[.slice none 0 0]):=C;have I:Hd (aX w6 w2.heap.size c p):=W.o.below X.o;have HC:Hd (Far (fun B=>B=w5.heap.size) w2.heap.size c):=W.o.farNew.mono fun B e=>by rw[e];exact Nat.le_refl _
  have HY:=aQ P X.o;clear C W;refine(jc w2.heap.size c p.val w6 I.o.ck I.o.ok (z.o.below X.o) I.o.tabs).mono ?_;rintro e w7⟨rfl,hb7⟩;have HD:Hd (aX w7 w2.heap.size c p):=I.o.below hb7;have HF:Hd (ab w7 w5.heap.size 27 #[.slice none 0 0]):=ab.below HB.o hb7;have HH:=aQ HY hb7;have Y:=aa (Ce w5.heap.size w5.heap.size w2.heap.size c p);have Z:Hd (bT wd ks p=bd c.wd c.key (aZ c.wd (bQ c.key p.found p.val)) (av c.wd p)):=by
   show _=_;rw[HA.o.1,HA.o.2];funext j;rfl
  rw[I.o.found]at Y Z;clear hb7 HB I z;go_wp2_with fail;refine(fX 96 #[.pointer (some ⟨w5.heap.size,0,none⟩)] w2.heap.size c p (aZ c.wd (bQ c.key c.f p.val)) _ (fun B=>B=w5.heap.size) c.blank w7 Y.o ⟨.slice none 0 0,HF.o,World.ownsRow_nil _ _ _ _,fun B=>by simp[Value.ownBlock],Nat.le_refl _,fun B hB=>by cases hB⟩ HD.o HC.o (aw _ _) (aY _ _)).mono ?_;rintro e w8⟨rfl,U8,b8,⟨v8,hb8,ho8,_,_,hn8⟩,hr8,_,ht8,_,_⟩;rw[<-Z.o]at ho8⊢;obtain⟨va,vn,vc,rfl⟩:=db ho8;have H:Hd ((bT wd ks p 256).length=32/\IsB (bT wd ks p 256)):=by
   show _/\_;rw[fJ];exact⟨aw _ _,aY _ _⟩
  have HI:Hd (ab w8 w5.heap.size 27 #[.slice va vn vc]):=hb8;have a:=aa ho8;have b:Hd (w.heap.size<=w5.heap.size):=P.o.size;have d:Hd (Below w.heap.size w w8):=ht8.toBelow HH.o HH.o.size fun B hB=>by
   rcases hB with h|h
   ·rw[h];exact b.o
   ·rw[h];exact N.o
  have HZ:Hd ((bZ (bT wd ks p) 256).length=256*32):=by show _=_;have:=ho8.1;simpa[bvs]using this
  have Ha:Hd (w5.heap.size<w8.heap.size):=HI.o.lt;clear hb8 ho8 hr8 ht8 hn8 Y Z HC HD HF;obtain⟨L,HJ⟩:∃L,Hd (bZ (bT wd ks p) 256=L):=⟨_,rfl⟩;rw[HJ.o]at a HZ;obtain⟨D,HK⟩:∃D,Hd (bT wd ks p 256=D):=⟨_,rfl⟩;rw[HK.o]at H⊢;go_wp2_with(first|((with_reducible refine atS 11 ?_);refine aC (by rfl) 34 rfl _ _ aD ?_;intro w9 HL g Hb)|((with_reducible refine atT 11 ?_);refine aq (o:=⟨none,_,_,_,_,_⟩) (by rfl) 34 (.tmp 11) (.tmp 32) rfl 0 [] (bvs (zs 32)) (bvs D) [] rfl rfl (bj HL.o) rfl (by simp[bvs,zs,H.o.1]) (by rw[ag];simp[bvs,H.o.1]) (fun u hu=>ah _ u hu) ?_;intro w10 h10 g10;have J:Hd (Below w8.heap.size w8 w10):=g.o.grown g10 g.o.size (fun k hk=>by injection hk with hk;omega);have HM:Hd (ab w10 w5.heap.size 27 #[.slice va vn vc]):=ab.below HI.o J.o;have HN:Hd (ar w10 w8.heap.size 34 D):=aN h10;have hc33:=ab.cell HM.o 0)|((with_reducible refine atS 34 ?_);refine ac (by rfl) 34 (.tmp 11) rfl ⟨w8.heap.size,0,none⟩ 32 D rfl (HN.o.whole H.o.2 H.o.1) (by omega) (by kernel_rfl) (by kernel_rfl) ?_)|((with_reducible refine atS 35 ?_);refine aR rfl w10 27 34 _ 32 (.tmp 34) rfl cN aD (by decide) (by decide) (bvs D).toArray rfl (by simp[bvs,H.o.1]) ?_)|(with_reducible refine atS 36 ?_));have hd1:(bvs D).length=32:=by simp[bvs,H.o.1]
  have HO:Hd (w10.ownsRow w5.heap.size 34 32 (.slice va vn vc) 256 (bvs L)):=(ae.ofBelow J.o).row a.o fun _ _ h=>h;have hbs:w5.heap.size<=w10.heap.size:=by have:=Ha.o;have:=J.o.size;omega
  refine fG (t:=27) (e:=34) (o:=⟨some 36,_,_,_,_,_⟩) cN eO (by rfl) w10 (by rfl) (.tmp 33) (.tmp 35) (by rfl) w5.heap.size (.slice va vn vc) 256 (bvs L) HO.o (bvs D) hd1 (fun u hu=>ah _ u hu) (by rfl) (by rfl) (by omega) (by omega) hbs ?_;intro v11 w11 ho11 hg11 _;have Hc:Hd (dq w11 w5.heap.size v11 257 (bT wd ks p)):=by
   have h:dq w11 w5.heap.size v11 (256+1) (bT wd ks p):=dq.step HK.o (by rw[HJ.o];exact ho11);exact h
  have He:Hd (Below w.heap.size w w11):=(d.o.trans (J.o.mono d.o.size)).grown hg11 (Nat.le_trans d.o.size J.o.size) fun k hk=>by have:=(di a.o hk).1;have:=b.o;omega
  clear ho11 hg11 hd1 hbs HO HN HM J hc33 h10 g10 HL g Hb;go_wp2_with fail;go_ret2;exact⟨He.o,fun h=>absurd V.o h,fun _=>⟨p,v11,y.o.1,y.o.2,rfl,Hc.o.mono b.o⟩⟩
 ·obtain⟨he,c,hst⟩:=h1 hr0;have P:Hd (Below w.heap.size w w5):=hst.tch.toBelow F.o F.o.size fun B hB=>by rw[hB];exact N.o
  have HP:Hd (r=(E:Nat)):=by rw[<-m.o];exact he
  have V:Hd (¬E=0):=fun h=>hr0 (by rw[HP.o,h];rfl);clear h0 h1 hst he S T U O;go_wp2_with fail;go_ret2;exact⟨P.o,fun _=>by rw[HP.o];rfl,fun h=>absurd h V.o⟩
theorem yN(wd:Int)(k:List Nat)(p:Pr)(h:Nat):IsB (bT wd k p h):=by
 rw[fJ];exact aY _ _
structure Lay(w:World)(A:Option Addr)(xs:List Nat)(c:Nat):Prop where
 rb:RB w A xs.length xs
 lt:0<c->∀ad,A=some ad->ad.block<w.heap.size
 le:xs.length<=c
 non:A=none->c=0
 cm:c<=maxLen
 sz:xs.length<=140737488355328
theorem Lay.below{w w':World}{A:Option Addr}{xs:List Nat}{c:Nat}(h:Lay w A xs c)(hb:Below w.heap.size w w'):Lay w' A xs c:=⟨h.rb.below hb,fun h0 ad e=>Nat.lt_of_lt_of_le (h.lt h0 ad e) hb.size,h.le,h.non,h.cm,h.sz⟩
theorem Lay.isB{w:World}{A:Option Addr}{xs:List Nat}{c:Nat}(h:Lay w A xs c):IsB xs:=h.rb.isB
def nP(wd:Int)(ks xs:List Nat):Nat->List Nat:=match dF xs with
 |some p=>bT wd ks p
 |none=>fun _=>zs 32
theorem ru(wd:Int)(ks xs:List Nat)(j:Nat):(nP wd ks xs j).length=32/\IsB (nP wd ks xs j):=by
 unfold nP;cases dF xs with
 |none=>exact⟨ak 32,dY 32⟩
 |some p=>exact⟨(dL wd ks p j).1,yN wd ks p j⟩
theorem rN.uni{E:Nat}{wd:Int}{ks xs:List Nat}{w w':World}{e:Ending}(h:rN E wd ks xs w e w'):Below w.heap.size w w'/\∃V,e= .returned (.tuple #[V, .int .i64 (E:Nat)])/\dq w' w.heap.size V (if E=0then 257 else 0) (nP wd ks xs):=by
 obtain⟨h1,h2,h3⟩:=h;refine⟨h1,?_⟩;by_cases hE:E=0
 ·obtain⟨p,V,hp,_,he,hr⟩:=h3 hE;subst hE;refine⟨V,he,?_⟩;rw[if_pos rfl];unfold nP;rw[hp];exact hr
 ·refine⟨_,h2 hE,?_⟩;rw[if_neg hE];exact dq.nil _ _ _
theorem yM(gb base N:Nat)(S:Nat->Prop)(o:OpV)(xs:List Nat)(Ao Ax:Option Addr)(ao cx:Nat)(w:World)(hb:Bk w gb base N S)(ok:o.Ok)(hA:o.A= .slice Ao xs.length ao)(hLA:Lay w Ao xs ao)(hLX:Lay w Ax xs cx)(hcx:0<cx)(ht:eY w)(ht1:du w)(hbase:base<=w.heap.size)(hN:N<=2305843009213693952):Calls Tryz.prog 31 #[.pointer (some ⟨gb,0,none⟩), .agg o.cs.toArray, .slice Ax xs.length cx] w (lk gb base (N+1) S w):=by
 have T:=aa hb;have C:=aa ok;have J:=aa hA;have U:=aa hLA;have W:=aa hLX;have X:=aa (And.intro ht ht1);have Y:=aa hbase;have s:=aa hN;clear hb ok hA hLA hLX ht ht1 hbase hN;obtain⟨n,hn⟩:∃n,xs.length=n:=⟨_,rfl⟩;have F:=aa hn;rw[hn]at J⊢;clear hn;obtain⟨E,Z⟩:∃E,Hd (nK o.wd xs=E):=⟨_,rfl⟩;go_enter Tryz.func31,Tryz.ntmps31;go_upto_region 1with fail;refine bh (G:=fun w2=>Code.wp _ _ _ _ w2) fun w2 b K v=>?_;have H:Hd (bp w2 w.heap.size o):=b;clear b;have q1:=H.o.wd;have q2:=H.o.a C.o;rw[J.o]at q2;go_wp2_with((with_reducible refine atS 16 ?_);refine aj (by rfl) 37 (.tmp 15) rfl w.heap.size 34 (bvs o.key) rfl (H.o.key C.o) (by kernel_rfl) (by rw[aB];simp[bvs,C.o.key.1]) ?_);have hL2:=W.o.below K.o;have c:Hd (∃ds m,nP o.wd o.key xs=ds/\(if E=0then 257 else 0)=m/\m<=257):=⟨_,_,rfl,rfl,by split<;>omega⟩;obtain⟨ds,m,hds,hm,hm257⟩:=c.o;have M:Hd (∀j,(ds j).length=32/\IsB (ds j)):=by rw[<-hds];exact fun j=>ru _ _ _ j
 have O:Hd (∀{w e w'},rN (nK o.wd xs) o.wd o.key xs w e w'->Below w.heap.size w w'/\∃V,e= .returned (.tuple #[V, .int .i64 (E:Nat)])/\dq w' w.heap.size V m ds):=fun h=>by
  have h1:=h.uni;rw[Z.o,hm,hds]at h1;exact h1
 have hm':(m:Int)<=257:=by omega
 clear c hds hm Z;refine(BA o.wd o.key xs Ax n cx w2 C.o.key.1 C.o.key.2 (F.o▸hL2.rb) (hL2.lt hcx) (F.o▸hL2.le) hL2.non hL2.cm (F.o▸hL2.sz) (X.o.1.below K.o)).mono ?_;intro e w3 hq3;obtain⟨hb3,V1,rfl,hr3⟩:=O.o hq3;obtain⟨A1,c1,rfl⟩:=hr3.form;have x:=aa hb3;have d:=aa hr3;have L:Hd (bp w3 w.heap.size o):=ab.below H.o hb3;have P:=aQ K hb3;clear hq3 hb3 hr3 hL2 q1 q2;have q1:=L.o.wd;have q2:=L.o.a C.o;rw[J.o]at q2;go_wp2_with((with_reducible refine atS 25 ?_);refine aj (by rfl) 37 (.tmp 24) rfl w.heap.size 34 (bvs o.key) rfl (L.o.key C.o) (by kernel_rfl) (by rw[aB];simp[bvs,C.o.key.1]) ?_);have hL3:=U.o.below P.o;refine(yz o.wd o.key Ao n ao xs w3 C.o.key.2 C.o.key.1 (F.o▸hL3.rb) (F.o▸hL3.le) (F.o▸hL3.sz) (X.o.2.below P.o)).mono ?_;intro e w4 hq4;obtain⟨hb4,V2,rfl,hr4⟩:=O.o hq4;obtain⟨A2,c2,rfl⟩:=hr4.form;have y:=aa hb4;have f:=aa hr4;have Q:=aa (d.o.below hb4);have t:=aQ P hb4;clear hq4 hb4 hr4 hL3 q1 q2 d L H O J U W;go_wp2_with fail;go_loopw[11](fun i wr=>∃k q:Nat,k<=m/\i= .int .i64 k/\wr=w4.drewN q)(fun i _=>m-(intOf i).toNat)
 case atStart=>exact⟨0,0,by omega,rfl,rfl⟩
 case round=>
  obtain⟨k,q,hk,rfl,rfl⟩:=hrel;by_cases hlt:k<m
  ·have hlt':(k:Int)<m:=by omega
   obtain⟨g1,d1,e1,_⟩:=Q.o.head (by omega);obtain⟨g2,d2,e2,_⟩:=f.o.head (by omega);injection e1 with e1 e1m e1c;injection e2 with e2 e2m e2c;subst e1 e2;have g:Hd (∀p,(w4.drewN p).rangeAt g1 (k*32) (bvs (ds k))/\(w4.drewN p).rangeAt g2 (k*32) (bvs (ds k))):=fun p=>⟨Q.o.range (fun j _=>(M.o j).1) hlt,f.o.range (fun j _=>(M.o j).1) hlt⟩;obtain⟨D,hD⟩:∃D,ds k=D:=⟨_,rfl⟩;have I:=aa (hD▸M.o k);rw[hD]at g;clear e1m e1c e2m e2c hD;go_wp2_with fail;rename_i KK hKK;have l:=aa hKK;clear hKK;have heq:∀w:World,(Op.equalIn 10000 34 (.agg (bvs D).toArray) (.agg (bvs D).toArray)).run Tryz.prog w= .ok true w:=fun w=>by
    have h:=fP w I.o.2 I.o.2 I.o.1 I.o.1;rwa[decide_eq_true rfl]at h
   have hdu:=bE;have hds:(Tryz.prog.info? 34).map (·.size)=some (bvs D).length:=by rw[ag];simp[bvs,I.o.1]
   refine wp_region_held_drew (S:=fun w'=>w'.rangeAt g1 (k*32) (bvs D)/\w'.rangeAt g2 (k*32) (bvs D)) (by kernel_rfl) (g.o (q+1)) fun hH=>?_;refine tka 0 ?_;refine tka 1 ?_;refine tka 2 ?_;refine tkl 3 ?_;refine tka 4 ?_;refine tka 5 ?_;refine tka 6 ?_;refine tkl 7 ?_;refine tka 8 ?_;refine bN ?_;change KK _ _;refine l.o _ _ ?_;clear l KK hH heq hdu hds;go_wp2_with fail;go_roundw
   case rel=>exact⟨k+1,q+1,by omega,by go_num,rfl⟩
   case measure=>simp[intOf];omega
  ·have hnlt:¬(k:Int)<m:=by omega
   have R:Hd (Below w.heap.size w (w4.drewN q)):=af t.o q;have r:Hd (dq (w4.drewN q) w2.heap.size (.slice A1 m c1) m ds):=Q.o.below (af (Below.refl _ _) q);generalize w4.drewN q=w5 at*;go_wp2_with fail;have hge:∀B,(Value.slice A1 m c1).ownBlock=some B->w.heap.size<=B:=fun B hB=>Nat.le_trans K.o.size (r.o.lt hB).1;refine(yF gb base N S (.slice A1 m c1) m _ w5 (T.o.below R.o) (gG r.o (Nat.zero_le _)) (fun B hB=>⟨fun hs=>?_,Nat.le_trans Y.o (hge B hB)⟩) (Nat.le_trans Y.o R.o.size) (by omega) s.o).mono ?_
   ·have h1:=(T.o.bnd B hs).2;have h2:=hge B hB;omega
   ·intro e w6 hk6;have hto:=hk6.to R.o hge;obtain⟨rfl,_⟩:=hk6;have u:=aa hto;clear hto hge;go_wp2_with fail;go_ret;exact⟨rfl,u.o⟩
theorem qr(wk:Int)(ks:List Nat)(p:Pr)(va:Option Addr)(vc gn cn gL cL H:Nat)(w:World)(hk:IsB ks)(hkl:ks.length=32)(hp:p.Ok)(hx:RB w va p.val.length p.val)(hN:cX w gn (av wk p))(hL:gL<w.heap.size/\∀k,k<257->w.rangeAt gL (k*32) (bvs (bT wk ks p k)))(hH:H<=256):Calls Tryz.prog 66 #[.int .i64 wk, .agg (bvs ks).toArray, .agg (spC p.found (.slice va p.val.length vc) (.slice (some ⟨gn,0,none⟩) 256 cn)).toArray, .slice (some ⟨gL,0,none⟩) 257 cL, .int .i64 H] w fun e w'=>Below w.heap.size w w'/\∃V,e= .returned V/\bn w' w.heap.size V (cY wk ks p H):=by
 have D:=aa (And.intro hkl hk);have a:=aa hx;have R:=aa hN;have T:=aa hL;have U:=aa hp;clear hk hkl hx hN hL hp;rcases H with _|h
 ·obtain⟨F,b⟩:∃F,Hd (p.found=F):=⟨_,rfl⟩;have M:Hd (cY wk ks p 0=bQ ks F p.val):=by rw[<-b.o];rfl
  have g:Hd (p.val.length<=128):=U.o.vl;rw[M.o,b.o];go_enter Tryz.func66,Tryz.ntmps66;go_upto_region 1with fail;refine bV (G:=fun w2=>Code.wp _ _ _ _ w2) fun w2 E I B i=>?_;have X:Hd (ar w2 w.heap.size 37 ks):=E;have N:Hd (eU w2 (w.heap.size+1) F (.slice va p.val.length vc) (.slice (some ⟨gn,0,none⟩) 256 cn)):=I;have hc0:=N.o.cell 0;have hc1:=N.o.cell 1;clear E I;cases F with
  |true=>
   go_wp2_with(first|((with_reducible refine atS 39 ?_);refine ac (by rfl) 37 (.tmp 6) rfl ⟨w.heap.size,0,none⟩ 32 ks rfl (X.o.whole D.o.2 D.o.1) (by omega) (by kernel_rfl) (by kernel_rfl) ?_)|fail);refine(kW ks va p.val.length vc p.val w2 D.o.2 D.o.1 (a.o.below B.o) (by have:=g.o;omega)).mono ?_;rintro e w3⟨hb3,V,rfl,hV⟩;have Y:=aa hV;have j:=aQ B hb3;clear hV hb3;go_wp2_with fail;go_ret;exact⟨j.o,V,rfl,Y.o.mono B.o.size⟩
  |false=>
   go_wp2_with fail;go_ret;exact⟨B.o.alloc B.o.size _,_,rfl,(gH 2 (by omega)).mono B.o.size⟩
 ·have hlt:h<256:=by omega
  have hlt':(h:Int)<256:=by omega
  have hlt7:(h:Int)<257:=by omega
  have hgt:(0:Int)<(h:Int)+1:=by omega
  have hcast:(((h+1:Nat)):Int)=(h:Int)+1:=by omega
  have hwr:IntKind.i64.wrap ((h:Nat):Int)=(h:Int):=IntWalk.i64_in _ (by omega);obtain⟨P,O⟩:∃P,Hd (bT wk ks p h=P):=⟨_,rfl⟩;obtain⟨Nr,Q⟩:∃Nr,Hd (av wk p h=Nr):=⟨_,rfl⟩;have J:Hd (P.length=32/\IsB P):=by rw[<-O.o,fJ];exact⟨aw _ _,aY _ _⟩
  have L:Hd (Nr.length=32/\IsB Nr):=by rw[<-Q.o];exact aG U.o hlt
  have M:Hd (cY wk ks p (h+1)=aU wk (aI ks h P Nr).1 (aI ks h P Nr).2):=by rw[<-O.o,<-Q.o];rfl
  have C:=aa (fu (k:=ks) (h:=h) J.o.2 J.o.1 L.o.2 L.o.1);have c:Hd (gL<w.heap.size/\w.rangeAt gL (h*32) (bvs P)):=by rw[<-O.o];exact⟨T.o.1,T.o.2 h (by omega)⟩
  have d:Hd (gn<w.heap.size/\w.rangeAt gn (h*32) (bvs Nr)):=by rw[<-Q.o];exact⟨R.o.1,R.o.2 h (by omega)⟩
  rw[M.o,hcast];clear O Q M hH hcast a R T U;go_enter Tryz.func66,Tryz.ntmps66;go_upto_region 1with fail;refine bV (G:=fun w2=>Code.wp _ _ _ _ w2) fun w2 E I B i=>?_;have X:Hd (ar w2 w.heap.size 37 ks):=E;have N:Hd (eU w2 (w.heap.size+1) p.found (.slice va p.val.length vc) (.slice (some ⟨gn,0,none⟩) 256 cn)):=I;clear E I;have hup:=bE;have hszp:(Tryz.prog.info? 34).map (·.size)=some (bvs P).length:=by rw[ag];simp[bvs,J.o.1]
  have hszn:(Tryz.prog.info? 34).map (·.size)=some (bvs Nr).length:=by rw[ag];simp[bvs,L.o.1]
  have huk:=bW;have hszk:(Tryz.prog.info? 37).map (·.size)=some (bvs ks).length:=by rw[aB];simp[bvs,D.o.1]
  have Z:Hd (∀W,Below w2.heap.size w2 W->W.rangeAt w.heap.size 0 (bvs ks)/\W.rangeAt gL (h*32) (bvs P)/\W.rangeAt gn (h*32) (bvs Nr)/\W.cell? ⟨w.heap.size+1,2,none⟩=some (.slice (some ⟨gn,0,none⟩) 256 cn)):=fun W hb=>have hB:=B.o.trans (hb.mono B.o.size)
   ⟨ab.range (ab.below X.o hb),aV hB c.o.1 c.o.2,aV hB d.o.1 d.o.2,(ab.below N.o hb).cell 2⟩;go_upto_region 2with fail;go_cut[11,12]from 16to 36(fun s11 s12 wx=>∃a1 a2:Nat,s11= .pointer (some ⟨a1,0,none⟩)/\s12= .pointer (some ⟨a2,0,none⟩)/\Hd (Below w2.heap.size w2 wx)/\Hd (ar wx a1 34 (aI ks h P Nr).1)/\Hd (ar wx a2 34 (aI ks h P Nr).2))
  case first=>
   refine wp_region_held_drew (S:=fun w'=>w'.rangeAt w.heap.size 0 (bvs ks)/\w'.rangeAt gL (h*32) (bvs P)/\w'.rangeAt gn (h*32) (bvs Nr)/\w'.cell? ⟨w.heap.size+1,2,none⟩=some (.slice (some ⟨gn,0,none⟩) 256 cn)) (by kernel_rfl) (Z.o _ (af (Below.refl _ _) 1)) fun hH=>?_;have l:Hd (Below w2.heap.size w2 w2.drew):=af (Below.refl _ _) 1;generalize w2.drew=wd0 at*;refine tkl 0 ?_;refine tka 1 ?_;refine tka 2 ?_;refine tka 3 ?_;refine tka 4 ?_;refine tka 5 ?_;refine tka 6 ?_;refine tkl 7 ?_;refine tka 8 ?_;refine tka 9 ?_;refine tka 10 ?_;refine tka 11 ?_;refine tka 12 ?_;refine tkl 13 ?_;clear hup hszp hszn huk hszk;refine i9 14 30 15 31 32 11 12 w2 _ _ C.o.2.1 C.o.2.2.2 l.o Z.o (fun V w' A hb hA K hK=>?_) (fun V g1 g2 w' A hA e1 e2 hg hb h1 h2=>?_)
   ·simp only[fH,Act.put,LS]at hA;subst hA;go_simp;go_at_call 98;refine(om ks P Nr h w' D.o.2 D.o.1 J.o.2 J.o.1 L.o.2 L.o.1 hlt).mono ?_;rintro e y⟨rfl,hb1⟩;exact hK.out _ hb1
   ·simp only[fH,Act.put,LS]at hA;subst hA;go_wp2_with fail;go_meet
    case rel=>exact⟨g1,g2,e1,e2,hb,h1,h2⟩
  case rest=>
   obtain⟨a1,a2,rfl,rfl,m,n,q⟩:=hcut;clear Z hup hszp hszn huk hszk;have f:=aQ B m.o;go_wp2_with(first|((with_reducible refine atS 34 ?_);refine ac (by rfl) 34 (.tmp 11) rfl ⟨a1,0,none⟩ 32 (aI ks h P Nr).1 rfl (n.o.whole C.o.1 C.o.2.1) (by omega) (by kernel_rfl) (by kernel_rfl) ?_)|((with_reducible refine atS 35 ?_);refine ac (by rfl) 34 (.tmp 12) rfl ⟨a2,0,none⟩ 32 (aI ks h P Nr).2 rfl (q.o.whole C.o.2.2.1 C.o.2.2.2) (by omega) (by kernel_rfl) (by kernel_rfl) ?_));refine(jl wk _ _ wc C.o.1 C.o.2.1 C.o.2.2.1 C.o.2.2.2).mono ?_;rintro e w5⟨hb5,V,rfl,hV⟩;have Y:=aa hV;have r:=aQ f hb5;clear hV hb5;go_wp2_with fail;go_ret;exact⟨r.o,V,rfl,Y.o.mono f.o.size⟩
end Go.Proofs.YtfnlhfaihoojfaaGreatDoor
