/- Texts of the proof of ledgerlaw13.ClientPlays, part 21; no condition of its own. -/
import Derived.Test.YtfnlhfaihoojfaaGreatDoorS20
set_option maxRecDepth 100000
set_option maxHeartbeats 4000000
namespace Go.Proofs.YtfnlhfaihoojfaaGreatDoor
open Go.RowKit
theorem pn{w:World}{b o n:Nat}{xs:List Nat}(h:w.rangeAt b o (bvs xs))(hB:IsB xs)(hl:xs.length=n)(hb:b<w.heap.size):RB w (some ⟨b,o,none⟩) n xs:=⟨hl,hB,fun _=>⟨_,rfl,hb,fun j x hj=>by rw[add_lit];exact h j _ (by simp[bvs,hj,bv])⟩⟩
theorem sD{V:Nat->Prop}{w w':World}{b o:Nat}{cs:List Value}(ht:ae V w w')(h:w.rangeAt b o cs)(hb:b<w.heap.size)(hn:¬V b):w'.rangeAt b o cs:=fun j v hj=>by
 rw[World.cell?_of_block (w:=w) (a:=⟨b,o+j,none⟩) (ht.block b hb hn)];exact h j v hj
theorem ym(A:Option Addr)(N c:Nat)(X:Nat->Chg)(n:Nat)(w:World)(hx:ig w A N X)(hn:n<256)(hN:N<=1073741824):Calls Tryz.prog 54 #[.slice A N c, .int .i64 n] w fun e w'=>∃k:Nat,e= .returned (.int .i64 k)/\k<=N/\(∀i,i<k->cU (X i).key n=0)/\(k<N->cU (X k).key n≠0)/\Below w.heap.size w w':=by
 have I:=aa hx;clear hx;go_enter Tryz.func54,Tryz.ntmps54;go_wp2_with fail;go_loopw[5](fun i wr=>∃k:Nat,k<=N/\i= .int .i64 k/\Hd (∀i,i<k->cU (X i).key n=0)/\Hd (Below w.heap.size w wr))(fun i _=>N-(intOf i).toNat)
 case atStart=>exact⟨0,by omega,rfl,fun i hi=>by omega,Below.refl _ _⟩
 case round=>
  obtain⟨k,hk,rfl,B,D⟩:=hrel;by_cases hlt:k<N
  ·have hlt':(k:Int)<N:=by omega
   obtain⟨b,o,Av,C,rfl,hb,hr,hkB,hkl,_⟩:=(I.o.below D.o).2 k hlt;have J:=aa (pn (Dg hr) hkB hkl hb);have F:=aa (And.intro hkB hkl);have G:Hd (∀z,cU (X k).key n=z->(z=0->∀i,i<k+1->cU (X i).key n=0)/\(z≠0->cU (X k).key n≠0)):=fun z hz=>⟨fun h i hi=>by
    rcases Nat.lt_or_ge i k with h1|h1
    ·exact B.o i h1
    ·obtain rfl:i=k:=by omega
     rw[hz,h],fun h=>by rw[hz];exact h⟩;clear hb hr hkB hkl;go_wp2_with(refine iM (o:=⟨some 15,_,_,_,_,_⟩) (by rfl) 37 (.tmp 14) rfl ⟨b,o+k*33,none⟩ 32 (X k).key rfl J.o (by omega) fz aB ?_);refine(i7 (X k).key n wr F.o.1 F.o.2 hn).mono ?_;rintro e w1⟨rfl,hb1⟩;have H:=aQ D hb1;clear hb1;obtain⟨z,hz⟩:∃z,cU (X k).key n=z:=⟨_,rfl⟩;have E:=aa (G.o z hz);rw[hz];clear G hz;by_cases hz0:z=0
   ·subst hz0;go_wp2_with fail;go_roundw
    case rel=>exact⟨k+1,by omega,by go_num,E.o.1 trivial,H.o⟩
    case measure=>simp[intOf];omega
   ·have hz1:¬(z:Int)=0:=by omega
    have K:=aa (E.o.2 hz0);clear hz0 E;go_wp2_with fail;go_ret;exact⟨k,rfl,hk,B.o,fun _=>K.o,H.o⟩
  ·have hnlt:¬(k:Int)<N:=by omega
   go_wp2_with fail;go_ret;exact⟨k,rfl,hk,B.o,fun h=>absurd h hlt,D.o⟩
structure mf(w:World)(A:Option Addr)(N c:Nat)(X:Nat->Chg)(n:Nat):Prop where
 ents:ig w A N X
 le:N<=c
 few:N<=1073741824
 val:∀k,k<N->(X k).val.length<=128
 nodup:(br (lst X N)).Nodup
 sorted:dG (lst X N)
 share:wZ (lst X N) n
theorem mf.below{w w':World}{A:Option Addr}{N c n:Nat}{X:Nat->Chg}(h:mf w A N c X n)(hb:Below w.heap.size w w'):mf w' A N c X n:={h with ents:=h.ents.below hb}
theorem mf.two{w:World}{A:Option Addr}{N c h:Nat}{X:Nat->Chg}(hp:mf w A N c X (256-h))(hN:2<=N):0<h:=by
 rcases Nat.eq_zero_or_pos h with h0|h0
 ·exfalso;have h1:=su hp.ents.good hp.nodup (by have:=hp.share;rwa[h0]at this);rw[ez]at h1;omega
 ·exact h0
theorem mf.parts{w:World}{A:Option Addr}{N c h k:Nat}{X:Nat->Chg}(hp:mf w A N c X (255-h))(hh:h<256)(hk:k<=N)(h0:∀i,i<k->cU (X i).key (255-h)=0)(h1:k<N->cU (X k).key (255-h)≠0):jK (lst X N) h 0=lst X k/\jK (lst X N) h 1=lst (fun i=>X (k+i)) (N-k)/\mf w A k c X (256-h)/\∀B,(k<N->B=A.map (·.add (k*33)))->mf w B (N-k) (c-k) (fun i=>X (k+i)) (256-h):=by
 obtain⟨e1,e2⟩:=uZ (show 255-h<256by omega) hp.ents.good hp.sorted hp.share hk h0 h1;rw[show 255-(255-h)=h by omega]at e1 e2;refine⟨e1,e2,⟨hp.ents.take hk,Nat.le_trans hk hp.le,Nat.le_trans hk hp.few,fun i hi=>hp.val i (by omega),?_,?_,?_⟩,fun B hB=>⟨hp.ents.drop hk hB,Nat.sub_le_sub_right hp.le k,Nat.le_trans (Nat.sub_le _ _) hp.few,fun i hi=>hp.val _ (by omega),?_,?_,?_⟩⟩
 ·rw[<-e1];exact oa hp.nodup _ _
 ·rw[<-e1];exact nf hp.sorted _ _
 ·rw[<-e1];exact og hh hp.share _
 ·rw[<-e2];exact oa hp.nodup _ _
 ·rw[<-e2];exact nf hp.sorted _ _
 ·rw[<-e2];exact og hh hp.share _
theorem uV{P:Program}{w:World}{ops:Array Oper}{rest:List Oper}{o:Oper}{a:Act}{Q:Exit->Act->World->Prop}(hgd:o.guard=none)(t:TypeId)(x ix:Operand)(ho:o.op= .slice t x (some ix) none none)(ht:P.underlying t=some (.slice (P.elem t)))(hsz:(P.info? (P.elem t)).map (·.size)=some 33)(A:Option Addr)(m d k:Nat)(hx:a.eval x= .slice A m d)(hi:a.eval ix= .int .i64 (k:Int))(hk:k<=m)(hmd:m<=d)(h:∀B,Hd (k<m->B=A.map (·.add (k*33)))->wpList P ops Q rest (a.put o.dst (.slice B (m-k) (d-k))) w):wpList P ops Q (o::rest) a w:=by
 refine wpList_plain hgd fun K hK=>?_;have hs:(sizeOf (P.elem t)).run P w= .ok 33 w:=by
  cases hq:P.info? (P.elem t)with
  |none=>simp[hq]at hsz
  |some i=>
   have h1:i.size=33:=by simpa[hq]using hsz
   simp[sizeOf,typeInfo,hq,h1]
 have hrun:(Instr.sliceAt t (.slice A m d) (some (.int .i64 (k:Int))) none none).run P w= .ok (.slice (if d=k then A else A.map (·.add (k*33))) (m-k) (d-k)) w:=by
  rw[run_sliceAt_slice w t _ _ _ _ ht,run_slice_l w t A m d ht .i64 (k:Int) (by omega) (by omega),hs];simp only[Result.andThen_ok,sliced,Int.toNat_natCast]
 have h2:=h (if d=k then A else A.map (·.add (k*33))) (show _->_ from fun hlt=>if_neg (by omega));unfold Oper.wp execOp;simp only[ho,hx,hi,Option.map,Sem.run_bind,Sem.run_pure,hrun,Result.andThen_ok];exact hK _ _ h2
theorem uo:Tryz.prog.elem 49=48:=by kernel_rfl
theorem sC(wd:Int)(g c:Nat)(h:Nat):∀(A:Option Addr)(N cap:Nat)(X:Nat->Chg)(w:World),h<=256->wW w g wd->mf w A N cap X (256-h)->du w->Calls Tryz.prog 25 #[.int .i64 wd, .slice (some ⟨g,0,none⟩) 257 c, .slice A N cap, .int .i64 ((256-h:Nat):Int)] w fun e w'=>e= .returned (.agg (bvs (nJ wd h (lst X N))).toArray)/\Below w.heap.size w w':=by
 induction h using Nat.strongRecOn with
 |ind h ih=>
 intro A N cap X w hh hE hP hT;have U:=aa hE;have O:=aa hP;have E:=aa hT;have HI:=aa ih;have hsub:(256:Int)-((256-h:Nat):Int)=(h:Int):=by omega
 obtain⟨n,hn⟩:∃n,n=256-h:=⟨_,rfl⟩;have s:=aa hn;rw[<-hn]at hsub O⊢;have hh257:(h:Int)<257:=by omega
 obtain⟨R,F⟩:∃R,Hd (nJ wd h (lst X N)=R):=⟨_,rfl⟩;have H:Hd (R.length=32/\IsB R):=by rw[<-F.o];exact⟨(fh wd h _).1,(fh wd h _).2.1⟩
 rw[F.o];clear hE hP hT ih hn;go_enter Tryz.func25,Tryz.ntmps25;go_wp2_with(with_reducible refine atS 14 ?_);refine bh (G:=fun w2=>Hd (wpList _ _ _ _ _ w2)) fun w2 H1 I HS=>?_;have f:Hd (ar w2 w.heap.size 34 (zs 32)):=H1;clear H1;refine aa ?_;by_cases h0:N=0
 ·subst h0;have HH:=aa (pn ((U.o.below I.o).2 h (by omega)) (bu wd h) (al wd h) (U.o.below I.o).1);have Hh:Hd (ay wd h=R):=(pj wd h).symm.trans F.o;rw[Hh.o]at HH;go_wp2_with(first|((with_reducible refine atS 20 ?_);refine ac (by rfl) 34 (.tmp 19) rfl ⟨g,h*32,none⟩ 32 R rfl HH.o (by omega) (by kernel_rfl) (by kernel_rfl) ?_)|(refine aq (o:=⟨none,_,_,_,_,_⟩) (by rfl) 34 (.tmp 8) (.tmp 20) rfl 0 [] (bvs (zs 32)) (bvs R) [] rfl rfl (bj f.o) rfl (by simp[bvs,zs,H.o.1]) (by rw[ag];simp[bvs,H.o.1]) (fun u hu=>ah _ u hu) ?_;intro w9 h9 g9));exact bH rfl rfl (aN h9) H.o.1 aF ag rfl ⟨rfl,I.o.grown g9 I.o.size fun k hk=>by injection hk with hk;omega⟩
 by_cases h1:N=1
 ·subst h1;obtain⟨b,o,Av,Cv,rfl,hb,hr,hkB,hkl,hvr,hvC,hCm,hnil⟩:=O.o.ents.2 0 (by omega);have hvl:=O.o.val 0 (by omega);rw[show lst X 1=[X 0]from rfl,tH]at F;rw[Nat.zero_mul,Nat.add_zero]at hr;have J:=aa (And.intro hkl hkB);have HJ:=aa hvr;have HK:=aa hvl;have HR:=aa hr;have j:=aa hb;clear O hb hr hkB hkl hvr hvC hCm hnil hvl h0;generalize X 0=x at*;have L:Hd (∀W,Below w.heap.size w W->W.rangeAt b o (bvs x.key)/\W.cell? ⟨b,o+32,none⟩=some (.slice Av x.val.length Cv)):=fun W hb=>⟨Dg (aV hb j.o HR.o),EY (aV hb j.o HR.o) J.o.1⟩;have huk:=bW;have hszk:(Tryz.prog.info? 37).map (·.size)=some (bvs x.key).length:=by rw[aB];simp[bvs,J.o.1]
  go_upto_region 4with fail;go_cut[9]from 13(fun s9 wx=>∃B:Nat,s9= .pointer (some ⟨B,0,none⟩)/\Hd (Below w.heap.size w wx)/\Hd (ar wx B 34 (aZ wd (en x.key x.val)))/\Hd (ar wx w.heap.size 34 (zs 32))/\Hd (w.heap.size<B))
  case first=>
   refine wp_region_held_drew (S:=fun w'=>w'.rangeAt b o (bvs x.key)/\w'.cell? ⟨b,o+32,none⟩=some (.slice Av x.val.length Cv)) (by kernel_rfl) (L.o _ (af I.o 1)) fun hH=>?_;have M:Hd (Below w.heap.size w w2.drew):=af I.o 1;have t:Hd (ar w2.drew w.heap.size 34 (zs 32)):=f;generalize w2.drew=w0 at*;refine tka 0 ?_;refine tka 1 ?_;refine tka 2 ?_;refine tka 3 ?_;refine tkl 4 ?_;refine tka 5 ?_;refine tka 6 ?_;refine tka 7 ?_;refine tka 8 ?_;refine wpAnyH_ready (rs:=[9,10]) (by kernel_rfl) (by simp) ?_;refine AllReadyH.cons rfl (fun K hK=>?_) (.cons rfl (fun K hK=>?_) .nil)
   ·go_simp;go_at_call 52;refine(mU wd x.key Av x.val.length Cv x.val w0 J.o.2 J.o.1 (HJ.o.below M.o) (by have:=HK.o;omega) ⟨E.o.1.below M.o,E.o.2.below M.o⟩).mono ?_;rintro e y1⟨rfl,hb1⟩;have HL:=aQ M hb1;have HN:=dA t hb1;refine hK.out _ _ (L.o _ HL.o) (fun hH=>?_);clear hK hb1;refine rdy 10 fun K hK=>?_;refine dC (o:=⟨some 9,_,_,_,_,_⟩) (by rfl) 34 rfl _ _ aD ?_;intro y2 hz2 hb2 hs2;have hb2:=hb2.o;have v:=aQ HL hb2;have Hi:=dA HN hb2;have Hj:Hd (ar y2 y1.heap.size 34 (zs 32)):=hz2.o;have y:Hd (w.heap.size<y1.heap.size):=HN.o.lt;refine hK.out _ _ (L.o _ v.o) (fun hH=>?_);clear hK hb2;refine rdy 11 fun K hK=>?_;refine aA (o:=⟨none,_,_,_,_,_⟩) (by rfl) 34 (.tmp 9) (.tmp 33) rfl 0 [] (bvs (zs 32)) (bvs (aZ wd (en x.key x.val))) [] rfl rfl (bj Hj.o) rfl (by simp[bvs,zs,aw]) (by rw[ag];simp[bvs,aw]) (fun u hu=>ah _ u hu) ?_;intro z1 hz1 gz1;have V:Hd (Below w.heap.size w z1):=v.o.grown gz1 v.o.size fun k hk=>by injection hk with hk;have:=y.o;omega
    have z:Hd (ar z1 w.heap.size 34 (zs 32)):=(ae.one gz1).blk Hi.o (by have:=y.o;omega);refine hK.out _ _ (L.o _ V.o) (fun hH=>?_);clear hK;refine bN ?_;go_wp2_with fail;go_meet
    case rel=>exact⟨y1.heap.size,rfl,V.o,aN hz1,z.o,y.o⟩
   ·refine dC (o:=⟨some 9,_,_,_,_,_⟩) (by rfl) 34 rfl _ _ aD ?_;intro y3 hz3 hb3 hs3;have hb3:=hb3.o;have Y:=aQ M hb3;have Hk:=dA t hb3;have Hl:Hd (ar y3 w0.heap.size 34 (zs 32)):=hz3.o;have Hm:Hd (w.heap.size<w0.heap.size):=t.o.lt;refine hK.out _ _ (L.o _ Y.o) (fun hH=>?_);clear hK hb3;refine rdy 9 fun K hK=>?_;go_simp;go_at_call 52;refine(mU wd x.key Av x.val.length Cv x.val y3 J.o.2 J.o.1 (HJ.o.below Y.o) (by have:=HK.o;omega) ⟨E.o.1.below Y.o,E.o.2.below Y.o⟩).mono ?_;rintro e y4⟨rfl,hb4⟩;have HA:=aQ Y hb4;have Hn:=dA Hk hb4;have Ho:=dA Hl hb4;have HB:Hd (w.heap.size<w0.heap.size):=Hm.o;refine hK.out _ _ (L.o _ HA.o) (fun hH=>?_);clear hK hb4;refine rdy 11 fun K hK=>?_;refine aA (o:=⟨none,_,_,_,_,_⟩) (by rfl) 34 (.tmp 9) (.tmp 33) rfl 0 [] (bvs (zs 32)) (bvs (aZ wd (en x.key x.val))) [] rfl rfl (bj Ho.o) rfl (by simp[bvs,zs,aw]) (by rw[ag];simp[bvs,aw]) (fun u hu=>ah _ u hu) ?_;intro z1 hz1 gz1;have V:Hd (Below w.heap.size w z1):=HA.o.grown gz1 HA.o.size fun k hk=>by injection hk with hk;have:=HB.o;omega
    have z:Hd (ar z1 w.heap.size 34 (zs 32)):=(ae.one gz1).blk Hn.o (by have:=HB.o;omega);refine hK.out _ _ (L.o _ V.o) (fun hH=>?_);clear hK;refine bN ?_;go_wp2_with fail;go_meet
    case rel=>exact⟨w0.heap.size,rfl,V.o,aN hz1,z.o,HB.o⟩
  case rest=>
   obtain⟨B,rfl,C,HO,l,Hp⟩:=hcut;obtain⟨w3,rfl⟩:∃x,x=wc:=⟨_,rfl⟩;have HQ:=aa (fun W hb=>vu g c wd x.key (aZ wd (en x.key x.val)) h W (U.o.below hb) hh J.o.2 J.o.1 (aY _ _) (aw _ _) (jE _ _) ⟨E.o.1.below hb,E.o.2.below hb⟩);have Hq:=aa (And.intro (aw wd (en x.key x.val)) (aY wd (en x.key x.val)));rw[F.o]at HQ;generalize aZ wd (en x.key x.val)=D at*;have hwr:IntKind.i64.wrap ((h:Nat):Int)=(h:Int):=IntWalk.i64_in _ (by omega);have hud:=bE;have hszd:(Tryz.prog.info? 34).map (·.size)=some (bvs D).length:=by rw[ag];simp[bvs,Hq.o.1]
   go_upto_region 5with fail;have HC:Hd (∀W,Below w3.heap.size w3 W->W.rangeAt b o (bvs x.key)/\W.rangeAt B 0 (bvs D)):=fun W hb=>⟨(L.o W (C.o.trans (hb.mono C.o.size))).1,ab.range (ab.below HO.o hb)⟩;refine wp_region_held_drew (S:=fun w'=>w'.rangeAt b o (bvs x.key)/\w'.rangeAt B 0 (bvs D)) (by kernel_rfl) (HC.o _ (af (Below.refl _ _) 1)) fun hH=>?_;have M:Hd (Below w3.heap.size w3 w3.drew):=af (Below.refl _ _) 1;generalize w3.drew=w4 at*;refine tka 0 ?_;refine tka 1 ?_;refine tka 2 ?_;refine tka 3 ?_;refine tka 4 ?_;refine tkl 5 ?_;refine tkl 6 ?_;refine tka 7 ?_;refine tka 8 ?_;clear hH huk hszk hud hszd hwr;refine rdy 9 fun K hK=>?_;go_simp;go_at_call 53;refine(HQ.o w4 (C.o.trans (M.o.mono C.o.size))).mono ?_;rintro e w5⟨rfl,hb5⟩;have P:=aQ M hb5;refine hK.out _ _ (HC.o _ P.o) (fun hH=>?_);clear hK hb5;refine rdy 10 fun K hK=>?_;refine aA (o:=⟨none,_,_,_,_,_⟩) (by rfl) 34 (.tmp 8) (.tmp 43) rfl 0 [] (bvs (zs 32)) (bvs R) [] rfl rfl (bj (ab.below l.o P.o)) rfl (by simp[bvs,zs,H.o.1]) (by rw[ag];simp[bvs,H.o.1]) (fun u hu=>ah _ u hu) ?_;intro w6 h6 g6;refine hK.out _ _ ⟨sD (ae.one g6) (HC.o _ P.o).1 (by have:=j.o;have:=C.o.size;have:=P.o.size;omega) (by have:=j.o;omega),ab.range ((ae.one g6).blk (ab.below HO.o P.o) (by have:=Hp.o;omega))⟩ (fun hH=>?_);clear hK hH;refine bN ?_;go_wp2_with fail;exact bH rfl rfl (aN h6) H.o.1 aF ag rfl ⟨rfl,(C.o.trans (P.o.mono C.o.size)).grown g6 (Nat.le_trans C.o.size P.o.size) fun k hk=>by injection hk with hk;omega⟩
 ·have hN2:2<=N:=by omega
  have h00:¬(N:Int)=0:=by omega
  have h11:¬(N:Int)=1:=by omega
  have hp0:0<h:=mf.two (h:=h) (by rw[<-s.o];exact O.o) hN2;obtain⟨m,hm⟩:∃m,h=m+1:=⟨h-1,by omega⟩;have hnm:n=255-m:=by rw[s.o];omega
  have HD:=O.o;rw[hnm]at HD;have hm256:m<256:=by omega
  have hsn:((255-m:Nat):Int)+1=((256-m:Nat):Int):=by omega
  have HU:=aa hsn;have Z:=aa HD;have HM:=aa hm;rw[hm,mO]at F;subst hnm;clear O HD hm hp0 h0 h1 hsub hsn s hh257 hN2;go_wp2_with fail;refine(ym A N cap X (255-m) w2 (Z.o.ents.below I.o) (by omega) Z.o.few).mono ?_;rintro e w3⟨k,rfl,hk,hz,hnz,hb3⟩;obtain⟨s1,s2,p1,p2⟩:=Z.o.parts hm256 hk hz hnz;rw[s1,s2]at F;have Hr:=aa p1;have Hs:=aa p2;have C:=aQ I hb3;have l:=dA f hb3;have hkc:k<=cap:=Nat.le_trans hk Z.o.le;have HV:=aa (And.intro hk Z.o.le);clear hz hnz hb3 s1 s2 p1 p2 f;go_wp2_with fail;rw[HU.o];have hmh:m<h:=by have:=HM.o;omega
  refine(HI.o m hmh A k cap X w3 (by omega) (U.o.below C.o) (Hr.o.below C.o) ⟨E.o.1.below C.o,E.o.2.below C.o⟩).mono ?_;rintro e w4⟨rfl,hb4⟩;have Q:=aa (fh wd m (lst X k));obtain⟨D1,Ht⟩:∃D,Hd (nJ wd m (lst X k)=D):=⟨_,rfl⟩;rw[Ht.o]at F Q⊢;have p:=aQ C hb4;have HF:=dA l hb4;have HX:Hd (w.heap.size<w4.heap.size):=HF.o.lt;clear hb4 l;go_wp2_with(first|((with_reducible refine atS 11 ?_);refine aC (by rfl) 34 rfl _ _ aD ?_;intro w5 HY q Hu)|(refine aq (o:=⟨none,_,_,_,_,_⟩) (by rfl) 34 (.tmp 11) (.tmp 54) rfl 0 [] (bvs (zs 32)) (bvs D1) [] rfl rfl (bj HY.o) rfl (by simp[bvs,zs,Q.o.1]) (by rw[ag];simp[bvs,Q.o.1]) (fun u hu=>ah _ u hu) ?_;intro w6 h6 g6)|((with_reducible refine atS 59 ?_);refine uV rfl 49 (.tmp 57) (.tmp 58) rfl (by rw[uo];exact xz) (by rw[uo];exact AZ) A N cap k rfl rfl HV.o.1 HV.o.2 ?_;intro A2 Hv));have a:Hd (Below w.heap.size w w6):=(p.o.trans (q.o.mono p.o.size)).grown g6 (Nat.le_trans p.o.size q.o.size) fun k hk=>by injection hk with hk;have:=p.o.size;omega
  have HZ:Hd (ar w6 w.heap.size 34 (zs 32)):=(ae.one g6).blk (ab.below HF.o q.o) (by have:=HX.o;omega);have Ha:Hd (ar w6 w4.heap.size 34 D1):=aN h6;clear h6 g6 HY q Hu HF;rw[HU.o];refine(HI.o m hmh A2 (N-k) (cap-k) (fun i=>X (k+i)) w6 (by omega) (U.o.below a.o) ((Hs.o A2 Hv.o).below a.o) ⟨E.o.1.below a.o,E.o.2.below a.o⟩).mono ?_;rintro e w7⟨rfl,hb7⟩;have T:=aa (fh wd m (lst (fun i=>X (k+i)) (N-k)));obtain⟨D2,Hw⟩:∃D,Hd (nJ wd m (lst (fun i=>X (k+i)) (N-k))=D):=⟨_,rfl⟩;rw[Hw.o]at F T⊢;have r:=aQ a hb7;have Hb:=dA HZ hb7;have Hc:=dA Ha hb7;have He:Hd (w4.heap.size<w7.heap.size):=Hc.o.lt;clear hb7 HZ Ha;go_wp2_with(first|((with_reducible refine atS 12 ?_);refine aC (by rfl) 34 rfl _ _ aD ?_;intro w8 Hf d Hx)|(refine aq (o:=⟨none,_,_,_,_,_⟩) (by rfl) 34 (.tmp 12) (.tmp 62) rfl 0 [] (bvs (zs 32)) (bvs D2) [] rfl rfl (bj Hf.o) rfl (by simp[bvs,zs,T.o.1]) (by rw[ag];simp[bvs,T.o.1]) (fun u hu=>ah _ u hu) ?_;intro w9 h9 g9;have Hy:Hd (ar w9 w4.heap.size 34 D1):=(ae.one g9).blk (ab.below Hc.o d.o) (by have:=He.o;omega);have Hz:Hd (ar w9 w7.heap.size 34 D2):=aN h9)|((with_reducible refine atS 64 ?_);refine ac (by rfl) 34 (.tmp 11) rfl ⟨w4.heap.size,0,none⟩ 32 D1 rfl (Hy.o.whole Q.o.2.1 Q.o.1) (by omega) (by kernel_rfl) (by kernel_rfl) ?_)|((with_reducible refine atS 65 ?_);refine ac (by rfl) 34 (.tmp 12) rfl ⟨w7.heap.size,0,none⟩ 32 D2 rfl (Hz.o.whole T.o.2.1 T.o.1) (by omega) (by kernel_rfl) (by kernel_rfl) ?_));have HG:Hd (Below w.heap.size w w9):=(r.o.trans (d.o.mono r.o.size)).grown g9 (Nat.le_trans r.o.size d.o.size) fun k hk=>by injection hk with hk;have:=r.o.size;omega
  have H0:Hd (ar w9 w.heap.size 34 (zs 32)):=(ae.one g9).blk (ab.below Hb.o d.o) (by have:=HX.o;have:=He.o;omega);clear h9 g9 Hf d Hx Hb;refine(dK wd D1 D2 w9 Q.o.2.1 Q.o.1 T.o.2.1 T.o.1 ⟨E.o.1.below HG.o,E.o.2.below HG.o⟩).mono ?_;rintro e w10⟨rfl,hb10⟩;rw[F.o];have H2:=dA H0 hb10;have Hg:=aQ HG hb10;clear hb10;go_wp2_with(refine aq (o:=⟨none,_,_,_,_,_⟩) (by rfl) 34 (.tmp 8) (.tmp 66) rfl 0 [] (bvs (zs 32)) (bvs R) [] rfl rfl (bj H2.o) rfl (by simp[bvs,zs,H.o.1]) (by rw[ag];simp[bvs,H.o.1]) (fun u hu=>ah _ u hu) ?_;intro w11 h11 g11);exact bH rfl rfl (aN h11) H.o.1 aF ag rfl ⟨rfl,Hg.o.grown g11 Hg.o.size fun k hk=>by injection hk with hk;omega⟩
theorem yy(wd:Int)(A:Option Addr)(N cap:Nat)(X:Nat->Chg)(w:World)(hP:mf w A N cap X 0)(hT:du w):Calls Tryz.prog 7 #[.int .i64 wd, .slice A N cap] w fun e w'=>e= .returned (.agg (bvs (nJ wd 256 (lst X N))).toArray)/\Below w.heap.size w w':=by
 have L:=aa hP;have B:=aa hT;have C:=aa (fh wd 256 (lst X N));obtain⟨R,H⟩:∃R,Hd (nJ wd 256 (lst X N)=R):=⟨_,rfl⟩;rw[H.o]at C⊢;clear hP hT;go_enter Tryz.func7,Tryz.ntmps7;go_wp2_with fail;refine bh (G:=fun w2=>Calls _ _ _ w2 _) fun w2 I E Q=>?_;have J:Hd (ar w2 w.heap.size 34 (zs 32)):=I;clear I;refine(ep wd w2 ⟨B.o.1.below E.o,B.o.2.below E.o⟩).mono ?_;rintro e w3⟨g,c,rfl,hE,_,_,hb3⟩;have M:=aa hE;have D:=aQ E hb3;have O:=dA J hb3;have F:=aa (sC wd g c 256 A N cap X w3 (by omega) M.o (L.o.below D.o) ⟨B.o.1.below D.o,B.o.2.below D.o⟩);rw[show((256-256:Nat):Int)=0from rfl]at F;rw[H.o]at F;clear hE hb3 J;go_wp2_with fail;refine F.o.mono ?_;rintro e w4⟨rfl,hb4⟩;have K:=aQ D hb4;have P:=dA O hb4;clear hb4;go_wp2_with(refine aq (o:=⟨none,_,_,_,_,_⟩) (by rfl) 34 (.tmp 4) (.tmp 11) rfl 0 [] (bvs (zs 32)) (bvs R) [] rfl rfl (bj P.o) rfl (by simp[bvs,zs,C.o.1]) (by rw[ag];simp[bvs,C.o.1]) (fun u hu=>ah _ u hu) ?_;intro w11 h11 g11);exact bH rfl rfl (aN h11) C.o.1 aF ag rfl ⟨rfl,K.o.grown g11 K.o.size fun k hk=>by injection hk with hk;omega⟩
theorem vH{v:Nat}(h:v<256):jT v=v%2+jT (v/2):=by
 unfold jT;omega
theorem yE(ds:List Nat)(w:World)(hB:IsB ds)(hl:ds.length=32):Calls Tryz.prog 125 #[.agg (bvs ds).toArray] w fun e w'=>e= .returned (.int .i64 (cW ds:Nat))/\Below w.heap.size w w':=by
 have B:=aa (And.intro hl hB);obtain⟨F,A⟩:∃F:Nat->Nat,Hd (F 0=0/\(∀v,v<256->F v=v%2+F (v/2))/\(∀v,F v<=8)/\∀k,k<ds.length->cW (ds.take (k+1))=cW (ds.take k)+F (ds.getD k 0)):=⟨jT,rfl,fun v h=>vH h,pp,fun k h=>ou h⟩;clear hB hl;go_enter Tryz.func125,Tryz.ntmps125;go_wp2_with fail;refine bh (G:=fun w2=>Code.wp _ _ _ _ w2) fun w2 E I N=>?_;have J:Hd (ar w2 w.heap.size 33 ds):=E;clear E;go_loopw[3,4,5](fun n i _ wr=>∃k:Nat,k<=32/\i= .int .i64 k/\n= .int .i64 (cW (ds.take k):Nat)/\wr=w2)(fun _ i _ _=>32-(intOf i).toNat)
 case atStart=>exact⟨0,by omega,rfl,rfl,rfl⟩
 case round=>
  obtain⟨k,hk,rfl,rfl,rfl⟩:=hrel;by_cases hlt:k<32
  ·have hlt':(k:Int)<32:=by omega
   have hk32:k<ds.length:=by rw[B.o.1];exact hlt
   have hc:wr.cell? ⟨w.heap.size,k,none⟩=some (.int .u8 (ds.getD k 0:Nat)):=ar.cell J.o hk32;have hx8:ds.getD k 0<256:=B.o.2 _ (bL hk32);have H:Hd (cW (ds.take (k+1))=cW (ds.take k)+F (ds.getD k 0)):=A.o.2.2.2 k hk32;have h1:=iy (ds:=ds.take k);have h2:(ds.take k).length<=32:=by rw[List.length_take];omega
   have h3:((cW (ds.take k):Nat):Int)<=256:=by omega
   have h4:=A.o.2.2.1 (ds.getD k 0);clear h1 h2 hk32 hlt;obtain⟨m,hm⟩:∃m,cW (ds.take k)=m:=⟨_,rfl⟩;rw[hm]at H h3⊢;clear hm;generalize ds.getD k 0=x at*;go_wp2_with fail;go_loopw[3,5](fun n v wr'=>∃a b:Nat,b<256/\v= .int .i64 b/\n= .int .i64 a/\a+F b=m+F x/\wr'=wr)(fun _ v _=>(intOf v).toNat)
   case atStart=>exact⟨m,x,hx8,rfl,rfl,rfl,rfl⟩
   case round=>
    obtain⟨a,b,hb,rfl,rfl,hab,rfl⟩:=hrel;have h5:=A.o.2.2.1 b;have ha:(a:Int)<=300:=by omega
    by_cases hb0:b=0
    ·subst hb0;have hz:F 0=0:=A.o.1;rw[hz,Nat.add_zero]at hab;have C:=aa hab;clear hab hz h5;go_wp2_with fail;go_roundw
     case rel=>exact⟨k+1,by omega,by go_num,by rw[H.o,<-C.o],trivial⟩
     case measure=>simp[intOf];omega
    ·have hb1:(0:Int)<(b:Int):=by omega
     have K:=aa (A.o.2.1 b hb);have C:=aa hab;obtain⟨Q,hQ⟩:∃Q,(b:Int).tdiv 2=Q:=⟨_,rfl⟩;obtain⟨R,hR⟩:∃R,(b:Int).tmod 2=R:=⟨_,rfl⟩;have hq:Q=((b/2:Nat):Int):=by rw[<-hQ,Int.tdiv_eq_ediv_of_nonneg (by omega)];omega
     have hr:R=((b%2:Nat):Int):=by rw[<-hR,Int.tmod_eq_emod_of_nonneg (by omega)];omega
     have D:Hd (Q=((b/2:Nat):Int)/\b/2<256/\b/2<b):=⟨hq,by omega,by omega⟩;have L:=aa hr;have hQ0:0<=Q:=by omega
     have hQ1:Q<=255:=by omega
     have hR0:0<=R:=by omega
     have hR1:R<=1:=by omega
     clear hab h5 hb0 hq hr;go_wp2_with fail;go_roundw
     case rel=>exact⟨a+b%2,b/2,D.o.2.1,by rw[<-D.o.1],by have h7:=L.o;push_cast at h7⊢;rw[<-h7],by have:=K.o;have:=C.o;omega,trivial⟩
     case measure=>
      have h8:=D.o;have h9:wrap64 Q=Q:=by unfold wrap64;omega
      simp[intOf];omega
  ·have hnlt:¬(k:Int)<32:=by omega
   have M:Hd (ds.take k=ds):=List.take_of_length_le (by rw[B.o.1];omega);rw[M.o];go_wp2_with fail;go_ret;exact⟨rfl,I.o⟩
end Go.Proofs.YtfnlhfaihoojfaaGreatDoor
