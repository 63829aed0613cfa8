/- Texts of the proof of ledgerlaw13.ClientPlays, part 36; no condition of its own. -/
import Derived.Test.YtfnlhfaihoojfaaGreatDoorS31
import Derived.Test.YtfnlhfaihoojfaaGreatDoorS35
set_option maxRecDepth 100000
set_option maxHeartbeats 4000000
namespace Go.Proofs.YtfnlhfaihoojfaaGreatDoor
open Go.RowKit
theorem rq(wd:Int)(rs ks xs ys:List Nat)(A:Option Addr)(n k:Nat)(A2:Option Addr)(n2 k2:Nat)(w:World)(hr:rs.length=32)(hrB:IsB rs)(hk:ks.length=32)(hkB:IsB ks)(hx:RB w A n xs)(hnc:n<=k)(hn:n<=140737488355328)(hx2:RB w A2 n2 ys)(hnc2:n2<=k2)(hn2:n2<=140737488355328)(ht:du w):Calls Tryz.prog 33 #[.int .i64 wd, .agg (bvs rs).toArray, .agg (bvs ks).toArray, .slice A n k, .slice A2 n2 k2] w (je wd rs ks xs ys w):=by
 have H:=aa (And.intro hr hrB);have C:=aa (And.intro hk hkB);have S:=aa hx;have U:=aa hx2;have l:=aa (And.intro (And.intro hnc hn) (And.intro hnc2 hn2));have M:=aa ht;clear hr hrB hk hkB hx hnc hn hx2 hnc2 hn2 ht;have hc1:∀W,RB W A n xs->∀c,(convert 36 9 (.slice A n c)).run Tryz.prog W= .ok (.string (kf xs)) W:=fun W hW=>dn 36 9 5 ax (by kernel_rfl) (by kernel_rfl) hW;have hc2:∀W,RB W A2 n2 ys->∀c,(convert 36 9 (.slice A2 n2 c)).run Tryz.prog W= .ok (.string (kf ys)) W:=fun W hW=>dn 36 9 5 ax (by kernel_rfl) (by kernel_rfl) hW;have h3:=rP S.o.2.1 U.o.2.1;have HC:=aa hc1;have HD:=aa hc2;clear hc1 hc2;generalize kf xs=s1 at*;generalize kf ys=s2 at*;by_cases hw:1<=wd/\wd<=32
 ·obtain⟨wk,rfl⟩:∃wk:Nat,wd=wk:=⟨wd.toNat,by omega⟩;have r:Hd (1<=wk/\wk<=32):=by obtain⟨h1,h2⟩:=hw;exact⟨by omega,by omega⟩
  have hd:=decide_eq_true hw;clear hw;go_enter Tryz.func33,Tryz.ntmps33;go_upto_region 1with fail;refine bV (G:=fun w2=>Code.wp _ _ _ _ w2) fun w2 E F I HS=>?_;have HV:Hd (ar w2 w.heap.size 34 rs):=E;have HY:Hd (ar w2 (w.heap.size+1) 37 ks):=F;clear E F;go_wp2_with fail;refine(dJ wk w2).mono ?_;rintro e w2'⟨rfl,rfl⟩;rw[hd];have hc1:=HC.o w2' (S.o.below I.o);have hc2:=HD.o w2' (U.o.below I.o);by_cases hxy:xs=ys
  ·rw[decide_eq_true hxy]at h3;go_wp2_with fail;go_ret3;exact⟨I.o,fun _=>rfl,fun _ _ h=>absurd hxy h⟩
  ·rw[decide_eq_false hxy]at h3;have HZ:=aa hxy;clear hxy;go_wp2_with fail;clear h3 hc1 hc2 hd HC HD;refine(ep wk w2' ⟨M.o.1.below I.o,M.o.2.below I.o⟩).mono ?_;rintro e w3⟨g,c,rfl,hE,hg,hc,hb3⟩;have HE:=aa hE;have X:=aQ I hb3;have HF:=aa (HV.o.later hb3);have HG:=aa (HY.o.later hb3);clear hE hg hc hb3 HV HY;go_wp2_with(first|((with_reducible refine atS 38 ?_);refine ac (by rfl) 34 (.tmp 6) rfl ⟨w.heap.size,0,none⟩ 32 rs rfl (HF.o.whole H.o.2 H.o.1) (by omega) (by kernel_rfl) (by kernel_rfl) ?_)|((with_reducible refine atS 39 ?_);refine ac (by rfl) 37 (.tmp 7) rfl ⟨w.heap.size+1,0,none⟩ 32 ks rfl (HG.o.whole C.o.2 C.o.1) (by omega) (by kernel_rfl) (by kernel_rfl) ?_));refine(fi wk g c rs ks A n k xs w3 HE.o r.o.1 r.o.2 H.o.2 H.o.1 C.o.2 C.o.1 (S.o.below X.o) l.o.1.1 l.o.1.2 ⟨M.o.1.below X.o,M.o.2.below X.o⟩).mono ?_;rintro e w4⟨hh,hb4⟩;obtain⟨f,V,N,L,rfl,hV1,hN1,hall⟩:=hh.all;obtain⟨E1,Y⟩:∃E1,Hd (dj wk rs ks xs=E1):=⟨_,rfl⟩;rw[Y.o]at hall⊢;have t:=aa hall;have Hk:=aQ X hb4;have Ha:=aa (HE.o.below hb4);have Hb:=aa (HF.o.later hb4);have HH:=aa (HG.o.later hb4);have HI:=aa (And.intro hV1 hN1);have Hr:Hd (w.heap.size<=w3.heap.size):=X.o.size;clear hall hb4 hh hV1 hN1 HF HG HE;go_wp2_with(first|((with_reducible refine atS 14 ?_);refine dU (s:=⟨none,_,_,_,_,_⟩) (by rfl) (by rfl) 112 rfl (.tmp 14) (.tmp 42) rfl (spC false noV noV) (spC f V N) 3 cO rfl rfl rfl rfl (dE HI.o.1 HI.o.2) ?_;intro w5 Hc O Hl;(try simp only[Act.put,LS]))|((with_reducible refine atS 48 ?_);refine ac (by rfl) 34 (.tmp 6) rfl ⟨w.heap.size,0,none⟩ 32 rs rfl ((Hb.o.later O.o).whole H.o.2 H.o.1) (by omega) (by kernel_rfl) (by kernel_rfl) ?_)|((with_reducible refine atS 49 ?_);refine ac (by rfl) 37 (.tmp 7) rfl ⟨w.heap.size+1,0,none⟩ 32 ks rfl ((HH.o.later O.o).whole C.o.2 C.o.1) (by omega) (by kernel_rfl) (by kernel_rfl) ?_));have Z:=aQ Hk O.o;refine(fi wk g c rs ks A2 n2 k2 ys w5 (Ha.o.below O.o) r.o.1 r.o.2 H.o.2 H.o.1 C.o.2 C.o.1 (U.o.below Z.o) l.o.2.1 l.o.2.2 ⟨M.o.1.below Z.o,M.o.2.below Z.o⟩).mono ?_;rintro e w6⟨hh,hb6⟩;obtain⟨f2,V2,N2,L2,rfl,hV2,hN2,hall2⟩:=hh.all;obtain⟨E2,HJ⟩:∃E2,Hd (dj wk rs ks ys=E2):=⟨_,rfl⟩;rw[HJ.o]at hall2⊢;have v:=aa hall2;have a:=aQ O hb6;have P:=aQ Z hb6;have He:=aa (HH.o.later a.o);have Hf:Hd (eU w6 w4.heap.size f V N):=ab.below Hc.o hb6;have b:=aa (And.intro hV2 hN2);clear hall2 hh hV2 hN2 Hb HH Ha Hc Hl;by_cases hE1:E1=0
   ·by_cases hE2:E2=0
    ·obtain⟨p,va,vc,gn,cn,gL,cL,q1,q2,q3,q4,rfl,rfl,rfl,rfl,q5,q6,q7,q8⟩:=t.o hE1;obtain⟨q,va2,vc2,gn2,cn2,gL2,cL2,r1,r2,r3,r4,rfl,rfl,rfl,rfl,r5,r6,r7,r8⟩:=v.o hE2;subst hE1 hE2;have Q:Hd (p.Ok/\q.Ok):=⟨q4 S.o.2.1,r4 U.o.2.1⟩;have R:=aa (And.intro (And.intro q1 q2) (And.intro r1 r2));have hv1:=(q5.below a.o).reads;have hn1:=q6.below a.o;have hl1:=q7.below a.o;have hlt1:Hd (∀k,k<257->w6.rangeAt gL (k*32) (bvs (bT wk ks p k))):=fun k hk=>hl1.range (fun j hj=>(dL _ _ _ _).1) hk;have hlt2:Hd (∀k,k<257->w6.rangeAt gL2 (k*32) (bvs (bT wk ks q k))):=fun k hk=>r7.range (fun j hj=>(dL _ _ _ _).1) hk;have E:Hd (RB w6 va p.val.length p.val/\cX w6 gn (av wk p)/\gL<w6.heap.size/\∀k,k<257->w6.rangeAt gL (k*32) (bvs (bT wk ks p k))):=⟨hv1,⟨(hn1.lt rfl).2,fun k hk=>hn1.range (fun j hj=>(aG Q.o.1 hj).1) hk⟩,(hl1.lt rfl).2,hlt1.o⟩;have F:Hd (RB w6 va2 q.val.length q.val/\cX w6 gn2 (av wk q)/\gL2<w6.heap.size/\∀k,k<257->w6.rangeAt gL2 (k*32) (bvs (bT wk ks q k))):=⟨r5.reads,⟨(r6.lt rfl).2,fun k hk=>r6.range (fun j hj=>(aG Q.o.2 hj).1) hk⟩,(r7.lt rfl).2,hlt2.o⟩;clear q1 q2 q3 q4 q5 q6 q7 q8 r1 r2 r3 r4 r5 r6 r7 r8 hv1 hn1 hl1 hlt1 hlt2 t v HI b hb6;go_wp2_with(first|((with_reducible refine atS 17 ?_);refine dU (s:=⟨none,_,_,_,_,_⟩) (by rfl) (by rfl) 112 rfl (.tmp 17) (.tmp 52) rfl (spC false noV noV) (spC q.found _ _) 3 cO rfl rfl rfl rfl (dE rfl rfl) ?_;intro w7 HL D HN;(try simp only[Act.put,LS])));have HO:=aQ P D.o;have Hg:=aa (He.o.later D.o);have Hm:Hd (eU w7 w4.heap.size p.found (.slice va p.val.length vc) (.slice (some ⟨gn,0,none⟩) 256 cn)):=ab.below Hf.o D.o;have Hh:Hd (w.heap.size<=w7.heap.size):=HO.o.size;have HP:Hd (∀W,Below w7.heap.size w7 W->RB W va p.val.length p.val/\cX W gn (av wk p)/\gL<W.heap.size/\∀k,k<257->W.rangeAt gL (k*32) (bvs (bT wk ks p k))):=fun W h=>have hb:=D.o.trans (h.mono D.o.size)
      ⟨E.o.1.below hb,E.o.2.1.below hb,Nat.lt_of_lt_of_le E.o.2.2.1 hb.size,fun k hk=>aV hb E.o.2.2.1 (E.o.2.2.2 k hk)⟩;have HQ:Hd (∀W,Below w7.heap.size w7 W->RB W va2 q.val.length q.val/\cX W gn2 (av wk q)/\gL2<W.heap.size/\∀k,k<257->W.rangeAt gL2 (k*32) (bvs (bT wk ks q k))):=fun W h=>have hb:=D.o.trans (h.mono D.o.size)
      ⟨F.o.1.below hb,F.o.2.1.below hb,Nat.lt_of_lt_of_le F.o.2.2.1 hb.size,fun k hk=>aV hb F.o.2.2.1 (F.o.2.2.2 k hk)⟩;clear E F D HN Hf He P a O Z;go_loopw[20](fun i wr=>∃h:Nat,h<=257/\i= .int .i64 ((h:Int)-1)/\Hd (Below w7.heap.size w7 wr)/\Hd (∀j,h<=j->j<=256->cY wk ks p j=cY wk ks q j))(fun i _=>(intOf i+1).toNat)
     case atStart=>exact⟨257,by omega,rfl,Below.refl _ _,fun j h1 h2=>by omega⟩
     case round=>
      obtain⟨h,hh,rfl,J,x⟩:=hrel;by_cases h0:h=0
      ·exfalso;subst h0;have hpq:p=q:=qi (w:=wk) (k:=ks) Q.o.1 Q.o.2 R.o.1.2 R.o.2.2 fun j hj=>x.o j (Nat.zero_le _) hj;exact HZ.o (by rw[(df S.o.2.1 R.o.1.1).2,(df U.o.2.1 R.o.2.1).2,hpq])
      ·obtain⟨m,rfl⟩:∃m,h=m+1:=⟨h-1,by omega⟩;have hm1:((m+1:Nat):Int)-1=(m:Int):=by omega
       rw[hm1];have hm256:(m:Int)<257:=by omega
       have y:Hd (m<=256):=by show _<=_;omega
       clear hm1 h0 hh;go_wp2_with(first|((with_reducible refine atS 66 ?_);refine ac (by rfl) 37 (.tmp 7) rfl ⟨w.heap.size+1,0,none⟩ 32 ks rfl ((Hg.o.later J.o).whole C.o.2 C.o.1) (by omega) (by kernel_rfl) (by kernel_rfl) ?_)|((with_reducible refine atS 67 ?_);refine aj (by rfl) 112 (.tmp 14) rfl w4.heap.size 0 (spC p.found (.slice va p.val.length vc) (.slice (some ⟨gn,0,none⟩) 256 cn)) rfl (ab.range (ab.below Hm.o J.o)) (by kernel_rfl) (by kernel_rfl) ?_));obtain⟨T,z⟩:∃T,Hd (cY wk ks p m=T):=⟨_,rfl⟩;refine(qr wk ks p va vc gn cn gL cL m wr C.o.2 C.o.1 Q.o.1 (HP.o wr J.o).1 (HP.o wr J.o).2.1 (HP.o wr J.o).2.2 y.o).mono ?_;rintro e w8⟨hb8,U1,rfl,hU1⟩;have K:=aQ J hb8;have Hn:Hd (w.heap.size<=wr.heap.size):=Nat.le_trans Hh.o J.o.size;rw[z.o]at hU1;have HA:=aa hU1;clear hb8 hU1;obtain⟨a1,c1,rfl,_⟩:=Own.form HA.o;go_wp2_with(first|((with_reducible refine atS 72 ?_);refine ac (by rfl) 37 (.tmp 7) rfl ⟨w.heap.size+1,0,none⟩ 32 ks rfl ((Hg.o.later K.o).whole C.o.2 C.o.1) (by omega) (by kernel_rfl) (by kernel_rfl) ?_)|((with_reducible refine atS 73 ?_);refine aj (by rfl) 112 (.tmp 17) rfl w6.heap.size 0 (spC q.found (.slice va2 q.val.length vc2) (.slice (some ⟨gn2,0,none⟩) 256 cn2)) rfl (ab.range (ab.below HL.o K.o)) (by kernel_rfl) (by kernel_rfl) ?_));obtain⟨T2,HB⟩:∃T,Hd (cY wk ks q m=T):=⟨_,rfl⟩;refine(qr wk ks q va2 vc2 gn2 cn2 gL2 cL2 m w8 C.o.2 C.o.1 Q.o.2 (HQ.o w8 K.o).1 (HQ.o w8 K.o).2.1 (HQ.o w8 K.o).2.2 y.o).mono ?_;rintro e w9⟨hb9,U2,rfl,hU2⟩;have Hi:=aQ K hb9;rw[HB.o]at hU2;have d:=aa hU2;have Hj:Hd (∀u,cM (.slice a1 T.length c1) u∨(∃B,u.ownBlock=some B/\B<w8.heap.size)):=fun u=>by
        cases hu:u.ownBlock with
        |none=>exact .inl fun B _ h=>by rw[hu]at h;cases h
        |some B=>
         by_cases hlt:B<w8.heap.size
         ·exact .inr ⟨B,rfl,hlt⟩
         ·exact .inl fun B' hB' h=>by
           have:=(HA.o.lt B' hB').2;rw[hu]at h;injection h with h;omega
       have HU:=aa (HA.o.below hb9);clear hb9 hU2;obtain⟨a2,c2,rfl,_⟩:=Own.form d.o;have Ho:Hd (cM (.slice a1 T.length c1) (.slice a2 T2.length c2)):=by
        rcases Hj.o (.slice a2 T2.length c2)with h|⟨B,h1,h2⟩
        ·exact h
        ·have:=(d.o.lt B h1).1;omega
       have hc1:∀c,(convert 36 9 (.slice a1 T.length c)).run Tryz.prog w9= .ok (.string (kf T)) w9:=dn 36 9 5 ax (by kernel_rfl) (by kernel_rfl) HU.o.reads;have hc2:∀c,(convert 36 9 (.slice a2 T2.length c)).run Tryz.prog w9= .ok (.string (kf T2)) w9:=dn 36 9 5 ax (by kernel_rfl) (by kernel_rfl) d.o.reads;have h3:=rP HU.o.isB d.o.isB;clear Hj HA;generalize kf T=s3 at*;generalize kf T2=s4 at*;by_cases hTT:T=T2
       ·rw[decide_eq_true hTT]at h3;have Hp:Hd (∀j,m<=j->j<=256->cY wk ks p j=cY wk ks q j):=fun j h1 h2=>by
         rcases Nat.lt_or_eq_of_le h1 with h|h
         ·exact x.o j h h2
         ·subst h;rw[z.o,HB.o,hTT]
        clear hTT x;go_wp2_with fail;go_roundw
        case rel=>exact⟨m,by have:=y.o;omega,by go_num,Hi,Hp⟩
        case measure=>simp[intOf]
       ·rw[decide_eq_false hTT]at h3;have Hq:=aa hTT;clear hTT;go_wp2_with fail;go_ret3;exact⟨HO.o.trans (Hi.o.mono HO.o.size),fun h=>by rcases h with h|h|h;exact absurd Y.o h;exact absurd HJ.o h;exact absurd h HZ.o,fun _ _ _=>⟨_,_,m,p,q,rfl,R.o.1.1,R.o.2.1,y.o,by rw[z.o];exact HU.o.mono Hn.o,by rw[HB.o];exact d.o.mono (Nat.le_trans Hh.o K.o.size),Ho.o,by rw[z.o,HB.o];exact Hq.o,fun j h1 h2=>x.o j h1 h2⟩⟩
    ·have hEi:¬(E2:Int)=0:=by omega
     subst hE1;clear t v;go_wp2_with(first|((with_reducible refine atS 17 ?_);refine dU (s:=⟨none,_,_,_,_,_⟩) (by rfl) (by rfl) 112 rfl (.tmp 17) (.tmp 52) rfl (spC false noV noV) (spC f2 V2 N2) 3 cO rfl rfl rfl rfl (dE b.o.1 b.o.2) ?_;intro w7 HL D HN;(try simp only[Act.put,LS])));go_ret3;exact kz (P.o.trans (D.o.mono P.o.size)) (.inr (by rw[HJ.o];exact hE2))
   ·have hEi:¬(E1:Int)=0:=by omega
    clear t v;go_wp2_with(first|((with_reducible refine atS 17 ?_);refine dU (s:=⟨none,_,_,_,_,_⟩) (by rfl) (by rfl) 112 rfl (.tmp 17) (.tmp 52) rfl (spC false noV noV) (spC f2 V2 N2) 3 cO rfl rfl rfl rfl (dE b.o.1 b.o.2) ?_;intro w7 HL D HN;(try simp only[Act.put,LS])));go_ret3;exact kz (P.o.trans (D.o.mono P.o.size)) (.inl (by rw[Y.o];exact hE1))
 ·have Y:=aa (kP (root:=rs) (ks:=ks) (xs:=xs) hw);have hd:=decide_eq_false hw;clear hw h3 HC HD;go_enter Tryz.func33,Tryz.ntmps33;go_upto_region 1with fail;refine bV (G:=fun w2=>Code.wp _ _ _ _ w2) fun w2 E F I HS=>?_;clear E F;go_wp2_with fail;refine(dJ wd w2).mono ?_;rintro e w2'⟨rfl,rfl⟩;rw[hd];go_wp2_with fail;go_ret3;exact kz I.o (.inl (by rw[Y.o];decide))
def nC(m:Int)(ds:Nat->List Nat)(h:Nat):List Nat:=if 0<=m/\m<h then ds m.toNat else zs 32
def RnJ(B1 B2:Nat)(m:Int)(ds:Nat->List Nat)(h:Nat)(U:Nat->Prop)(w:World):Prop:=ab w B1 3 #[.int .i64 m]/\ar w B2 34 (nC m ds h)/\(∀B,U B↔B=B1∨B=B2)/\B1≠B2
theorem sF{m:Int}{ds:Nat->List Nat}(hl:∀j,(ds j).length=32)(h:Nat):(nC m ds h).length=32:=by
 unfold nC;split
 ·exact hl _
 ·simp[zs]
section
variable{B1 B2 h:Nat}{m:Int}{ds:Nat->List Nat}{U V:Nat->Prop}{w w':World}
theorem RnJ.lt(hj:RnJ B1 B2 m ds h U w):∀B,U B->B<w.heap.size:=fun B hB=>by
 obtain⟨h1,h2,h3,_⟩:=hj;rcases(h3 B).1 hB with rfl|rfl
 ·exact h1.lt
 ·exact h2.lt
theorem RnJ.keep(hj:RnJ B1 B2 m ds h U w)(ht:ae V w w')(hn:∀B,V B->¬U B):RnJ B1 B2 m ds h U w':=by
 obtain⟨h1,h2,h3,h4⟩:=hj;exact⟨ht.blk h1 (fun hV=>hn _ hV ((h3 _).2 (.inl rfl))),ht.blk h2 (fun hV=>hn _ hV ((h3 _).2 (.inr rfl))),h3,h4⟩
end
theorem Bm(B1 B2 g:Nat)(m:Int)(ds:Nat->List Nat)(c:Ck)(p:Pr)(h:Nat)(U:Nat->Prop)(b:Value)(w:World)(n:List Nat)(hh:h<256)(hd:IsB (ds h))(hdl:∀j,(ds j).length=32)(hj:RnJ B1 B2 m ds h U w)(hr:aX w g (c.blanked b) p)(hf:Far U g (c.blanked b)):Calls Tryz.prog 71 #[.int .i64 h, .agg (bvs (ds h)).toArray, .agg (bvs n).toArray, .pointer (some ⟨B1,0,none⟩), .pointer (some ⟨B2,0,none⟩)] w (EB g c p (RnJ B1 B2 m ds) h U b w):=by
 obtain⟨h1,h2,h3,h4⟩:=hj;have S:=aa h1;have N:=aa h2;have J:=aa h3;have K:=aa h4;have O:=aa hr;have E:=aa hf;have A:=aa (And.intro (hdl h) hd);have P:=aa (sF (m:=m) hdl h);have hhI:(h:Int)<256:=by omega
 have F:Hd ((h:Int)=m->nC m ds (h+1)=ds h):=fun e=>by unfold nC;rw[if_pos (by omega),<-e];rfl
 have H:Hd ((h:Int)≠m->nC m ds (h+1)=nC m ds h):=fun e=>by
  unfold nC;by_cases hm:0<=m/\m<h
  ·rw[if_pos hm,if_pos (by omega)]
  ·rw[if_neg hm,if_neg (by omega)]
 clear hd hdl hr hf h1 h2 h3 h4;obtain⟨D,hD⟩:∃D,ds h=D:=⟨_,rfl⟩;rw[hD]at A F⊢;clear hD;obtain⟨M,hM⟩:∃M,nC m ds h=M:=⟨_,rfl⟩;rw[hM]at H P N;clear hM;go_enter Tryz.func71,Tryz.ntmps71;go_upto_region 1with fail;refine bV (G:=fun w2=>Code.wp _ _ _ _ w2) fun w2 Q T I a=>?_;have V:Hd (ar w2 w.heap.size 34 D):=Q;have L:Hd (ab w2 B1 3 #[.int .i64 m]):=ab.below S.o I.o;have R:Hd (ar w2 B2 34 M):=N.o.later I.o;have hc3:w2.cell? ⟨B1,0,none⟩=some (.int .i64 m):=L.o.cell 0;clear Q T;by_cases hm:(h:Int)=m
 ·have W:Hd (nC m ds (h+1)=D):=F.o hm;clear F H;go_wp2_with(first|((with_reducible refine atS 11 ?_);refine ac (by rfl) 34 (.tmp 6) rfl ⟨w.heap.size,0,none⟩ 32 D rfl (V.o.whole A.o.2 A.o.1) (by omega) (by kernel_rfl) (by kernel_rfl) ?_)|((with_reducible refine atT 4 ?_);refine a8 (o:=⟨none,_,_,_,_,_⟩) rfl 34 (.tmp 4) (.tmp 11) rfl B2 (bvs D) (bvs M) 34 rfl rfl R.o (by rw[ag];simp[bvs,A.o.1]) (by simp[bvs,P.o,A.o.1]) (ah _) ?_;intro wz X Y d));refine bodyPost_end (results_none rfl _ _ _) rfl ⟨rfl,?_⟩;have tz:ae (fun B=>B=B2) w2 wz:=ae.one Y.o;have C:ae U w wz:=((ae.ofBelow I.o).mono fun _ _ h=>h.elim:ae U w w2).trans (tz.mono fun B _ e=>(J.o B).2 (.inr e));exact⟨U,b,⟨tz.blk L.o K.o,by rw[W.o];exact X.o,J.o,K.o⟩,O.o.far C E.o, .inl rfl,C.mono fun _ _ h=> .inl h,mx.refl _ _,E.o⟩
 ·have Z:Hd (nC m ds (h+1)=M):=H.o hm;clear F H;go_wp2_with fail;refine bodyPost_end (results_none rfl _ _ _) rfl ⟨rfl,?_⟩;have C:ae U w w2:=(ae.ofBelow I.o).mono fun _ _ h=>h.elim;exact⟨U,b,⟨L.o,by rw[Z.o];exact R.o,J.o,K.o⟩,O.o.far C E.o, .inl rfl,C.mono fun _ _ h=> .inl h,mx.refl _ _,E.o⟩
theorem Cd(B1 B2 g:Nat)(m:Int)(c:Ck)(p:Pr)(d0:List Nat)(hl:d0.length=32)(hB:IsB d0):Eye 71 #[.pointer (some ⟨B1,0,none⟩), .pointer (some ⟨B2,0,none⟩)] g c p (bd c.wd c.key d0 (av c.wd p)) (RnJ B1 B2 m (bd c.wd c.key d0 (av c.wd p)))where
 enters:=fN Tryz.func71 (by kernel_rfl) (by kernel_rfl)
 lt:=fun h B hB=>h.lt B hB
 keep:=fun h ht hn=>h.keep ht hn
 call:=fun h U b w hh hj hr hf=>Bm B1 B2 g m _ c p h U b w _ hh (dy c.wd c.key (av c.wd p) hl hB h).2 (fun j=>(dy c.wd c.key (av c.wd p) hl hB j).1) hj hr hf
def iU(m:Int)(M:List Nat)(near:Nat->List Nat)(h:Nat):List Nat:=if(h:Int)=m then M else near h
def uD(wd:Int)(N:Nat->List Nat)(h:Nat):Bool:=decide (N h≠ay wd h)
def RmJ(base B1 B2 B3 B4 g:Nat)(m:Int)(M:List Nat)(f:Bool)(V:Value)(F:Nat->Bool)(N:Nat->List Nat)(h:Nat)(U:Nat->Prop)(w:World):Prop:=ab w B1 3 #[.int .i64 m]/\ar w B2 34 M/\ab w B3 60 #[.pointer (some ⟨g,0,none⟩)]/\(B1≠B4/\B2≠B4/\B3≠B4/\base<=B4)/\∃S,cG w B4 f V (dm F h) S/\ko w base S (dt F N h)/\(∀B,U B↔B=B1∨B=B2∨B=B3∨B=B4∨S.ownBlock=some B)/\∀B,S.ownBlock=some B->B≠B1/\B≠B2/\B≠B3/\B≠B4
section
variable{base B1 B2 B3 B4 g h:Nat}{m:Int}{M:List Nat}{f:Bool}{X:Value}{F:Nat->Bool}{N:Nat->List Nat}{U V:Nat->Prop}{w w':World}
theorem RmJ.lt(hj:RmJ base B1 B2 B3 B4 g m M f X F N h U w):∀B,U B->B<w.heap.size:=fun B hB=>by
 obtain⟨h1,h2,h3,_,S,h5,h6,h7,_⟩:=hj;rcases(h7 B).1 hB with rfl|rfl|rfl|rfl|h
 ·exact h1.lt
 ·exact h2.lt
 ·exact h3.lt
 ·exact h5.lt
 ·exact(di h6 h).2
theorem RmJ.keep(hj:RmJ base B1 B2 B3 B4 g m M f X F N h U w)(ht:ae V w w')(hn:∀B,V B->¬U B):RmJ base B1 B2 B3 B4 g m M f X F N h U w':=by
 obtain⟨h1,h2,h3,h4,S,h5,h6,h7,h8⟩:=hj;exact⟨ht.blk h1 (fun hV=>hn _ hV ((h7 _).2 (.inl rfl))),ht.blk h2 (fun hV=>hn _ hV ((h7 _).2 (.inr (.inl rfl)))),ht.blk h3 (fun hV=>hn _ hV ((h7 _).2 (.inr (.inr (.inl rfl))))),h4,S,ht.blk h5 (fun hV=>hn _ hV ((h7 _).2 (.inr (.inr (.inr (.inl rfl)))))),ht.row h6 (fun B hB hV=>hn _ hV ((h7 _).2 (.inr (.inr (.inr (.inr hB)))))),h7,h8⟩
end
theorem tG(F:Nat->Bool)(N:Nat->List Nat)(n:Nat):(dt F N n).length<=n:=by
 induction n with
 |zero=>simp[dt]
 |succ n ih=>
  rw[dt];split
  ·rw[List.length_append,List.length_singleton];omega
  ·omega
theorem Bl(base B1 B2 B3 B4 g:Nat)(m:Int)(M:List Nat)(f:Bool)(V:Value)(c:Ck)(p:Pr)(h:Nat)(U:Nat->Prop)(b:Value)(w:World)(d:List Nat)(hh:h<256)(hp:p.Ok)(hM:IsB M)(hMl:M.length=32)(hj:RmJ base B1 B2 B3 B4 g m M f V (uD c.wd (iU m M (av c.wd p))) (iU m M (av c.wd p)) h U w)(hr:aX w g (c.blanked b) p)(hf:Far U g (c.blanked b)):Calls Tryz.prog 73 #[.int .i64 h, .agg (bvs d).toArray, .agg (bvs (av c.wd p h)).toArray, .pointer (some ⟨B1,0,none⟩), .pointer (some ⟨B2,0,none⟩), .pointer (some ⟨B3,0,none⟩), .pointer (some ⟨B4,0,none⟩)] w (EB g c p (RmJ base B1 B2 B3 B4 g m M f V (uD c.wd (iU m M (av c.wd p))) (iU m M (av c.wd p))) h U b w):=by
 have HA:=aa hj.lt;have k:=aa (aG (w:=c.wd) hp hh);obtain⟨F,hF⟩:∃F,uD c.wd (iU m M (av c.wd p))=F:=⟨_,rfl⟩;obtain⟨N,hN⟩:∃N,iU m M (av c.wd p)=N:=⟨_,rfl⟩;have O:Hd (F h=decide (N h≠ay c.wd h)):=by rw[<-hF,<-hN];rfl
 have P:Hd (N h=if(h:Int)=m then M else av c.wd p h):=by rw[<-hN];rfl
 rw[hF,hN]at hj⊢;clear hF hN;obtain⟨h1,h2,h3,h4,S,h5,h6,h7,h8⟩:=hj;obtain⟨As,ns,cs,rfl⟩:=db h6;have HB:=aa h1;have HC:=aa h2;have HG:=aa h3;have C:=aa h4;have HP:=aa h5;have HO:=aa h6;have A:=aa h7;have I:=aa h8;have HR:=aa hr;have HF:=aa hf;have R:=aa (And.intro hMl hM);have hhI:(h:Int)<256:=by omega
 have Hb:=aa (cK F h);have Hu:Hd ((dt F N h).length<=256):=Nat.le_trans (tG F N h) (by omega);clear hp hM hMl hr hf h1 h2 h3 h4 h5 h6 h7 h8;obtain⟨Q,hQ⟩:∃Q,av c.wd p h=Q:=⟨_,rfl⟩;rw[hQ]at k P⊢;clear hQ;obtain⟨D,l⟩:∃D,Hd (N h=D):=⟨_,rfl⟩;obtain⟨E,HE⟩:∃E,Hd (ay c.wd h=E):=⟨_,rfl⟩;rw[l.o]at P;rw[l.o,HE.o]at O;have J:Hd (D.length=32/\IsB D):=by
  rw[P.o];split
  ·exact R.o
  ·exact k.o
 have Hc:Hd (E.length=32/\IsB E):=by rw[<-HE.o];exact⟨al _ _,bu _ _⟩
 have HH:Hd (D≠E->dm F (h+1)=(dm F h).set (h/8) ((dm F h).getD (h/8) 0+2^(h%8))/\dt F N (h+1)=dt F N h++[D]):=fun e=>by
  rw[dm,dt,if_pos (by rw[O.o];simpa using e),if_pos (by rw[O.o];simpa using e),l.o];exact⟨rfl,rfl⟩
 have HI:Hd (D=E->dm F (h+1)=dm F h/\dt F N (h+1)=dt F N h):=fun e=>by
  rw[dm,dt,if_neg (by rw[O.o];simpa using e),if_neg (by rw[O.o];simpa using e)];exact⟨rfl,rfl⟩
 have n:Hd ((dm F h).getD (h/8) 0<2^(h%8)):=by
  show _<_;rw[mv F (by omega) (by omega),show min 8 (h-8*(h/8))=h%8by omega];exact kD _ _ _
 have T:Hd (g<w.heap.size/\¬U g):=⟨HR.o.ck.lt,HF.o.ck⟩;clear l O;go_enter Tryz.func73,Tryz.ntmps73;go_upto_region 1with fail;refine bV (G:=fun w2=>Code.wp _ _ _ _ w2) fun w2 H1 H2 W HS=>?_;have HJ:Hd (ar w2 (w.heap.size+1) 34 Q):=H2;have hc3:w2.cell? ⟨B1,0,none⟩=some (.int .i64 m):=(ab.below HB.o W.o).cell 0;have He:Hd (ar w2 B2 34 M):=HC.o.later W.o;clear H1 H2;go_upto_if 12with fail;go_cut[12]from 12to 13(fun _ wx=>Hd (ar wx (w.heap.size+1) 34 D)/\Hd (Below w.heap.size w wx))
 case first=>
  by_cases hm:(h:Int)=m
  ·have HK:Hd (D=M):=by rw[P.o,if_pos hm];rfl
   go_wp2_with(first|((with_reducible refine atS 13 ?_);refine ac (by rfl) 34 (.tmp 4) rfl ⟨B2,0,none⟩ 32 M rfl (He.o.whole R.o.2 R.o.1) (by omega) (by kernel_rfl) (by kernel_rfl) ?_)|((with_reducible refine atT 9 ?_);refine a8 (o:=⟨none,_,_,_,_,_⟩) rfl 34 (.tmp 9) (.tmp 13) rfl (w.heap.size+1) (bvs M) (bvs Q) 34 rfl rfl HJ.o (by rw[ag];simp[bvs,R.o.1]) (by simp[bvs,R.o.1,k.o.1]) (ah _) ?_;intro wz Hv Hw H6));go_meet
   case rel=>exact⟨by rw[HK.o];exact Hv,(ae.one Hw.o).toBelow W.o W.o.size fun B h=>by omega⟩
  ·have HK:Hd (D=Q):=by rw[P.o,if_neg hm];rfl
   go_wp2_with fail;go_meet
   case rel=>exact⟨by rw[HK.o];exact HJ,W⟩
 case rest=>
  obtain⟨HL,HM⟩:=hcut;generalize u12=qz at*;clear HJ He hc3 W HS P k R;obtain⟨w3,rfl⟩:∃x,x=wc:=⟨_,rfl⟩;obtain⟨qe,hqe⟩:∃qe:Bool,qe=decide (D=E):=⟨_,rfl⟩;have heq:∀w:World,(Op.equalIn 10000 34 (.agg (bvs D).toArray) (.agg (bvs E).toArray)).run Tryz.prog w= .ok qe w:=fun w=>by rw[hqe];exact fP w J.o.2 Hc.o.2 J.o.1 Hc.o.1
  have Hf:=aa hqe;clear hqe;have hu:=bE;have hsz:(Tryz.prog.info? 34).map (·.size)=some (bvs D).length:=by rw[ag];simp[bvs,J.o.1]
  have s:Hd (Below w.heap.size w w3.drew):=af HM.o 1;have Hg:Hd (ar w3.drew (w.heap.size+1) 34 D):=ab.drew HL.o;go_upto_region 3with fail;refine wp_region_held_drew (S:=fun w'=>w'.rangeAt (w.heap.size+1) 0 (bvs D)/\w'.cell? ⟨B3,0,none⟩=some (.pointer (some ⟨g,0,none⟩))) (by kernel_rfl) ⟨ab.range HL.o,(ab.below HG.o HM.o).cell 0⟩ fun hH=>?_;clear HM HL;generalize w3.drew=w4 at*;refine tkl 0 ?_;refine tka 1 ?_;refine tka 2 ?_;clear hH;refine rdy 3 fun K hK=>?_;go_simp;go_at_call 46;refine((HR.o.below s.o).bare hh).mono ?_;rintro e w5⟨rfl,⟨b',hb',hnb'⟩,ht5⟩;have HQ:Hd (aX w5 g (c.blanked b') p):=hb';have H:Hd (ae (fun B=>B=g) w w5):=((ae.ofBelow s.o).mono fun _ _ h=>h.elim:ae (fun B=>B=g) w w4).trans ht5;have X:Hd (ar w5 (w.heap.size+1) 34 D):=ht5.blk Hg.o (by have:=T.o.1;omega);have Y:Hd (ab w5 B3 60 #[.pointer (some ⟨g,0,none⟩)]):=H.o.blk HG.o fun e=>T.o.2 (by rw[<-e];exact(A.o _).2 (.inr (.inr (.inl rfl))));have HT:Hd (me w b b'):=me.trans (b:=b) (.inl rfl) hnb' s.o.size;have hwd:(c.blanked b).wd=c.wd:=rfl;rw[hwd,HE.o];clear hwd;refine hK.out _ _ ⟨ab.range X.o,Y.o.cell 0⟩ (fun hH=>?_);clear hK hb' hnb' ht5;refine tka 4 ?_;refine bN ?_;clear hH heq hu hsz s Hg;have Z:Hd (ab w5 B1 3 #[.int .i64 m]):=H.o.blk HB.o fun e=>T.o.2 (by rw[<-e];exact(A.o _).2 (.inl rfl));have a:Hd (ar w5 B2 34 M):=H.o.blk HC.o fun e=>T.o.2 (by rw[<-e];exact(A.o _).2 (.inr (.inl rfl)));have i:Hd (cG w5 B4 f V (dm F h) (.slice As ns cs)):=H.o.blk HP.o fun e=>T.o.2 (by rw[<-e];exact(A.o _).2 (.inr (.inr (.inr (.inl rfl)))));have HV:Hd (ko w5 base (.slice As ns cs) (dt F N h)):=H.o.row HO.o fun B hB e=>T.o.2 (by rw[<-e];exact(A.o _).2 (.inr (.inr (.inr (.inr hB)))));have j:Hd (Far U g (c.blanked b')):=HF.o.bare HT.o HA.o;have HX:Hd (w.heap.size+1<w5.heap.size):=X.o.lt;clear HB HC HG HP HO;cases qe with
  |true=>
   have L:=aa (HI.o (of_decide_eq_true Hf.o.symm));clear HI HH;go_wp2_with fail;refine bodyPost_end (results_none rfl _ _ _) rfl ⟨rfl,U,b',⟨Z.o,a.o,Y.o,C.o, .slice As ns cs,?_,?_,A.o,I.o⟩,HQ.o,HT.o,H.o.mono fun _ _ h=> .inr h,mx.refl _ _,j.o⟩
   ·rw[L.o.1];exact i.o
   ·rw[L.o.2];exact HV.o
  |false=>
   have L:=aa (HH.o (of_decide_eq_false Hf.o.symm));obtain⟨q,hq0⟩:∃q,h/8=q:=⟨_,rfl⟩;obtain⟨r,hr0⟩:∃r,h%8=r:=⟨_,rfl⟩;have hqI:(h:Int).tdiv 8=(q:Int):=by rw[Int.tdiv_eq_ediv_of_nonneg (by omega)];omega
   have hrI:(h:Int).tmod 8=(r:Int):=by rw[Int.tmod_eq_emod_of_nonneg (by omega)];omega
   have hq32:(q:Int)<32:=by omega
   have hr8:(r:Int)<8:=by omega
   have hqw:IntKind.i64.wrap ((q:Nat):Int)=(q:Int):=IntWalk.i64_in _ (by omega);have hrw:IntKind.i64.wrap ((r:Nat):Int)=(r:Int):=IntWalk.i64_in _ (by omega);rw[hq0,hr0]at L n;have hcx0:=cG.bitCell i.o Hb.o (q:=q) (by omega);obtain⟨x,hx⟩:∃x,(dm F h).getD q 0=x:=⟨_,rfl⟩;rw[hx]at L n hcx0;have hcx:w5.cell? ⟨B4,2+q,none⟩=some (.int .u8 (x:Nat)):=hcx0;have hfx:w5.frozen? ⟨B4,2+q,none⟩=false:=ab.frozen i.o (2+q);have Hx:Hd (bits .or .u8 (x:Int) (IntKind.u8.wrap (2^r))=((x+2^r:Nat):Int)):=Db x r n.o (by omega);clear HI HH hq0 hr0 hx hcx0 n;simp only[Bool.not_false];go_upto_region 4with fail;refine wp_region_held_drew (S:=fun _=>True) (by kernel_rfl) trivial fun hH=>?_;have Hh:Hd (ae (fun B=>B=g) w w5.drew):=H.o.drewN 1;have Hi:Hd (cG w5.drew B4 f V (dm F h) (.slice As ns cs)):=ab.drew i.o;have Hj:Hd (aX w5.drew g (c.blanked b') p):=HQ.o.below (af (Below.refl _ _) 1);have Hk:Hd (ko w5.drew base (.slice As ns cs) (dt F N h)):=(ae.ofBelow (af (Below.refl w5.heap.size w5) 1)).row HV.o fun _ _ h=>h;replace Z:Hd (ab w5.drew B1 3 #[.int .i64 m]):=ab.drew Z.o;replace a:Hd (ar w5.drew B2 34 M):=ab.drew a.o;replace Y:Hd (ab w5.drew B3 60 #[.pointer (some ⟨g,0,none⟩)]):=ab.drew Y.o;replace X:Hd (ar w5.drew (w.heap.size+1) 34 D):=ab.drew X.o;replace hcx:w5.drew.cell? ⟨B4,2+q,none⟩=some (.int .u8 (x:Nat)):=hcx;replace hfx:w5.drew.frozen? ⟨B4,2+q,none⟩=false:=hfx;replace HX:Hd (w.heap.size+1<w5.drew.heap.size):=HX;clear H i HQ HV;generalize w5.drew=w6 at*;refine tk 0 ?_;refine tk 1 ?_;refine tk 2 ?_;refine tk 3 ?_;refine tk 5 ?_;refine tk 6 ?_;refine tk 7 ?_;refine tk 9 ?_;refine rdy 4 fun K hK=>?_;go_simp;refine hK.out _ _ trivial (fun hH=>?_);clear hK;refine tk 8 ?_;refine tk 10 ?_;refine rdy 11 fun K hK=>?_;go_simp;rw[Hx.o];obtain⟨w7,v⟩:∃w7,Hd (w6.setCell ⟨B4,2+q,none⟩ (.int .u8 ((x+2^r:Nat):Int))=w7):=⟨_,rfl⟩;rw[v.o];have ht7:ae (fun B=>B=B4) w6 w7:=by rw[<-v.o];exact ae.one (ai w6 _ _)
   have HY:Hd (ae (fun B=>B=B4∨B=g) w w7):=(Hh.o.mono fun _ _ h=> .inr h:ae (fun B=>B=B4∨B=g) w w6).trans (ht7.mono fun _ _ h=> .inl h);have y:Hd (cG w7 B4 f V (dm F (h+1)) (.slice As ns cs)):=by
    rw[<-v.o,L.o.1];exact Hi.o.bitSet Hb.o (by omega) (x+2^r)
   have Hl:Hd (ko w7 base (.slice As ns cs) (dt F N h)):=ht7.row Hk.o fun B hB e=>(I.o B hB).2.2.2 e;have Hm:Hd (ab w7 B1 3 #[.int .i64 m]):=ht7.blk Z.o C.o.1;have Hn:Hd (ar w7 B2 34 M):=ht7.blk a.o C.o.2.1;have Ho:Hd (ab w7 B3 60 #[.pointer (some ⟨g,0,none⟩)]):=ht7.blk Y.o C.o.2.2.1;have Hp:Hd (ar w7 (w.heap.size+1) 34 D):=ht7.blk X.o (by have:=HA.o B4 ((A.o _).2 (.inr (.inr (.inr (.inl rfl)))));omega);have Hq:Hd (aX w7 g (c.blanked b') p):=Hj.o.far (ht7.mono fun B _ e=>(A.o B).2 (.inr (.inr (.inr (.inl e)))):ae U w6 w7) j.o;have HZ:=aa (cK F (h+1));have hs7:base<=w7.heap.size:=by have:=C.o.2.2.2;have:=y.o.lt;omega
   have hc30:w7.cell? ⟨B4,34,none⟩=some (.slice As ns cs):=cG.sumsCell y.o HZ.o;refine hK.out _ _ trivial (fun hH=>?_);refine bN ?_;clear hK hH ht7 v Hi Hj Hk Z a Y X HX Hh hcx hfx;go_wp2_with(first|((with_reducible refine atS 32 ?_);refine ac (by rfl) 34 (.tmp 9) rfl ⟨w.heap.size+1,0,none⟩ 32 D rfl (Hp.o.whole J.o.2 J.o.1) (by omega) (by kernel_rfl) (by kernel_rfl) ?_)|((with_reducible refine atS 33 ?_);refine aR rfl w7 27 34 _ 32 (.tmp 32) rfl cN aD (by decide) (by decide) (bvs D).toArray rfl (by simp[bvs,J.o.1]) ?_)|(with_reducible refine atS 34 ?_));clear hc30;have hd1:(bvs D).length=32:=by simp[bvs,J.o.1]
   have hsl:=Hu.o;refine fG (t:=27) (e:=34) (o:=⟨some 34,_,_,_,_,_⟩) cN eO (by rfl) w7 (by rfl) (.tmp 31) (.tmp 33) (by rfl) base (.slice As ns cs) (dt F N h).length (bvs (dt F N h).flatten) Hl.o (bvs D) hd1 (fun u hu=>ah _ u hu) (by rfl) (by rfl) (by omega) (by omega) hs7 ?_;intro v8 w8 ho8 hg8 hl8;obtain⟨sa,sn,sc,e8⟩:=db ho8;subst e8;have ht8:ae (fun B=>some B=(Value.slice As ns cs).ownBlock) w7 w8:=ae.grown hg8;have Ha:Hd (cG w8 B4 f V (dm F (h+1)) (.slice As ns cs)):=ht8.blk y.o fun e=>(I.o B4 e.symm).2.2.2 rfl;have Hy:Hd (ab w8 B1 3 #[.int .i64 m]):=ht8.blk Hm.o fun e=>(I.o B1 e.symm).1 rfl;have Hz:Hd (ar w8 B2 34 M):=ht8.blk Hn.o fun e=>(I.o B2 e.symm).2.1 rfl;have H0:Hd (ab w8 B3 60 #[.pointer (some ⟨g,0,none⟩)]):=ht8.blk Ho.o fun e=>(I.o B3 e.symm).2.2.1 rfl;have H3:Hd (ko w8 base (.slice sa sn sc) (dt F N (h+1))):=by
    show World.ownsRow _ _ _ _ _ _ _;rw[L.o.2,List.length_append,List.flatten_append,show bvs ((dt F N h).flatten++[D].flatten)=bvs (dt F N h).flatten++bvs D by simp[bvs]];exact ho8
   have H4:Hd (ae (fun B=>U B∨B=g) w w8):=(HY.o.mono fun B _ e=>e.elim (fun e=> .inl ((A.o B).2 (.inr (.inr (.inr (.inl e)))))) .inr:ae (fun B=>U B∨B=g) w w7).trans (ht8.mono fun B _ e=> .inl ((A.o B).2 (.inr (.inr (.inr (.inr e.symm))))));have H5:Hd (aX w8 g (c.blanked b') p):=Hq.o.far (ht8.mono fun B _ e=>(A.o B).2 (.inr (.inr (.inr (.inr e.symm)))):ae U w7 w8) j.o;have Hr:Hd (∀B,(Value.slice sa sn sc).ownBlock=some B->(Value.slice As ns cs).ownBlock=some B∨w7.heap.size<=B):=hl8;have Hs:Hd (w.heap.size<=w7.heap.size):=HY.o.size;have hc34:w8.cell? ⟨B4,34,none⟩=some (.slice As ns cs):=cG.sumsCell Ha.o HZ.o;have hf34:w8.frozen? ⟨B4,34,none⟩=false:=ab.frozen Ha.o 34;clear ho8 hg8 hl8 ht8 hd1 hs7 y Hl Hm Hn Ho Hp HY hsl;go_wp2_with fail;refine bodyPost_end (results_none rfl _ _ _) rfl ⟨rfl,?_⟩;have t9:ae (fun B=>B=B4) w8 (w8.setCell ⟨B4,34,none⟩ (.slice sa sn sc)):=ae.one (ai w8 34 _);have hb4:U B4:=(A.o _).2 (.inr (.inr (.inr (.inl rfl))));have z:=HA.o;have hne9:∀B,(Value.slice sa sn sc).ownBlock=some B->B≠B1/\B≠B2/\B≠B3/\B≠B4:=fun B hB=>by
    rcases Hr.o B hB with h1|h1
    ·exact I.o B h1
    ·have q1:=z B1 ((A.o _).2 (.inl rfl));have q2:=z B2 ((A.o _).2 (.inr (.inl rfl)));have q3:=z B3 ((A.o _).2 (.inr (.inr (.inl rfl))));have q4:=z B4 hb4;have q5:=Hs.o;omega
   have Ht:mx w7 U (fun B=>B=B1∨B=B2∨B=B3∨B=B4∨(Value.slice sa sn sc).ownBlock=some B):=fun B hB=>by
    rcases hB with e|e|e|e|e
    ·exact .inl ((A.o _).2 (.inl e))
    ·exact .inl ((A.o _).2 (.inr (.inl e)))
    ·exact .inl ((A.o _).2 (.inr (.inr (.inl e))))
    ·exact .inl ((A.o _).2 (.inr (.inr (.inr (.inl e)))))
    ·rcases Hr.o B e with h1|h1
     ·exact .inl ((A.o _).2 (.inr (.inr (.inr (.inr h1)))))
     ·exact .inr h1
   have hR9:aX (w8.setCell ⟨B4,34,none⟩ (.slice sa sn sc)) g (c.blanked b') p:=H5.o.far (t9.mono fun B _ e=>by rw[e];exact hb4:ae U w8 _) j.o;refine⟨fun B=>B=B1∨B=B2∨B=B3∨B=B4∨(Value.slice sa sn sc).ownBlock=some B,b',⟨t9.blk Hy.o C.o.1,t9.blk Hz.o C.o.2.1,t9.blk H0.o C.o.2.2.1,C.o, .slice sa sn sc,cG.sums Ha.o HZ.o _,t9.row H3.o fun B hB e=>(hne9 B hB).2.2.2 e,fun B=>Iff.rfl,hne9⟩,hR9,HT.o,H4.o.trans (t9.mono fun B _ e=> .inl (by rw[e];exact hb4)),fun B hB=>(Ht B hB).elim .inl fun h=> .inr (Nat.le_trans Hs.o h),j.o.same Hq.o Ht⟩
theorem Cb(base B1 B2 B3 B4 g:Nat)(m:Int)(M:List Nat)(f:Bool)(V:Value)(c:Ck)(p:Pr)(ds:Nat->List Nat)(hp:p.Ok)(hM:IsB M)(hMl:M.length=32):Eye 73 #[.pointer (some ⟨B1,0,none⟩), .pointer (some ⟨B2,0,none⟩), .pointer (some ⟨B3,0,none⟩), .pointer (some ⟨B4,0,none⟩)] g c p ds (RmJ base B1 B2 B3 B4 g m M f V (uD c.wd (iU m M (av c.wd p))) (iU m M (av c.wd p)))where
 enters:=fN Tryz.func73 (by kernel_rfl) (by kernel_rfl)
 lt:=fun h B hB=>h.lt B hB
 keep:=fun h ht hn=>h.keep ht hn
 call:=fun h U b w hh hj hr hf=>Bl base B1 B2 B3 B4 g m M f V c p h U b w (ds h) hh hp hM hMl hj hr hf
end Go.Proofs.YtfnlhfaihoojfaaGreatDoor
