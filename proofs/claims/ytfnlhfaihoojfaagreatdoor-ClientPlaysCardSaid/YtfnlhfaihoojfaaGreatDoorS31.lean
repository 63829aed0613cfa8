/- Texts of the proof of ledgerlaw13.ClientPlays, part 31; no condition of its own. -/
import Derived.Test.YtfnlhfaihoojfaaGreatDoorS29
import Derived.Test.YtfnlhfaihoojfaaGreatDoorS30
set_option maxRecDepth 100000
set_option maxHeartbeats 4000000
namespace Go.Proofs.YtfnlhfaihoojfaaGreatDoor
open Go.RowKit
theorem Rws.form{w:World}{base:Nat}{v:Value}{ys:List Value}{zf:Nat->List Nat}(h:Rws w base v ys zf)(hn:0<ys.length):∃g c,v= .slice (some ⟨g,0,none⟩) ys.length c:=by
 rcases h.row.2with⟨_,h0⟩|⟨g,cap,cur,e,_⟩
 ·omega
 ·exact⟨g,cap,e⟩
theorem Rws.cell{w:World}{base g n c:Nat}{ys:List Value}{zf:Nat->List Nat}(h:Rws w base (.slice (some ⟨g,0,none⟩) n c) ys zf){i:Nat}(hi:i<ys.length):∃A k,w.cell? ⟨g,i,none⟩=some (.slice A (zf i).length k)/\ys[i]?=some (.slice A (zf i).length k)/\bn w base (.slice A (zf i).length k) (zf i):=by
 have hy:ys[i]?=some ys[i]:=List.getElem?_eq_getElem hi;have ho:=h.own i _ hy;obtain⟨A,k,e1,_⟩:=ho.form;rcases h.row.2with⟨e,_⟩|⟨g',cap,cur,e,_,h2,_,_,_,h3⟩
 ·cases e
 ·injection e with e _ _;injection e with e;injection e with e;subst e;refine⟨A,k,?_,?_,?_⟩
  ·rw[cell_of_row w g i cur 36 (0,0) h2,<-e1];have h4:=congrArg (fun l:List Value=>l[i]?) h3;simp only[List.getElem?_take,Nat.mul_one,if_pos hi,hy]at h4;simpa using h4
  ·rw[hy,e1]
  ·rw[<-e1];exact ho
theorem aX.other{w w':World}{g g2:Nat}{c c2:Ck}{p:Pr}(h:aX w g c p)(ht:ae (fun B=>B=g2) w w')(h2:fx w g2 c2)(hn:g2≠g)(ht1:g2≠2)(ht2:g2≠3):aX w' g c p:=by
 refine h.far ht ⟨fun e=>hn e.symm,fun B hB e=>?_,fun B hB e=>?_,fun e=>ht1 e.symm,fun e=>ht2 e.symm⟩
 ·exact mK h.sums h2 (by decide) (by rw[hB,e])
 ·rcases h.blank with h1|⟨B',h1,h3⟩
  ·rw[h1]at hB;cases hB
  ·rw[h1]at hB;injection hB with hB;have hB:B'=B:=hB;subst hB;exact qa (cs:=(bvs (dS c.wd 256)).toArray) (cs':=c2.C.toArray) (t:=34) (t':=96) h3 h2 (by decide) e
def je(wd:Int)(rs ks xs ys:List Nat)(w:World)(e:Ending)(w':World):Prop:=Below w.heap.size w w'/\((dj wd rs ks xs≠0∨dj wd rs ks ys≠0∨xs=ys)->e= .returned (.tuple #[.slice none 0 0, .slice none 0 0, .bool false]))/\(dj wd rs ks xs=0->dj wd rs ks ys=0->xs≠ys->∃V1 V2 h p q,e= .returned (.tuple #[V1,V2, .bool true])/\dF xs=some p/\dF ys=some q/\h<=256/\bn w' w.heap.size V1 (cY wd ks p h)/\bn w' w.heap.size V2 (cY wd ks q h)/\cM V1 V2/\cY wd ks p h≠cY wd ks q h/\∀j,h<j->j<=256->cY wd ks p j=cY wd ks q j)
theorem kz{wd:Int}{rs ks xs ys:List Nat}{w w':World}(hb:Below w.heap.size w w')(h:dj wd rs ks xs≠0∨dj wd rs ks ys≠0):je wd rs ks xs ys w (.returned (.tuple #[.slice none 0 0, .slice none 0 0, .bool false])) w':=⟨hb,fun _=>rfl,fun h1 h2 _=>by rcases h with h|h<;>contradiction⟩
theorem sK(wd:Int)(rs ks xs ys:List Nat)(A:Option Addr)(n k:Nat)(A2:Option Addr)(n2 k2:Nat)(w:World)(hr:rs.length=32)(hrB:IsB rs)(hk:ks.length=32)(hkB:IsB ks)(hx:RB w A n xs)(hlt:∀ad,A=some ad->ad.block<w.heap.size)(hnc:n<=k)(hA:A=none->k=0)(hkm:k<=maxLen)(hn:n<=140737488355328)(hx2:RB w A2 n2 ys)(hlt2:∀ad,A2=some ad->ad.block<w.heap.size)(hnc2:n2<=k2)(hA2:A2=none->k2=0)(hkm2:k2<=maxLen)(hn2:n2<=140737488355328)(ht:eY w):Calls Tryz.prog 32 #[.int .i64 wd, .agg (bvs rs).toArray, .agg (bvs ks).toArray, .slice A n k, .slice A2 n2 k2] w (je wd rs ks xs ys w):=by
 have O:=aa hr;have P:=aa hrB;have Q:=aa hk;have R:=aa hkB;have HX:=aa hx;have E:=aa (And.intro hlt (And.intro hnc (And.intro hA (And.intro hkm hn))));have HC:=aa hx2;have F:=aa (And.intro hlt2 (And.intro hnc2 (And.intro hA2 (And.intro hkm2 hn2))));have HT:=aa ht;clear hr hrB hk hkB hx hlt hnc hA hkm hn ht hx2 hlt2 hnc2 hA2 hkm2 hn2;go_enter Tryz.func32,Tryz.ntmps32;go_wp2_with(with_reducible refine atS 22 ?_);refine bV (G:=fun w2=>Hd (wpList _ _ _ _ _ w2)) fun w2 H H2 I HS=>?_;have d:Hd (ar w2 w.heap.size 34 rs):=H;have f:Hd (ar w2 (w.heap.size+1) 37 ks):=H2;clear H H2;refine aa ?_;go_wp2_with(first|(refine ac (o:=⟨some 22,_,_,_,_,_⟩) (by rfl) 34 (.tmp 6) rfl ⟨w.heap.size,0,none⟩ 32 rs rfl (d.o.whole P.o O.o) (by omega) (by kernel_rfl) (by kernel_rfl) ?_)|(refine ac (o:=⟨some 23,_,_,_,_,_⟩) (by rfl) 37 (.tmp 7) rfl ⟨w.heap.size+1,0,none⟩ 32 ks rfl (f.o.whole R.o Q.o) (by omega) (by kernel_rfl) (by kernel_rfl) ?_));refine(kO wd rs ks xs A n k w2 O.o P.o Q.o R.o (HX.o.below I.o) (fun ad e=>Nat.lt_of_lt_of_le (E.o.1 ad e) I.o.size) E.o.2.1 E.o.2.2.1 E.o.2.2.2.1 E.o.2.2.2.2 (HT.o.below I.o)).mono ?_;rintro e w3⟨g,c,rfl,hg,hck,hok,hwd,hky,hbl,hbe,hyes⟩;have J:=aa hyes;have HD:=aa hck;have HF:=aa hok;have l:=aa (And.intro hwd hky);have HH:=aa hbl;have HG:=aa hg;have HI:=aQ I hbe;have HJ:=dA d hbe;have HK:=dA f hbe;clear hg hck hok hwd hky hbl hbe hyes d f;go_wp2_with(first|(refine ac (o:=⟨some 30,_,_,_,_,_⟩) (by rfl) 34 (.tmp 6) rfl ⟨w.heap.size,0,none⟩ 32 rs rfl (HJ.o.whole P.o O.o) (by omega) (by kernel_rfl) (by kernel_rfl) ?_)|(refine ac (o:=⟨some 31,_,_,_,_,_⟩) (by rfl) 37 (.tmp 7) rfl ⟨w.heap.size+1,0,none⟩ 32 ks rfl (HK.o.whole R.o Q.o) (by omega) (by kernel_rfl) (by kernel_rfl) ?_));refine bh (G:=fun w4=>Calls _ _ _ w4 _) fun w4 H L Hq=>?_;have HL:Hd (w4.cell? ⟨w3.heap.size,0,none⟩=some (.pointer (some ⟨g,0,none⟩))):=ab.cell H.o 0;have C:=aQ HI L.o;have T:Hd (fx w4 g c):=ab.below HD.o L.o;have HM:Hd (dw w4 wd c.blank):=by
  rcases HH.o with h1|⟨B,h1,h2⟩
  ·exact .inl h1
  ·exact .inr ⟨B,h1,ab.below h2 L.o⟩
 clear H HH HJ HK;refine(mW w3.heap.size 1 g c wd rs ks ys A2 n2 k2 w4 O.o P.o Q.o R.o (HC.o.below C.o) (fun ad e=>Nat.lt_of_lt_of_le (F.o.1 ad e) C.o.size) F.o.2.1 F.o.2.2.1 F.o.2.2.2.1 F.o.2.2.2.2 (HT.o.below C.o) HL.o T.o HF.o HM.o).mono ?_;rintro e w5⟨g2,c2,rfl,hg2,hck2,hok2,hwd2,hky2,hbl2,hbe2,hyes2⟩;have M:=aa hyes2;have HO:=aa hck2;have r:=aa (And.intro hwd2 hky2);have HR:=aa hg2;have D:=aQ C hbe2;have s:=aa (L.o.trans (hbe2.mono L.o.size));have HU:Hd (fx w5 g c):=ab.below T.o hbe2;clear hg2 hck2 hok2 hwd2 hky2 hbl2 hbe2 hyes2 HL HM;obtain⟨q1,t⟩:∃q,Hd (dj wd rs ks xs=q):=⟨_,rfl⟩;obtain⟨q2,u⟩:∃q,Hd (dj wd rs ks ys=q):=⟨_,rfl⟩;rw[t.o]at J⊢;rw[u.o]at M⊢;by_cases h1:q1=0
 ·by_cases h2:q2=0
  ·obtain⟨p,hp,hf,hpp,hr,ho⟩:=J.o h1;obtain⟨q,hp2,hf2,hpp2,hr2,ho2⟩:=M.o h2;subst h1 h2;have U:=aa (And.intro hp (And.intro hf hpp));have V:=aa (And.intro hp2 (And.intro hf2 hpp2));have N:Hd (aX w5 g c p):=hr.below s.o;have W:=aa hr2;have HV:Hd (mz w5 c.v p.val):=(i6 ho hr.pok.vl).below s.o;have x:Hd (bn w5 w4.heap.size c2.v q.val):=ho2;clear hp hf hpp hr ho hp2 hf2 hpp2 hr2 ho2 J M;go_wp2_with fail;refine(qh g c p w5 N.o HV.o).mono ?_;rintro e w6⟨V1,ys1,b1,rfl,hrw1,hyl1,hra6,hnb1,ht6⟩;obtain⟨gl1,cl1,e1⟩:=hrw1.form (by omega);rw[hyl1]at e1;subst e1;have hglt:g<w4.heap.size:=T.o.lt;have hgn:g≠g2:=by have:=HR.o;omega
   have HY:Hd (aX w6 g2 c2 q):=W.o.other ht6 HU.o hgn N.o.g1 N.o.g2;have HZ:Hd (mz w6 c2.v q.val):=i6 (ht6.own x.o fun B hB e=>by have:=(x.o.lt B hB).1;omega) W.o.pok.vl;have X:=aa hrw1;have Hh:=aa hyl1;have Hi:Hd (w.heap.size<=g):=Nat.le_trans I.o.size HG.o;have Y:Hd (Below w.heap.size w w6):=ht6.toBelow D.o D.o.size fun B e=>by rw[e];exact Hi.o
   have Ha:Hd (w4.heap.size<=g2/\g2<w5.heap.size):=⟨HR.o,HO.o.lt⟩;clear hrw1 hyl1 hra6 hnb1 ht6 hglt hgn;go_wp2_with fail;refine(qh g2 c2 q w6 HY.o HZ.o).mono ?_;rintro e w7⟨V2,ys2,b2,rfl,hrw2,hyl2,hrb7,hnb2,ht7⟩;obtain⟨gl2,cl2,e2⟩:=hrw2.form (by omega);rw[hyl2]at e2;subst e2;have hw1:Rws w7 w5.heap.size (.slice (some ⟨gl1,0,none⟩) 257 cl1) ys1 (cY c.wd c.key p):=X.o.touch ht7 fun B hB hu=>by
    have:=(X.o.lt B hu).1;have:=Ha.o;omega
   rw[l.o.1,l.o.2]at hw1;rw[r.o.1,r.o.2]at hrw2;have Hj:=aa hw1;have Hk:=aa hrw2;have Hl:Hd (∀B,rJ (.slice (some ⟨gl1,0,none⟩) 257 cl1) ys1 B->w5.heap.size<=B/\B<w6.heap.size):=X.o.lt;have Hm:=aa hyl2;have Z:Hd (Below w.heap.size w w7):=ht7.toBelow Y.o Y.o.size fun B e=>by rw[e];have:=Ha.o.1;have:=C.o.size;omega
   have Hb:Hd (w.heap.size<=w5.heap.size/\w.heap.size<=w6.heap.size):=⟨D.o.size,Y.o.size⟩;have Hc:Hd (p.Ok/\q.Ok):=⟨N.o.pok,W.o.pok⟩;clear hw1 hrw2 hyl2 hrb7 hnb2 ht7 X HY HZ N W HV x Y HU T HD HO HF l r D s C HI;go_wp2_with fail;go_loopw[19](fun i wr=>∃h:Nat,h<=257/\i= .int .i64 ((h:Int)-1)/\Hd (Below w7.heap.size w7 wr)/\Hd (∀j,h<=j->j<=256->cY wd ks p j=cY wd ks q j))(fun i _=>(intOf i+1).toNat)
   case atStart=>exact⟨257,by omega,rfl,Below.refl _ _,fun j h1 h2=>by omega⟩
   case round=>
    obtain⟨h,hh,rfl,a,y⟩:=hrel;by_cases h0:h=0
    ·subst h0;have hneg:((0:Nat):Int)-1=-1:=rfl;rw[hneg];go_wp2_with fail;go_ret3;have hpq:p=q:=qi (w:=wd) (k:=ks) Hc.o.1 Hc.o.2 U.o.2.1 V.o.2.1 fun j hj=>y.o j (Nat.zero_le _) hj;have hxy:xs=ys:=by
      rw[(df HX.o.2.1 U.o.1).2,(df HC.o.2.1 V.o.1).2,hpq]
     exact⟨Z.o.trans (a.o.mono Z.o.size),fun _=>rfl,fun _ _ hne=>absurd hxy hne⟩
    ·obtain⟨m,rfl⟩:∃m,h=m+1:=⟨h-1,by omega⟩;have hm1:((m+1:Nat):Int)-1=(m:Int):=by omega
     rw[hm1];have hm256:(m:Int)<257:=by omega
     clear hm1 h0;obtain⟨A1,k1,hc1,hy1,ho1⟩:=(Hj.o.below a.o).cell (i:=m) (by rw[Hh.o];omega);obtain⟨B1,l1,hc2,hy2,ho2⟩:=(Hk.o.below a.o).cell (i:=m) (by rw[Hm.o];omega);have Hn:=aa ho1;have He:=aa ho2;have Ho:=aa (And.intro hy1 hy2);have Hp:Hd (∀wx,Below wr.heap.size wr wx->wx.cell? ⟨gl1,m,none⟩=some (.slice A1 (cY wd ks p m).length k1)/\wx.cell? ⟨gl2,m,none⟩=some (.slice B1 (cY wd ks q m).length l1)):=fun wx hb=>⟨(hb.cell (p:=⟨gl1,m,none⟩) (World.block_lt_of_cell? wr ⟨gl1,m,none⟩ hc1)).trans hc1,(hb.cell (p:=⟨gl2,m,none⟩) (World.block_lt_of_cell? wr ⟨gl2,m,none⟩ hc2)).trans hc2⟩;clear ho1 ho2 hy1 hy2 hc1 hc2;go_upto_region 9with fail;refine wp_region_held_drew (S:=fun w'=>w'.cell? ⟨gl1,m,none⟩=some (.slice A1 (cY wd ks p m).length k1)/\w'.cell? ⟨gl2,m,none⟩=some (.slice B1 (cY wd ks q m).length l1)) (by kernel_rfl) (Hp.o _ (af (Below.refl _ _) 1)) fun hH=>?_;have z:Hd (Below wr.heap.size wr wr.drew):=af (Below.refl _ _) 1;generalize wr.drew=w8 at*;refine tka 0 ?_;refine tka 1 ?_;refine tka 2 ?_;refine tka 3 ?_;refine tka 4 ?_;refine tka 5 ?_;refine tka 6 ?_;refine tka 7 ?_;refine rdy 8 fun K hK=>?_;go_simp;go_at_call 65;have Hf:=aa (Hn.o.below z.o);have Hg:=aa (He.o.below z.o);refine(zr A1 B1 (cY wd ks p m).length (cY wd ks q m).length k1 l1 (cY wd ks p m) (cY wd ks q m) w8 Hf.o.reads Hg.o.reads).mono ?_;rintro e w9⟨rfl,rfl⟩;refine hK.out _ _ hH (fun hH=>?_);clear hK;have HA:=aQ a z.o;by_cases hq:cY wd ks p m=cY wd ks q m
     ·rw[decide_eq_true hq];have b:=aa hq;clear hq;refine tka 9 ?_;refine bN ?_;clear hH;go_wp2_with fail;go_roundw
      case rel=>exact⟨m,by omega,by go_num,HA.o,fun j h1 h2=>by
       rcases Nat.lt_or_ge m j with h3|h3
       ·exact y.o j (by omega) h2
       ·obtain rfl:j=m:=by omega
        exact b.o⟩
      case measure=>simp[intOf]
     ·rw[decide_eq_false hq];have b:=aa hq;clear hq;refine tka 9 ?_;refine bN ?_;have hc12:=hH;clear hH;go_upto_region 10with fail;refine wp_region_held_drew (S:=fun w'=>w'.cell? ⟨gl1,m,none⟩=some (.slice A1 (cY wd ks p m).length k1)/\w'.cell? ⟨gl2,m,none⟩=some (.slice B1 (cY wd ks q m).length l1)) (by kernel_rfl) hc12 fun hH=>?_;have HB:Hd (Below w9.heap.size w9 w9.drew):=af (Below.refl _ _) 1;generalize w9.drew=w10 at*;refine tka 0 ?_;refine tka 1 ?_;refine tka 2 ?_;refine tka 3 ?_;refine tka 4 ?_;refine tka 5 ?_;refine tka 6 ?_;refine tka 7 ?_;refine tka 8 ?_;refine tka 9 ?_;refine tka 10 ?_;refine bN ?_;clear hH hc12;go_wp2_with fail;go_ret3;refine⟨Z.o.trans ((HA.o.trans (HB.o.mono HA.o.size)).mono Z.o.size),fun h=>?_,fun _ _ _=>⟨_,_,m,p,q,rfl,U.o.1,V.o.1,by omega,(Hf.o.below HB.o).mono Hb.o.1,(Hg.o.below HB.o).mono Hb.o.2,fun B hB hB'=>?_,b.o,fun j h1 h2=>y.o j (by omega) h2⟩⟩
      ·rcases h with h|h|h
       ·exact absurd t.o h
       ·exact absurd u.o h
       ·exfalso;have h3:=U.o.1;rw[h,V.o.1]at h3;injection h3 with h3;exact b.o (by rw[h3])
      ·have h3:=(Hl.o B (.inr ⟨m,_,Ho.o.1,hB⟩)).2;have h4:=(He.o.lt B hB').1;omega
  ·have h2':¬(q2:Int)=0:=by omega
   subst h1;have HN:=aa h2;clear h2 J M;go_wp2_with fail;go_ret3;exact kz D.o (.inr (by rw[u.o];exact HN.o))
 ·have h1':¬(q1:Int)=0:=by omega
  have HN:=aa h1;clear h1 J M;go_wp2_with fail;go_ret3;exact kz D.o (.inl (by rw[t.o];exact HN.o))
def C1(wd:Int)(h:Nat)(Z:Nat->Chg)(NS:Nat->Nat->List Nat)(a:Nat×List Nat):Nat×List Nat:=(a.1,aZ wd (aU wd (aI (Z a.1).key h a.2 (NS a.1 h)).1 (aI (Z a.1).key h a.2 (NS a.1 h)).2))
def ia(wd:Int)(h:Nat)(Z:Nat->Chg)(NS:Nat->Nat->List Nat):List (Nat×List Nat)->List (Nat×List Nat)
 |[]=>[]
 |[a]=>[C1 wd h Z NS a]
 |a::b::r=>if eS (Z a.1).key (Z b.1).key=255-h then(a.1,aZ wd (aU wd a.2 b.2))::ia wd h Z NS r else C1 wd h Z NS a::ia wd h Z NS (b::r)
def Seg(wd:Int)(h:Nat)(Z:Nat->Chg)(NS:Nat->Nat->List Nat)(n:Nat):Nat->List (Nat×List Nat)->Prop
 |s,[]=>s=n
 |s,a::L=>a.1=s/\∃e,s<e/\e<=n/\(∀j,s<=j->j<e->256-h<=eS (Z s).key (Z j).key)/\(e<n->eS (Z s).key (Z e).key<256-h)/\a.2=iQ wd h (e-s) (fun j=>Z (s+j)) (fun j=>NS (s+j))/\Seg wd h Z NS n e L
structure pY(Z:Nat->Chg)(n:Nat):Prop where
 good:∀i,i<n->IsB (Z i).key/\(Z i).key.length=32
 rise:∀i j,i<j->j<n->eJ (Z i).key<=eJ (Z j).key
 diff:∀i j,i<j->j<n->eS (Z i).key (Z j).key<256
section
variable{wd:Int}{h n:Nat}{Z:Nat->Chg}{NS:Nat->Nat->List Nat}
theorem pY.bit(hr:pY Z n){i j b:Nat}(hij:i<j)(hj:j<n)(hb:b<=256)(hs:b<=eS (Z i).key (Z j).key):cU (Z i).key b<=cU (Z j).key b:=ux (hr.good i (by omega)).1 (hr.good i (by omega)).2 (hr.good j hj).1 (hr.good j hj).2 ((dH hb).1 hs) (hr.rise i j hij hj)
theorem DG(hh:h<256){s e:Nat}(hse:s<e)(hc:∀j,s<=j->j<e->256-h<=eS (Z s).key (Z j).key):iQ wd (h+1) (e-s) (fun j=>Z (s+j)) (fun j=>NS (s+j))=aZ wd (aU wd (aI (Z s).key h (iQ wd h (e-s) (fun j=>Z (s+j)) (fun j=>NS (s+j))) (NS s h)).1 (aI (Z s).key h (iQ wd h (e-s) (fun j=>Z (s+j)) (fun j=>NS (s+j))) (NS s h)).2):=by
 have hbit:∀j,j<e-s->cU (Z (s+j)).key (255-h)=cU (Z s).key (255-h):=fun j hj=>((dH (show 256-h<=256by omega)).1 (hc (s+j) (by omega) (by omega)) (255-h) (by omega)).symm;rw[iQ];by_cases hb:cU (Z s).key (255-h)=0
 ·have hk:dZ (fun j=>Z (s+j)) (255-h) (e-s)=e-s:=kw (Nat.le_refl _) (fun j hj=>by show cU (Z (s+j)).key _=0;rw[hbit j hj];exact hb) (fun h=>absurd h (Nat.lt_irrefl _));rw[hk,if_pos (by omega),if_neg (by omega)];unfold aI;rw[if_pos hb];rfl
 ·have hk:dZ (fun j=>Z (s+j)) (255-h) (e-s)=0:=kw (Nat.zero_le _) (fun j hj=>absurd hj (Nat.not_lt_zero _)) (fun h=>by show¬cU (Z (s+0)).key _=0;rw[hbit 0 h];exact hb);rw[hk,if_neg (by omega),if_pos (by omega)];unfold aI;rw[if_neg hb];simp only[Nat.zero_add,Nat.sub_zero];rfl
theorem DF(hr:pY Z n)(hh:h<256){s e f:Nat}(hse:s<e)(hef:e<f)(hfn:f<=n)(hc:∀j,s<=j->j<e->256-h<=eS (Z s).key (Z j).key)(hp:eS (Z s).key (Z e).key=255-h):iQ wd (h+1) (f-s) (fun j=>Z (s+j)) (fun j=>NS (s+j))=aZ wd (aU wd (iQ wd h (e-s) (fun j=>Z (s+j)) (fun j=>NS (s+j))) (iQ wd h (f-e) (fun j=>Z (e+j)) (fun j=>NS (e+j)))):=by
 have hne:=((xN (show 255-h<256by omega)).1 hp).2;have hle:=hr.bit hse (show e<n by omega) (show 255-h<=256by omega) (by omega);have h2:=lJ (Z e).key (255-h);have hb0:cU (Z s).key (255-h)=0:=by omega
 have hb1:¬cU (Z e).key (255-h)=0:=by omega
 have hk:dZ (fun j=>Z (s+j)) (255-h) (f-s)=e-s:=kw (by omega) (fun j hj=>by
  show cU (Z (s+j)).key _=0;rw[<-hb0];exact((dH (show 256-h<=256by omega)).1 (hc (s+j) (by omega) (by omega)) (255-h) (by omega)).symm) (fun _=>by
  show¬cU (Z (s+(e-s))).key _=0;rw[show s+(e-s)=e by omega];exact hb1);rw[iQ,hk,if_pos (by omega),if_pos (by omega)];have e1:(fun j=>Z (s+(e-s+j)))=fun j=>Z (e+j):=by
  funext j;rw[show s+(e-s+j)=e+j by omega]
 have e2:(fun j=>NS (s+(e-s+j)))=fun j=>NS (e+j):=by
  funext j;rw[show s+(e-s+j)=e+j by omega]
 rw[e1,e2,show f-s-(e-s)=f-e by omega]
theorem jr{s:Nat}{a:Nat×List Nat}{L:List (Nat×List Nat)}:Seg wd h Z NS n s (a::L)↔a.1=s/\∃e,s<e/\e<=n/\(∀j,s<=j->j<e->256-h<=eS (Z s).key (Z j).key)/\(e<n->eS (Z s).key (Z e).key<256-h)/\a.2=iQ wd h (e-s) (fun j=>Z (s+j)) (fun j=>NS (s+j))/\Seg wd h Z NS n e L:=by
 rw[Seg]
theorem yt(hr:pY Z n)(hh:h<256){a b:Nat×List Nat}{R:List (Nat×List Nat)}{s e f:Nat}(h1:a.1=s)(h2:s<e)(h4:∀j,s<=j->j<e->256-h<=eS (Z s).key (Z j).key)(h6:a.2=iQ wd h (e-s) (fun j=>Z (s+j)) (fun j=>NS (s+j)))(k2:e<f)(k3:f<=n)(k4:∀j,e<=j->j<f->256-h<=eS (Z e).key (Z j).key)(k5:f<n->eS (Z e).key (Z f).key<256-h)(k6:b.2=iQ wd h (f-e) (fun j=>Z (e+j)) (fun j=>NS (e+j)))(hp:eS (Z s).key (Z e).key=255-h)(k7:Seg wd (h+1) Z NS n f R):Seg wd (h+1) Z NS n s ((a.1,aZ wd (aU wd a.2 b.2))::R):=by
 have hen:e<n:=by omega
 refine⟨h1,f,by omega,k3,fun j j1 j2=>?_,fun hf=>?_,?_,k7⟩
 ·rcases Nat.lt_or_ge j e with q|q
  ·have:=h4 j j1 q;omega
  ·refine(dH (by omega)).2 fun b hb=>?_;rw[(dH (show 255-h<=256by omega)).1 (show 255-h<=eS (Z s).key (Z e).key by omega) b (by omega),(dH (show 256-h<=256by omega)).1 (k4 j q j2) b (by omega)]
 ·refine Nat.lt_of_not_le fun hc=>?_;have h8:=k5 hf;have hne:=((xN (show 255-h<256by omega)).1 hp).2;have hle:=hr.bit h2 hen (show 255-h<=256by omega) (by omega);have h2':=lJ (Z e).key (255-h);have hef:255-h<=eS (Z e).key (Z f).key:=(dH (by omega)).2 fun b hb=>by
   rw[<-(dH (show 255-h<=256by omega)).1 (show 255-h<=eS (Z s).key (Z e).key by omega) b hb,(dH (show 256-(h+1)<=256by omega)).1 hc b (by omega)]
  have hle2:=hr.bit k2 hf (show 255-h<=256by omega) hef;have h3':=lJ (Z f).key (255-h);have h9:=(qQ (a:=(Z e).key) (b:=(Z f).key) (show 255-h<256by omega)).2 ⟨hef,by omega⟩;omega
 ·show aZ _ _=_;rw[DF hr hh h2 k2 k3 h4 hp,<-h6,<-k6]
theorem qp(hh:h<256){a:Nat×List Nat}{R:List (Nat×List Nat)}{s e:Nat}(h1:a.1=s)(h2:s<e)(h3:e<=n)(h4:∀j,s<=j->j<e->256-h<=eS (Z s).key (Z j).key)(h6:a.2=iQ wd h (e-s) (fun j=>Z (s+j)) (fun j=>NS (s+j)))(h5:e<n->eS (Z s).key (Z e).key<255-h)(h7:Seg wd (h+1) Z NS n e R):Seg wd (h+1) Z NS n s (C1 wd h Z NS a::R):=by
 refine⟨h1,e,h2,h3,fun j j1 j2=>by have:=h4 j j1 j2;omega,fun he=>by have:=h5 he;omega,?_,h7⟩;show aZ _ _=_;rw[DG hh h2 h4,<-h6,h1]
theorem mQ(a b:Nat×List Nat)(r:List (Nat×List Nat)):ia wd h Z NS (a::b::r)=if eS (Z a.1).key (Z b.1).key=255-h then(a.1,aZ wd (aU wd a.2 b.2))::ia wd h Z NS r else C1 wd h Z NS a::ia wd h Z NS (b::r):=by
 rw[ia]
theorem Bb(hr:pY Z n)(hh:h<256)(m:Nat):∀(L:List (Nat×List Nat))(s:Nat),L.length<=m->Seg wd h Z NS n s L->Seg wd (h+1) Z NS n s (ia wd h Z NS L):=by
 induction m with
 |zero=>
  intro L s hl hs;cases L with
  |nil=>exact(show s=n from hs)
  |cons a L=>simp at hl
 |succ m ih=>
  intro L s hl hs;cases L with
  |nil=>exact(show s=n from hs)
  |cons a L=>
   obtain⟨h1,e,h2,h3,h4,h5,h6,h7⟩:=jr.1 hs;cases L with
   |nil=>
    have h7:e=n:=h7;exact qp hh h1 h2 h3 h4 h6 (fun he=>by omega) h7
   |cons b r=>
    generalize hX:ia wd h Z NS (a::b::r)=X;obtain⟨k1,f,k2,k3,k4,k5,k6,k7⟩:=jr.1 h7;simp only[List.length_cons]at hl;have h5:=h5 (by omega);rw[mQ,h1,k1]at hX;by_cases hp:eS (Z s).key (Z e).key=255-h
    ·rw[if_pos hp]at hX;have hm:=yt hr hh h1 h2 h4 h6 k2 k3 k4 k5 k6 hp (ih r f (by omega) k7);rw[h1,hX]at hm;exact hm
    ·rw[if_neg hp]at hX;have hm:=qp hh h1 h2 h3 h4 h6 (fun _=>by omega) (ih (b::r) e (by simp only[List.length_cons];omega) h7);rw[hX]at hm;exact hm
theorem yr(hr:pY Z n)(L:List (Nat×List Nat))(s:Nat)(hl:s+L.length=n)(hL:∀j a,L[j]?=some a->a=(s+j,eK wd (Z (s+j)))):Seg wd 0 Z NS n s L:=by
 induction L generalizing s with
 |nil=>
  show s=n;simpa using hl
 |cons a L ih=>
  have ha:=hL 0 a rfl;simp at hl ha;refine⟨by rw[ha],s+1,by omega,by omega,fun j j1 j2=>?_,fun hf=>hr.diff s (s+1) (by omega) hf,?_,ih (s+1) (by omega) fun j b hj=>?_⟩
  ·obtain rfl:j=s:=by omega
   have:=(dH (a:=(Z j).key) (b:=(Z j).key) (Nat.le_refl 256)).2 fun _ _=>rfl;omega
  ·rw[ha];rfl
  ·have:=hL (j+1) b (by simpa using hj);rw[this,show s+(j+1)=s+1+j by omega]
theorem DI(hn:0<n){L:List (Nat×List Nat)}(hs:Seg wd 256 Z NS n 0 L):L=[(0,iQ wd 256 n Z NS)]:=by
 cases L with
 |nil=>have:0=n:=hs;omega
 |cons a L=>
  obtain⟨h1,e,h2,h3,h4,h5,h6,h7⟩:=jr.1 hs;have he:e=n:=by
   rcases Nat.lt_or_eq_of_le h3 with h|h
   ·have:=h5 h;omega
   ·exact h
  subst he;cases L with
  |nil=>
   obtain⟨a1,a2⟩:=a;simp only[Nat.zero_add,Nat.sub_zero]at h1 h6;rw[h1,h6]
  |cons b L=>
   obtain⟨_,f,k2,k3,_⟩:=jr.1 h7;omega
theorem DH(L:List (Nat×List Nat))(s:Nat)(hs:Seg wd h Z NS n s L):s+L.length<=n:=by
 induction L generalizing s with
 |nil=>have h1:s=n:=hs;simp;omega
 |cons a L ih=>
  obtain⟨h1,e,h2,h3,h4,h5,h6,h7⟩:=jr.1 hs;have:=ih e h7;simp;omega
theorem C8(L:List (Nat×List Nat))(s:Nat)(hs:Seg wd h Z NS n s L):∀a∈L,a.1<n:=by
 induction L generalizing s with
 |nil=>exact fun a h=>absurd h (List.not_mem_nil)
 |cons b L ih=>
  obtain⟨h1,e,h2,h3,h4,h5,h6,h7⟩:=jr.1 hs;intro a ha;rcases List.mem_cons.1 ha with rfl|ha
  ·omega
  ·exact ih e h7 a ha
theorem pd{L:List (Nat×List Nat)}{k:Nat}{a:Nat×List Nat}(h:L[k]?=some a):L.drop k=a::L.drop (k+1):=by
 obtain⟨h1,h2⟩:=List.getElem?_eq_some_iff.1 h;rw[List.drop_eq_getElem_cons h1,h2]
theorem AU{L:List (Nat×List Nat)}{k:Nat}{a b:Nat×List Nat}(ha:L[k]?=some a)(hb:L[k+1]?=some b)(hq:eS (Z a.1).key (Z b.1).key=255-h):ia wd h Z NS (L.drop k)=(a.1,aZ wd (aU wd a.2 b.2))::ia wd h Z NS (L.drop (k+2)):=by
 rw[pd ha,pd hb,mQ,if_pos hq]
theorem DC{L:List (Nat×List Nat)}{k:Nat}{a:Nat×List Nat}(ha:L[k]?=some a)(hq:∀b,L[k+1]?=some b->¬eS (Z a.1).key (Z b.1).key=255-h):ia wd h Z NS (L.drop k)=C1 wd h Z NS a::ia wd h Z NS (L.drop (k+1)):=by
 rw[pd ha];cases hb:L[k+1]?with
 |none=>
  have h1:L.length<=k+1:=List.getElem?_eq_none_iff.1 hb;rw[List.drop_of_length_le h1];rfl
 |some b=>rw[pd hb,mQ,if_neg (hq b hb)]
structure xt(Z:Nat->Chg)(h s:Nat)(L:List (Nat×List Nat))(q:Nat):Prop where
 ex:∃b,L[q+1]?=some b/\eS (Z s).key (Z b.1).key=255-h
structure qd(Z:Nat->Chg)(h s:Nat)(L:List (Nat×List Nat))(q:Nat):Prop where
 no:∀b,L[q+1]?=some b->¬eS (Z s).key (Z b.1).key=255-h
theorem DV{L:List (Nat×List Nat)}{q s s2 cm:Nat}{D2:List Nat}{ht:Int}(hb:L[q+1]?=some (s2,D2))(hc:eS (Z s).key (Z s2).key=cm)(hh:255-(h:Int)=ht)(h2:h<256)(e:(cm:Int)=ht):xt Z h s L q:=⟨⟨(s2,D2),hb,hc.trans (by omega)⟩⟩
theorem DU{L:List (Nat×List Nat)}{q s s2 cm:Nat}{D2:List Nat}{ht:Int}(hb:L[q+1]?=some (s2,D2))(hc:eS (Z s).key (Z s2).key=cm)(hh:255-(h:Int)=ht)(h2:h<256)(e:¬(cm:Int)=ht):qd Z h s L q:=⟨fun b hb2 hq=>by
  have e1:b=(s2,D2):=Option.some.inj (hb2.symm.trans hb);rw[e1]at hq;have e2:cm=255-h:=hc.symm.trans hq;omega⟩
theorem EV{L:List (Nat×List Nat)}{q s:Nat}(hl:L.length<=q+1):qd Z h s L q:=⟨fun b hb _=>by
  have:=(List.getElem?_eq_some_iff.1 hb).1;omega⟩
theorem sI{X Y:Nat->Chg}{b n:Nat}(h:∀j,j<n->X j=Y j):dZ X b n=dZ Y b n:=by
 induction n with
 |zero=>rfl
 |succ n ih=>rw[dZ,dZ,ih fun j hj=>h j (by omega),h n (by omega)]
theorem lN(w:Int):∀(h n:Nat)(X Y:Nat->Chg)(NS MS:Nat->Nat->List Nat),0<n->(∀j,j<n->X j=Y j)->(∀j,j<n->NS j=MS j)->iQ w h n X NS=iQ w h n Y MS
 |0,n,X,Y,NS,MS,hn,hX,hN=>by rw[iQ,iQ,hX 0 hn]
 |h+1,n,X,Y,NS,MS,hn,hX,hN=>by
  have hl:=tV Y (255-h) n;rw[iQ,iQ,sI hX,hN 0 hn];congr 2
  ·split
   ·exact lN w h _ X Y NS MS (by assumption) (fun j hj=>hX j (by omega)) (fun j hj=>hN j (by omega))
   ·rfl
  ·split
   ·exact lN w h _ _ _ _ _ (by omega) (fun j hj=>hX _ (by omega)) (fun j hj=>hN _ (by omega))
   ·rfl
end
section
variable{P:Program}
theorem sW{t e:TypeId}{z:Value}{by_ sz:Nat}(ht:P.underlying t=some (.slice e))(hinfo:(P.info? e).map (fun i=>(i.zero,i.size,i.bytes))=some (some z,sz,by_))(hzs:z.cells.size=sz)(hsz:0<sz){o:Oper}{a:Act}(w:World)(s x:Operand)(ho:o.op= .call {callee:= .builtin .append,args:=#[s,x],argTypes:=#[t,t]})(base:Nat)(v:Value)(n:Nat)(xs:List Value)(hown:w.ownsRow base e sz v n xs)(cs:List Value)(hcl:cs.length=sz)(hone:∀u∈cs,u.oneCell'=true)(hs:a.eval s=v)(hx:a.eval x= .slice (some ⟨w.heap.size,0,none⟩) 1 1)(hlen:(n+1)*by_<=140737488355328)(hm:n+1<=140737488355328)(hbase:base<=w.heap.size):∃v' w',(execOp a.eval o).run P (w.alloc (.cells cs.toArray e))= .ok (.value v') w'/\w'.ownsRow base e sz v' (n+1) (xs++cs)/\w.grownBy w' v.ownBlock/\iT w v v':=by
 obtain⟨i,hi,hz,hs1,hby⟩:=info_parts hinfo;obtain⟨v',w',hr,h1,h2,_,h4⟩:=run_append_own_at (P:=P) (w.alloc (.cells cs.toArray e)) base t o.type e i z sz by_ ht hi hz hs1 hby hzs hsz v n xs (hown.alloc _) ⟨w.heap.size,0,none⟩ 1 1 cs (by omega) (fun j u hj=>by
   rw[add_lit,cell_of_row _ _ _ _ _ _ (heap_alloc_new w _),Nat.zero_add,List.getElem?_toArray];exact hj) hone (by unfold maxLen;omega) hlen (by simp;omega);refine⟨v',w',?_,h1,aE (World.grownBy_alloc _ _ _) h2,?_⟩
 ·unfold execOp;simp only[ho,resolve,invoke,builtin,Sem.run_bind,Sem.run_pure,Result.andThen_ok,List.map_toArray,List.map_cons,List.map_nil,hs,hx,hr]
 ·intro k hk;rcases h4 with h4|h4
  ·rw[h4]at hk;exact .inl hk
  ·rw[h4]at hk;injection hk with hk;simp at hk;exact .inr (by omega)
theorem gK{t e:TypeId}{z:Value}{by_ sz:Nat}(ht:P.underlying t=some (.slice e))(hinfo:(P.info? e).map (fun i=>(i.zero,i.size,i.bytes))=some (some z,sz,by_))(hzs:z.cells.size=sz)(hsz:0<sz){ops:Array Oper}{Q:Exit->Act->World->Prop}{K:Act->World->Prop}{E:Prop}{o:Oper}{a:Act}(hw:Region.wanted o (yielded ops a.tmps)=true)(w:World)(s x:Operand)(ho:o.op= .call {callee:= .builtin .append,args:=#[s,x],argTypes:=#[t,t]})(base:Nat)(v:Value)(n:Nat)(xs:List Value)(hown:w.ownsRow base e sz v n xs)(cs:List Value)(hcl:cs.length=sz)(hone:∀u∈cs,u.oneCell'=true)(hs:a.eval s=v)(hx:a.eval x= .slice (some ⟨w.heap.size,0,none⟩) 1 1)(hlen:(n+1)*by_<=140737488355328)(hm:n+1<=140737488355328)(hbase:base<=w.heap.size)(h:∀v' w',w'.ownsRow base e sz v' (n+1) (xs++cs)->w.grownBy w' v.ownBlock->iT w v v'->K (a.put o.dst v') w'):if Region.wanted o (yielded ops a.tmps)=true then o.wp P a (w.alloc (.cells cs.toArray e)) K Q else E:=by
 obtain⟨v',w',hr,h1,h2,h3⟩:=sW ht hinfo hzs hsz w s x ho base v n xs hown cs hcl hone hs hx hlen hm hbase;rw[if_pos hw];unfold Oper.wp;rw[hr];exact h v' w' h1 h2 h3
end
def cJ(a:Nat×List Nat):List Value:= .int .i64 (a.1:Nat)::bvs a.2
theorem dz{a:Nat×List Nat}(h:a.2.length=32):(cJ a).length=33:=by simp[cJ,bvs,h]
theorem lP(a:Nat×List Nat):∀u∈cJ a,u.oneCell'=true:=fun u hu=>by
 rcases List.mem_cons.1 hu with rfl|h
 ·rfl
 ·exact ah _ u h
theorem ln:Tryz.prog.underlying 141=some (.slice 143):=by kernel_rfl
theorem rY:(Tryz.prog.info? 143).map (fun i=>(i.zero,i.size))=some (some (.agg (cJ (0,zs 32)).toArray),33):=by kernel_rfl
theorem pw:(Tryz.prog.info? 143).map (fun i=>(i.zero,i.size,i.bytes))=some (some (.agg (cJ (0,zs 32)).toArray),33,40):=by kernel_rfl
theorem CC(ps:List (Nat×Value)):Tryz.prog.built 143 ps=Instr.fill (#[(0,1),(1,32)][·]?) (cJ (0,zs 32)).toArray ps:=by
 have h1:(Tryz.prog.info? 143).map (·.zero)=some (some (.agg (cJ (0,zs 32)).toArray)):=by kernel_rfl
 obtain⟨i,hi,hz⟩:∃i,Tryz.prog.info? 143=some i/\i.zero=some (.agg (cJ (0,zs 32)).toArray):=by
  cases hq:Tryz.prog.info? 143with
  |none=>simp[hq]at h1
  |some i=>exact⟨i,rfl,by simpa[hq]using h1⟩
 have hp:(Tryz.prog.underlying 143).bind (fun d=>match d with| .struct fs=>fs.toList.mapM (fun f=>(Tryz.prog.info? f.type).map fun i=>(f.offset,i.size))|_=>none)=some [(0,1),(1,32)]:=by kernel_rfl
 rw[Tryz.underlying143]at hp;unfold Program.built;rw[hi,Tryz.underlying143];simp only[hz];simp only[Option.bind_some]at hp;rw[hp];rfl
theorem ke(s:Nat)(D:List Nat)(hD:D.length=32):Tryz.prog.built 143 [(0, .int .i64 (s:Nat)),(1, .agg (bvs D).toArray)]=some (cJ (s,D)).toArray:=by
 have hkl:(bvs D).length=32:=by simp[bvs,hD]
 have s1:((Value.agg (bvs D).toArray).cells).size=32:=by simp[Value.cells,hkl]
 have hzl:(cJ (0,zs 32)).toArray.size=33:=by rfl
 rw[CC,de (off:=0) (size:=1) rfl rfl (by rw[hzl];omega),de (off:=1) (size:=32) rfl s1 (by rw[dV,hzl];omega),Instr.fill];have e1:(Value.int .i64 (s:Nat)).cells=[Value.int .i64 (s:Nat)].toArray:=rfl;have e2:((Value.agg (bvs D).toArray).cells)=(bvs D).toArray:=rfl;have f1:=fy [] [Value.int .i64 0] [Value.int .i64 (s:Nat)] (bvs (zs 32)) rfl;have f2:=fy [Value.int .i64 (s:Nat)] (bvs (zs 32)) (bvs D) [] (by rw[hkl];rfl);rw[e1,e2];have g1:(cJ (0,zs 32)).toArray=([]++([Value.int .i64 0]++bvs (zs 32))).toArray:=rfl;rw[g1];change some (spl (spl _ (List.length ([]:List Value)) _) (List.length [Value.int IntKind.i64 (s:Nat)]) _)=_;rw[f1];have g2:(([]:List Value)++([Value.int .i64 (s:Nat)]++bvs (zs 32)))=[Value.int .i64 (s:Nat)]++(bvs (zs 32)++[]):=by simp
 rw[g2,f2];simp[cJ]
def kZ(w:World)(base:Nat)(v:Value)(L:List (Nat×List Nat)):Prop:=w.ownsRow base 143 33 v L.length (L.map cJ).flatten/\∀a∈L,a.2.length=32/\IsB a.2
section
variable{w w':World}{base g c n:Nat}{v:Value}{L:List (Nat×List Nat)}{U:Nat->Prop}
theorem kZ.nil(w:World)(base:Nat):kZ w base (.slice none 0 0) []:=⟨World.ownsRow_nil _ _ _ _,fun a h=>by cases h⟩
theorem kZ.touch(h:kZ w base v L)(ht:ae U w w')(hn:∀k,v.ownBlock=some k->¬U k):kZ w' base v L:=⟨ht.row h.1 hn,h.2⟩
theorem kZ.below(h:kZ w base v L)(hb:Below w.heap.size w w'):kZ w' base v L:=h.touch (ae.ofBelow hb) fun _ _ h=>h
theorem kZ.push(h:kZ w base v L){a:Nat×List Nat}(ha:a.2.length=32/\IsB a.2){v':Value}(ho:w'.ownsRow base 143 33 v' (L.length+1) ((L.map cJ).flatten++cJ a)):kZ w' base v' (L++[a]):=by
 refine⟨?_,fun b hb=>?_⟩
 ·rw[List.length_append,List.map_append,List.flatten_append];simpa using ho
 ·rcases List.mem_append.1 hb with h1|h1
  ·exact h.2 b h1
  ·simp at h1;rw[h1];exact ha
theorem kZ.form(h:kZ w base v L):∃A c,v= .slice A L.length c:=by
 rcases h.1.2with⟨e,h0⟩|⟨g,cap,cur,e,_⟩
 ·exact⟨none,0,by rw[e,h0]⟩
 ·exact⟨_,_,e⟩
theorem kZ.head(h:kZ w base v L)(hn:0<L.length):∃g c,v= .slice (some ⟨g,0,none⟩) L.length c/\base<=g/\g<w.heap.size:=by
 obtain⟨g,c,h1,h2,h3,_⟩:=jt h.1 hn;exact⟨g,c,h1,h2,h3⟩
theorem kZ.at_(h:kZ w base (.slice (some ⟨g,0,none⟩) n c) L){j:Nat}{a:Nat×List Nat}(hj:L[j]?=some a):w.cell? ⟨g,j*33,none⟩=some (.int .i64 (a.1:Nat))/\w.rangeAt g (j*33+1) (bvs a.2)/\a.2.length=32/\IsB a.2:=by
 have hlt:=(List.getElem?_eq_some_iff.1 hj).1;have ha:=h.2 a (List.mem_of_getElem? hj);have hn:n=L.length:=by
  rcases h.1.2with⟨e,h0⟩|⟨g',cap,cur,e,_⟩
  ·cases e
  ·injection e
 subst hn;have hall:∀b∈L.map cJ,b.length=33:=fun b hb=>by
  obtain⟨a',ha',rfl⟩:=List.mem_map.1 hb;exact dz (h.2 a' ha').1
 have hm:(L.map cJ)[j]?=some (cJ a):=by rw[List.getElem?_map,hj];rfl
 refine⟨?_,fun i x hi=>?_,ha⟩
 ·have h1:=World.ownsRow.cellAt h.1 (j*33+0) (by omega);rw[Nat.add_zero]at h1;rw[h1];have h2:=pB hall hm (show 0<33by omega);rw[Nat.add_zero]at h2;rw[h2];rfl
 ·have hi32:i<32:=by
   have:=(List.getElem?_eq_some_iff.1 hi).1;simpa[bvs,ha.1]using this
  rw[World.ownsRow.cellAt h.1 (j*33+1+i) (by omega),show j*33+1+i=j*33+(i+1)by omega,pB hall hm (show i+1<33by omega)];show(cJ a)[i+1]?=_;rw[cJ,List.getElem?_cons_succ];exact hi
end
end Go.Proofs.YtfnlhfaihoojfaaGreatDoor
