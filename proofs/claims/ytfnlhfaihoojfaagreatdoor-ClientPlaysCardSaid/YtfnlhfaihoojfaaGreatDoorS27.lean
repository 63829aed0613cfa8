/- Texts of the proof of ledgerlaw13.ClientPlays, part 27; no condition of its own. -/
import Derived.Shelf.SlSortCmp.WholeK
import Derived.Test.YtfnlhfaihoojfaaGreatDoorS26
set_option maxRecDepth 100000
set_option maxHeartbeats 4000000
namespace Go.Proofs.YtfnlhfaihoojfaaGreatDoor
open Go.RowKit
theorem Bq(ds es:List Nat)(w:World)(hB:IsB ds)(hl:ds.length=32)(hB2:IsB es)(hl2:es.length=32):Calls Tryz.prog 76 #[.agg (bvs ds).toArray, .agg (bvs es).toArray] w fun e w'=>e= .returned (.int .i64 (eS ds es:Nat))/\Below w.heap.size w w':=pL ds es (eS ds es) w hB hl hB2 hl2 (kA _ _ _) ((mt (kA ds es 256)).1 (Nat.le_refl _)) fun h he=>by
  have h1:eS ds es+1<=eS ds es:=(mt (show eS ds es+1<=256by omega)).2 fun j hj=>by
   rcases Nat.lt_or_eq_of_le (Nat.le_of_lt_succ hj)with h2|h2
   ·exact(mt (kA ds es 256)).1 (Nat.le_refl _) j h2
   ·rw[h2];exact he
  omega
theorem u9{ds:Nat->List Nat}{n k:Nat}(hk:k<n):∃r,∀D,bZ (upd ds k D) n=bZ ds k++(D++r):=by
 induction n with
 |zero=>omega
 |succ n ih=>
  rcases Nat.lt_or_eq_of_le (Nat.le_of_lt_succ hk)with h|h
  ·obtain⟨r,hr⟩:=ih h;exact⟨r++ds n,fun D=>by rw[bZ,hr,au _ _ (by omega)];simp⟩
  ·subst h;exact⟨[],fun D=>by rw[bZ,az,vd (es:=ds) fun j hj=>au _ _ (by omega)];simp⟩
theorem dq.parts{w:World}{base gn n cn k:Nat}{ds:Nat->List Nat}(h:dq w base (.slice (some ⟨gn,0,none⟩) n cn) n ds)(hl:∀j,j<n->(ds j).length=32)(hk:k<n):∃X Z:List Value,X.length=k*32/\ab w gn 34 (X++(bvs (ds k)++Z)).toArray/\∀w' D,D.length=32->ab w' gn 34 (X++(bvs D++Z)).toArray->dq w' base (.slice (some ⟨gn,0,none⟩) n cn) n (upd ds k D):=by
 obtain⟨r,hr⟩:=u9 (ds:=ds) hk;have hsp:bZ ds n=bZ ds k++(ds k++r):=by rw[<-hr (ds k),AN]
 have hL:=pl (ds:=ds) (n:=n) hl;have hk32:(bZ ds k).length=k*32:=pl fun j hj=>hl j (by omega);have hkl:=hl k hk;rcases h.2with⟨e,_⟩|⟨g,cap,cur,e,h1,h2,h3,h4,h5,h6⟩
 ·cases e
 ·injection e with e1 e2 e3;injection e1 with e1;injection e1 with e1;subst e1 e3;have hcur:cur.toList=bvs (bZ ds n)++cur.toList.drop (n*32):=by rw[<-h6,List.take_append_drop]
  generalize cur.toList.drop (n*32)=T at*;have hcl:=congrArg List.length hcur;have hspl:=congrArg List.length hsp;simp[bvs]at hcl hspl;refine⟨bvs (bZ ds k),bvs r++T,by simp[bvs,hk32],?_,fun w' D hD hw'=>?_⟩
  ·show w.heap[gn]?=_;rw[h2];congr 2;apply Array.toList_inj.1;rw[hcur,hsp];simp[bvs]
  ·have hlu:(bZ (upd ds k D) n).length=n*32:=by rw[hr D];simp;omega
   refine⟨by simp[bvs,hlu], .inr ⟨gn,cn,_,rfl,h1,hw',h3,h4,?_,?_⟩⟩
   ·simp[bvs];omega
   ·rw[hr D,List.toList_toArray,show bvs (bZ ds k)++(bvs D++(bvs r++T))=bvs (bZ ds k++(D++r))++T by simp[bvs],List.take_left'];rw[<-hr D];simp[bvs,hlu]
theorem dq.nearAt{w:World}{base g c:Nat}{ds:Nat->List Nat}(h:dq w base (.slice (some ⟨g,0,none⟩) 256 c) 256 ds)(hl:∀j,j<256->(ds j).length=32):cX w g ds:=⟨(h.lt rfl).2,fun _ hk=>h.range hl hk⟩
theorem zK(f:Bool)(a:Option Addr)(l c:Nat)(b:Option Addr)(m d:Nat):Tryz.prog.built 112 [(0, .bool f),(1, .slice a l c),(2, .slice b m d)]=some (spC f (.slice a l c) (.slice b m d)).toArray:=by kernel_rfl
def CY(wd:Int)(root ks raw rawAt:List Nat)(x:Chg):Nat:=if dj wd root ks raw=0then wU wd root rawAt x else dj wd root ks raw
def wQ(wd:Int)(ks:List Nat)(x:Chg)(p q:Pr):Pr:=if ks=x.key then prU wd (!x.del) x.val (av wd p) 256 else prU wd p.found p.val (upd (av wd p) (255-eS ks x.key) (bd wd x.key (eK wd x) (av wd q) (255-eS ks x.key))) 256
def EA(E:Nat)(wd:Int)(root ks raw rawAt:List Nat)(x:Chg)(w:World)(e:Ending)(w':World):Prop:=Below w.heap.size w w'/\(E≠0->e= .returned (.tuple #[.slice none 0 0, .int .i64 (E:Nat)]))/\(E=0->∃p q V,dF raw=some p/\bM wd p 256=0/\bT wd ks p 256=root/\dF rawAt=some q/\bM wd q 256=0/\bT wd x.key q 256=root/\dD x=false/\e= .returned (.tuple #[V, .int .i64 0])/\bn w' w.heap.size V (pS (wQ wd ks x p q)))
theorem Bh{wd:Int}{root ks raw rawAt:List Nat}{x:Chg}(h:¬(1<=wd/\wd<=32)):CY wd root ks raw rawAt x=1:=by
 unfold CY;rw[kP h];rfl
theorem ve(wd:Int)(root ks:List Nat)(A:Option Addr)(n cc:Nat)(xs:List Nat)(A2:Option Addr)(n2 cc2:Nat)(ys:List Nat)(x:Chg)(B:Option Addr)(C:Nat)(w:World)(hr:IsB root)(hrl:root.length=32)(hks:IsB ks)(hksl:ks.length=32)(hk:IsB x.key)(hkl:x.key.length=32)(hx:RB w A n xs)(hnc:n<=cc)(hn:n<=140737488355328)(hy:RB w A2 n2 ys)(hnc2:n2<=cc2)(hn2:n2<=140737488355328)(hv:RB w B x.val.length x.val)(hB:B=none->C=0)(ht:du w):Calls Tryz.prog 36 #[.int .i64 wd, .agg (bvs root).toArray, .agg (bvs ks).toArray, .slice A n cc, .slice A2 n2 cc2, .agg (chC x B C).toArray] w (EA (CY wd root ks xs ys x) wd root ks xs ys x w):=by
 have R:=aa (And.intro hrl hr);have H:=aa (And.intro hksl hks);have F:=aa (And.intro hkl hk);have HX:=aa hx;have HY:=aa hy;have H5:=aa hv;have Jf:=aa hB;have HG:=aa (And.intro (And.intro hnc hn) (And.intro hnc2 hn2));have J:=aa ht;clear hr hrl hks hksl hk hkl hx hnc hn ht hv hy hnc2 hn2 hB;suffices h:∀E,CY wd root ks xs ys x=E->Calls Tryz.prog 36 #[.int .i64 wd, .agg (bvs root).toArray, .agg (bvs ks).toArray, .slice A n cc, .slice A2 n2 cc2, .agg (chC x B C).toArray] w (EA E wd root ks xs ys x w)from h _ rfl;intro E hE;have HE:=aa hE;clear hE;by_cases hw:1<=wd/\wd<=32
 ·obtain⟨wk,rfl⟩:∃wk:Nat,wd=wk:=⟨wd.toNat,by omega⟩;have HI:Hd (1<=wk/\wk<=32):=by obtain⟨h1,h2⟩:=hw;exact⟨by omega,by omega⟩
  have hd:=decide_eq_true hw;clear hw;obtain⟨E1,HA⟩:∃E1,Hd (dj wk root ks xs=E1):=⟨_,rfl⟩;obtain⟨E2,H6⟩:∃E2,Hd (dj wk root x.key ys=E2):=⟨_,rfl⟩;have Hh:Hd (E=if E1=0then(if E2=0then(if dD x then 32 else 0)else E2)else E1):=by rw[<-HE.o,<-HA.o,<-H6.o];rfl
  clear HE;go_enter Tryz.func36,Tryz.ntmps36;go_upto_region 1with fail;refine fC (G:=fun w2=>Code.wp _ _ _ _ w2) fun w2 H1 H2 H3 HW HS=>?_;have H7:Hd (ar w2 w.heap.size 34 root):=H1;have H8:Hd (ar w2 (w.heap.size+1) 37 ks):=H2;have H9:Hd (ib w2 (w.heap.size+1+1) x B C):=H3;clear H1 H2 H3;go_wp2_with fail;refine(dJ wk w2).mono ?_;rintro e w2'⟨rfl,rfl⟩;rw[hd];go_wp2_with fail;refine(ep wk w2' ⟨J.o.1.below HW.o,J.o.2.below HW.o⟩).mono ?_;rintro e w3⟨g,c,rfl,hE,hg,hc,hb3⟩;have Hi:=aa hE;have Jg:Hd (g<w3.heap.size):=hE.1;have HJ:=aQ HW hb3;have Hj:=aa (H7.o.later hb3);have Hk:=aa (H8.o.later hb3);have Hl:=aa (H9.o.later hb3);clear hE hg hc hb3 H7 H9 H8 hd;go_wp2_with(first|((with_reducible refine atS 31 ?_);refine ac (by rfl) 34 (.tmp 7) rfl ⟨w.heap.size,0,none⟩ 32 root rfl (Hj.o.whole R.o.2 R.o.1) (by omega) (by kernel_rfl) (by kernel_rfl) ?_)|((with_reducible refine atS 32 ?_);refine ac (by rfl) 37 (.tmp 8) rfl ⟨w.heap.size+1,0,none⟩ 32 ks rfl (Hk.o.whole H.o.2 H.o.1) (by omega) (by kernel_rfl) (by kernel_rfl) ?_));refine(fi wk g c root ks A n cc xs w3 Hi.o HI.o.1 HI.o.2 R.o.2 R.o.1 H.o.2 H.o.1 (HX.o.below HJ.o) HG.o.1.1 HG.o.1.2 ⟨J.o.1.below HJ.o,J.o.2.below HJ.o⟩).mono ?_;rintro e w4⟨hh,hb4⟩;obtain⟨f,V,N,L,rfl,hV1,hN1,hall⟩:=hh.all;rw[HA.o]at hall⊢;have U:=aa hall;have Hm:=aQ HJ hb4;have JA:=aa (Hj.o.later hb4);have JB:=aa (Hk.o.later hb4);have Hn:=aa (Hl.o.later hb4);have JC:=aa (Hi.o.below hb4);have Jh:Hd (w.heap.size+1+1<w3.heap.size):=Hl.o.lt;have Y:=aa (And.intro hV1 hN1);clear hall hb4 hh hV1 hN1 Hj Hl Hk Hi;by_cases hE1:E1=0
  ·obtain⟨p,va,vc,gn,cn,gL,cL,q1,q2,q3,q4,rfl,rfl,rfl,rfl,q5,q6,q7,q8,q9,q10⟩:=U.o hE1;have b:Hd p.Ok:=q4 HX.o.2.1;have d:=aa (And.intro q1 (And.intro q2 q3));have HV:=aa q5;have HN:=aa q6;have Ji:=aa q8;have i:Hd (E=if E2=0then(if dD x then 32 else 0)else E2):=by rw[Hh.o,if_pos hE1];rfl
   subst hE1;clear q1 q2 q3 q4 q5 q6 q7 q8 q9 q10 U Y Hh;go_wp2_with(first|((with_reducible refine atS 15 ?_);refine dU (s:=⟨none,_,_,_,_,_⟩) (by rfl) (by rfl) 112 rfl (.tmp 15) (.tmp 35) rfl (spC false noV noV) (spC p.found _ _) 3 cO rfl rfl rfl rfl (dE rfl rfl) ?_;intro w5 HO I JD;(try simp only[Act.put,LS]))|((with_reducible refine atS 44 ?_);refine ac (by rfl) 34 (.tmp 7) rfl ⟨w.heap.size,0,none⟩ 32 root rfl ((JA.o.later I.o).whole R.o.2 R.o.1) (by omega) (by kernel_rfl) (by kernel_rfl) ?_)|((with_reducible refine atS 46 ?_);refine aj (by rfl) 37 (.tmp 45) rfl (w.heap.size+1+1) 0 (bvs x.key) rfl (Hn.o.later I.o).key (by kernel_rfl) (by rw[aB];simp[bvs,F.o.1]) ?_));have HP:=aQ Hm I.o;have JE:=aa (JB.o.later I.o);have JF:=aa (Hn.o.later I.o);have Ho:=aa (JC.o.below I.o);have JG:=aa (HV.o.below I.o);have JH:=aa (HN.o.below I.o);have JI:Hd (w3.heap.size<=w4.heap.size/\w4.heap.size<w5.heap.size/\gn<w4.heap.size):=⟨by
    have h1:=HN.o.lt (B:=gn) rfl;omega,HO.o.lt,(HN.o.lt (B:=gn) rfl).2⟩;clear HN Hn JB JC JA HV JD;refine(fi wk g c root x.key A2 n2 cc2 ys w5 Ho.o HI.o.1 HI.o.2 R.o.2 R.o.1 F.o.2 F.o.1 (HY.o.below HP.o) HG.o.2.1 HG.o.2.2 ⟨J.o.1.below HP.o,J.o.2.below HP.o⟩).mono ?_;rintro e w6⟨hh,hb6⟩;obtain⟨f2,V2,N2,L2,rfl,hV2,hN2,hall2⟩:=hh.all;rw[H6.o]at hall2⊢;have U:=aa hall2;have HU:=aQ HP hb6;have JJ:=aa (JE.o.later hb6);have Hp:=aa (JF.o.later hb6);have JK:=aa (Ho.o.below hb6);have JL:=aa (JG.o.below hb6);have JM:=aa (JH.o.below hb6);have JN:Hd (eU w6 w4.heap.size p.found (.slice va p.val.length vc) (.slice (some ⟨gn,0,none⟩) 256 cn)):=ab.below HO.o hb6;have Jv:Hd (w5.heap.size<=w6.heap.size):=hb6.size;have Y:=aa (And.intro hV2 hN2);clear hall2 hb6 hh hV2 hN2 JE JF Ho JG JH HO I;by_cases hE2:E2=0
   ·obtain⟨q,va2,vc2,gn2,cn2,gL2,cL2,q1,q2,q3,q4,rfl,rfl,rfl,rfl,q5,q6,q7,q8⟩:=U.o hE2;have JO:Hd q.Ok:=q4 HY.o.2.1;have l:=aa (And.intro q1 (And.intro q2 q3));have JP:=aa q6;have M:Hd (E=if dD x then 32 else 0):=by rw[i.o,if_pos hE2];rfl
    subst hE2;clear q1 q2 q3 q4 q5 q6 q7 q8 U Y i;obtain⟨lg,HB⟩:∃lg,Hd (dD x=lg):=⟨_,rfl⟩;rw[HB.o]at M;go_wp2_with(first|((with_reducible refine atS 18 ?_);refine dU (s:=⟨none,_,_,_,_,_⟩) (by rfl) (by rfl) 112 rfl (.tmp 18) (.tmp 49) rfl (spC false noV noV) (spC q.found _ _) 3 cO rfl rfl rfl rfl (dE rfl rfl) ?_;intro w7 Hq a JQ;(try simp only[Act.put,LS]))|((with_reducible refine atS 55 ?_);refine aj (by rfl) 39 (.tmp 11) rfl (w.heap.size+1+1) 0 (chC x B C) rfl (Hp.o.later a.o).all be (by rw[aK,am F.o.1]) ?_));have Jj:=aQ HU a.o;refine(qt x B C w7 F.o.1).mono ?_;rintro e w8⟨rfl,hb8⟩;rw[HB.o];have hb68:Below w6.heap.size w6 w8:=a.o.trans (hb8.mono a.o.size);have T:=aQ HU hb68;have Ha:=aa (JJ.o.later hb68);have O:=aa (Hp.o.later hb68);have Hr:=aa (JK.o.below hb68);have JR:=aa (JL.o.below hb68);have r:=aa (JM.o.below hb68);have JS:=aa (JP.o.below hb68);have Hs:Hd (eU w8 w4.heap.size p.found (.slice va p.val.length vc) (.slice (some ⟨gn,0,none⟩) 256 cn)):=ab.below JN.o hb68;have JT:Hd (eU w8 w6.heap.size q.found (.slice va2 q.val.length vc2) (.slice (some ⟨gn2,0,none⟩) 256 cn2)):=ab.below Hq.o hb8;clear hb68 hb8 JJ Hp JK JL JM JP JN Hq a JQ Jj;cases lg with
    |true=>
     rw[if_pos rfl]at M;go_wp2_with fail;go_ret2;exact⟨T.o,fun _=>by rw[M.o];rfl,fun h=>absurd (M.o.symm.trans h) (by decide)⟩
    |false=>
     rw[if_neg (by decide)]at M;have Ht:Hd (x.del=true∨x.val.length<=128):=by
      have h:=HB.o;unfold dD at h;cases hdl:x.del with
      |true=>exact .inl rfl
      |false=>
       rw[hdl]at h;simp at h;exact .inr h
     obtain⟨dl,Hu⟩:∃dl,Hd (x.del=dl):=⟨_,rfl⟩;have hkk:=mD w8 ks x.key H.o.2 F.o.2 H.o.1 F.o.1;have Hv:=aa (H5.o.below T.o);by_cases hkx:ks=x.key
     ·rw[decide_eq_true hkx]at hkk;have t:Hd (wQ wk ks x p q=prU wk (!dl) x.val (av wk p) 256):=by
       show _=_;unfold wQ;rw[if_pos hkx,Hu.o]
      have hc32:=O.o.del F.o.1;have hc33:=O.o.val F.o.1;have hcs2:w8.cell? ⟨w4.heap.size,2,none⟩=some (.slice (some ⟨gn,0,none⟩) 256 cn):=Hs.o.cell 2;rw[Hu.o]at hc32;clear hkx;go_wp2_with(first|((with_reducible refine atS 57 ?_);refine ac (by rfl) 37 (.tmp 8) rfl ⟨w.heap.size+1,0,none⟩ 32 ks rfl (Ha.o.whole H.o.2 H.o.1) (by omega) (by kernel_rfl) (by kernel_rfl) ?_)|((with_reducible refine atS 59 ?_);refine aj (by rfl) 37 (.tmp 58) rfl (w.heap.size+1+1) 0 (bvs x.key) rfl O.o.key (by kernel_rfl) (by rw[aB];simp[bvs,F.o.1]) ?_)|((with_reducible refine atS 69 ?_);refine aM (by rfl) 112 #[(0, .tmp 64),(1, .tmp 66),(2, .tmp 68)] rfl [(0, .bool (!dl)),(1, .slice B x.val.length C),(2, .slice (some ⟨gn,0,none⟩) 256 cn)] (by rfl) _ (zK _ _ _ _ _ _ _) ?_));clear hc32 hc33 hcs2 hkk;refine(qu wk g c gn cn (!dl) B x.val.length C x.val (av wk p) w8 Hr.o Hv.o Jf.o (fun h=>by rcases Ht.o with e|e<;>simp_all[Hu.o]) (r.o.nearAt fun j hj=>(aG b.o hj).1) (fun j hj=>aG b.o hj)).mono ?_;rintro e w9⟨⟨v,rfl,hv⟩,hb9⟩;rw[<-t.o]at hv;have Hw:=aa hv;have Hx:=aQ T hb9;clear hv hb9;go_wp2_with fail;go_ret2;exact⟨Hx.o,fun h=>absurd M.o h,fun _=>⟨p,q,v,d.o.1,d.o.2.1,d.o.2.2,l.o.1,l.o.2.1,l.o.2.2,HB.o,rfl,Hw.o.mono T.o.size⟩⟩
     ·rw[decide_eq_false hkx]at hkk;have JU:=aa hkx;have hc32:=O.o.del F.o.1;have hc33:=O.o.val F.o.1;clear hkx;go_wp2_with(first|((with_reducible refine atS 57 ?_);refine ac (by rfl) 37 (.tmp 8) rfl ⟨w.heap.size+1,0,none⟩ 32 ks rfl (Ha.o.whole H.o.2 H.o.1) (by omega) (by kernel_rfl) (by kernel_rfl) ?_)|((with_reducible refine atS 59 ?_);refine aj (by rfl) 37 (.tmp 58) rfl (w.heap.size+1+1) 0 (bvs x.key) rfl O.o.key (by kernel_rfl) (by rw[aB];simp[bvs,F.o.1]) ?_)|((with_reducible refine atS 73 ?_);refine aj (by rfl) 37 (.tmp 72) rfl (w.heap.size+1+1) 0 (bvs x.key) rfl O.o.key (by kernel_rfl) (by rw[aB];simp[bvs,F.o.1]) ?_));clear hc32 hc33 hkk;refine(ik wk x.key (!x.del) B x.val.length C x.val w8 F.o.2 F.o.1 Hv.o (fun h=>by rcases Ht.o with e|e<;>simp_all<;>omega) ⟨J.o.1.below T.o,J.o.2.below T.o⟩).mono ?_;rintro e w9⟨rfl,hb9⟩;obtain⟨D0,Hb⟩:∃D0,Hd (aZ wk (bQ x.key (!x.del) x.val)=D0):=⟨_,rfl⟩;have Q:Hd (D0.length=32/\IsB D0):=by rw[<-Hb.o];exact⟨aw _ _,aY _ _⟩
      have Jk:Hd (eK wk x=D0):=Hb;rw[Hb.o];have HC:=aa hb9;clear hb9 Ht Hb;go_wp2_with(first|((with_reducible refine atS 20 ?_);refine dU (s:=⟨none,_,_,_,_,_⟩) (by rfl) (by rfl) 34 rfl (.tmp 20) (.tmp 79) rfl (bvs (zs 32)) (bvs D0) 32 aD rfl (by simp[bvs,Q.o.1]) rfl rfl (ah _) ?_;intro wa JV Hc Jl;(try simp only[Act.put,LS]);have hc2:wa.cell? ⟨w6.heap.size,2,none⟩=some (.slice (some ⟨gn2,0,none⟩) 256 cn2):=(ab.below (ab.below JT.o HC.o) Hc.o).cell 2)|((with_reducible refine atS 82 ?_);refine aj (by rfl) 37 (.tmp 81) rfl (w.heap.size+1+1) 0 (bvs x.key) rfl ((O.o.later HC.o).later Hc.o).key (by kernel_rfl) (by rw[aB];simp[bvs,F.o.1]) ?_)|((with_reducible refine atS 83 ?_);refine ac (by rfl) 34 (.tmp 20) rfl ⟨w9.heap.size,0,none⟩ 32 D0 rfl (ar.whole JV.o Q.o.2 Q.o.1) (by omega) (by kernel_rfl) (by kernel_rfl) ?_));have hb8a:Below w8.heap.size w8 wa:=HC.o.trans (Hc.o.mono HC.o.size);have Hy:=aa hb8a;have Hz:=aQ T hb8a;clear hc2 hb8a Jl;refine(iH wk x.key D0 (av wk q) gn2 cn2 wa F.o.2 F.o.1 Q.o.2 Q.o.1 ((JS.o.below Hy.o).nearAt fun j hj=>(aG JO.o hj).1) (fun j hj=>aG JO.o hj) ⟨J.o.1.below Hz.o,J.o.2.below Hz.o⟩).mono ?_;rintro e wb⟨⟨L,rfl,hL⟩,hbb⟩;obtain⟨gP,cP,rfl,_,_,_⟩:=hL.head (by omega);have HL:=aa hL;have He:=aQ Hy hbb;clear hL hbb JV Hc HC Hz;go_wp2_with(first|((with_reducible refine atS 87 ?_);refine ac (by rfl) 37 (.tmp 8) rfl ⟨w.heap.size+1,0,none⟩ 32 ks rfl ((Ha.o.later He.o).whole H.o.2 H.o.1) (by omega) (by kernel_rfl) (by kernel_rfl) ?_)|((with_reducible refine atS 89 ?_);refine aj (by rfl) 37 (.tmp 88) rfl (w.heap.size+1+1) 0 (bvs x.key) rfl (O.o.later He.o).key (by kernel_rfl) (by rw[aB];simp[bvs,F.o.1]) ?_));refine(Bq ks x.key wb H.o.2 H.o.1 F.o.2 F.o.1).mono ?_;rintro e wq⟨rfl,hbc⟩;have JW:Hd (eS ks x.key<256):=by
       have h1:=jZ ks x.key;have h2:=kC H.o.2 H.o.1 F.o.2 F.o.1;show _<_;rcases Nat.lt_or_eq_of_le h1 with h|h
       ·exact h
       ·exact absurd (h2.1 h) JU.o
      have t:Hd (wQ wk ks x p q=prU wk p.found p.val (upd (av wk p) (255-eS ks x.key) (bd wk x.key D0 (av wk q) (255-eS ks x.key))) 256):=by
       show _=_;unfold wQ;rw[if_neg JU.o,Jk.o]
      obtain⟨m,HM⟩:∃m,Hd (eS ks x.key=m):=⟨_,rfl⟩;rw[HM.o]at JW t⊢;obtain⟨h,HH⟩:∃h,Hd (255-m=h):=⟨_,rfl⟩;rw[HH.o]at t;have hml:m<256:=JW.o;have hh256:h<256:=by have:=HH.o;omega
      have hmh:(255:Int)-(m:Int)=(h:Int):=by have:=HH.o;omega
      have hhI:(h:Int)<256:=by omega
      have hhI7:(h:Int)<257:=by omega
      have hwr:IntKind.i64.wrap ((h:Nat):Int)=(h:Int):=IntWalk.i64_in _ (by omega);obtain⟨D,H0⟩:∃D,Hd (bd wk x.key D0 (av wk q) h=D):=⟨_,rfl⟩;have HF:Hd (D.length=32/\IsB D):=by rw[<-H0.o];exact js _ _ _ _ Q.o.1 Q.o.2 _
      rw[H0.o]at t;have y:=aQ He hbc;have JX:Hd (∀W,Below wq.heap.size wq W->W.rangeAt gP (h*32) (bvs D)):=fun W hW=>by
       rw[<-H0.o];exact((HL.o.below hbc).below hW).range (fun j hj=>(js _ _ _ _ Q.o.1 Q.o.2 _).1) (by omega)
      have Jm:Hd (gP≠gn):=by have h1:=(HL.o.lt (B:=gP) rfl).1;have h2:=(r.o.lt (B:=gn) rfl).2;have h3:=Hy.o.size;show _≠_;omega
      have JY:=aa (r.o.below y.o);have Hf:Hd (eU wq w4.heap.size p.found (.slice va p.val.length vc) (.slice (some ⟨gn,0,none⟩) 256 cn)):=ab.below Hs.o y.o;have JZ:=aa (JR.o.below y.o);have Hg:=aa (Hr.o.below y.o);have H4:=aQ T y.o;obtain⟨X,Z,hXl,hXB,hXR⟩:=JY.o.parts (k:=h) (fun j hj=>(aG b.o hj).1) hh256;have Ja:=aa hXB;have Jn:=aa hXl;have Jb:=aa hXR;have Jo:=aa (aG (w:=wk) b.o hh256);have Jp:Hd (g≠gn):=by have h1:=(r.o.lt (B:=gn) rfl).1;have:=Jg.o;show _≠_;omega
      have Jq:Hd (gP<wq.heap.size):=Nat.lt_of_lt_of_le (HL.o.lt (B:=gP) rfl).2 hbc.size;have Jr:Hd (w3.heap.size<=gn):=(r.o.lt (B:=gn) rfl).1;clear hbc HM HH hXl hXB hXR He Ha r JS Hs JT JR Hr O Hv H5 HL;go_wp2_with fail;go_upto_region 17with fail;go_cut[22]from 92to 99(fun v wx=>v= .int .i64 h/\Hd (ab wx gn 34 (X++(bvs D++Z)).toArray)/\Hd (ae (fun B=>B=gn) wq wx))
      case first=>
       have hu:=bE;have hsz:(Tryz.prog.info? 34).map (·.size)=some (bvs D).length:=by rw[ag];simp[bvs,HF.o.1]
       have hS0:wq.rangeAt gP (h*32) (bvs D)/\wq.cell? ⟨w4.heap.size,2,none⟩=some (.slice (some ⟨gn,0,none⟩) 256 cn):=⟨JX.o wq (Below.refl _ _),Hf.o.cell 2⟩;refine wp_region_held_drew (S:=fun w'=>w'.rangeAt gP (h*32) (bvs D)/\w'.cell? ⟨w4.heap.size,2,none⟩=some (.slice (some ⟨gn,0,none⟩) 256 cn)) (by kernel_rfl) hS0 fun hH=>?_;refine tka 0 ?_;refine tka 1 ?_;refine tka 2 ?_;refine tka 3 ?_;refine tka 4 ?_;refine tka 5 ?_;refine tkl 6 ?_;refine tka 7 ?_;refine rdy 8 fun K hK=>?_;refine aA (o:=⟨none,_,_,_,_,_⟩) (by rfl) 34 (.tmp 99) (.tmp 98) rfl (h*32) X (bvs (av wk p h)) (bvs D) Z rfl rfl (ab.drew Ja.o) Jn.o (by simp[bvs,Jo.o.1,HF.o.1]) (by rw[ag];simp[bvs,HF.o.1]) (fun u hu=>ah _ u hu) ?_;intro z hz gz;have P:Hd (ae (fun B=>B=gn) wq z):=((ae.refl _ wq).drewN 1:ae (fun B=>B=gn) wq wq.drew).trans (ae.one gz);refine hK.out _ _ ⟨?_,?_⟩ (fun hH=>?_)
       ·exact cQ P.o Jq.o Jm.o hS0.1
       ·exact(P.o.blk Hf.o (by have:=JI.o;omega)).cell 2
       ·clear hK;refine bN ?_;go_wp2_with fail;go_meet
        case rel=>exact⟨rfl,hz,P⟩
      case rest=>
       obtain⟨rfl,HZ,P⟩:=hcut;have Js:=aa (Jb.o wc D HF.o.1 HZ.o);have Jt:Hd (wW wc g wk):=⟨Nat.lt_of_lt_of_le Hg.o.1 P.o.size,fun k hk=>cQ P.o Hg.o.1 Jp.o (Hg.o.2 k hk)⟩;have Jc:=aa (P.o.own JZ.o fun B hB e=>Ji.o B hB (by rw[e];rfl));have Ju:Hd (eU wc w4.heap.size p.found (.slice va p.val.length vc) (.slice (some ⟨gn,0,none⟩) 256 cn)):=P.o.blk Hf.o (by have:=JI.o;omega);have Jd:Hd (Below w.heap.size w wc):=P.o.toBelow H4.o H4.o.size fun B e=>by have:=Jr.o;have:=Jh.o;omega
       have Je:Hd (∀j,j<256->(upd (av wk p) h D j).length=32/\IsB (upd (av wk p) h D j)):=fun j hj=>by
        by_cases e:j=h
        ·subst e;rw[az];exact HF.o
        ·rw[au _ _ e];exact aG b.o hj
       clear HZ P Jb Ja Hf JZ Hg H4 JY JX y;go_wp2_with((with_reducible refine atS 101 ?_);refine aj (by rfl) 112 (.tmp 15) rfl w4.heap.size 0 (spC p.found (.slice va p.val.length vc) (.slice (some ⟨gn,0,none⟩) 256 cn)) rfl (ab.range Ju.o) (by kernel_rfl) (by kernel_rfl) ?_);refine(qu wk g c gn cn p.found va p.val.length vc p.val (upd (av wk p) h D) wc Jt.o Jc.o.reads Jc.o.reads'.2.2.2 (fun _=>b.o.vl) (Js.o.nearAt fun j hj=>(Je.o j hj).1) Je.o).mono ?_;rintro e w9⟨⟨v,rfl,hv⟩,hb9⟩;rw[<-t.o]at hv;have Hw:=aa hv;have Hx:=aQ Jd hb9;clear hv hb9;go_wp2_with fail;go_ret2;exact⟨Hx.o,fun h=>absurd M.o h,fun _=>⟨p,q,v,d.o.1,d.o.2.1,d.o.2.2,l.o.1,l.o.2.1,l.o.2.2,HB.o,rfl,Hw.o.mono Jd.o.size⟩⟩
   ·have hEi:¬(E2:Int)=0:=by omega
    have M:Hd (E=E2):=by rw[i.o,if_neg hE2];rfl
    clear U;go_wp2_with((with_reducible refine atS 18 ?_);refine dU (s:=⟨none,_,_,_,_,_⟩) (by rfl) (by rfl) 112 rfl (.tmp 18) (.tmp 49) rfl (spC false noV noV) (spC f2 V2 N2) 3 cO rfl rfl rfl rfl (dE Y.o.1 Y.o.2) ?_;intro w7 Hq a JQ;(try simp only[Act.put,LS]));go_ret2;exact⟨HU.o.trans (a.o.mono HU.o.size),fun _=>by rw[M.o];rfl,fun h=>absurd (M.o.symm.trans h) hE2⟩
  ·have hEi:¬(E1:Int)=0:=by omega
   have i:Hd (E=E1):=by rw[Hh.o,if_neg hE1];rfl
   clear U;go_wp2_with((with_reducible refine atS 15 ?_);refine dU (s:=⟨none,_,_,_,_,_⟩) (by rfl) (by rfl) 112 rfl (.tmp 15) (.tmp 35) rfl (spC false noV noV) (spC f V N) 3 cO rfl rfl rfl rfl (dE Y.o.1 Y.o.2) ?_;intro w5 HO I JD;(try simp only[Act.put,LS]));go_ret2;exact⟨Hm.o.trans (I.o.mono Hm.o.size),fun _=>by rw[i.o];rfl,fun h=>absurd (i.o.symm.trans h) hE1⟩
 ·have HA:Hd (E=1):=HE.o.symm.trans (Bh hw);have hd:=decide_eq_false hw;clear hw;go_enter Tryz.func36,Tryz.ntmps36;go_upto_region 1with fail;refine fC (G:=fun w2=>Code.wp _ _ _ _ w2) fun w2 H1 H2 H3 HW HS=>?_;clear H1 H2 H3;go_wp2_with fail;refine(dJ wd w2).mono ?_;rintro e w2'⟨rfl,rfl⟩;rw[hd];go_wp2_with fail;go_ret2;exact⟨HW.o,fun _=>by rw[HA.o];rfl,fun h=>absurd (HA.o.symm.trans h) (by decide)⟩
def dZ(X:Nat->Chg)(b:Nat):Nat->Nat
 |0=>0
 |n+1=>if dZ X b n=n/\cU (X n).key b=0then n+1 else dZ X b n
theorem tV(X:Nat->Chg)(b n:Nat):dZ X b n<=n:=by
 induction n with
 |zero=>exact Nat.le_refl _
 |succ n ih=>rw[dZ];split<;>omega
theorem kw{X:Nat->Chg}{b n k:Nat}(hk:k<=n)(h0:∀j,j<k->cU (X j).key b=0)(h1:k<n->¬cU (X k).key b=0):dZ X b n=k:=by
 induction n with
 |zero=>rw[dZ];omega
 |succ n ih=>
  rw[dZ];rcases Nat.lt_or_eq_of_le hk with h|h
  ·rw[ih (by omega) (fun h'=>h1 (by omega)),if_neg];rintro⟨e,hb⟩;subst e;exact h1 (by omega) hb
  ·subst h;have hn:dZ X b n=n:=by
    clear ih h1;have:∀m,m<=n->dZ X b m=m:=fun m hm=>by
     induction m with
     |zero=>rfl
     |succ m ihm=>rw[dZ,if_pos ⟨ihm (by omega),h0 m (by omega)⟩]
    exact this n (Nat.le_refl _)
   rw[if_pos ⟨hn,h0 n (by omega)⟩]
def iQ(w:Int):Nat->Nat->(Nat->Chg)->(Nat->Nat->List Nat)->List Nat
 |0,_,X,_=>eK w (X 0)
 |h+1,n,X,NS=>aZ w (aU w (if 0<dZ X (255-h) n then iQ w h (dZ X (255-h) n) X NS else NS 0 h) (if dZ X (255-h) n<n then iQ w h (n-dZ X (255-h) n) (fun j=>X (dZ X (255-h) n+j)) (fun j=>NS (dZ X (255-h) n+j))else NS 0 h))
theorem fK(w:Int)(h n:Nat)(X:Nat->Chg)(NS:Nat->Nat->List Nat):(iQ w h n X NS).length=32/\IsB (iQ w h n X NS):=by
 cases h<;>exact⟨aw _ _,aY _ _⟩
def fS(w:World)(B:Option Addr)(n:Nat)(NS:Nat->Nat->List Nat):Prop:=∀i,i<n->∃gb o gi ci,B=some ⟨gb,o,none⟩/\gb<w.heap.size/\w.cell? ⟨gb,o+i,none⟩=some (.slice (some ⟨gi,0,none⟩) 256 ci)/\cX w gi (NS i)/\∀j,j<256->(NS i j).length=32/\IsB (NS i j)
theorem fS.below{w w':World}{B:Option Addr}{n:Nat}{NS:Nat->Nat->List Nat}(h:fS w B n NS)(hb:Below w.heap.size w w'):fS w' B n NS:=fun i hi=>by
 obtain⟨gb,o,gi,ci,h1,h2,h3,h4,h5⟩:=h i hi;exact⟨gb,o,gi,ci,h1,Nat.lt_of_lt_of_le h2 hb.size,(hb.cell (p:=⟨gb,o+i,none⟩) h2).trans h3,h4.below hb,h5⟩
theorem fS.take{w:World}{B:Option Addr}{n k:Nat}{NS:Nat->Nat->List Nat}(h:fS w B n NS)(hk:k<=n):fS w B k NS:=fun i hi=>h i (by omega)
theorem fS.drop{w:World}{B B':Option Addr}{n k:Nat}{NS:Nat->Nat->List Nat}(h:fS w B n NS)(hB:k<n->B'=B.map (·.add k)):fS w B' (n-k) (fun j=>NS (k+j)):=fun i hi=>by
 obtain⟨gb,o,gi,ci,h1,h2,h3,h4⟩:=h (k+i) (by omega);exact⟨gb,o+k,gi,ci,by rw[hB (by omega),h1];simp[add_lit],h2,by rw[Nat.add_assoc];exact h3,h4⟩
theorem m3{P:Program}{ops:Array Oper}{S:World->Prop}{o:Oper}{a:Act}(s:Nat)(hw:Region.wanted o (yielded ops a.tmps)=true)(t:TypeId)(x ix:Operand)(ho:o.op= .slice t x (some ix) none none)(ht:P.underlying t=some (.slice (P.elem t)))(hsz:(P.info? (P.elem t)).map (·.size)=some s)(A:Option Addr)(m d k:Nat)(hx:a.eval x= .slice A m d)(hi:a.eval ix= .int .i64 (k:Int))(hk:k<=m):YieldsIf P ops S o (.slice (if d=k then A else A.map (·.add (k*s))) (m-k) (d-k)) a:= .inl ⟨hw,fun w _=>by
  have hs:(sizeOf (P.elem t)).run P w= .ok s w:=by
   cases hq:P.info? (P.elem t)with
   |none=>simp[hq]at hsz
   |some i=>
    have h1:i.size=s:=by simpa[hq]using hsz
    simp[sizeOf,typeInfo,hq,h1]
  have hrun:(Instr.sliceAt t (.slice A m d) (some (.int .i64 (k:Int))) none none).run P w= .ok (.slice (if d=k then A else A.map (·.add (k*s))) (m-k) (d-k)) w:=by
   rw[run_sliceAt_slice w t _ _ _ _ ht,run_slice_l w t A m d ht .i64 (k:Int) (by omega) (by omega),hs];simp only[Result.andThen_ok,sliced,Int.toNat_natCast]
  unfold execOp;simp only[ho,hx,hi,Option.map,Sem.run_bind,Sem.run_pure,hrun,Result.andThen_ok]⟩
def ef(f:Nat->Nat):Nat->Nat
 |0=>0
 |n+1=>if ef f n=0then f n else ef f n
theorem nm{f:Nat->Nat}{i n:Nat}(h0:ef f i≠0)(hn:i<=n):ef f n=ef f i:=by
 induction n with
 |zero=>rw[show i=0 by omega]
 |succ n ih=>
  rcases Nat.lt_or_eq_of_le hn with h|h
  ·rw[ef,ih (by omega),if_neg h0]
  ·rw[h]
def jo(ys:List Nat):Pr:=(dF ys).getD ⟨false,[],[],[]⟩
theorem qy{ys:List Nat}{p:Pr}(h:dF ys=some p):jo ys=p:=by unfold jo;rw[h];rfl
def uC(wd:Int)(root:List Nat)(n m:Nat)(X:Nat->Chg)(YS:Nat->List Nat):Nat:=if¬(1<=wd/\wd<=32)∨n≠m then 1 else if bU X n 4096≠0then bU X n 4096 else ef (fun i=>dj wd root (X i).key (YS i)) n
def ED(q:Nat)(wd:Int)(root:List Nat)(n:Nat)(X:Nat->Chg)(YS:Nat->List Nat)(w:World)(e:Ending)(w':World):Prop:=Below w.heap.size w w'/\(q≠0->e= .returned (.tuple #[.agg (bvs (zs 32)).toArray, .int .i64 (q:Nat)]))/\(q=0->∃Z NS,iZ X n Z/\(∀i j,i<n->j<n->(X j).key=(Z i).key->NS i=av wd (jo (YS j)))/\e= .returned (.tuple #[.agg (bvs (if n=0then root else iQ wd 256 n Z NS)).toArray, .int .i64 0]))
theorem ja{X Z:Nat->Chg}{n i:Nat}(h:iZ X n Z)(hr:pQ X n<0)(hi:i<n):∃j,j<n/\(X j).key=(Z i).key/\bR (X j)=Z i/\∀j',j'<n->(X j').key=(Z i).key->j'=j:=by
 obtain⟨x,hx,hxz⟩:=List.mem_map.1 (h.2.subset (i5.2 ⟨i,hi,rfl⟩));obtain⟨j,hj,rfl⟩:=i5.1 hx;refine⟨j,hj,by rw[<-hxz,ew],hxz,fun j' hj' he=>?_⟩;have hnd:(br (lst X n)).Nodup:=by
  by_cases hc:(br (lst X n)).Nodup
  ·exact hc
  ·have:=kJ.2 hc;omega
 have he2:(X j').key=(X j).key:=he.trans (by rw[<-hxz,ew]);have hlen:(br (lst X n)).length=n:=by simp[br,lst]
 have hat:∀k(hk:k<n),(br (lst X n))[k]'(by rw[hlen];exact hk)=(X k).key:=fun k hk=>by simp[br,lst]
 have hp:=List.pairwise_iff_getElem.1 hnd;rcases Nat.lt_trichotomy j' j with h1|h1|h1
 ·exact absurd (by rw[hat j' hj',hat j hj];exact he2) (hp j' j (by rw[hlen];exact hj') (by rw[hlen];exact hj) h1)
 ·exact h1
 ·exact absurd (by rw[hat j' hj',hat j hj];exact he2.symm) (hp j j' (by rw[hlen];exact hj) (by rw[hlen];exact hj') h1)
theorem oG(x:Chg):dD x=false->dD (bR x)=false:=by
 unfold dD bR;cases hd:x.del<;>simp[hd]
theorem qF{X:Nat->Chg}{n m i:Nat}(h:bU X n m=0)(hi:i<n):dD (X i)=false:=sX (mo (fI h).1).2 hi
def nR(w:World)(B:Option Addr)(m:Nat)(YS:Nat->List Nat):Prop:=∀i,i<m->∃gb o Ai ni ci,B=some ⟨gb,o,none⟩/\gb<w.heap.size/\w.cell? ⟨gb,o+i,none⟩=some (.slice Ai ni ci)/\RB w Ai ni (YS i)/\ni<=ci/\ci<=maxLen/\ni<=140737488355328/\(Ai=none->ci=0)/\∀ad,Ai=some ad->ad.block<w.heap.size
def uG(w:World)(B:Option Addr)(m:Nat)(YS:Nat->List Nat):Prop:=∀i,i<m->∃gb o Ai ni ci,B=some ⟨gb,o,none⟩/\gb<w.heap.size/\w.cell? ⟨gb,o+i,none⟩=some (.slice Ai ni ci)/\RB w Ai ni (YS i)/\ni<=ci/\ci<=maxLen/\ni<=140737488355328/\(Ai=none->ci=0)
theorem uG.below{w w':World}{B:Option Addr}{m:Nat}{YS:Nat->List Nat}(h:uG w B m YS)(hb:Below w.heap.size w w'):uG w' B m YS:=fun i hi=>by
 obtain⟨gb,o,Ai,ni,ci,h1,h2,h3,h4,h5,h6,h7,h8⟩:=h i hi;exact⟨gb,o,Ai,ni,ci,h1,Nat.lt_of_lt_of_le h2 hb.size,(hb.cell (p:=⟨gb,o+i,none⟩) h2).trans h3,h4.below hb,h5,h6,h7,h8⟩
theorem nR.below{w w':World}{B:Option Addr}{m:Nat}{YS:Nat->List Nat}(h:nR w B m YS)(hb:Below w.heap.size w w'):nR w' B m YS:=fun i hi=>by
 obtain⟨gb,o,Ai,ni,ci,h1,h2,h3,h4,h5,h6,h7,h8,h9⟩:=h i hi;exact⟨gb,o,Ai,ni,ci,h1,Nat.lt_of_lt_of_le h2 hb.size,(hb.cell (p:=⟨gb,o+i,none⟩) h2).trans h3,h4.below hb,h5,h6,h7,h8,fun ad e=>Nat.lt_of_lt_of_le (h9 ad e) hb.size⟩
open Go.Shelf
def yo:Go.Shelf.Ren:=⟨fun|6=>108|15=>120|14=>119|28=>135|29=>136|20=>127|21=>128|22=>129|23=>130|24=>131|25=>132|26=>133|27=>134|46=>140|47=>141|48=>142|49=>143|50=>144|57=>145|n=>n,fun|22=>40|24=>39|25=>165|3=>3|39=>107|0=>0|53=>128|55=>152|4=>4|46=>181|45=>180|50=>185|5=>5|9=>9|66=>189|70=>193|76=>195|77=>196|n=>n,fun|n=>n⟩
theorem EJ:Go.Proofs.SlLaysF0.n6 Tryz.prog yo:={
 mixed:=by kernel_rfl
 f6:=⟨Tryz.f108.name,by decide,Tryz.func108.trans (congrArg some (by kernel_rfl))⟩
 f14:=⟨Tryz.f119.name,by decide,Tryz.func119.trans (congrArg some (by kernel_rfl))⟩
 f15:=Tryz.func120.trans (congrArg some (by kernel_rfl))
 f20:=⟨Tryz.f127.name,by decide,Tryz.func127.trans (congrArg some (by kernel_rfl))⟩
 f21:=⟨Tryz.f128.name,by decide,Tryz.func128.trans (congrArg some (by kernel_rfl))⟩
 f22:=⟨Tryz.f129.name,by decide,Tryz.func129.trans (congrArg some (by kernel_rfl))⟩
 f23:=⟨Tryz.f130.name,by decide,Tryz.func130.trans (congrArg some (by kernel_rfl))⟩
 f24:=⟨Tryz.f131.name,by decide,Tryz.func131.trans (congrArg some (by kernel_rfl))⟩
 f25:=⟨Tryz.f132.name,by decide,Tryz.func132.trans (congrArg some (by kernel_rfl))⟩
 f26:=⟨Tryz.f133.name,by decide,Tryz.func133.trans (congrArg some (by kernel_rfl))⟩
 f27:=⟨Tryz.f134.name,by decide,Tryz.func134.trans (congrArg some (by kernel_rfl))⟩
 f28:=Tryz.func135.trans (congrArg some (by kernel_rfl))
 f29:=Tryz.func136.trans (congrArg some (by kernel_rfl))
 f46:=⟨Tryz.f140.name,by decide,Tryz.func140.trans (congrArg some (by kernel_rfl))⟩
 f47:=Tryz.func141.trans (congrArg some (by kernel_rfl))
 f48:=Tryz.func142.trans (congrArg some (by kernel_rfl))
 f49:=⟨Tryz.f143.name,by decide,Tryz.func143.trans (congrArg some (by kernel_rfl))⟩
 f50:=⟨Tryz.f144.name,by decide,Tryz.func144.trans (congrArg some (by kernel_rfl))⟩
 f57:=⟨Tryz.f145.name,by decide,Tryz.func145.trans (congrArg some (by kernel_rfl))⟩
 t0:=Tryz.underlying0
 a0:=Tryz.isAgg0
 z0:=Tryz.sizeOf0
 v0:=Tryz.zeroValue0
 t3:=Tryz.underlying3
 a3:=Tryz.isAgg3
 z3:=Tryz.sizeOf3
 v3:=Tryz.zeroValue3
 t4:=Tryz.underlying4
 a4:=Tryz.isAgg4
 z4:=Tryz.sizeOf4
 v4:=Tryz.zeroValue4
 t5:=Tryz.underlying5
 a5:=Tryz.isAgg5
 z5:=Tryz.sizeOf5
 v5:=Tryz.zeroValue5
 t9:=Tryz.underlying9
 a9:=Tryz.isAgg9
 z9:=Tryz.sizeOf9
 v9:=Tryz.zeroValue9
 t22:=Tryz.underlying40
 a22:=Tryz.isAgg40
 z22:=Tryz.sizeOf40
 v22:=Tryz.zeroValue40
 t25:=Tryz.underlying165
 a25:=Tryz.isAgg165
 z25:=Tryz.sizeOf165
 v25:=Tryz.zeroValue165
 t39:=Tryz.underlying107
 a39:=Tryz.isAgg107
 z39:=Tryz.sizeOf107
 v39:=Tryz.zeroValue107
 t45:=Tryz.underlying180
 a45:=Tryz.isAgg180
 z45:=Tryz.sizeOf180
 v45:=Tryz.zeroValue180
 t46:=Tryz.underlying181
 a46:=Tryz.isAgg181
 z46:=Tryz.sizeOf181
 v46:=Tryz.zeroValue181
 t50:=Tryz.underlying185
 a50:=Tryz.isAgg185
 z50:=Tryz.sizeOf185
 v50:=Tryz.zeroValue185
 t53:=Tryz.underlying128
 a53:=Tryz.isAgg128
 z53:=Tryz.sizeOf128
 v53:=Tryz.zeroValue128
 t55:=Tryz.underlying152
 a55:=Tryz.isAgg152
 z55:=Tryz.sizeOf152
 v55:=Tryz.zeroValue152
 t66:=Tryz.underlying189
 a66:=Tryz.isAgg189
 z66:=Tryz.sizeOf189
 v66:=Tryz.zeroValue189
 t70:=Tryz.underlying193
 a70:=Tryz.isAgg193
 z70:=Tryz.sizeOf193
 v70:=Tryz.zeroValue193
 t76:=Tryz.underlying195
 a76:=Tryz.isAgg195
 z76:=Tryz.sizeOf195
 v76:=Tryz.zeroValue195
 t77:=Tryz.underlying196
 a77:=Tryz.isAgg196
 z77:=Tryz.sizeOf196
 v77:=Tryz.zeroValue196}
end Go.Proofs.YtfnlhfaihoojfaaGreatDoor
