/- Texts of the proof of ledgerlaw13.ClientPlays, part 46; no condition of its own. -/
import Derived.Test.YtfnlhfaihoojfaaGreatDoorS45
set_option maxRecDepth 100000
set_option maxHeartbeats 4000000
namespace Go.Proofs.YtfnlhfaihoojfaaGreatDoor
open Go.RowKit
theorem xw:Tryz.prog.underlying 146=some (.slice 112):=by kernel_rfl
theorem BU:(Tryz.prog.info? 112).map (fun i=>(i.zero,i.size,i.bytes))=some (some (.agg (spC false noV noV).toArray),3,56):=by kernel_rfl
theorem y9:(Tryz.prog.info? 27).map (fun i=>(i.zero,i.size,i.bytes))=some (some (.slice none 0 0),1,24):=by kernel_rfl
def xa(wd:Int)(YS:Nat->List Nat)(w:World)(lo:Nat)(v:Value)(j:Nat)(c:List Value):Prop:=∃f V g cc,c=spC f V (.slice (some ⟨g,0,none⟩) 256 cc)/\cX w g (av wd (jo (YS j)))/\lo<=g/\v.ownBlock≠some g/\(jo (YS j)).Ok
structure lj(wd:Int)(YS:Nat->List Nat)(w:World)(lo:Nat)(v:Value)(AL:List (List Value)):Prop where
 row:w.ownsRow lo 112 3 v AL.length AL.flatten
 each:∀j c,AL[j]?=some c->xa wd YS w lo v j c
theorem lj.len{wd:Int}{YS:Nat->List Nat}{w:World}{lo:Nat}{v:Value}{AL:List (List Value)}(h:lj wd YS w lo v AL):∀c∈AL,c.length=3:=fun c hc=>by
 obtain⟨j,hj⟩:=List.getElem?_of_mem hc;obtain⟨f,V,g,cc,rfl,_⟩:=h.each j c hj;rfl
theorem lj.below{wd:Int}{YS:Nat->List Nat}{w w':World}{lo:Nat}{v:Value}{AL:List (List Value)}(h:lj wd YS w lo v AL)(hb:Below w.heap.size w w'):lj wd YS w' lo v AL:=⟨(ae.ofBelow hb).row h.row fun _ _ h=>h,fun j c hj=>by
  obtain⟨f,V,g,cc,h1,h2,h3⟩:=h.each j c hj;exact⟨f,V,g,cc,h1,h2.below hb,h3⟩⟩
theorem lj.push{wd:Int}{YS:Nat->List Nat}{w w':World}{lo:Nat}{v v':Value}{AL:List (List Value)}{c:List Value}(h:lj wd YS w lo v AL)(hc:xa wd YS w lo v AL.length c)(ho:w'.ownsRow lo 112 3 v' (AL.length+1) (AL.flatten++c))(hg:w.grownBy w' v.ownBlock)(hl:iT w v v'):lj wd YS w' lo v' (AL++[c]):=by
 have hs:∀j c,xa wd YS w lo v j c->xa wd YS w' lo v' j c:=fun j c hc=>by
  obtain⟨f,V,g,cc,h1,h2,h3,h4,h5⟩:=hc;refine⟨f,V,g,cc,h1,⟨Nat.lt_of_lt_of_le h2.1 hg.size,fun k hk=>cQ (ae.grown hg) h2.1 (fun e=>h4 e.symm) (h2.2 k hk)⟩,h3,fun e=>?_,h5⟩;rcases hl g e with h|h
  ·exact h4 h
  ·have:=h2.1;omega
 refine⟨by rw[List.length_append,List.flatten_append];simpa using ho,fun j d hj=>?_⟩;rcases Nat.lt_or_ge j AL.length with h1|h1
 ·rw[List.getElem?_append_left h1]at hj;exact hs j d (h.each j d hj)
 ·rw[List.getElem?_append_right h1]at hj;have h2:j-AL.length<1:=(List.getElem?_eq_some_iff.1 hj).1;have h3:j=AL.length:=by omega
  subst h3;rw[Nat.sub_self]at hj;injection hj with hj;subst hj;exact hs _ _ hc
theorem lj.near{wd:Int}{YS:Nat->List Nat}{w:World}{lo g c:Nat}{AL:List (List Value)}(h:lj wd YS w lo (.slice (some ⟨g,0,none⟩) AL.length c) AL){j:Nat}(hj:j<AL.length):∃gi ci,w.cell? ⟨g,j*3+2,none⟩=some (.slice (some ⟨gi,0,none⟩) 256 ci)/\cX w gi (av wd (jo (YS j)))/\(jo (YS j)).Ok:=by
 have he:AL[j]?=some AL[j]:=List.getElem?_eq_getElem hj;obtain⟨f,V,gi,ci,h1,h2,h3,h4,h5⟩:=h.each j _ he;refine⟨gi,ci,?_,h2,h5⟩;have hn:j*3+2<AL.length*3:=by omega
 rw[World.ownsRow.cellAt h.row _ hn,pB h.len he (by omega),h1];rfl
theorem Bt(wd:Int)(root:List Nat)(A B:Option Addr)(n c m d:Nat)(X:Nat->Chg)(YS:Nat->List Nat)(w:World)(hr:IsB root)(hrl:root.length=32)(hX:fa w A n X)(hc:n<=c)(hn:n*64<=140737488355328)(hv:∀k,k<n->(X k).val.length<=140737488355328)(hY:uG w B m YS)(hd:m<=d)(ht:du w):Calls Tryz.prog 56 #[.int .i64 wd, .agg (bvs root).toArray, .slice A n c, .slice B m d] w (ED (uC wd root n m X YS) wd root n X YS w):=by
 have P:=aa (And.intro hrl hr);have HX:=aa hX;have HY:=aa hY;have HN:=aa (And.intro hc (And.intro hn hv));have r:=aa ht;clear hr hrl hX hn hv hY ht;suffices h:∀E,uC wd root n m X YS=E->Calls Tryz.prog 56 #[.int .i64 wd, .agg (bvs root).toArray, .slice A n c, .slice B m d] w (ED E wd root n X YS w)from h _ rfl;intro E hE;have HE:=aa hE;clear hE;go_enter Tryz.func56,Tryz.ntmps56;go_upto_region 1with fail;refine bV (G:=fun w2=>Code.wp _ _ _ _ w2) fun w2 H1 H2 x HS=>?_;have Hz:Hd (ar w2 w.heap.size 34 root):=H1;have HP:Hd (ar w2 (w.heap.size+1) 34 (zs 32)):=H2;clear H1 H2;go_wp2_with fail;refine(dJ wd w2).mono ?_;rintro e w2'⟨rfl,rfl⟩;by_cases hw:1<=wd/\wd<=32
 ·rw[decide_eq_true hw];obtain⟨wk,rfl⟩:∃wk:Nat,wd=wk:=⟨wd.toNat,by omega⟩;have H3:Hd (1<=wk/\wk<=32):=by obtain⟨h1,h2⟩:=hw;exact⟨by omega,by omega⟩
  by_cases hnm:n=m
  ·have hnmI:(n:Int)=(m:Int):=by omega
   have HB:Hd (E=if bU X n 4096≠0then bU X n 4096 else ef (fun i=>dj wk root (X i).key (YS i)) n):=by
    rw[<-HE.o];unfold uC;rw[if_neg (by rintro(h|h);exact h hw;exact h hnm)];rfl
   subst hnm;clear hw HE;go_wp2_with fail;refine(pK A n c X w2' (HX.o.below x.o) HN.o.1 HN.o.2.1 HN.o.2.2).mono ?_;rintro e w3⟨v,rfl,hb3,hz3,hv3⟩;obtain⟨E1,M⟩:∃E1,Hd (bU X n 4096=E1):=⟨_,rfl⟩;rw[M.o]at hz3 hv3 HB⊢;have HC:=aQ x hb3;have H4:=aa (Hz.o.later hb3);have Hc:=aa (HP.o.later hb3);by_cases hE1:E1=0
   ·obtain⟨Z,Ad,Cp,hZo,hZn⟩:=hz3 hE1;have H5:=aa hZo;have HQ:=aa hZn;have He:Hd (E=ef (fun i=>dj wk root (X i).key (YS i)) n):=by rw[HB.o,if_neg (by omega)];rfl
    have H6:Hd (pQ X n<0):=(fI (M.o.trans hE1)).2;have H7:Hd (n<=4096):=(mo (fI (M.o.trans hE1)).1).1;have JN:Hd (∀i,i<n->dD (X i)=false):=fun i hi=>qF (M.o.trans hE1) hi;subst hE1;clear hz3 hv3 hb3 HB Hz HP hZo hZn;go_wp2_with fail;refine(ep wk w3 ⟨r.o.1.below HC.o,r.o.2.below HC.o⟩).mono ?_;rintro e w4⟨g,ce,rfl,hE,hg,_,hb4⟩;have H8:=aa hE;have Hf:=aQ HC hb4;have Hg:=aa (H4.o.later hb4);have HH:=aa (Hc.o.later hb4);have H9:Hd (bJ w4 w2'.heap.size v n Z Ad Cp):=H5.o.later hb4;have Jc:Hd (w.heap.size+1<w4.heap.size):=HH.o.lt;clear hE hg hb4 H4 Hc H5;go_wp2_with fail;have H0:Hd (lj wk YS w4 w4.heap.size (.slice none 0 0) []):=⟨World.ownsRow_nil _ _ _ _,fun j c h=>by cases h⟩;go_loopw[13,14,15,16,17](fun v13 v14 _ _ _ wr=>∃i AL,i<=n/\v14= .int .i64 (i:Nat)/\AL.length=i/\Hd (lj wk YS wr w4.heap.size v13 AL)/\Hd (Below w4.heap.size w4 wr)/\Hd (ef (fun i=>dj wk root (X i).key (YS i)) i=0))(fun _ v14 _ _ _ _=>n-(intOf v14).toNat)
    case atStart=>exact⟨0,[],by omega,rfl,rfl,H0,Below.refl _ _,rfl⟩
    case round=>
     clear H0;obtain⟨i,AL,hi,rfl,hAL,y,C,HF⟩:=hrel;by_cases hlt:i<n
     ·have hltI:(i:Int)<(n:Int):=by omega
      have T:=aQ Hf C.o;obtain⟨b,o,Av,Cv,hAe,hb,hkr,hkB,hkl,_⟩:=(HX.o.below T.o).2 i hlt;obtain⟨gb,ob,Ay,ny,cy,hBe,hgb,hcell,hyr,hyn,_,hyl,_⟩:=(HY.o.below T.o) i hlt;subst hAe hBe;have Hh:=aa (And.intro hkl hkB);have Hi:=aa hyr;have Hj:=aa (And.intro hyn hyl);have Q:Hd (∀W,Below wr.heap.size wr W->W.rangeAt w.heap.size 0 (bvs root)/\W.rangeAt b (o+i*34) (bvs (X i).key)/\W.cell? ⟨gb,ob+i,none⟩=some (.slice Ay ny cy)):=fun W hW=>⟨ab.range (ab.below (ab.below Hg.o C.o) hW),aV hW hb (er hkr),(hW.cell (p:=⟨gb,ob+i,none⟩) hgb).trans hcell⟩;have HU:Hd (∀W,Below wr.heap.size wr W->wW W g wk/\RB W Ay ny (YS i)/\du W):=fun W hW=>⟨(H8.o.below C.o).below hW,Hi.o.below hW,⟨r.o.1.below (T.o.trans (hW.mono T.o.size)),r.o.2.below (T.o.trans (hW.mono T.o.size))⟩⟩;clear hb hkr hkB hkl hgb hcell hyr hyn hyl;have hud:=bE;have hszd:(Tryz.prog.info? 34).map (·.size)=some (bvs root).length:=by rw[ag];simp[bvs,P.o.1]
      have huk:=bW;have hszk:(Tryz.prog.info? 37).map (·.size)=some (bvs (X i).key).length:=by rw[aB];simp[bvs,Hh.o.1]
      obtain⟨E2,Hk⟩:∃E2,Hd (dj wk root (X i).key (YS i)=E2):=⟨_,rfl⟩;have Hl:Hd (∀W,Below wr.heap.size wr W->Calls Tryz.prog 60 #[.int .i64 wk, .slice (some ⟨g,0,none⟩) 257 ce, .agg (bvs root).toArray, .agg (bvs (X i).key).toArray, .slice Ay ny cy] W fun e w'=>Below W.heap.size W w'/\∃f V N L,e= .returned (.tuple #[.agg (spC f V N).toArray,L, .int .i64 (E2:Nat)])/\V.oneCell'=true/\N.oneCell'=true/\(E2=0->∃gn cn,N= .slice (some ⟨gn,0,none⟩) 256 cn/\cX w' gn (av wk (jo (YS i)))/\W.heap.size<=gn/\(jo (YS i)).Ok)):=fun W hW=>(fi wk g ce root (X i).key Ay ny cy (YS i) W (HU.o W hW).1 H3.o.1 H3.o.2 P.o.2 P.o.1 Hh.o.2 Hh.o.1 (HU.o W hW).2.1 Hj.o.1 Hj.o.2 (HU.o W hW).2.2).mono fun e w' h=>by
        obtain⟨hh,hb⟩:=h;obtain⟨f,V,N,L,h1,h2,h3,hall⟩:=hh.all;rw[Hk.o]at h1 hall;refine⟨hb,f,V,N,L,h1,h2,h3,fun h0=>?_⟩;obtain⟨p,va,vc,gn,cn,gL,cL,q1,_,_,q4,_,_,q7,_,_,q6,_⟩:=hall h0;have hok:p.Ok:=q4 Hi.o.2.1;subst q7;rw[qy q1];exact⟨gn,cn,rfl,q6.nearAt fun j hj=>(aG hok hj).1,(q6.lt rfl).1,hok⟩
      go_upto_region 11with fail;go_cut[15,16,17]from 49to 73(fun s15 s16 s17 wx=>∃gS f V N L,s15= .pointer (some ⟨gS,0,none⟩)/\s16=L/\s17= .int .i64 (E2:Nat)/\Hd (Below wr.heap.size wr wx)/\Hd (eU wx gS f V N)/\Hd (V.oneCell'=true/\N.oneCell'=true)/\Hd (E2=0->∃gn cn,N= .slice (some ⟨gn,0,none⟩) 256 cn/\cX wx gn (av wk (jo (YS i)))/\wr.heap.size<=gn/\(jo (YS i)).Ok))
      case first=>
       refine wp_region_held_drew (S:=fun w'=>w'.rangeAt w.heap.size 0 (bvs root)/\w'.rangeAt b (o+i*34) (bvs (X i).key)/\w'.cell? ⟨gb,ob+i,none⟩=some (.slice Ay ny cy)) (by kernel_rfl) (Q.o _ (af (Below.refl _ _) 1)) fun hH=>?_;have HI:Hd (Below wr.heap.size wr wr.drew):=af (Below.refl _ _) 1;generalize wr.drew=wd0 at*;refine tka 0 ?_;refine tka 1 ?_;refine tkl 2 ?_;refine tka 3 ?_;refine tka 4 ?_;refine tka 5 ?_;refine tka 6 ?_;refine tkl 7 ?_;refine tka 8 ?_;refine tka 9 ?_;refine tka 10 ?_;refine tka 11 ?_;clear hud hszd huk hszk;refine wpAnyH_ready (rs:=[12,17]) (by kernel_rfl) (by simp) ?_;refine AllReadyH.cons rfl (fun K hK=>?_) (.cons rfl (fun K hK=>?_) .nil)
       ·go_simp;go_at_call 60;refine(Hl.o wd0 HI.o).mono ?_;rintro e y1⟨hb1,f,V,N,L,rfl,hV,hN,hall⟩;have O:=aa (And.intro hV hN);have Hm:=aa hall;have U:=aQ HI hb1;refine hK.out _ _ (Q.o y1 U.o) (fun hH=>?_);clear hK hb1 hV hN hall;refine tka 13 ?_;refine tka 14 ?_;refine tka 15 ?_;refine tka 16 ?_;refine rdy 17 fun K hK=>?_;refine dC (o:=⟨some 15,_,_,_,_,_⟩) (by rfl) 112 rfl _ _ cO ?_;intro y2 hz2 hb2 hs2;have Y:=aQ U hb2.o;have Hn:Hd (eU y2 y1.heap.size false noV noV):=hz2.o;have HV:Hd (wr.heap.size<=y1.heap.size):=U.o.size;refine hK.out _ _ (Q.o y2 Y.o) (fun hH=>?_);clear hK hz2 hs2;refine rdy 18 fun K hK=>?_;refine aA (o:=⟨none,_,_,_,_,_⟩) (by rfl) 112 (.tmp 15) (.tmp 63) rfl 0 [] (spC false noV noV) (spC f V N) [] rfl rfl (by simpa using Hn.o) rfl rfl (by rw[lp];rfl) (dE O.o.1 O.o.2) ?_;intro z hz gz;have HK:Hd (Below wr.heap.size wr z):=Y.o.grown gz Y.o.size fun k hk=>by injection hk with hk;have:=HV.o;omega
        refine hK.out _ _ (Q.o z HK.o) (fun hH=>?_);clear hK;refine tka 19 ?_;refine tka 20 ?_;clear hH;refine bN ?_;have Ho:Hd (E2=0->∃gn cn,N= .slice (some ⟨gn,0,none⟩) 256 cn/\cX z gn (av wk (jo (YS i)))/\wr.heap.size<=gn/\(jo (YS i)).Ok):=fun h0=>by
         obtain⟨gn,cn,h1,h2,h3,h4⟩:=Hm.o h0;have h5:=h2.below hb2.o;exact⟨gn,cn,h1,⟨Nat.lt_of_lt_of_le h5.1 gz.size,fun k hk=>cQ (ae.one gz) h5.1 (by have:=h2.1;omega) (h5.2 k hk)⟩,by have:=HI.o.size;omega,h4⟩
        have hz':eU z y1.heap.size f V N:=by simpa using hz
        have Hp:=aa hz';clear hz hz';go_wp2_with fail;go_meet
        case rel=>exact⟨y1.heap.size,f,V,N,L,rfl,rfl,rfl,HK,Hp,O,Ho⟩
       ·refine dC (o:=⟨some 15,_,_,_,_,_⟩) (by rfl) 112 rfl _ _ cO ?_;intro y1 hz1 hb1 hs1;have U:=aQ HI hb1.o;have JA:Hd (eU y1 wd0.heap.size false noV noV):=hz1.o;have HV:Hd (wr.heap.size<=wd0.heap.size):=HI.o.size;refine hK.out _ _ (Q.o y1 U.o) (fun hH=>?_);clear hK hz1 hs1 hb1;refine rdy 12 fun K hK=>?_;go_simp;go_at_call 60;refine(Hl.o y1 U.o).mono ?_;rintro e y2⟨hb2,f,V,N,L,rfl,hV,hN,hall⟩;have O:=aa (And.intro hV hN);have Hm:=aa hall;have Y:=aQ U hb2;have Hn:Hd (eU y2 wd0.heap.size false noV noV):=ab.below JA.o hb2;have JB:Hd (wd0.heap.size<y1.heap.size):=JA.o.lt;refine hK.out _ _ (Q.o y2 Y.o) (fun hH=>?_);clear hK hb2 hV hN hall;refine tka 13 ?_;refine tka 14 ?_;refine tka 15 ?_;refine tka 16 ?_;refine rdy 18 fun K hK=>?_;refine aA (o:=⟨none,_,_,_,_,_⟩) (by rfl) 112 (.tmp 15) (.tmp 63) rfl 0 [] (spC false noV noV) (spC f V N) [] rfl rfl (by simpa using Hn.o) rfl rfl (by rw[lp];rfl) (dE O.o.1 O.o.2) ?_;intro z hz gz;have HK:Hd (Below wr.heap.size wr z):=Y.o.grown gz Y.o.size fun k hk=>by injection hk with hk;have:=HV.o;omega
        refine hK.out _ _ (Q.o z HK.o) (fun hH=>?_);clear hK;refine tka 19 ?_;refine tka 20 ?_;clear hH;refine bN ?_;have Ho:Hd (E2=0->∃gn cn,N= .slice (some ⟨gn,0,none⟩) 256 cn/\cX z gn (av wk (jo (YS i)))/\wr.heap.size<=gn/\(jo (YS i)).Ok):=fun h0=>by
         obtain⟨gn,cn,h1,h2,h3,h4⟩:=Hm.o h0;exact⟨gn,cn,h1,⟨Nat.lt_of_lt_of_le h2.1 gz.size,fun k hk=>cQ (ae.one gz) h2.1 (by have:=JB.o;omega) (h2.2 k hk)⟩,by have:=HV.o;have:=JB.o;omega,h4⟩
        have hz':eU z wd0.heap.size f V N:=by simpa using hz
        have Hp:=aa hz';clear hz hz';go_wp2_with fail;go_meet
        case rel=>exact⟨wd0.heap.size,f,V,N,L,rfl,rfl,rfl,HK,Hp,O,Ho⟩
      case rest=>
       obtain⟨gS,f,V,N,L,rfl,rfl,rfl,HZ,JC,O,Ha⟩:=hcut;clear Hl Q HU hud hszd huk hszk Hi Hj;have Hq:=aQ C HZ.o;by_cases hE2:E2=0
       ·obtain⟨gn,cn,rfl,hna,hgn,hok⟩:=Ha.o hE2;have Hb:=aa (y.o.below HZ.o);have JO:Hd (ef (fun i=>dj wk root (X i).key (YS i)) (i+1)=0):=by
         show _=_;rw[ef,if_pos HF.o];exact Hk.o.trans hE2
        have JD:Hd (xa wk YS wc w4.heap.size u13 AL.length (spC f V (.slice (some ⟨gn,0,none⟩) 256 cn))):=by
         refine⟨f,V,gn,cn,rfl,by rw[hAL];exact hna,Nat.le_trans C.o.size hgn,fun e=>?_,by rw[hAL];exact hok⟩;have:=(di y.o.row e).2;omega
        have l:Hd ((i:Int)<4096):=by have:=H7.o;show _<_;omega
        subst hE2;clear hna hgn hok Ha y HF;go_wp2_with(first|((with_reducible refine atS 71 ?_);refine aj (by rfl) 112 (.tmp 15) rfl gS 0 (spC f V (.slice (some ⟨gn,0,none⟩) 256 cn)) rfl (ab.range JC.o) (by kernel_rfl) (by kernel_rfl) ?_)|((with_reducible refine atS 72 ?_);refine aR rfl wc 146 112 _ 3 (.tmp 71) rfl xw cO (by decide) (by decide) (spC f V (.slice (some ⟨gn,0,none⟩) 256 cn)).toArray rfl rfl ?_)|(with_reducible refine atS 73 ?_));refine ir (t:=146) (e:=112) (o:=⟨some 73,_,_,_,_,_⟩) xw BU (by rfl) (by decide) wc (by rfl) (.tmp 70) (.tmp 72) (by rfl) w4.heap.size _ AL.length AL.flatten Hb.o.row (spC f V (.slice (some ⟨gn,0,none⟩) 256 cn)) _ rfl rfl (dE O.o.1 O.o.2) (by rfl) (by rfl) (by have:=l.o;omega) (by have:=l.o;omega) Hq.o.size ?_;intro v9 w9 ho9 hg9 hl9;have JP:Hd (lj wk YS w9 w4.heap.size v9 (AL++[spC f V (.slice (some ⟨gn,0,none⟩) 256 cn)])):=Hb.o.push JD.o ho9 hg9 hl9;have HA:Hd (Below w4.heap.size w4 w9):=Hq.o.grown hg9 Hq.o.size fun k hk=>(di Hb.o.row hk).1;clear ho9 hg9 hl9 Hb JD JC;have hsI:(i:Int)<4096:=l.o;go_wp2_with fail;go_roundw
        case rel=>exact⟨i+1,AL++[spC f V (.slice (some ⟨gn,0,none⟩) 256 cn)],by omega,by go_num,by simp[hAL],JP,HA,JO⟩
        case measure=>simp[intOf];omega
       ·have hEi:¬(E2:Int)=0:=by omega
        have HL:Hd (E=E2):=by
         have h1:ef (fun i=>dj wk root (X i).key (YS i)) (i+1)=E2:=by
          rw[ef,if_pos HF.o];exact Hk.o
         show _=_;rw[He.o,nm (i:=i+1) (by rw[h1];exact hE2) (by omega),h1]
        have HM:=aa ((HH.o.later C.o).later HZ.o);have R:=aQ T HZ.o;clear Ha;go_wp2_with(first|((with_reducible refine atS 68 ?_);refine aM (by rfl) 34 #[] rfl [] (by rfl) _ built_d0 ?_)|((with_reducible refine atT 8 ?_);refine a8 (o:=⟨none,_,_,_,_,_⟩) rfl 34 (.tmp 8) (.tmp 68) rfl (w.heap.size+1) (bvs (zs 32)) (bvs (zs 32)) 34 rfl rfl HM.o (by rw[ag];simp[bvs,zs]) rfl (ah _) ?_;intro w7 H I HO));exact bC rfl rfl H.o aF (by rw[ag];simp[bvs,zs]) rfl rfl ⟨(ae.one I.o).toBelow R.o R.o.size fun B h=>by omega,fun _=>by rw[HL.o];rfl,fun h=>absurd (HL.o.symm.trans h) hE2⟩
     ·obtain rfl:i=n:=by omega
      have JE:Hd (E=0):=He.o.trans HF.o;have hnlt:¬(i:Int)<(i:Int):=by omega
      by_cases hn0:i=0
      ·have JQ:=aa (Hg.o.later C.o);have HM:=aa (HH.o.later C.o);have R:=aQ Hf C.o;have hz0:(i:Int)=0:=by omega
       have JF:=aa hn0;clear hn0 hlt;go_wp2_with(first|((with_reducible refine atS 77 ?_);refine ac (by rfl) 34 (.tmp 5) rfl ⟨w.heap.size,0,none⟩ 32 root rfl (JQ.o.whole P.o.2 P.o.1) (by omega) (by kernel_rfl) (by kernel_rfl) ?_)|((with_reducible refine atT 8 ?_);refine a8 (o:=⟨none,_,_,_,_,_⟩) rfl 34 (.tmp 8) (.tmp 77) rfl (w.heap.size+1) (bvs root) (bvs (zs 32)) 34 rfl rfl HM.o (by rw[ag];simp[bvs,P.o.1]) (by simp[bvs,zs,P.o.1]) (ah _) ?_;intro w7 H I HO));exact bC rfl rfl H.o aF (by rw[ag];simp[bvs,P.o.1]) rfl rfl ⟨(ae.one I.o).toBelow R.o R.o.size fun B h=>by omega,fun h=>absurd JE.o h,fun _=>⟨Z,fun i=>av wk (jo (YS i)),HQ.o,fun a b ha hb _=>by have:=JF.o;omega,by rw[if_pos JF.o];rfl⟩⟩
      ·have hn0I:¬(i:Int)=0:=by omega
       obtain⟨J,hJ⟩:∃J:Nat->Nat,∀k,k<i->J k<i/\(X (J k)).key=(Z k).key/\bR (X (J k))=Z k/\∀j',j'<i->(X j').key=(Z k).key->j'=J k:=by
        refine⟨fun k=>if h:k<i then(ja HQ.o H6.o h).choose else 0,fun k hk=>?_⟩;dsimp only;rw[dif_pos hk];exact(ja HQ.o H6.o hk).choose_spec
       have HJ:=aa hJ;obtain⟨ga,ca,hva,_,_,hgac⟩:=jt y.o.row (by rw[hAL];omega);subst hva;obtain⟨Az,Cz,hvz,hZat,hZc,_⟩:=(H9.o.later C.o).form;subst hvz;have Hr:=aa y.o;have JG:=aa hZat;have JR:=aa hZc;have R:=aQ Hf C.o;have HM:=aa (HH.o.later C.o);have JS:=aa (HX.o.below R.o);have l:Hd ((i:Int)<=4096):=by have:=H7.o;show _<=_;omega
       have JT:Hd (∀j,j<i->∃gi ci,wr.cell? ⟨ga,j*3+2,none⟩=some (.slice (some ⟨gi,0,none⟩) 256 ci)/\cX wr gi (av wk (jo (YS j)))/\(jo (YS j)).Ok):=fun j hj=>Hr.o.near (by rw[hAL];exact hj);have JU:Hd (ga<wr.heap.size):=(di Hr.o.row rfl).2;have Ha:=aa hAL;rw[hAL]at hgac;rw[hAL];clear hJ y hZat hZc H9 HH Hg H8 HX HY hc hd hi hlt hn0 HF He Hr hAL;generalize wr=w6 at*;have hsI:(i:Int)<=4096:=l.o;go_wp2_with fail;have JH:Hd (w6.ownsRow w6.heap.size 27 1 (.slice none 0 0) ([]:List Value).length []):=World.ownsRow_nil _ _ _ _;go_loopw[18,19,20](fun s18 s19 _ wx=>∃k NL,k<=i/\s19= .int .i64 (k:Nat)/\NL.length=k/\Hd (wx.ownsRow w6.heap.size 27 1 s18 NL.length NL)/\Hd (Below w6.heap.size w6 wx)/\Hd (∀q u,NL[q]?=some u->∃gi ci,u= .slice (some ⟨gi,0,none⟩) 256 ci/\cX w6 gi (av wk (jo (YS (J q))))/\(jo (YS (J q))).Ok))(fun _ s19 _ _=>i-(intOf s19).toNat)
       case atStart=>exact⟨0,[],by omega,rfl,rfl,JH,Below.refl _ _,fun q u h=>by cases h⟩
       case round=>
        clear JH;obtain⟨k,NL,hk,rfl,hNL,F,C,JI⟩:=hrel;by_cases hlt:k<i
        ·have hltI:(k:Int)<(i:Int):=by omega
         obtain⟨gk,ck,hck,hnk,hok⟩:=JT.o (J k) (HJ.o k hlt).1;have JV:Hd (∀W,Below w6.heap.size w6 W->W.cell? ⟨ga,J k*3+2,none⟩=some (.slice (some ⟨gk,0,none⟩) 256 ck)):=fun W hW=>(hW.cell (p:=⟨ga,J k*3+2,none⟩) JU.o).trans hck;have JJ:=aa (And.intro hnk hok);have Hs:=aa (HJ.o k hlt);clear hck hnk hok;go_wp2_with fail;go_loopw[18,20](fun s18 s20 wx=>∃j NL',j<=i/\s20= .int .i64 (j:Nat)/\Hd (NL'=if J k<j then NL++[Value.slice (some ⟨gk,0,none⟩) 256 ck]else NL)/\Hd (wx.ownsRow w6.heap.size 27 1 s18 NL'.length NL')/\Hd (Below w6.heap.size w6 wx))(fun _ s20 _=>i-(intOf s20).toNat)
         case atStart=>exact⟨0,NL,by omega,rfl,by rw[if_neg (by omega)];rfl,F,C⟩
         case round=>
          clear F C;obtain⟨j,NL',hj,rfl,Ht,F,C⟩:=hrel;by_cases hlt2:j<i
          ·have hltI2:(j:Int)<(i:Int):=by omega
           obtain⟨b,o,Av,Cv,hAe,hb,hkr,hkB,hkl,_⟩:=(JS.o.below C.o).2 j hlt2;obtain⟨bz,oz,Avz,Cvz,hAz,hbz,hkrz,hkBz,hklz,_⟩:=(JG.o.below C.o).2 k hlt;subst hAe hAz;have hrx:wr.rangeAt b (o+j*34) (bvs (X j).key):=er hkr;have hrz:wr.rangeAt bz (oz+k*34) (bvs (Z k).key):=er hkrz;have huk:=bW;have hsz:(Tryz.prog.info? 37).map (·.size)=some (bvs (X j).key).length:=by rw[aB];simp[bvs,hkl]
           have hsz2:(Tryz.prog.info? 37).map (·.size)=some (bvs (Z k).key).length:=by rw[aB];simp[bvs,hklz]
           obtain⟨qe,hqe⟩:∃qe:Bool,qe=decide ((X j).key=(Z k).key):=⟨_,rfl⟩;have heq:∀w:World,(Op.equalIn 10000 37 (.agg (bvs (X j).key).toArray) (.agg (bvs (Z k).key).toArray)).run Tryz.prog w= .ok qe w:=fun w=>by rw[hqe];exact mD w _ _ hkB hkBz hkl hklz
           have JK:=aa hqe;clear hqe hb hkr hkB hkl hbz hkrz hkBz hklz;go_wp2_with(with_reducible refine atS 85 ?_);go_upto_region 24with fail;go_cut[100]from 84to 108(fun s wx=>s= .bool qe/\wx=wr.drew)
           case first=>
            refine wp_region_held_drew (S:=fun w'=>w'.rangeAt b (o+j*34) (bvs (X j).key)/\w'.rangeAt bz (oz+k*34) (bvs (Z k).key)) (by kernel_rfl) ⟨hrx,hrz⟩ fun hH=>?_;refine tka 0 ?_;refine tka 1 ?_;refine tka 2 ?_;refine tka 3 ?_;refine tkl 4 ?_;refine tka 5 ?_;refine tka 6 ?_;refine tka 7 ?_;refine tka 8 ?_;refine tkl 9 ?_;refine tka 10 ?_;refine bN ?_;go_wp2_with fail;go_meet
            case rel=>exact⟨rfl,rfl⟩
           case rest=>
            obtain⟨rfl,rfl⟩:=hcut;have hbd:Below wr.heap.size wr wr.drew:=af (Below.refl _ _) 1;replace F:Hd (wr.drew.ownsRow w6.heap.size 27 1 u18 NL'.length NL'):=(ae.ofBelow hbd).row F.o fun _ _ h=>h;replace C:Hd (Below w6.heap.size w6 wr.drew):=C.o.trans (hbd.mono C.o.size);clear hbd hrx hrz heq hsz hsz2 huk;generalize wr.drew=wd at*;cases qe with
            |true=>
             have Hu:Hd (j=J k):=Hs.o.2.2.2 j hlt2 (of_decide_eq_true JK.o.symm);have Hv:Hd (NL'=NL):=by rw[Ht.o,if_neg (by have:=Hu.o;omega)];rfl
             have hcj:=JV.o wd C.o;rw[<-Hu.o]at hcj;have Hw:Hd (NL++[Value.slice (some ⟨gk,0,none⟩) 256 ck]=if J k<j+1then NL++[Value.slice (some ⟨gk,0,none⟩) 256 ck]else NL):=by rw[if_pos (by have:=Hu.o;omega)];rfl
             rw[Hv.o]at F;have JL:=aa hNL;have hsk:(k:Int)<=4096:=by have:=l.o;omega
             go_wp2_with(at_builtin;refine ir (t:=26) (e:=27) (o:=⟨some 108,_,_,_,_,_⟩) xx y9 (by rfl) (by decide) wd (by rfl) (.tmp 101) (.tmp 107) (by rfl) w6.heap.size _ NL.length NL F.o [.slice (some ⟨gk,0,none⟩) 256 ck] _ rfl rfl (by intro u hu;simp at hu;subst hu;rfl) (by rfl) (by rfl) (by have:=JL.o;omega) (by have:=JL.o;omega) C.o.size ?_;intro v9 w9 ho9 hg9 hl9);have HA:Hd (Below w6.heap.size w6 w9):=C.o.grown hg9 C.o.size fun k hk=>(di F.o hk).1;have JW:Hd (w9.ownsRow w6.heap.size 27 1 v9 (NL++[Value.slice (some ⟨gk,0,none⟩) 256 ck]).length (NL++[Value.slice (some ⟨gk,0,none⟩) 256 ck])):=by rw[List.length_append];exact ho9
             clear ho9 hg9 hl9;go_roundw
             case rel=>exact⟨j+1,NL++[Value.slice (some ⟨gk,0,none⟩) 256 ck],by omega,by go_num,Hw,JW,HA⟩
             case measure=>simp[intOf];omega
            |false=>
             have Hw:Hd (NL'=if J k<j+1then NL++[Value.slice (some ⟨gk,0,none⟩) 256 ck]else NL):=by
              have hne:j≠J k:=fun e=>of_decide_eq_false JK.o.symm (by rw[e];exact Hs.o.2.1);rw[Ht.o];by_cases h:J k<j
              ·rw[if_pos h,if_pos (by omega)];rfl
              ·rw[if_neg h,if_neg (by omega)];rfl
             go_wp2_with fail;go_roundw
             case rel=>exact⟨j+1,NL',by omega,by go_num,Hw,F,C⟩
             case measure=>simp[intOf];omega
          ·have hnlt2:¬(j:Int)<(i:Int):=by omega
           have Hv:Hd (NL'=NL++[Value.slice (some ⟨gk,0,none⟩) 256 ck]):=by rw[Ht.o,if_pos (by have:=Hs.o.1;omega)];rfl
           rw[Hv.o]at F;have JX:Hd (∀q u,(NL++[Value.slice (some ⟨gk,0,none⟩) 256 ck])[q]?=some u->∃gi ci,u= .slice (some ⟨gi,0,none⟩) 256 ci/\cX w6 gi (av wk (jo (YS (J q))))/\(jo (YS (J q))).Ok):=fun q u hu=>by
            rcases Nat.lt_or_ge q NL.length with h1|h1
            ·rw[List.getElem?_append_left h1]at hu;exact JI.o q u hu
            ·rw[List.getElem?_append_right h1]at hu;have h2:q-NL.length<1:=(List.getElem?_eq_some_iff.1 hu).1;have h3:q=k:=by omega
             subst h3;rw[hNL,Nat.sub_self]at hu;injection hu with hu;exact⟨gk,ck,hu.symm,JJ.o.1,JJ.o.2⟩
           go_wp2_with fail;go_roundw
           case rel=>exact⟨k+1,NL++[Value.slice (some ⟨gk,0,none⟩) 256 ck],by omega,by go_num,by simp[hNL],F,C,JX⟩
           case measure=>simp[intOf];omega
        ·have hki:k=i:=by omega
         have hnltk:¬(k:Int)<(i:Int):=by omega
         obtain⟨gr,cr,hvr,_,hgr,hgrc⟩:=jt F.o (by rw[hNL,hki];omega);subst hvr;have JY:Hd (fS wr (some ⟨gr,0,none⟩) i (fun q=>av wk (jo (YS (J q))))):=fun q hq=>by
          have hql:q<NL.length:=by rw[hNL,hki];exact hq
          obtain⟨gi,ci,h1,h2,h3⟩:=JI.o q _ (List.getElem?_eq_getElem hql);refine⟨gr,0,gi,ci,rfl,(di F.o rfl).2,?_,h2.below C.o,fun j hj=>aG h3 hj⟩;rw[Nat.zero_add,World.ownsRow.cellAt F.o q (by omega),List.getElem?_eq_getElem hql,h1]
         have Hx:=aQ R C.o;have JZ:=aa (HM.o.later C.o);have Ja:Hd (i<=cr):=by rw[<-hki,<-hNL];exact hgrc
         have hl18:NL.length=i:=hNL.trans hki;rw[hl18];have JM:Hd (1<=i):=by show _<=_;omega
         obtain⟨D,HD⟩:∃D,Hd (iQ wk 256 i Z (fun q=>av wk (jo (YS (J q))))=D):=⟨_,rfl⟩;have Hy:Hd (D.length=32/\IsB D):=by rw[<-HD.o];exact fK _ _ _ _ _
         have HG:=aa (vp wk 256 i Cz cr Az (some ⟨gr,0,none⟩) Z (fun q=>av wk (jo (YS (J q)))) wr (Nat.le_refl _) JM.o (by have:=l.o;omega) (JG.o.below C.o) JR.o JY.o Ja.o (fun q hq=>by
          rw[<-(HJ.o q hq).2.2.1];exact oG _ (JN.o _ (HJ.o q hq).1)) ⟨r.o.1.below Hx.o,r.o.2.below Hx.o⟩);rw[HD.o]at HG;clear F hgr hgrc;go_wp2_with fail;refine HG.o.mono ?_;rintro e w9⟨rfl,hb9⟩;have HA:=aQ Hx hb9;have Jb:=aa (JZ.o.later hb9);clear hb9;go_wp2_with((with_reducible refine atT 8 ?_);refine a8 (o:=⟨none,_,_,_,_,_⟩) rfl 34 (.tmp 8) (.tmp 112) rfl (w.heap.size+1) (bvs D) (bvs (zs 32)) 34 rfl rfl Jb.o (by rw[ag];simp[bvs,Hy.o.1]) (by simp[bvs,zs,Hy.o.1]) (ah _) ?_;intro w7 H I HO);exact bC rfl rfl H.o aF (by rw[ag];simp[bvs,Hy.o.1]) rfl rfl ⟨(ae.one I.o).toBelow HA.o HA.o.size fun B h=>by omega,fun h=>absurd JE.o h,fun _=>⟨Z,fun q=>av wk (jo (YS (J q))),HQ.o,fun a b ha hb h=>by rw[(HJ.o a ha).2.2.2 b hb h],by rw[if_neg (by have:=JM.o;omega),HD.o];rfl⟩⟩
   ·have hv:=hv3 hE1;have hEi:¬(E1:Int)=0:=by omega
    have HL:Hd (E=E1):=by rw[HB.o,if_pos hE1];rfl
    subst hv;clear hz3 hv3 hb3 HB;go_wp2_with(first|((with_reducible refine atS 39 ?_);refine aM (by rfl) 34 #[] rfl [] (by rfl) _ built_d0 ?_)|((with_reducible refine atT 8 ?_);refine a8 (o:=⟨none,_,_,_,_,_⟩) rfl 34 (.tmp 8) (.tmp 39) rfl (w.heap.size+1) (bvs (zs 32)) (bvs (zs 32)) 34 rfl rfl Hc.o (by rw[ag];simp[bvs,zs]) rfl (ah _) ?_;intro w7 H I HO));exact bC rfl rfl H.o aF (by rw[ag];simp[bvs,zs]) rfl rfl ⟨(ae.one I.o).toBelow HC.o HC.o.size fun B h=>by omega,fun _=>by rw[HL.o];rfl,fun h=>absurd (HL.o.symm.trans h) hE1⟩
  ·have M:Hd (E=1):=by rw[<-HE.o];unfold uC;rw[if_pos (.inr hnm)];rfl
   have hnmI:¬(n:Int)=(m:Int):=by omega
   clear hw;go_wp2_with(first|((with_reducible refine atS 31 ?_);refine aM (by rfl) 34 #[] rfl [] (by rfl) _ built_d0 ?_)|((with_reducible refine atT 8 ?_);refine a8 (o:=⟨none,_,_,_,_,_⟩) rfl 34 (.tmp 8) (.tmp 31) rfl (w.heap.size+1) (bvs (zs 32)) (bvs (zs 32)) 34 rfl rfl HP.o (by rw[ag];simp[bvs,zs]) rfl (ah _) ?_;intro w7 H I HO));exact bC rfl rfl H.o aF (by rw[ag];simp[bvs,zs]) rfl rfl ⟨(ae.one I.o).toBelow x.o x.o.size fun B h=>by omega,fun _=>by rw[M.o];rfl,fun h=>absurd (M.o.symm.trans h) (by decide)⟩
 ·have M:Hd (E=1):=by rw[<-HE.o];unfold uC;rw[if_pos (.inl hw)];rfl
  rw[decide_eq_false hw];clear hw;go_wp2_with(first|((with_reducible refine atS 31 ?_);refine aM (by rfl) 34 #[] rfl [] (by rfl) _ built_d0 ?_)|((with_reducible refine atT 8 ?_);refine a8 (o:=⟨none,_,_,_,_,_⟩) rfl 34 (.tmp 8) (.tmp 31) rfl (w.heap.size+1) (bvs (zs 32)) (bvs (zs 32)) 34 rfl rfl HP.o (by rw[ag];simp[bvs,zs]) rfl (ah _) ?_;intro w7 H I HO));exact bC rfl rfl H.o aF (by rw[ag];simp[bvs,zs]) rfl rfl ⟨(ae.one I.o).toBelow x.o x.o.size fun B h=>by omega,fun _=>by rw[M.o];rfl,fun h=>absurd (M.o.symm.trans h) (by decide)⟩
end Go.Proofs.YtfnlhfaihoojfaaGreatDoor
