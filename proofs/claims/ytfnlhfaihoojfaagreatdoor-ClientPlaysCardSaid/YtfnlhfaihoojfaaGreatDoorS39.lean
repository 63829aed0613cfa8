/- Texts of the proof of ledgerlaw13.ClientPlays, part 39; no condition of its own. -/
import Derived.Test.YtfnlhfaihoojfaaGreatDoorS38
set_option maxRecDepth 100000
set_option maxHeartbeats 4000000
namespace Go.Proofs.YtfnlhfaihoojfaaGreatDoor
open Go.RowKit
theorem BD{w:World}{g base:Nat}{c:Ck}{v:Value}{xs:List Nat}(h:bn w base v xs)(hc:fx w g c):∀B,v.ownBlock=some B->B≠g:=fun B hB e=>by
 rcases h.1.2with h1|⟨b,cap,cur,h0,h1,h2,h3⟩
 ·rw[h1.1]at hB;cases hB
 ·rw[h0]at hB;injection hB with hB;subst hB;exact qa (cs:=cur) (cs':=c.C.toArray) (t:=5) (t':=96) h2 hc (by decide) e
theorem gW{P:Program}{ops:Array Oper}{S:World->Prop}{o:Oper}{a:Act}(hw:Region.wanted o (yielded ops a.tmps)=true)(t:TypeId)(parts:Array (Nat×Operand))(ho:o.op= .build t parts)(vs:List (Nat×Value))(hv:(parts.map fun(i,x)=>(i,a.eval x)).toList=vs)(cells:Array Value)(hb:P.built t vs=some cells):YieldsIf P ops S o (.agg cells) a:= .inl ⟨hw,fun w _=>by
  unfold execOp;simp only[ho,Sem.run_bind,run_build w t _ cells (by rw[hv];exact hb),Result.andThen_ok];rfl⟩
theorem zM(f:Bool)(a:Option Addr)(l c:Nat):Tryz.prog.built 94 [(0, .bool f),(1, .slice a l c)]=some (prC f (.slice a l c) (zs 32) (.slice none 0 0)).toArray:=by kernel_rfl
theorem vM{m:Int}{ds:Nat->List Nat}(hl:∀j,(ds j).length=32/\IsB (ds j))(h:Nat):(nC m ds h).length=32/\IsB (nC m ds h):=by
 unfold nC;split
 ·exact hl _
 ·exact⟨ak 32,dY 32⟩
theorem yW(m:Int)(ds:Nat->List Nat):nC m ds 0=zs 32:=by
 unfold nC;rw[if_neg (by omega)]
theorem cG.val1{w:World}{g:Nat}{f:Bool}{v s:Value}{bits:List Nat}(h:cG w g f v bits s)(v':Value):cG (w.setCell ⟨g,1,none⟩ v') g f v' bits s:=by
 have h1:=ab.stored h 1 v';have e:(prC f v bits s).toArray.setIfInBounds 1 v'=(prC f v' bits s).toArray:=by
  rw[List.setIfInBounds_toArray];rfl
 rw[e]at h1;exact h1
theorem cG.flag{w:World}{g:Nat}{f:Bool}{v s:Value}{bits:List Nat}(h:cG w g f v bits s)(f':Bool):cG (w.setCell ⟨g,0,none⟩ (.bool f')) g f' v bits s:=by
 have h1:=ab.stored h 0 (.bool f');have e:(prC f v bits s).toArray.setIfInBounds 0 (.bool f')=(prC f' v bits s).toArray:=by
  rw[List.setIfInBounds_toArray];rfl
 rw[e]at h1;exact h1
def Aa(ks:List Nat)(x:Chg)(p:Pr):Bool:=if ks=x.key then !x.del else p.found
def wS(ks:List Nat)(x:Chg)(p:Pr):List Nat:=if ks=x.key then(if x.del then[]else x.val)else p.val
theorem Bj{wd:Int}{ks:List Nat}{x:Chg}{p q:Pr}(hB:IsB ks)(hl:ks.length=32)(hB2:IsB x.key)(hl2:x.key.length=32):pS (wQ wd ks x p q)=pS (prU wd (Aa ks x p) (wS ks x p) (iU (255-(eS ks x.key:Nat)) (nC (255-(eS ks x.key:Nat)) (bd wd x.key (eK wd x) (av wd q)) 256) (av wd p)) 256):=by
 have h1:=jZ ks x.key;have h2:=kC hB hl hB2 hl2;unfold wQ Aa wS;by_cases hk:ks=x.key
 ·rw[if_pos hk,if_pos hk,if_pos hk,h2.2 hk];have e:iU (255-(256:Nat)) (nC (255-(256:Nat)) (bd wd x.key (eK wd x) (av wd q)) 256) (av wd p)=av wd p:=by
   funext h;unfold iU;rw[if_neg (by omega)]
  rw[e];cases x.del with
  |true=>rfl
  |false=>rfl
 ·rw[if_neg hk,if_neg hk,if_neg hk];have h3:eS ks x.key<256:=by
   rcases Nat.lt_or_eq_of_le h1 with h|h
   ·exact h
   ·exact absurd (h2.1 h) hk
  generalize eS ks x.key=m at h3;have e:iU (255-(m:Nat)) (nC (255-(m:Nat)) (bd wd x.key (eK wd x) (av wd q)) 256) (av wd p)=upd (av wd p) (255-m) (bd wd x.key (eK wd x) (av wd q) (255-m)):=by
   funext h;unfold iU;by_cases hh:h=255-m
   ·rw[if_pos (by omega),hh,az];unfold nC;rw[if_pos (by omega),show((255:Int)-(m:Nat)).toNat=255-m by omega]
   ·rw[if_neg (by omega),au _ _ hh]
  rw[e]
theorem yQ{ks:List Nat}{x:Chg}{p:Pr}(hp:p.Ok)(hl:dD x=false)(hv:IsB x.val):IsB (wS ks x p)/\(wS ks x p).length<=128/\(Aa ks x p=false->wS ks x p=[]):=by
 unfold Aa wS;split
 ·have h1:=oC hl;cases hd:x.del with
  |true=>exact⟨fun _ h=>(List.not_mem_nil h).elim,Nat.zero_le _,fun _=>rfl⟩
  |false=>
   rw[hd]at h1;refine⟨hv,?_,fun h=>by cases h⟩;rcases h1 with h|h
   ·cases h
   ·exact h
 ·exact⟨hp.vB,hp.vl,hp.vn⟩
theorem yG(wd:Int)(root ks:List Nat)(A:Option Addr)(n k:Nat)(xs:List Nat)(A2:Option Addr)(n2 k2:Nat)(ys:List Nat)(x:Chg)(B:Option Addr)(C:Nat)(w:World)(hr:IsB root)(hrl:root.length=32)(hks:IsB ks)(hksl:ks.length=32)(hk:IsB x.key)(hkl:x.key.length=32)(hx:RB w A n xs)(hlt:∀ad,A=some ad->ad.block<w.heap.size)(hnc:n<=k)(hA:A=none->k=0)(hkm:k<=maxLen)(hn:n<=140737488355328)(hy:RB w A2 n2 ys)(hlt2:∀ad,A2=some ad->ad.block<w.heap.size)(hnc2:n2<=k2)(hA2:A2=none->k2=0)(hkm2:k2<=maxLen)(hn2:n2<=140737488355328)(hv:RB w B x.val.length x.val)(hB:B=none->C=0)(ht:eY w):Calls Tryz.prog 35 #[.int .i64 wd, .agg (bvs root).toArray, .agg (bvs ks).toArray, .slice A n k, .slice A2 n2 k2, .agg (chC x B C).toArray] w (EA (CY wd root ks xs ys x) wd root ks xs ys x w):=by
 have P:=aa (And.intro hrl hr);have H:=aa (And.intro hksl hks);have D:=aa (And.intro hkl hk);have HX:=aa hx;have HY:=aa hy;have Hm:=aa hv;have JT:=aa hB;have s:=aa (And.intro hlt (And.intro hnc (And.intro hA (And.intro hkm hn))));have t:=aa (And.intro hlt2 (And.intro hnc2 (And.intro hA2 (And.intro hkm2 hn2))));have HT:=aa ht;clear hr hrl hks hksl hk hkl hx hlt hnc hA hkm hn hy hlt2 hnc2 hA2 hkm2 hn2 hv hB ht;suffices h:∀E,CY wd root ks xs ys x=E->Calls Tryz.prog 35 #[.int .i64 wd, .agg (bvs root).toArray, .agg (bvs ks).toArray, .slice A n k, .slice A2 n2 k2, .agg (chC x B C).toArray] w (EA E wd root ks xs ys x w)from h _ rfl;intro E hE;obtain⟨E1,JU⟩:∃E1,Hd (dj wd root ks xs=E1):=⟨_,rfl⟩;obtain⟨E2,JV⟩:∃E2,Hd (dj wd root x.key ys=E2):=⟨_,rfl⟩;have Hn:Hd (E=if E1=0then(if E2=0then(if dD x then 32 else 0)else E2)else E1):=by rw[<-hE,<-JU.o,<-JV.o];rfl
 clear hE;go_enter Tryz.func35,Tryz.ntmps35;go_upto_region 1with fail;refine fC (G:=fun w2=>Code.wp _ _ _ _ w2) fun w2 J H2 H3 HW HS=>?_;have Ho:Hd (ar w2 w.heap.size 34 root):=J;have Hp:Hd (ar w2 (w.heap.size+1) 37 ks):=H2;have Hq:Hd (ib w2 (w.heap.size+1+1) x B C):=H3;clear J H2 H3;go_wp2_with(first|((with_reducible refine atS 22 ?_);refine ac (by rfl) 34 (.tmp 7) rfl ⟨w.heap.size,0,none⟩ 32 root rfl (Ho.o.whole P.o.2 P.o.1) (by omega) (by kernel_rfl) (by kernel_rfl) ?_)|((with_reducible refine atS 23 ?_);refine ac (by rfl) 37 (.tmp 8) rfl ⟨w.heap.size+1,0,none⟩ 32 ks rfl (Hp.o.whole H.o.2 H.o.1) (by omega) (by kernel_rfl) (by kernel_rfl) ?_));refine(kO wd root ks xs A n k w2 P.o.1 P.o.2 H.o.1 H.o.2 (HX.o.below HW.o) (fun ad e=>Nat.lt_of_lt_of_le (s.o.1 ad e) HW.o.size) s.o.2.1 s.o.2.2.1 s.o.2.2.2.1 s.o.2.2.2.2 (HT.o.below HW.o)).mono ?_;rintro e w3⟨g,c,rfl,hg,hck,hok,hwd,hky,hbl,hb3,hyes⟩;rw[JU.o]at hyes⊢;have F:=aQ HW hb3;have JW:=aa (Ho.o.later hb3);have JX:=aa (Hp.o.later hb3);have JY:=aa (Hq.o.later hb3);have a:Hd (w.heap.size+1+1<g):=by have h1:=Hq.o.lt;show _<_;omega
 have T:=aa hyes;have HE:=aa (And.intro hck hok);have JZ:=aa hbl;have Ke:=aa (And.intro hwd hky);have Ja:Hd (E1≠0->¬(E1:Int)=0):=fun h=>by omega
 clear hg hck hok hwd hky hbl hb3 hyes Hq Hp Ho;go_wp2_with(with_reducible refine atT 14 ?_);refine bh (G:=fun w4=>Hd (wpList _ _ _ _ _ w4)) fun w4 J u Kf=>?_;have hc0:=ab.cell J.o 0;have hf0:=ab.frozen J.o 0;refine aa ?_;by_cases hE1:E1=0
 ·go_upto_if 29with fail;obtain⟨w5,HF⟩:∃w5,Hd (w4.setCell ⟨w3.heap.size,0,none⟩ (.pointer (some ⟨g,0,none⟩))=w5):=⟨_,rfl⟩;rw[HF.o];have hp5:ab w5 w3.heap.size 60 #[.pointer (some ⟨g,0,none⟩)]:=by rw[<-HF.o];exact ab.stored J.o 0 _
  have hb5:Below w3.heap.size w3 w5:=by rw[<-HF.o];exact u.o.grown (ai w4 0 _) u.o.size fun k hk=>by injection hk with hk;omega
  have Jb:=aa hp5;have Jc:=aa hb5;have Jd:=aQ F hb5;have Je:=aa (JW.o.later hb5);have Jf:=aa (JX.o.later hb5);have Hr:=aa (JY.o.later hb5);have Jg:Hd (fx w5 g c):=ab.below HE.o.1 hb5;have Jh:Hd (dw w5 wd c.blank):=by
   rcases JZ.o with h1|⟨B,h1,h2⟩
   ·exact .inl h1
   ·exact .inr ⟨B,h1,ab.below h2 hb5⟩
  have Ji:Hd (g<w3.heap.size):=HE.o.1.lt;obtain⟨p,hp,hf,hpp,hrd,hov⟩:=T.o hE1;have HD:=aa (And.intro hp (And.intro hf hpp));have Hs:=aa hrd;have HH:=aa hov;have b:Hd (E=if E2=0then(if dD x then 32 else 0)else E2):=by rw[Hn.o,if_pos hE1];rfl
  have hc37:w5.cell? ⟨w3.heap.size,0,none⟩=some (.pointer (some ⟨g,0,none⟩)):=hp5.cell 0;subst hE1;clear hp5 hb5 hp hf hpp hrd hov T Hn HF J u Kf hc0 hf0 JW JX JY JZ Ja;go_wp2_with(first|((with_reducible refine atS 33 ?_);refine ac (by rfl) 34 (.tmp 7) rfl ⟨w.heap.size,0,none⟩ 32 root rfl (Je.o.whole P.o.2 P.o.1) (by omega) (by kernel_rfl) (by kernel_rfl) ?_)|((with_reducible refine atS 35 ?_);refine aj (by rfl) 37 (.tmp 34) rfl (w.heap.size+1+1) 0 (bvs x.key) rfl Hr.o.key (by kernel_rfl) (by rw[aB];simp[bvs,D.o.1]) ?_));refine bh (G:=fun w6=>Calls _ _ _ w6 _) fun w6 J U Kr=>?_;have Jj:Hd (w6.cell? ⟨w5.heap.size,0,none⟩=some (.pointer (some ⟨g,0,none⟩))):=ab.cell J.o 0;have y:=aQ Jd U.o;have Jk:=aQ Jc U.o;have Jl:Hd (fx w6 g c):=ab.below Jg.o U.o;have Jm:Hd (dw w6 wd c.blank):=by
   rcases Jh.o with h1|⟨B,h1,h2⟩
   ·exact .inl h1
   ·exact .inr ⟨B,h1,ab.below h2 U.o⟩
  have Ht:Hd (ab w6 w3.heap.size 60 #[.pointer (some ⟨g,0,none⟩)]):=ab.below Jb.o U.o;have Jn:=aa (Jf.o.later U.o);have Jo:=aa (Hr.o.later U.o);clear J Jh Jg Je Jf Hr Jb Jc Jd hc37;refine(mW w5.heap.size 1 g c wd root x.key ys A2 n2 k2 w6 P.o.1 P.o.2 D.o.1 D.o.2 (HY.o.below y.o) (fun ad e=>Nat.lt_of_lt_of_le (t.o.1 ad e) y.o.size) t.o.2.1 t.o.2.2.1 t.o.2.2.2.1 t.o.2.2.2.2 (HT.o.below y.o) Jj.o Jl.o HE.o.2 Jm.o).mono ?_;rintro e w7⟨g2,c2,rfl,hg2,hck2,hok2,hwd2,hky2,hbl2,hb7,hyes2⟩;rw[JV.o]at hyes2⊢;have T:=aa hyes2;have Jp:=aa (And.intro hwd2 hky2);have Hu:Hd (w3.heap.size<g2):=by have h1:=Ht.o.lt;show _<_;omega
  have Hv:=aQ y hb7;have Jq:=aQ Jk hb7;have Jr:Hd (ab w7 w3.heap.size 60 #[.pointer (some ⟨g,0,none⟩)]):=ab.below Ht.o hb7;have Js:=aa (Jn.o.later hb7);have Hw:=aa (Jo.o.later hb7);have Jt:Hd (E2≠0->¬(E2:Int)=0):=fun h=>by omega
  clear hg2 hck2 hok2 hwd2 hky2 hbl2 hb7 hyes2 Jj Jm Jl Jn Jo Ht Jk y;by_cases hE2:E2=0
  ·obtain⟨q,hp2,hf2,hpp2,hrd2,_⟩:=T.o hE2;have Hx:=aa (And.intro hp2 (And.intro hf2 hpp2));have Ju:=aa hrd2;have O:Hd (E=if dD x then 32 else 0):=by rw[b.o,if_pos hE2];rfl
   subst hE2;clear hp2 hf2 hpp2 hrd2 T b Jt;obtain⟨lg,z⟩:∃lg,Hd (dD x=lg):=⟨_,rfl⟩;rw[z.o]at O;go_wp2_with((with_reducible refine atS 45 ?_);refine aj (by rfl) 39 (.tmp 11) rfl (w.heap.size+1+1) 0 (chC x B C) rfl Hw.o.all be (by rw[aK,am D.o.1]) ?_);refine(m7 x B C w7 D.o.1).mono ?_;rintro e w8⟨rfl,hb8⟩;rw[z.o];have Jv:=aQ Hv hb8;have HI:=aQ Jq hb8;have Jw:=aa (Js.o.later hb8);have Jx:=aa (Hw.o.later hb8);have HJ:Hd (ab w8 w3.heap.size 60 #[.pointer (some ⟨g,0,none⟩)]):=ab.below Jr.o hb8;have V:Hd (aX w8 g c p):=Hs.o.below HI.o;have HL:Hd (aX w8 g2 c2 q):=Ju.o.below hb8;have Hy:Hd (bn w8 w2.heap.size c.v p.val):=(ae.ofBelow HI.o).own HH.o fun _ _ h=>h;have Jy:=aa Hs.o;clear hb8 Hs Ju Js Hw Jr Jq Hv;cases lg with
   |true=>
    rw[if_pos rfl]at O;go_wp2_with fail;go_ret2;exact⟨Jv.o,fun _=>by rw[O.o];rfl,fun h=>absurd (O.o.symm.trans h) (by decide)⟩
   |false=>
    rw[if_neg (by decide)]at O;obtain⟨va,vn,vc,hva⟩:∃va vn vc,c.v= .slice va vn vc:=db Hy.o.1;have hvn:vn=p.val.length:=by
     rcases Hy.o.1.2with⟨e,h0⟩|⟨g,cap,cur,e,_⟩
     ·rw[hva]at e;injection e with e1 e2 e3;omega
     ·rw[hva]at e;injection e with e1 e2 e3
    subst hvn;have hcs:=bF V.o.ck V.o.ok;have hcf:c.f=p.found:=V.o.found.symm;have hov3:=HH.o;rw[hva]at hcs hov3;rw[hcf]at hcs;have Hz:=aa (And.intro hcs.2.2.1 hcs.2.2.2.1);have Ks:Hd (c.f=p.found):=hcf;have Kg:Hd (c.v= .slice va p.val.length vc):=hva;have HO:Hd (∀W,ae (fun B=>B=g∨w3.heap.size<=B) w3 W->RB W va p.val.length p.val/\(va=none->vc=0)):=fun W hW=>by
     have h1:=hW.own hov3 fun B hB e=>by
      rcases e with e|e
      ·exact BD HH.o HE.o.1 B (by rw[hva];exact hB) e
      ·have:=(hov3.lt B hB).2;omega
     exact⟨h1.reads,h1.reads'.2.2.2⟩
    have H0:Hd (Far (fun B=>w3.heap.size<=B) g c):=Jy.o.farNew;have Jz:Hd (ae (fun B=>B=g∨w3.heap.size<=B) w3 w8):=(ae.ofBelow HI.o).mono fun _ _ h=>h.elim;have J0:Hd (g2<w8.heap.size):=HL.o.ck.lt;obtain⟨fO,HP⟩:∃fO,Hd (Aa ks x p=fO):=⟨_,rfl⟩;obtain⟨vO,HU⟩:∃vO,Hd (wS ks x p=vO):=⟨_,rfl⟩;have J1:Hd (∀W,ae (fun B=>B=g∨w3.heap.size<=B) w3 W->RB W B x.val.length x.val):=fun W hW=>Hm.o.below (hW.toBelow F.o F.o.size fun B e=>by have h1:=a.o;have h2:=F.o.size;omega);have hc51:=Hz.o.1;have hc56:=Hz.o.2;have hc47:w8.cell? ⟨w3.heap.size,0,none⟩=some (.pointer (some ⟨g,0,none⟩)):=HJ.o.cell 0;have H4:Hd (∀W,Below w8.heap.size w8 W->W.cell? ⟨w3.heap.size,0,none⟩=some (.pointer (some ⟨g,0,none⟩))/\W.cell? ⟨g,66,none⟩=some (.bool p.found)/\W.cell? ⟨g,67,none⟩=some (.slice va p.val.length vc)):=fun W hW=>⟨(ab.below HJ.o hW).cell 0,(hW.cell (p:=⟨g,66,none⟩) V.o.ck.lt).trans hc51,(hW.cell (p:=⟨g,67,none⟩) V.o.ck.lt).trans hc56⟩;clear hcs hov3 hcf hva;go_upto_region 9with fail;refine wp_region_held_drew (S:=fun w'=>w'.cell? ⟨w3.heap.size,0,none⟩=some (.pointer (some ⟨g,0,none⟩))/\w'.cell? ⟨g,66,none⟩=some (.bool p.found)/\w'.cell? ⟨g,67,none⟩=some (.slice va p.val.length vc)) (by kernel_rfl) ⟨hc47,hc51,hc56⟩ fun hH=>?_;clear hc47 hc51 hc56;have X:Hd (Below w8.heap.size w8 w8.drew):=af (Below.refl _ _) 1;have HZ:Hd (w8.drew.heap.size=w8.heap.size):=rfl;generalize w8.drew=w9 at*;refine tka 0 ?_;refine tka 1 ?_;refine tka 2 ?_;refine tka 3 ?_;refine tka 4 ?_;refine tka 5 ?_;refine tka 6 ?_;refine tka 7 ?_;refine tka 8 ?_;refine tka 9 ?_;refine tk0 10 rfl (gW (by rfl) 94 #[(0, .tmp 51),(1, .tmp 56)] rfl [(0, .bool p.found),(1, .slice va p.val.length vc)] (by simp[go_sem]) _ (zM _ _ _ _)) ?_;refine rdy 11 (o:=⟨some 17,_,_,_,_,_⟩) fun K hK=>?_;refine dC (o:=⟨some 17,_,_,_,_,_⟩) (by rfl) 94 rfl _ _ lF fun wa J2 J3 Kh=>?_;have Ha:Hd (Below w8.heap.size w8 wa):=X.o.trans (J3.o.mono (by rw[HZ.o];exact Nat.le_refl _));refine hK.out _ _ (H4.o wa Ha.o) (fun hH=>?_);clear hK;refine rdy 12 fun K hK=>?_;refine aA (o:=⟨none,_,_,_,_,_⟩) (by rfl) 94 (.tmp 17) (.tmp 57) rfl 0 [] (prC false (.slice none 0 0) (zs 32) (.slice none 0 0)) (prC p.found (.slice va p.val.length vc) (zs 32) (.slice none 0 0)) [] rfl rfl (by rw[List.nil_append,List.append_nil];exact J2.o) rfl (by rw[a7 (ak 32),a7 (ak 32)]) (by rw[lq,a7 (ak 32)]) (oX rfl rfl) fun wb hAb hGb=>?_;have L:Hd (cG wb w9.heap.size p.found (.slice va p.val.length vc) (zs 32) (.slice none 0 0)):=by
     rw[List.nil_append,List.append_nil]at hAb;exact hAb
    have Q:Hd (Below w8.heap.size w8 wb):=Ha.o.grown hGb Ha.o.size fun k hk=>by injection hk with hk;have:=HZ.o;omega
    refine hK.out _ _ (H4.o wb Q.o) (fun hH=>?_);clear hK hAb hGb J2 J3 Kh Ha hH X;(try simp only[Act.put,LS]);refine bN ?_;have Hb:Hd (w8.heap.size=w9.heap.size):=HZ.o.symm;obtain⟨gP,HgP⟩:∃gP,Hd (w9.heap.size=gP):=⟨_,rfl⟩;rw[HgP.o]at L Hb⊢;clear HgP HZ;have H5:Hd (ae (fun B=>B=g∨w3.heap.size<=B) w3 wb):=Jz.o.trans ((ae.ofBelow Q.o).mono fun _ _ h=>h.elim);have H6:=aa (Jw.o.later Q.o);have HA:=aa (Jx.o.later Q.o);have R:Hd (gP<wb.heap.size/\w3.heap.size<gP):=⟨L.o.lt,by have h1:=Hb.o;have h2:=Hu.o;have h3:=J0.o;omega⟩;have hkk:=mD wb ks x.key H.o.2 D.o.2 H.o.1 D.o.1;obtain⟨dl,H7⟩:∃dl,Hd (x.del=dl):=⟨_,rfl⟩;have hc63:=HA.o.del D.o.1;have hc71:=HA.o.val D.o.1;have hcp0:wb.cell? ⟨gP,0,none⟩=some (.bool p.found):=L.o.cell 0;have hcp1:wb.cell? ⟨gP,1,none⟩=some (.slice va p.val.length vc):=L.o.cell 1;have hfp0:wb.frozen? ⟨gP,0,none⟩=false:=ab.frozen L.o 0;have hfp1:wb.frozen? ⟨gP,1,none⟩=false:=ab.frozen L.o 1;rw[H7.o]at hc63;obtain⟨qk,hqk⟩:∃qk,decide (ks=x.key)=qk:=⟨_,rfl⟩;rw[hqk]at hkk;have Hc:=aa hqk;clear hqk;go_upto_if 61with(first|((with_reducible refine atS 58 ?_);refine ac (by rfl) 37 (.tmp 8) rfl ⟨w.heap.size+1,0,none⟩ 32 ks rfl (H6.o.whole H.o.2 H.o.1) (by omega) (by kernel_rfl) (by kernel_rfl) ?_)|((with_reducible refine atS 60 ?_);refine aj (by rfl) 37 (.tmp 59) rfl (w.heap.size+1+1) 0 (bvs x.key) rfl HA.o.key (by kernel_rfl) (by rw[aB];simp[bvs,D.o.1]) ?_));clear hkk;go_cut[61]from 61to 72(fun _ wx=>Hd (∃AO CO,cG wx gP fO (.slice AO vO.length CO) (zs 32) (.slice none 0 0)/\(AO=none->CO=0)/\∀W,ae (fun B=>B=g∨w3.heap.size<=B) w3 W->RB W AO vO.length vO)/\Hd (ae (fun B=>B=gP) wb wx))
    case first=>
     cases qk with
     |false=>
      have hf:Aa ks x p=p.found:=by unfold Aa;rw[if_neg (of_decide_eq_false Hc.o)]
      have hv:wS ks x p=p.val:=by unfold wS;rw[if_neg (of_decide_eq_false Hc.o)]
      rw[HP.o]at hf;rw[HU.o]at hv;subst hf hv;go_wp2_with fail;go_meet
      case rel=>exact⟨⟨va,vc,L.o,(HO.o wb H5.o).2,fun W hW=>(HO.o W hW).1⟩,ae.refl _ _⟩
     |true=>
      have hf:Aa ks x p=!dl:=by unfold Aa;rw[if_pos (of_decide_eq_true Hc.o),H7.o]
      have hv:wS ks x p=if dl then[]else x.val:=by unfold wS;rw[if_pos (of_decide_eq_true Hc.o),H7.o]
      rw[HP.o]at hf;rw[HU.o]at hv;cases dl with
      |true=>
       rw[if_pos rfl]at hv;subst hf hv;go_wp2_with fail;go_meet
       case rel=>exact⟨⟨none,0,(L.o.flag _).val1 _,fun _=>rfl,fun W _=>RB.nil W none⟩,((ae.one (ai wb 0 _):ae (fun B=>B=gP) wb _)).trans (ae.one (ai _ 1 _))⟩
      |false=>
       rw[if_neg (by decide)]at hv;subst hf hv;go_wp2_with fail;go_meet
       case rel=>exact⟨⟨B,C,((L.o.flag _).val1 _).val1 _,JT.o,fun W hW=>J1.o W hW⟩,(((ae.one (ai wb 0 _):ae (fun B=>B=gP) wb _)).trans (ae.one (ai _ 1 _))).trans (ae.one (ai _ 1 _))⟩
    case rest=>
     obtain⟨⟨AO,CO,hpo,hao,hvo⟩,Y⟩:=hcut;have H8:=aa hpo;have Ki:=aa hao;have Kj:=aa hvo;clear hpo hao hvo;have H9:Hd (ae (fun B=>B=g∨w3.heap.size<=B) w3 wc):=H5.o.trans (Y.o.mono fun B _ e=> .inr (by have:=R.o.2;omega));have Kk:Hd (Below w.heap.size w wc):=H9.o.toBelow F.o F.o.size fun B e=>by have h1:=a.o;have h2:=F.o.size;omega
     have J4:Hd (ar wc (w.heap.size+1) 37 ks):=Y.o.blk H6.o (by have:=R.o.2;have:=F.o.size;have:=Ji.o;have:=a.o;omega);have JA:Hd (ib wc (w.heap.size+1+1) x B C):=Y.o.blk HA.o (by have:=R.o.2;have:=F.o.size;have:=Ji.o;have:=a.o;omega);have J5:Hd (aX wc g c p):=(V.o.below Q.o).far Y.o (H0.o.mono fun B e=>by have:=R.o.2;omega);have J6:Hd (aX wc g2 c2 q):=(HL.o.below Q.o).far Y.o (HL.o.farNew.mono fun B e=>by have:=Hb.o;omega);have J7:Hd (ab wc w3.heap.size 60 #[.pointer (some ⟨g,0,none⟩)]):=Y.o.blk (ab.below HJ.o Q.o) (by have:=R.o.2;omega);have Kl:Hd (gP<wc.heap.size/\g2<gP):=⟨H8.o.lt,by have:=Hb.o;have:=J0.o;omega⟩;clear Y H5 Jz H6 HA V HL HJ L Q H4 J1 Hz hc63 hc71 hcp0 hcp1 hfp0 hfp1 Jw Jx Jv HI Hy HH Jy;obtain⟨wd',rfl⟩:∃x,x=wc:=⟨_,rfl⟩;go_wp2_with(first|((with_reducible refine atS 73 ?_);refine ac (by rfl) 37 (.tmp 8) rfl ⟨w.heap.size+1,0,none⟩ 32 ks rfl (J4.o.whole H.o.2 H.o.1) (by omega) (by kernel_rfl) (by kernel_rfl) ?_)|((with_reducible refine atS 75 ?_);refine aj (by rfl) 37 (.tmp 74) rfl (w.heap.size+1+1) 0 (bvs x.key) rfl JA.o.key (by kernel_rfl) (by rw[aB];simp[bvs,D.o.1]) ?_));refine(tN ks x.key wd' H.o.2 H.o.1 D.o.2 D.o.1).mono ?_;rintro e wf⟨rfl,hbf⟩;obtain⟨m,HM⟩:∃m,Hd (eS ks x.key=m):=⟨_,rfl⟩;have hm256:m<=256:=by rw[<-HM.o];exact jZ _ _
     rw[HM.o];have hmb:(m:Int)<=256:=by omega
     obtain⟨mi,JB⟩:∃mi:Int,Hd (255-(m:Int)=mi):=⟨_,rfl⟩;have hwm:IntKind.i64.wrap (255-(m:Int))=mi:=by rw[JB.o];exact IntWalk.i64_in _ (by have:=JB.o;omega)
     have He:Hd (ae (fun B=>B=g∨w3.heap.size<=B) w3 wf):=H9.o.trans ((ae.ofBelow hbf).mono fun _ _ h=>h.elim);have Hf:=aa (JA.o.later hbf);have JC:=aa (J5.o.below hbf);have Hg:=aa (J6.o.below hbf);have JD:Hd (ab wf w3.heap.size 60 #[.pointer (some ⟨g,0,none⟩)]):=ab.below J7.o hbf;have JE:Hd (cG wf gP fO (.slice AO vO.length CO) (zs 32) (.slice none 0 0)):=ab.below H8.o hbf;have J8:Hd (gP<wf.heap.size):=JE.o.lt;clear hbf H9 JA J5 J6 J7 H8 J4 Kk hm256;go_wp2_with(first|((with_reducible refine atS 78 ?_);refine aM (by rfl) 34 #[] rfl [] (by rfl) _ built_d0 ?_)|((with_reducible refine atS 19 ?_);refine bh (G:=fun wg=>wpList _ _ _ _ _ wg) ?_;intro wg Hh J9 Hi;refine aC (o:=⟨some 19,_,_,_,_,_⟩) (by rfl) 34 rfl _ _ aD ?_;intro wh KA HB KB;have hch:=ab.cell (ab.below Hh.o HB.o) 0;have hfh:=ab.frozen (ab.below Hh.o HB.o) 0)|(with_reducible refine atT 19 ?_));obtain⟨wi,HC⟩:∃wi,Hd (wh.setCell ⟨wf.heap.size,0,none⟩ (.int .i64 mi)=wi):=⟨_,rfl⟩;rw[HC.o];have hIi:ab wi wf.heap.size 3 #[.int .i64 mi]:=by rw[<-HC.o];exact ab.stored (ab.below Hh.o HB.o) 0 _
     have hti:ae (fun B=>B=wf.heap.size) wh wi:=by rw[<-HC.o];exact ae.one (ai wh 0 _)
     have KC:Hd (ar wi wg.heap.size 34 (zs 32)):=hti.blk KA.o (by have:=Hi.o;omega);have KD:=aa hIi;have JF:Hd (ae (fun B=>wf.heap.size<=B) wf wi):=(((ae.ofBelow J9.o).mono fun _ _ h=>h.elim:ae (fun B=>wf.heap.size<=B) wf wg).trans ((ae.ofBelow HB.o).mono fun _ _ h=>h.elim)).trans (hti.mono fun B _ e=>by omega);have I:Hd (wg.heap.size=wf.heap.size+1/\wi.heap.size=wf.heap.size+2):=⟨Hi.o,by rw[<-HC.o];have h1:=Hi.o;have h2:=KB.o;simp;omega⟩;clear hIi hti Hh J9 Hi KA HB KB hch hfh HC hwm;refine aa ?_;go_wp2_with(first|((with_reducible refine atT 19 ?_);refine a8 (o:=⟨none,_,_,_,_,_⟩) rfl 34 (.tmp 19) (.tmp 78) rfl wg.heap.size (bvs (zs 32)) (bvs (zs 32)) 34 rfl rfl KC.o (by rw[ag];simp[bvs,zs]) rfl (ah _) ?_;intro wj KE JG KF;have KG:Hd (ib wj (w.heap.size+1+1) x B C):=(ae.one JG.o).blk (JF.o.blk Hf.o (by have:=Hf.o.lt;omega)) (by have:=Hf.o.lt;have:=I.o.1;omega))|((with_reducible refine atS 81 ?_);refine aj (by rfl) 39 (.tmp 11) rfl (w.heap.size+1+1) 0 (chC x B C) rfl KG.o.all be (by rw[aK,am D.o.1]) ?_));have htj:ae (fun B=>B=wg.heap.size) wi wj:=ae.one JG.o;have d:Hd (ae (fun B=>wf.heap.size<=B) wf wj):=JF.o.trans (htj.mono fun B _ e=>by have:=I.o.1;omega);have KH:Hd (ab wj wf.heap.size 3 #[.int .i64 mi]):=htj.blk KD.o (by have:=I.o.1;omega);have Kt:Hd (wj.heap.size=wf.heap.size+2):=KF.o.trans I.o.2;clear htj JF KC KD JG KF;have JH:Hd (ae (fun B=>B=g∨w3.heap.size<=B) w3 wj):=He.o.trans (d.o.mono fun B _ e=> .inr (Nat.le_trans He.o.size e));have JI:Hd (Below w.heap.size w wj):=JH.o.toBelow F.o F.o.size fun B e=>by have h1:=a.o;have h2:=F.o.size;omega
     have KI:=aa (JC.o.far d.o JC.o.farNew);have KJ:=aa (Hg.o.far d.o Hg.o.farNew);have Km:Hd (Far (fun B=>wf.heap.size<=B) g2 c2):=Hg.o.farNew;have KK:Hd (ab wj w3.heap.size 60 #[.pointer (some ⟨g,0,none⟩)]):=d.o.blk JD.o (by have:=JD.o.lt;omega);have KL:Hd (cG wj gP fO (.slice AO vO.length CO) (zs 32) (.slice none 0 0)):=d.o.blk JE.o (by have:=J8.o;omega);have Kn:Hd (w3.heap.size<=wf.heap.size):=He.o.size;clear He d JC Hg JD JE Hf;refine(pq wd x B C wj D.o.2 D.o.1 (Hm.o.below JI.o) JT.o z.o (HT.o.below JI.o)).mono ?_;rintro e wk⟨rfl,hbk⟩;have KM:Hd (ae (fun B=>B=g∨w3.heap.size<=B) w3 wk):=JH.o.trans ((ae.ofBelow hbk).mono fun _ _ h=>h.elim);have KN:=aa (KI.o.below hbk);have KO:=aa (KJ.o.below hbk);have KP:Hd (ab wk w3.heap.size 60 #[.pointer (some ⟨g,0,none⟩)]):=ab.below KK.o hbk;have KQ:Hd (cG wk gP fO (.slice AO vO.length CO) (zs 32) (.slice none 0 0)):=ab.below KL.o hbk;have KR:Hd (ab wk wf.heap.size 3 #[.int .i64 mi]):=ab.below KH.o hbk;have KS:=dA KE hbk;have Ku:Hd (wj.heap.size<=wk.heap.size):=hbk.size;have i:=aa (dN wd x);clear hbk JH KI KJ KK KL KH KE KG JI;go_wp2_with fail;refine(fX 71 #[.pointer (some ⟨wf.heap.size,0,none⟩), .pointer (some ⟨wg.heap.size,0,none⟩)] g2 c2 q (eK wd x) (RnJ wf.heap.size wg.heap.size mi (bd c2.wd c2.key (eK wd x) (av c2.wd q))) (fun B=>B=wf.heap.size∨B=wg.heap.size) c2.blank wk (Cd wf.heap.size wg.heap.size g2 mi c2 q (eK wd x) i.o.1 i.o.2) ⟨KR.o,by rw[yW];exact KS.o,fun B=>Iff.rfl,by have:=I.o.1;omega⟩ KO.o (Km.o.mono fun B e=>by have:=I.o.1;omega) i.o.1 i.o.2).mono ?_;rintro e wl⟨rfl,U6,b6,⟨hj1,hj2,hj3,hj4⟩,_,_,htl,_,_⟩;have KT:Hd (bd c2.wd c2.key (eK wd x) (av c2.wd q)=bd wd x.key (eK wd x) (av wd q)):=by rw[Jp.o.1,Jp.o.2];rfl
     rw[KT.o]at hj2⊢;obtain⟨M,JJ⟩:∃M,Hd (nC mi (bd wd x.key (eK wd x) (av wd q)) 256=M):=⟨_,rfl⟩;have Hj:Hd (M.length=32/\IsB M):=by rw[<-JJ.o];exact vM (fun j=>dy _ _ _ i.o.1 i.o.2 j) _
     rw[JJ.o]at hj2;have KU:=aa hj1;have KV:Hd (ar wl wg.heap.size 34 M):=hj2;have JK:Hd (ae (fun B=>w3.heap.size<=B) wk wl):=htl.mono fun B _ e=>by
      have h1:=I.o.1;have h2:=Kn.o;have h3:=Hu.o;rcases e with(e|e)|e<;>omega
     have JL:Hd (ae (fun B=>B=wf.heap.size∨B=wg.heap.size∨B=g2) wk wl):=htl.mono fun B _ e=>by
      rcases e with(e|e)|e
      ·exact .inl e
      ·exact .inr (.inl e)
      ·exact .inr (.inr e)
     have Z:Hd (wf.heap.size≠gP/\wg.heap.size≠gP/\w3.heap.size≠gP/\w3.heap.size<wf.heap.size):=by
      have h1:=J8.o;have h2:=I.o.1;have h3:=R.o.2;show _/\_;omega
     have JM:Hd (ab wl w3.heap.size 60 #[.pointer (some ⟨g,0,none⟩)]):=JL.o.blk KP.o (by have:=Z.o;have:=I.o.1;have:=Hu.o;omega);have KW:Hd (cG wl gP fO (.slice AO vO.length CO) (zs 32) (.slice none 0 0)):=JL.o.blk KQ.o (by have:=Z.o;have:=Kl.o.2;omega);have KX:Hd (aX wl g c p):=KN.o.far JK.o H0.o;have JN:Hd (ae (fun B=>B=g∨w3.heap.size<=B) w3 wl):=KM.o.trans (JK.o.mono fun _ _ e=> .inr e);clear htl hj1 hj2 hj3 hj4 KR KS KO KT JK JL KP KQ KN KM;go_upto_region 16with fail;refine wp_region_held_drew (S:=fun w'=>w'.cell? ⟨w3.heap.size,0,none⟩=some (.pointer (some ⟨g,0,none⟩))) (by kernel_rfl) (JM.o.cell 0) fun hH=>?_;have X:Hd (Below wl.heap.size wl wl.drew):=af (Below.refl _ _) 1;generalize wl.drew=wm at*;refine tka 0 ?_;refine tka 1 ?_;refine tka 3 ?_;clear hH;refine rdy 2 fun K hK=>?_;go_simp;go_at_call 72;have l:=aa (KX.o.below X.o);have JO:Hd (ae (fun B=>B=g∨w3.heap.size<=B) w3 wm):=JN.o.trans ((ae.ofBelow X.o).mono fun _ _ h=>h.elim);refine(jc g c p.val wm l.o.ck l.o.ok ⟨va,_,vc,Kg.o,(HO.o wm JO.o).1,(HO.o wm JO.o).2,by have:=l.o.pok.vl;omega⟩ l.o.tabs).mono ?_;rintro e wn⟨rfl,hbn⟩;have r:=aQ X hbn;have JP:Hd (ab wn w3.heap.size 60 #[.pointer (some ⟨g,0,none⟩)]):=ab.below JM.o r.o;refine hK.out _ _ (JP.o.cell 0) (fun hH=>?_);have JQ:=aa (l.o.below hbn);have KY:Hd (cG wn gP fO (.slice AO vO.length CO) (zs 32) (.slice none 0 0)):=ab.below KW.o r.o;have KZ:Hd (ab wn wf.heap.size 3 #[.int .i64 mi]):=ab.below KU.o r.o;have Ka:Hd (ar wn wg.heap.size 34 M):=KV.o.later r.o;have Kb:Hd (ae (fun B=>B=g∨w3.heap.size<=B) w3 wn):=JN.o.trans ((ae.ofBelow r.o).mono fun _ _ h=>h.elim);have Hk:Hd p.Ok:=JQ.o.pok;clear hK hbn hH X l JO KX KW KU KV JN JM r;refine rdy 4 fun K hK=>?_;go_simp;go_at_call 21;refine(fX 73 #[.pointer (some ⟨wf.heap.size,0,none⟩), .pointer (some ⟨wg.heap.size,0,none⟩), .pointer (some ⟨w3.heap.size,0,none⟩), .pointer (some ⟨gP,0,none⟩)] g c p (aZ c.wd (bQ c.key c.f p.val)) (RmJ gP wf.heap.size wg.heap.size w3.heap.size gP g mi M fO (.slice AO vO.length CO) (uD c.wd (iU mi M (av c.wd p))) (iU mi M (av c.wd p))) (fun B=>B=wf.heap.size∨B=wg.heap.size∨B=w3.heap.size∨B=gP∨(Value.slice none 0 0).ownBlock=some B) c.blank wn (Cb gP wf.heap.size wg.heap.size w3.heap.size gP g mi M fO (.slice AO vO.length CO) c p _ Hk.o Hj.o.2 Hj.o.1) ⟨KZ.o,Ka.o,JP.o,⟨Z.o.1,Z.o.2.1,Z.o.2.2.1,Nat.le_refl _⟩, .slice none 0 0,KY.o,World.ownsRow_nil _ _ _ _,fun B=>Iff.rfl,fun B hB=>by cases hB⟩ JQ.o (H0.o.mono fun B e=>by
       have h1:=Z.o;have h2:=I.o.1;have h3:=R.o.2;rcases e with e|e|e|e|e
       ·omega
       ·omega
       ·omega
       ·omega
       ·cases e) (aw _ _) (aY _ _)).mono ?_;rintro e wo⟨rfl,U8,b8,⟨_,_,r3,_,S8,r5,r6,_,_⟩,_,_,hto,_,_⟩;have JR:=aa r5;have JS:=aa r6;have Kc:Hd (ae (fun B=>B=g∨w3.heap.size<=B) w3 wo):=Kb.o.trans (hto.mono fun B _ e=>by
      have h1:=Z.o;have h2:=I.o.1;have h3:=R.o.2;rcases e with(e|e|e|e|e)|e
      ·exact .inr (by omega)
      ·exact .inr (by omega)
      ·exact .inr (by omega)
      ·exact .inr (by omega)
      ·cases e
      ·exact .inl e);refine hK.out _ _ (r3.cell 0) (fun hH=>?_);clear hK hto r3 r5 r6 hH KY KZ Ka JP JQ Kb;refine bN ?_;rw[Ke.o.1]at JR JS;obtain⟨N,HN⟩:∃N,Hd (iU mi M (av wd p)=N):=⟨_,rfl⟩;have Ko:Hd (pS (wQ wd ks x p q)=pS (prU wd fO vO N 256)):=by
      show _=_;rw[Bj H.o.2 H.o.1 D.o.2 D.o.1,HP.o,HU.o,HM.o,JB.o,JJ.o,HN.o]
     have Kp:Hd (∀h,h<256->IsB (N h)/\(N h).length=32):=fun h hh=>by
      rw[<-HN.o];unfold iU;split
      ·exact⟨Hj.o.2,Hj.o.1⟩
      ·exact⟨(aG Hk.o hh).2,(aG Hk.o hh).1⟩
     rw[HN.o]at JR JS;have Hl:=aa (yQ (ks:=ks) Hk.o z.o Hm.o.2.1);rw[HP.o,HU.o]at Hl;have Kd:Hd (Below w.heap.size w wo):=Kc.o.toBelow F.o F.o.size fun B e=>by have h1:=a.o;have h2:=F.o.size;omega
     go_wp2_with((with_reducible refine atS 90 ?_);refine xm (by rfl) (.tmp 17) rfl gP fO (.slice AO vO.length CO) (dm (uD wd N) 256) S8 rfl JR.o (cK _ _) ?_);refine(wu gP (prU wd fO vO N 256) AO CO S8 wo (EU Hl.o.1 Hl.o.2.1 Hl.o.2.2 Kp.o) (Kj.o wo Kc.o) Ki.o JS.o).mono ?_;rintro e wz⟨⟨v,rfl,hv⟩,hbz⟩;rw[<-Ko.o]at hv;have HV:=aa hv;have Kq:=aQ Kd hbz;clear hv hbz;go_wp2_with fail;go_ret2;exact⟨Kq.o,fun h=>absurd O.o h,fun _=>⟨p,q,v,HD.o.1,HD.o.2.1,HD.o.2.2,Hx.o.1,Hx.o.2.1,Hx.o.2.2,z.o,rfl,HV.o.mono Kd.o.size⟩⟩
  ·have hEi:=Jt.o hE2;have O:Hd (E=E2):=by rw[b.o,if_neg hE2];rfl
   clear T;go_wp2_with fail;go_ret2;exact⟨Hv.o,fun _=>by rw[O.o];rfl,fun h=>absurd (O.o.symm.trans h) hE2⟩
 ·have hEi:=Ja.o hE1;have b:Hd (E=E1):=by rw[Hn.o,if_neg hE1];rfl
  clear T;go_wp2_with fail;go_ret2;exact⟨F.o.trans ((u.o.grown (ai w4 0 _) u.o.size fun k hk=>by injection hk with hk;omega).mono F.o.size),fun _=>by rw[b.o];rfl,fun h=>absurd (b.o.symm.trans h) hE1⟩
end Go.Proofs.YtfnlhfaihoojfaaGreatDoor
