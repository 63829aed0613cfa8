/- Texts of the proof of ledgerlaw13.ClientPlays, part 43; no condition of its own. -/
import Derived.Test.YtfnlhfaihoojfaaGreatDoorS42
set_option maxRecDepth 100000
set_option maxHeartbeats 4000000
namespace Go.Proofs.YtfnlhfaihoojfaaGreatDoor
open Go.RowKit
theorem xK:(Tryz.prog.info? 72).map (fun i=>(i.zero,i.size))=some (some (.agg [.slice none 0 0, .slice none 0 0, .slice none 0 0, .slice none 0 0].toArray),4):=by kernel_rfl
theorem wE{P:Program}{fn:Func}{p:Tmp}{ty:TypeId}{R:Ending->World->Prop}{x:Act}{w:World}{g:Nat}{t:TypeId}{cs:List Value}(h:fn.results=#[.cell p ty])(hp:x.tmps.getD p undef= .pointer (some ⟨g,0,none⟩))(hb:ab w g t cs.toArray)(hrow:(P.underlying ty).map (·.isRow)=some true)(hi:(P.info? ty).map (·.size)=some cs.length)(hd:x.defers=[])(hR:R (.returned (.agg cs.toArray)) w):bodyPost P fn R .ret x w:=by
 refine bodyPost_ret (v:= .agg cs.toArray) ?_ hd hR;obtain⟨d,hu2,hd2⟩:=gq hrow;have hl:=run_loadVar_mid (P:=P) w g 0 ty cs d hb.range hu2 hd2 hi;rw[jg h,hp];simp[asAddr,Result.andThen,hl]
theorem Df{W:World}{gh lo n m:Nat}{X:Nat->Chg}{YS:Nat->List Nat}{v:Nat->Value}{z:Nat->Nat->Nat}{r c:Nat->Nat}(h:HSt W gh lo n m X YS v z r c):∀u∈[v 0,v 1,v 2,v 3],u.oneCell'=true:=fun u hu=>by
 have h1:∀j,j<4->(v j).oneCell'=true:=fun j hj=>by
  obtain⟨A,k,e,_⟩:=aP (HdI.row h hj);rw[e];rfl
 simp at hu;rcases hu with rfl|rfl|rfl|rfl
 ·exact h1 0 (by omega)
 ·exact h1 1 (by omega)
 ·exact h1 2 (by omega)
 ·exact h1 3 (by omega)
theorem nO:(Tryz.prog.underlying 72).map (·.isRow)=some true:=by kernel_rfl
theorem mC:(Tryz.prog.info? 72).map (·.size)=some 4:=by kernel_rfl
theorem qU:Tryz.prog.built 37 [(0, .int .u8 201),(1, .int .u8 7)]=some (bvs mkC.key).toArray:=by kernel_rfl
theorem qT:Tryz.prog.built 39 [(0, .agg (bvs mkC.key).toArray),(1, .bool true)]=some (chC mkC none 0).toArray:=by kernel_rfl
structure lm(w:World)(o:OpV)(n m:Nat)(Pd Pe:Option Addr)(cd ce:Nat)(X:Nat->Chg)(YS:Nat->List Nat):Prop where
 ok:o.Ok
 hD:o.D= .slice Pd n cd
 hE:o.E= .slice Pe m ce
 hX:fa w Pd n X
 hY:uG w Pe m YS
 nc:n<=cd
 mc:m<=ce
 nB:n*64+4096<=140737488355328
 mB:m*24+4096<=140737488355328
 vB:∀k,k<n->(X k).val.length+512<=140737488355328
 yB:∀k,k<m->(YS k).length+512<=140737488355328
theorem lm.below{w w':World}{o:OpV}{n m:Nat}{Pd Pe:Option Addr}{cd ce:Nat}{X:Nat->Chg}{YS:Nat->List Nat}(h:lm w o n m Pd Pe cd ce X YS)(hb:Below w.heap.size w w'):lm w' o n m Pd Pe cd ce X YS:={h with hX:=h.hX.below hb,hY:=h.hY.below hb}
def RC(r c:Nat->Nat)(r0 r1 r2 r3 c0 c1 c2:Nat):Prop:=(r 0=r0/\r 1=r1/\r 2=r2/\r 3=r3)/\c 0=c0/\c 1=c1/\c 2=c2
theorem RC.ok{r c:Nat->Nat}{n m r0 r1 r2 r3 c0 c1 c2:Nat}(h:RC r c r0 r1 r2 r3 c0 c1 c2)(h1:r0<=c0∨c0=n)(h2:r1<=c1∨c1=m)(h3:r1<=m+c2)(h4:r2<=c0)(h5:r3<=c1):ROk n m r c:=by
 obtain⟨⟨a,b,d,e⟩,f,g,i⟩:=h;exact⟨fun k hk hn=>by omega,fun k hk hn=>by omega,fun k hk hn=>by omega,by omega,by omega⟩
theorem HSt.ge{W:World}{gh lo n m:Nat}{X:Nat->Chg}{YS:Nat->List Nat}{v:Nat->Value}{z:Nat->Nat->Nat}{r c:Nat->Nat}(h:HSt W gh lo n m X YS v z r c):lo<=W.heap.size:=by
 have:=HdI.lt h (.inl rfl);omega
theorem D5{gh a g:Nat}{v:Nat->Value}{z:Nat->Nat->Nat}{c:Nat->Nat}{B:Nat}(h:HUs gh v (upd c a (c a+1)) (pR z a (c a) g) B):HUs gh v c z B∨B=g:=by
 rcases h with h|h|⟨a',i,ha,hi,h⟩
 ·exact .inl (.inl h)
 ·exact .inl (.inr (.inl h))
 ·by_cases e:a'=a/\i=c a
  ·obtain⟨rfl,rfl⟩:=e;rw[ei]at h;exact .inr h.symm
  ·rw[ev _ _ e]at h;refine .inl (.inr (.inr ⟨a',i,ha,?_,h⟩));by_cases e1:a'=a
   ·subst e1;rw[az]at hi;have:i≠c a':=fun e2=>e ⟨rfl,e2⟩;omega
   ·rw[au _ _ e1]at hi;exact hi
theorem BZ{W:World}{gh j:Nat}{v:Nat->Value}{v':Value}{z:Nat->Nat->Nat}{c:Nat->Nat}{B:Nat}(hj:j<4)(hl:iT W (v j) v')(h:HUs gh (upd v j v') c z B):HUs gh v c z B∨W.heap.size<=B:=by
 rcases h with h|⟨i,hi,h⟩|h
 ·exact .inl (.inl h)
 ·by_cases e:i=j
  ·subst e;rw[az]at h;exact(hl B h).imp (fun h=> .inr (.inl ⟨i,hj,h⟩)) id
  ·rw[au _ _ e]at h;exact .inl (.inr (.inl ⟨i,hi,h⟩))
 ·exact .inl (.inr (.inr h))
theorem eM{W W':World}{gh j g:Nat}{t:TypeId}{cs:Array Value}{v:Nat->Value}{z:Nat->Nat->Nat}{c:Nat->Nat}(hb:ab W g t cs)(hn:¬HUs gh v c z g)(hj:j<4)(ht:ae (fun B=>B=gh∨(v j).ownBlock=some B) W W'):ab W' g t cs:=ht.blk hb fun e=>by
  rcases e with e|e
  ·exact hn (.inl e)
  ·exact hn (.inr (.inl ⟨j,hj,e⟩))
theorem HdI.mono{W:World}{gh lo lo':Nat}{v:Nat->Value}{k:Nat->Nat}{x:Nat->List Value}{c:Nat->Nat}{z:Nat->Nat->Nat}{bs:Nat->Nat->List Nat}(h:HdI W gh lo v k x c z bs)(hl:lo'<=lo):HdI W gh lo' v k x c z bs:=by
 obtain⟨lab,h⟩:=h;exact⟨lab,⟨h.blk,fun j hj=>gG (h.row j hj) hl,h.lrow,fun a i ha hi=>⟨(h.byt a i ha hi).1,Nat.le_trans hl (h.byt a i ha hi).2.1,(h.byt a i ha hi).2.2⟩,h.lgh.1,Nat.le_trans hl h.lgh.2⟩⟩
theorem B7(o:OpV)(n m:Nat)(Pd Pe:Option Addr)(cd ce:Nat)(X:Nat->Chg)(YS:Nat->List Nat)(w:World)(h:lm w o n m Pd Pe cd ce X YS):Calls Tryz.prog 27 #[.agg o.cs.toArray] w fun e w'=>∃gh v z r c,e= .returned (.agg #[v 0,v 1,v 2,v 3])/\HSt w' gh w.heap.size n m X YS v z r c/\RC r c (n+4) (m+4) n m n m 4/\Below w.heap.size w w':=by
 have D:=aa h;have hD:=h.hD;have hE:=h.hE;have HD:=aa hD;have HE:=aa hE;have hn41:(n:Int)<=2199023255552:=by have:=D.o.nB;omega
 have hm47:(m:Int)<=6000000000000:=by have:=D.o.mB;omega
 clear h hD hE;go_enter Tryz.func27,Tryz.ntmps27;go_upto_region 1with fail;refine bV (G:=fun w2=>Code.wp _ _ _ _ w2) fun w2 H1 H2 Hp Hq=>?_;have Hk:Hd (bp w2 w.heap.size o):=H1;have Hr:Hd (ab w2 (w.heap.size+1) 72 [.slice none 0 0, .slice none 0 0, .slice none 0 0, .slice none 0 0].toArray):=H2;clear H1 H2;obtain⟨go,hgo⟩:∃go,go=w.heap.size:=⟨_,rfl⟩;have T:Hd (go=w.heap.size/\w2.heap.size=w.heap.size+1+1):=⟨hgo,Hq.o⟩;rw[<-hgo]at Hk;rw[<-hgo];clear hgo Hq;go_wp2_with((with_reducible refine atS 3 ?_);refine aC rfl 72 rfl [.slice none 0 0, .slice none 0 0, .slice none 0 0, .slice none 0 0].toArray 4 xK ?_;intro w3 Hl Hc JB;(try simp only[Act.put,LS]));obtain⟨gh,hgh⟩:∃gh,gh=w2.heap.size:=⟨_,rfl⟩;have JC:Hd (gh=w2.heap.size):=hgh;rw[<-hgh]at Hl;rw[<-hgh];clear hgh;have Hs:Hd (bp w3 go o):=ab.below Hk.o Hc.o;have Ht:Hd (ab w3 (go+1) 72 [.slice none 0 0, .slice none 0 0, .slice none 0 0, .slice none 0 0].toArray):=by
  rw[T.o.1];exact ab.below Hr.o Hc.o
 have Hu:=aQ Hp Hc.o;have Hv:Hd (HSt w3 gh gh n m X YS (fun _=> .slice none 0 0) (fun _ _=>0) (fun _=>0) (fun _=>0)):=by
  have h1:=HdI.nil (W:=w3) (gh:=gh) (lo:=gh) (vs:=fun _=> .slice none 0 0) (fun _ _=>rfl) Hl.o (Nat.le_refl _) (fun _ _=>0) (bS X YS);refine h1.congr (fun j hj=>?_) fun _ _ _ _=>⟨rfl,rfl⟩;have h4:j=0∨j=1∨j=2∨j=3:=by omega
  rcases h4 with rfl|rfl|rfl|rfl<;>rfl
 have E:Hd (go<gh/\go+1<gh):=by have h1:=JC.o;have h2:=T.o;exact⟨by omega,by omega⟩
 clear Hk Hr Hl Hp Hc JB;go_wp2_with fail;go_loopw[4](fun s wr=>∃(i:Nat)(v:Nat->Value)(z:Nat->Nat->Nat)(r c:Nat->Nat),i<=n/\s= .int .i64 (i:Int)/\Hd (HSt wr gh gh n m X YS v z r c)/\Hd (RC r c i 0 i 0 i 0 0)/\Hd (bp wr go o)/\Hd (ab wr (go+1) 72 [.slice none 0 0, .slice none 0 0, .slice none 0 0, .slice none 0 0].toArray)/\Hd (Below w.heap.size w wr))(fun s _=>n-(intOf s).toNat)
 case atStart=>exact⟨0,_,_,_,_,by omega,rfl,Hv.o,⟨⟨rfl,rfl,rfl,rfl⟩,rfl,rfl,rfl⟩,Hs.o,Ht.o,Hu.o⟩
 case round=>
  clear Hs Ht Hu Hv;obtain⟨i,v,z,r,c,hi,rfl,C,A,V,Q,H⟩:=hrel;have q1:=V.o.d D.o.ok;rw[HD.o]at q1;by_cases hlt:i<n
  ·have hlt':(i:Int)<n:=by omega
   obtain⟨b,od,Ac,Cc,rfl,hbl,hrg,hkB,hkl,hrb,hcc,hcm,hcn⟩:=(D.o.hX.below H.o).2 i hlt;obtain⟨x,hx⟩:∃x,X i=x:=⟨_,rfl⟩;rw[hx]at hrg hkB hkl hrb hcc;have HX:=aa hx;have Hw:=aa hrg;have Z:=aa (And.intro hkl hkB);have HF:=aa hrb;have JD:Hd (x.val.length+512<=140737488355328):=by
    have h1:=D.o.vB i hlt;rw[hx]at h1;exact h1
   clear hx hbl hrg hkB hkl hrb hcc hcm hcn;obtain⟨l,hl⟩:∃l,x.val.length=l:=⟨_,rfl⟩;have HL:=aa hl;have hl2:(l:Int)+512<=140737488355328:=by have:=JD.o;omega
   clear hl;go_wp2_with(first|((with_reducible refine atS 21 ?_);refine aj (by rfl) 39 (.tmp 20) rfl b (od+i*34) (chC x Ac Cc) rfl Hw.o be (by rw[aK,am Z.o.1]) ?_)|((with_reducible refine atS 5 ?_);refine dU (s:=⟨none,_,_,_,_,_⟩) (by rfl) (by rfl) 39 rfl (.tmp 5) (.tmp 21) rfl (chC zY none 0) (chC x Ac Cc) 34 kN (am (ak 32)) (am Z.o.1) rfl rfl cZ ?_;intro w4 HJ HG JK;(try simp only[Act.put,LS]);have q3:=eW (ab.range HJ.o) Z.o.1;rw[Nat.zero_add,HL.o]at q3));have Hx:Hd (bp w4 go o):=ab.below V.o HG.o;have Hy:Hd (ab w4 (go+1) 72 [.slice none 0 0, .slice none 0 0, .slice none 0 0, .slice none 0 0].toArray):=ab.below Q.o HG.o;have Hm:=aa (HdI.below C.o HG.o);have Hz:=aQ H HG.o;have H0:=aa (HF.o.below HG.o);have hlt4:∀B,HUs gh v c z B->gh<=B/\B<wr.heap.size:=fun B hB=>HdI.lt C.o hB;obtain⟨gc,hgc⟩:∃gc,gc=wr.heap.size:=⟨_,rfl⟩;have JE:Hd (gc=wr.heap.size):=hgc;have JF:Hd (gh<wr.heap.size):=(HdI.lt C.o (.inl rfl)).2;have hcB:=HF.o.isB;have JL:=aa hcB;rw[<-hgc]at HJ q3 hlt4⊢;have H3:=aa hlt4;clear hlt4;clear hgc hcB V Q H HF Hw;refine(il Ac l Cc x.val w4 (HL.o▸H0.o) (by omega)).mono ?_;rintro e w5⟨g,rfl,hge,hbg,hb5⟩;have F:Hd (HSt w5 gh gh n m X YS v (pR z 0 (c 0) g) r (upd c 0 (c 0+1))):=HSt.new Hm.o (A.o.ok (.inl (Nat.le_refl _)) (.inl (Nat.le_refl _)) (Nat.zero_le _) (Nat.le_refl _) (Nat.le_refl _)) hb5 (by omega) (by
    unfold bS;rw[if_pos rfl,A.o.2.1,HX.o];exact hbg) hge;have Hn:Hd (ab w5 gc 39 (chC x Ac Cc).toArray):=ab.below HJ.o hb5;have HM:Hd (bp w5 go o):=ab.below Hx.o hb5;have HP:Hd (ab w5 (go+1) 72 [.slice none 0 0, .slice none 0 0, .slice none 0 0, .slice none 0 0].toArray):=ab.below Hy.o hb5;have f:=aQ Hz hb5;have k:Hd (∀B,HUs gh v (upd c 0 (c 0+1)) (pR z 0 (c 0) g) B->gh<=B/\B≠gc):=fun B hB=>by
    rcases D5 hB with h|h
    ·have:=H3.o B h;omega
    ·have h1:=ab.lt HJ.o;have h2:=HdI.lt Hm.o (.inl rfl);omega
   obtain⟨z',hz'⟩:∃z',z'=pR z 0 (c 0) g:=⟨_,rfl⟩;obtain⟨c',hc'⟩:∃c',c'=upd c 0 (c 0+1):=⟨_,rfl⟩;have q:Hd (z' 0 i=g):=by
    rw[hz',<-A.o.2.1];exact ei _ _ _ _
   have I:Hd (RC r c' i 0 i 0 (i+1) 0 0):=by
    rw[hc'];exact⟨A.o.1,by rw[az,A.o.2.1],A.o.2.2.1,A.o.2.2.2⟩
   rw[<-hz',<-hc']at F k;clear hz' hc' hbg hb5 Hm HJ Hx Hy Hz H0 H3 A;obtain⟨A2,c2,e2,_⟩:=aP (F.o.rowR (j:=2) (by omega));obtain⟨A0,c0,e0,_⟩:=aP F.o.rowC;rw[I.o.1.2.2.1]at e2;rw[I.o.1.1]at e0;have JG:=aa e2;have He:=aa e0;obtain⟨⟨p0,_,p2,_⟩,_⟩:=F.o.at_;rw[e0]at p0;rw[e2]at p2;clear e0 e2;go_wp2_with((with_reducible refine atS 29 ?_);skip);refine aa ?_;have H4:Hd (xS n m X YS z' r 2++[.slice (some ⟨g,0,none⟩) (l+80) (l+80)]=xS n m X YS z' (upd r 2 (r 2+1)) 2):=by
    have h:=FA (n:=n) (m:=m) (X:=X) (YS:=YS) (z:=z') (r:=r);unfold zZ at h;rw[I.o.1.2.2.1,q.o,HX.o,HL.o]at h;rw[I.o.1.2.2.1];exact h
   refine ir (t:=24) (e:=36) (o:=⟨some 29,_,_,_,_,_⟩) fT fj rfl (by decide) w5 (by rfl) (.tmp 26) (.tmp 28) (by rfl) gh (v 2) (r 2) _ (F.o.rowR (by omega)) [.slice (some ⟨g,0,none⟩) (l+80) (l+80)] _ rfl rfl (by intro u hu;simp at hu;subst hu;rfl) (by exact JG.o.symm) (by rfl) (by have h1:=I.o.1.2.2.1;have h2:=D.o.nB;omega) (by have h1:=I.o.1.2.2.1;have h2:=D.o.nB;omega) F.o.ge ?_;intro v6 w6 ho6 hg6 hl6;have hb6:=F.o.mid (j:=2) (by omega) hg6;have r62:=hb6.cell 2;have f62:=hb6.frozen 2;have hst:=HSt.step F.o (j:=2) (by omega) H4.o hg6 ho6 hl6;obtain⟨A6,c6,e6,_⟩:=aP ho6;rw[I.o.1.2.2.1]at e6;subst e6;have L:=aa hst.1;have O:=aa hst.2;have Hf:Hd (∀B,HUs gh (upd v 2 (.slice A6 (i+1) c6)) c' z' B->gh<=B/\B≠gc):=fun B hB=>by
    rcases BZ (by omega) hl6 hB with h|h
    ·exact k.o B h
    ·have h1:=ab.lt Hn.o;have h2:=F.o.ge;omega
   have Hg:Hd (ab (w6.setCell ⟨gh,2,none⟩ (.slice A6 (i+1) c6)) gc 39 (chC x Ac Cc).toArray):=eM Hn.o (fun h=>(k.o _ h).2 rfl) (j:=2) (by omega) O.o;have HQ:Hd (bp (w6.setCell ⟨gh,2,none⟩ (.slice A6 (i+1) c6)) go o):=eM HM.o (fun h=>by have:=(k.o _ h).1;have:=E.o;omega) (j:=2) (by omega) O.o;have Y:Hd (ab (w6.setCell ⟨gh,2,none⟩ (.slice A6 (i+1) c6)) (go+1) 72 [.slice none 0 0, .slice none 0 0, .slice none 0 0, .slice none 0 0].toArray):=eM HP.o (fun h=>by have:=(k.o _ h).1;have:=E.o;omega) (j:=2) (by omega) O.o;have U:Hd (Below w.heap.size w (w6.setCell ⟨gh,2,none⟩ (.slice A6 (i+1) c6))):=O.o.toBelow f.o f.o.size fun B hB=>by
    have h1:gh<=B:=by
     rcases hB with h|h
     ·omega
     ·exact(k.o B (.inr (.inl ⟨2,by omega,h⟩))).1
    have h2:=E.o;have h3:=T.o.1;omega
   clear ho6 hg6 hl6 hb6 hst F Hn HM HP f k H4 O;(try simp only[Act.put,LS]);go_wp2_with((with_reducible refine atS 33 ?_);skip);refine aa ?_;generalize hw7:w6.setCell ⟨gh,2,none⟩ (.slice A6 (i+1) c6)=w7 at*;clear hw7 p0 p2 r62 f62;have q4:=eW (ab.range Hg.o) Z.o.1;rw[Nat.zero_add,HL.o]at q4;have f4:=ab.frozen Hg.o 33;go_wp2_with((with_reducible refine atS 38 ?_);skip);refine aa ?_;have hs:ae (fun B=>B=gc) w7 (w7.setCell ⟨gc,33,none⟩ (.slice (some ⟨g,0,none⟩) l (l+80))):=(ae.grown (ai w7 (g:=gc) 33 (.slice (some ⟨g,0,none⟩) l (l+80)))).mono fun B _ h=>by injection h
   have P:Hd (HSt (w7.setCell ⟨gc,33,none⟩ (.slice (some ⟨g,0,none⟩) l (l+80))) gh gh n m X YS (upd v 2 (.slice A6 (i+1) c6)) z' (upd r 2 (r 2+1)) c'):=HdI.touch L.o hs fun B hB h=>(Hf.o B hB).2 h;have H5:Hd (ab (w7.setCell ⟨gc,33,none⟩ (.slice (some ⟨g,0,none⟩) l (l+80))) gc 39 (chC x (some ⟨g,0,none⟩) (l+80)).toArray):=se Hg.o Z.o.1 (some ⟨g,0,none⟩) (l+80) l x.val HL.o;have hgcw:w.heap.size<=gc/\go+1<gc:=by
    have h1:=JE.o;have h2:=HG.o.size;have h3:=E.o;have h4:=Hf.o gh (.inl rfl);have h5:=JF.o;have h6:=T.o.1;omega
   have H6:Hd (bp (w7.setCell ⟨gc,33,none⟩ (.slice (some ⟨g,0,none⟩) l (l+80))) go o):=hs.blk HQ.o (by omega);have HS:Hd (ab (w7.setCell ⟨gc,33,none⟩ (.slice (some ⟨g,0,none⟩) l (l+80))) (go+1) 72 [.slice none 0 0, .slice none 0 0, .slice none 0 0, .slice none 0 0].toArray):=hs.blk Y.o (by omega);have HA:Hd (Below w.heap.size w (w7.setCell ⟨gc,33,none⟩ (.slice (some ⟨g,0,none⟩) l (l+80)))):=hs.toBelow U.o U.o.size fun B hB=>by omega
   clear hs hgcw L Hg HQ Y U q4 f4 q3;generalize hw8:w7.setCell ⟨gc,33,none⟩ (.slice (some ⟨g,0,none⟩) l (l+80))=w8 at*;clear hw8;have p0:w8.cell? ⟨gh,0,none⟩=some (.slice A0 i c0):=by
    rw[<-He.o];exact P.o.at_.1.1
   have M:Hd (RC (upd r 2 (r 2+1)) c' i 0 (i+1) 0 (i+1) 0 0):=by
    obtain⟨⟨a1,a2,a3,a4⟩,a5⟩:=I.o;exact⟨⟨a1,a2,by rw[az,a3],a4⟩,a5⟩
   generalize hr':upd r 2 (r 2+1)=r' at*;clear hr';have HT:Hd (xS n m X YS z' r' 0++chC x (some ⟨g,0,none⟩) (l+80)=xS n m X YS z' (upd r' 0 (r' 0+1)) 0):=by
    have h:=Fq (n:=n) (m:=m) (X:=X) (YS:=YS) (z:=z') (r:=r');unfold XP AdP CpP at h;rw[M.o.1.1,if_pos hlt,if_pos hlt,if_pos hlt,q.o,HX.o,HL.o]at h;rw[M.o.1.1];exact h
   go_wp2_with(first|((with_reducible refine atS 39 ?_);refine aj (by rfl) 39 (.tmp 5) rfl gc 0 (chC x (some ⟨g,0,none⟩) (l+80)) rfl (ab.range H5.o) be (by rw[aK,am Z.o.1]) ?_)|((with_reducible refine atS 40 ?_);refine aR rfl w8 40 39 _ 34 (.tmp 39) rfl dh dW (by decide) (by decide) (chC x (some ⟨g,0,none⟩) (l+80)).toArray rfl (by rw[List.size_toArray,am Z.o.1]) ?_;(try simp only[Act.put,LS]))|((with_reducible refine atS 41 ?_);skip));refine aa ?_;refine ir (t:=40) (e:=39) (o:=⟨some 41,_,_,_,_,_⟩) dh ej (by rfl) (by decide) w8 (by rfl) (.tmp 38) (.tmp 40) (by rfl) gh (upd v 2 (.slice A6 (i+1) c6) 0) (r' 0) _ P.o.rowC (chC x (some ⟨g,0,none⟩) (l+80)) _ rfl (am Z.o.1) cZ (by exact He.o.symm) (by rfl) (by have h1:=M.o.1.1;have h2:=D.o.nB;omega) (by have h1:=M.o.1.1;have h2:=D.o.nB;omega) P.o.ge ?_;intro v9 w9 ho9 hg9 hl9;have hb9:=P.o.mid (j:=0) (by omega) hg9;have r90:=hb9.cell 0;have f90:=hb9.frozen 0;have hst:=HSt.step P.o (j:=0) (by omega) HT.o hg9 ho9 hl9;obtain⟨A9,c9,e9,_⟩:=aP ho9;rw[M.o.1.1]at e9;subst e9;have HU:=aa hst.1;have R:=aa hst.2;have hno:∀B,B<gh->¬HUs gh (upd v 2 (.slice A6 (i+1) c6)) c' z' B:=fun B hB h=>by
    have:=(Hf.o B h).1;omega
   have Ho:Hd (bp (w9.setCell ⟨gh,0,none⟩ (.slice A9 (i+1) c9)) go o):=eM H6.o (hno _ E.o.1) (j:=0) (by omega) R.o;have HV:Hd (ab (w9.setCell ⟨gh,0,none⟩ (.slice A9 (i+1) c9)) (go+1) 72 [.slice none 0 0, .slice none 0 0, .slice none 0 0, .slice none 0 0].toArray):=eM HS.o (hno _ E.o.2) (j:=0) (by omega) R.o;have HW:Hd (Below w.heap.size w (w9.setCell ⟨gh,0,none⟩ (.slice A9 (i+1) c9))):=R.o.toBelow HA.o HA.o.size fun B hB=>by
    have h1:gh<=B:=by
     rcases hB with h|h
     ·omega
     ·exact(Hf.o B (.inr (.inl ⟨0,by omega,h⟩))).1
    have h2:=E.o;have h3:=T.o.1;omega
   have HZ:Hd (RC (upd r' 0 (r' 0+1)) c' (i+1) 0 (i+1) 0 (i+1) 0 0):=by
    obtain⟨⟨a1,a2,a3,a4⟩,a5⟩:=M.o;exact⟨⟨by rw[az,a1],a2,a3,a4⟩,a5⟩
   clear ho9 hg9 hl9 hb9 hst hno P H5 H6 HS HA HT R M;(try simp only[Act.put,LS]);go_wp2_with fail;go_roundw
   case rel=>exact⟨i+1,_,_,_,_,by omega,by go_num,HU.o,HZ.o,Ho.o,HV.o,HW.o⟩
   case measure=>simp[intOf];omega
  ·have hin:i=n:=by omega
   have hnlt:¬(i:Int)<n:=by omega
   subst hin;go_wp2_with fail;clear q1;go_loopw[7](fun s wr=>∃(j:Nat)(v:Nat->Value)(z:Nat->Nat->Nat)(r c:Nat->Nat),j<=m/\s= .int .i64 (j:Int)/\Hd (HSt wr gh gh i m X YS v z r c)/\Hd (RC r c i j i j i j 0)/\Hd (bp wr go o)/\Hd (ab wr (go+1) 72 [.slice none 0 0, .slice none 0 0, .slice none 0 0, .slice none 0 0].toArray)/\Hd (Below w.heap.size w wr))(fun s _=>m-(intOf s).toNat)
   case atStart=>exact⟨0,_,_,_,_,by omega,rfl,C.o,A.o,V.o,Q.o,H.o⟩
   case round=>
    clear C A V Q H;obtain⟨j,v,z,r,c,hj,rfl,C,A,V,Q,H⟩:=hrel;have q1:=V.o.e D.o.ok;rw[HE.o]at q1;by_cases hltj:j<m
    ·have hltj':(j:Int)<m:=by omega
     obtain⟨gb,oe,Ai,ni,ci,rfl,hbl,hcl,hrb,hcc,hcm,hnb,hcn⟩:=D.o.hY j hltj;obtain⟨y,hy⟩:∃y,YS j=y:=⟨_,rfl⟩;rw[hy]at hrb;have hnl:y.length=ni:=hrb.1;have HY:=aa hy;have HF:=aa (hrb.below H.o);have H7:=aa hnl;have hni:(ni:Int)+512<=140737488355328:=by
      have h1:=D.o.yB j hltj;rw[hy,hnl]at h1;omega
     have H8:Hd (∀W,Below w.heap.size w W->W.cell? ⟨gb,oe+j,none⟩=some (.slice Ai ni ci)):=fun W hb=>(hb.cell (p:=⟨gb,oe+j,none⟩) hbl).trans hcl;have q2:=H8.o wr H.o;have JH:Hd (gb<w.heap.size):=hbl;clear hy hbl hcl hrb hcc hcm hnb hcn hnl;go_wp2_with fail;refine(il Ai ni ci y wr HF.o (by omega)).mono ?_;rintro e w5⟨g,rfl,hge,hbg,hb5⟩;have F:Hd (HSt w5 gh gh i m X YS v (pR z 1 (c 1) g) r (upd c 1 (c 1+1))):=HSt.new C.o (A.o.ok (.inl (Nat.le_refl _)) (.inl (Nat.le_refl _)) (by omega) (Nat.le_refl _) (Nat.le_refl _)) hb5 (by omega) (by
      unfold bS;rw[if_neg (by omega),if_pos rfl,A.o.2.2.1,HY.o];exact hbg) hge;have HM:Hd (bp w5 go o):=ab.below V.o hb5;have HP:Hd (ab w5 (go+1) 72 [.slice none 0 0, .slice none 0 0, .slice none 0 0, .slice none 0 0].toArray):=ab.below Q.o hb5;have f:=aQ H hb5;have N:Hd (∀B,HUs gh v (upd c 1 (c 1+1)) (pR z 1 (c 1) g) B->gh<=B):=fun B hB=>(HdI.lt F.o hB).1;obtain⟨z',hz'⟩:∃z',z'=pR z 1 (c 1) g:=⟨_,rfl⟩;obtain⟨c',hc'⟩:∃c',c'=upd c 1 (c 1+1):=⟨_,rfl⟩;have q:Hd (z' 1 j=g):=by
      rw[hz',<-A.o.2.2.1];exact ei _ _ _ _
     have I:Hd (RC r c' i j i j i (j+1) 0):=by
      rw[hc'];exact⟨A.o.1,A.o.2.1,by rw[az,A.o.2.2.1],A.o.2.2.2⟩
     rw[<-hz',<-hc']at F N;clear hz' hc' hbg hb5 C V Q H A q1 q2 HF;obtain⟨A3,c3,e3,_⟩:=aP (F.o.rowR (j:=3) (by omega));rw[I.o.1.2.2.2]at e3;have JI:=aa e3;obtain⟨⟨_,_,_,p3⟩,_⟩:=F.o.at_;rw[e3]at p3;clear e3;have H9:Hd (xS i m X YS z' r 3++[.slice (some ⟨g,0,none⟩) (ni+80) (ni+80)]=xS i m X YS z' (upd r 3 (r 3+1)) 3):=by
      have h:=Fz (n:=i) (m:=m) (X:=X) (YS:=YS) (z:=z') (r:=r);unfold C2 at h;rw[I.o.1.2.2.2,q.o,HY.o,H7.o]at h;rw[I.o.1.2.2.2];exact h
     go_wp2_with((with_reducible refine atS 60 ?_);skip);refine aa ?_;refine ir (t:=24) (e:=36) (o:=⟨some 60,_,_,_,_,_⟩) fT fj rfl (by decide) w5 (by rfl) (.tmp 57) (.tmp 59) (by rfl) gh (v 3) (r 3) _ (F.o.rowR (by omega)) [.slice (some ⟨g,0,none⟩) (ni+80) (ni+80)] _ rfl rfl (by intro u hu;simp at hu;subst hu;rfl) (by exact JI.o.symm) (by rfl) (by have h1:=I.o.1.2.2.2;have h2:=D.o.mB;omega) (by have h1:=I.o.1.2.2.2;have h2:=D.o.mB;omega) F.o.ge ?_;intro v6 w6 ho6 hg6 hl6;have hb6:=F.o.mid (j:=3) (by omega) hg6;have r63:=hb6.cell 3;have f63:=hb6.frozen 3;have hst:=HSt.step F.o (j:=3) (by omega) H9.o hg6 ho6 hl6;obtain⟨A6,c6,e6,_⟩:=aP ho6;rw[I.o.1.2.2.2]at e6;subst e6;have L:=aa hst.1;have O:=aa hst.2;have HQ:Hd (bp (w6.setCell ⟨gh,3,none⟩ (.slice A6 (j+1) c6)) go o):=eM HM.o (fun h=>by have:=N.o _ h;have:=E.o;omega) (j:=3) (by omega) O.o;have Y:Hd (ab (w6.setCell ⟨gh,3,none⟩ (.slice A6 (j+1) c6)) (go+1) 72 [.slice none 0 0, .slice none 0 0, .slice none 0 0, .slice none 0 0].toArray):=eM HP.o (fun h=>by have:=N.o _ h;have:=E.o;omega) (j:=3) (by omega) O.o;have U:Hd (Below w.heap.size w (w6.setCell ⟨gh,3,none⟩ (.slice A6 (j+1) c6))):=O.o.toBelow f.o f.o.size fun B hB=>by
      have h1:gh<=B:=by
       rcases hB with h|h
       ·omega
       ·exact N.o B (.inr (.inl ⟨3,by omega,h⟩))
      have h2:=E.o;have h3:=T.o.1;omega
     have Hh:Hd (∀B,HUs gh (upd v 3 (.slice A6 (j+1) c6)) c' z' B->gh<=B):=fun B hB=>(HdI.lt hst.1 hB).1;have J:Hd (RC (upd r 3 (r 3+1)) c' i j i (j+1) i (j+1) 0):=by
      obtain⟨⟨a1,a2,a3,a4⟩,a5⟩:=I.o;exact⟨⟨a1,a2,a3,by rw[az,a4]⟩,a5⟩
     clear ho6 hg6 hl6 hb6 hst F HM HP f N H9 O I;(try simp only[Act.put,LS]);generalize hr':upd r 3 (r 3+1)=r' at*;obtain⟨v',hv'⟩:∃v',v'=upd v 3 (.slice A6 (j+1) c6):=⟨_,rfl⟩;rw[<-hv']at L Hh;clear hv' hr';obtain⟨A1,c1,e1,_⟩:=aP (HSt.rowR L.o (j:=1) (by omega));rw[J.o.1.2.1]at e1;have Ha:=aa e1;clear e1;go_wp2_with fail;generalize hw7:w6.setCell ⟨gh,3,none⟩ (.slice A6 (j+1) c6)=w7 at*;clear hw7 p3 r63 f63;have HH:Hd (HSt w7.drew gh gh i m X YS v' z' r' c'):=HdI.below L.o (af (Below.refl _ _) 1);have Hi:Hd (bp w7.drew go o):=ab.drew HQ.o;have JA:Hd (ab w7.drew (go+1) 72 [.slice none 0 0, .slice none 0 0, .slice none 0 0, .slice none 0 0].toArray):=ab.drew Y.o;have Hj:Hd (Below w.heap.size w w7.drew):=af U.o 1;have p1:=HH.o.at_.1.2.1;rw[Ha.o]at p1;have q1:=Hi.o.e D.o.ok;rw[HE.o]at q1;have q2:=H8.o _ Hj.o;clear L HQ Y U;refine bA (S:=fun w'=>w'.cell? ⟨gh,1,none⟩=some (.slice A1 j c1)/\w'.cell? ⟨go,103,none⟩=some (.slice (some ⟨gb,oe,none⟩) m ce)/\w'.cell? ⟨gb,oe+j,none⟩=some (.slice Ai ni ci)) 13 (by kernel_rfl) ⟨p1,q1,q2⟩ fun hH=>?_;generalize w7.drew=w8 at*;have HC:=aa hH;have Hb:Hd (xS i m X YS z' r' 1++[.slice (some ⟨g,0,none⟩) ni (ni+80)]=xS i m X YS z' (upd r' 1 (r' 1+1)) 1):=by
      have h:=Fp (n:=i) (m:=m) (X:=X) (YS:=YS) (z:=z') (r:=r');unfold uB at h;rw[J.o.1.2.1,if_pos hltj,q.o,HY.o,H7.o]at h;rw[J.o.1.2.1];exact h
     clear p1 q1 q2;have hle:(ni:Int)<=(ni:Int)+80:=by omega
     refine tua 0 [1,11,12,13] ?_;refine tua 1 [11,12,13] ?_;refine tua 2 [9,10,11,12,13] ?_;refine tua 3 [4,6,7,8,9,10,11,12,13] ?_;refine tua 4 [6,7,8,9,10,11,12,13] ?_;refine tua 5 [6,7,8,9,10,11,12,13] ?_;refine tua 6 [7,8,9,10,11,12,13] ?_;refine tua 7 [8,9,10,11,12,13] ?_;refine tua 8 [9,10,11,12,13] ?_;refine tua 9 [10,11,12,13] ?_;clear hH;refine rdu 10 fun K hK=>?_;go_simp;have halc:∀{G o':Nat}{u:Value},w8.cell? ⟨G,o',none⟩=some u->(w8.alloc (.cells #[.slice (some ⟨g,0,none⟩) ni (ni+80)] 36)).cell? ⟨G,o',none⟩=some u:=fun{G o' u}h=>(((Below.refl w8.heap.size w8).alloc (Nat.le_refl _) _).cell (p:=⟨G,o',none⟩) (World.block_lt_of_cell? w8 _ h)).trans h;refine hK.out _ _ (fun _=>⟨halc HC.o.1,halc HC.o.2.1,halc HC.o.2.2⟩) ?_;clear hK halc;refine b9 (i:=11) (by kernel_rfl) rfl (fun K hK=>?_);refine gK (t:=24) (e:=36) (o:=⟨some 73,_,_,_,_,_⟩) fT fj rfl (by decide) ?hw w8 (.tmp 63) (.tmp 72) (by rfl) gh (v' 1) (r' 1) _ (HH.o.rowR (by omega)) [.slice (some ⟨g,0,none⟩) ni (ni+80)] rfl (by intro u hu;simp at hu;subst hu;rfl) (by exact Ha.o.symm) (by rfl) (by have h1:=J.o.1.2.1;have h2:=D.o.mB;omega) (by have h1:=J.o.1.2.1;have h2:=D.o.mB;omega) HH.o.ge ?_
     case hw=>kernel_rfl
     intro v9 w9 ho9 hg9 hl9;have hb9:=HH.o.mid (j:=1) (by omega) hg9;have r91:w9.cell? ⟨gh,1,none⟩=some (.slice A1 j c1):=(hb9.cell 1).trans (by show some (v' 1)=_;rw[Ha.o]);have f91:=hb9.frozen 1;have ht9:=ae.grown hg9;have hno:∀B,B<gh->(v' 1).ownBlock≠some B:=fun B hB e=>by
      have:=Hh.o B (.inr (.inl ⟨1,by omega,e⟩));omega
     have r92:w9.cell? ⟨go,103,none⟩=some (.slice (some ⟨gb,oe,none⟩) m ce):=(World.cell?_of_block (a:=⟨go,103,none⟩) (ht9.block go (ab.lt Hi.o) fun e=>hno go E.o.1 e.symm)).trans HC.o.2.1;have r93:w9.cell? ⟨gb,oe+j,none⟩=some (.slice Ai ni ci):=(World.cell?_of_block (a:=⟨gb,oe+j,none⟩) (ht9.block gb (World.block_lt_of_cell? w8 _ HC.o.2.2) fun e=>hno gb (by have h1:=JH.o;have h2:=E.o;have h3:=T.o.1;omega) e.symm)).trans HC.o.2.2;have hst:=HSt.step HH.o (j:=1) (by omega) Hb.o hg9 ho9 hl9;obtain⟨A9,c9,e9,_⟩:=aP ho9;rw[J.o.1.2.1]at e9;subst e9;have HU:=aa hst.1;have R:=aa hst.2;have hno2:∀B,B<gh->¬HUs gh v' c' z' B:=fun B hB h=>by
      have:=Hh.o B h;omega
     have Ho:Hd (bp (w9.setCell ⟨gh,1,none⟩ (.slice A9 (j+1) c9)) go o):=eM Hi.o (hno2 _ E.o.1) (j:=1) (by omega) R.o;have HV:Hd (ab (w9.setCell ⟨gh,1,none⟩ (.slice A9 (j+1) c9)) (go+1) 72 [.slice none 0 0, .slice none 0 0, .slice none 0 0, .slice none 0 0].toArray):=eM JA.o (hno2 _ E.o.2) (j:=1) (by omega) R.o;have HW:Hd (Below w.heap.size w (w9.setCell ⟨gh,1,none⟩ (.slice A9 (j+1) c9))):=R.o.toBelow Hj.o Hj.o.size fun B hB=>by
      have h1:gh<=B:=by
       rcases hB with h|h
       ·omega
       ·exact Hh.o B (.inr (.inl ⟨1,by omega,h⟩))
      have h2:=E.o;have h3:=T.o.1;omega
     have HZ:Hd (RC (upd r' 1 (r' 1+1)) c' i (j+1) i (j+1) i (j+1) 0):=by
      obtain⟨⟨a1,a2,a3,a4⟩,a5⟩:=J.o;exact⟨⟨a1,by rw[az,a2],a3,a4⟩,a5⟩
     clear ho9 hg9 hl9 hb9 ht9 hno hno2 hst HH Hi JA Hj Hb R J HC;(try simp only[Act.put,LS]);refine hK.out _ _ (fun _=>⟨r91,r92,r93⟩) ?_;clear hK;have hS9:w9.cell? ⟨gh,1,none⟩=some (.slice A1 j c1)/\w9.cell? ⟨go,103,none⟩=some (.slice (some ⟨gb,oe,none⟩) m ce)/\w9.cell? ⟨gb,oe+j,none⟩=some (.slice Ai ni ci):=⟨r91,r92,r93⟩;refine tua 12 [13] ?_;refine rdu 13 fun K hK=>?_;go_simp;refine hK.out _ _ (fun h=>by cases h) ?_;clear hK hS9 r92 r93;refine co (by kernel_rfl) ?_ _;go_wp2_with fail;go_roundw
     case rel=>exact⟨j+1,_,_,_,_,by omega,by go_num,HU.o,HZ.o,Ho.o,HV.o,HW.o⟩
     case measure=>simp[intOf];omega
    ·have hjm:j=m:=by omega
     have hnltj:¬(j:Int)<m:=by omega
     subst hjm;go_wp2_with fail;clear q1;go_loopw[9](fun s wr=>∃(t:Nat)(v:Nat->Value)(z:Nat->Nat->Nat)(r c:Nat->Nat),t<=4/\s= .int .i64 (t:Int)/\Hd (HSt wr gh gh i j X YS v z r c)/\Hd (RC r c (i+t) (j+t) i j i j t)/\Hd (ab wr (go+1) 72 [.slice none 0 0, .slice none 0 0, .slice none 0 0, .slice none 0 0].toArray)/\Hd (Below w.heap.size w wr))(fun s _=>4-(intOf s).toNat)
     case atStart=>exact⟨0,_,_,_,_,by omega,rfl,C.o,A.o,Q.o,H.o⟩
     case round=>
      clear C A V Q H;obtain⟨t,v,z,r,c,ht4,rfl,C,A,Q,H⟩:=hrel;by_cases hlt4:t<4
      ·have hlt4':(t:Int)<4:=by omega
       have N:Hd (∀B,HUs gh v c z B->gh<=B):=fun B hB=>(HdI.lt C.o hB).1;obtain⟨A0,c0,e0,_⟩:=aP C.o.rowC;rw[A.o.1.1]at e0;have He:=aa e0;have p0:=C.o.at_.1.1;rw[e0]at p0;clear e0;have HT:Hd (xS i j X YS z r 0++chC mkC none 0=xS i j X YS z (upd r 0 (r 0+1)) 0):=by
        have h:=Fq (n:=i) (m:=j) (X:=X) (YS:=YS) (z:=z) (r:=r);unfold XP AdP CpP at h;rw[A.o.1.1,if_neg (by omega),if_neg (by omega),if_neg (by omega)]at h;rw[A.o.1.1];exact h
       go_wp2_with(first|((with_reducible refine atS 81 ?_);refine aM (by rfl) 37 #[(0, .const (.int .u8 201)),(1, .const (.int .u8 7))] rfl [(0, .int .u8 201),(1, .int .u8 7)] (by simp[go_sem]) (bvs mkC.key).toArray qU ?_;(try simp only[Act.put,LS]))|((with_reducible refine atS 82 ?_);refine aM (by rfl) 39 #[(0, .tmp 81),(1, .const (.bool true))] rfl [(0, .agg (bvs mkC.key).toArray),(1, .bool true)] (by simp[go_sem]) (chC mkC none 0).toArray qT ?_;(try simp only[Act.put,LS]))|((with_reducible refine atS 83 ?_);refine aR rfl wr 40 39 _ 34 (.tmp 82) rfl dh dW (by decide) (by decide) (chC mkC none 0).toArray rfl (by rw[List.size_toArray,am jX.1]) ?_;(try simp only[Act.put,LS]))|((with_reducible refine atS 84 ?_);skip));refine aa ?_;refine ir (t:=40) (e:=39) (o:=⟨some 84,_,_,_,_,_⟩) dh ej (by rfl) (by decide) wr (by rfl) (.tmp 80) (.tmp 83) (by rfl) gh (v 0) (r 0) _ C.o.rowC (chC mkC none 0) _ rfl (am jX.1) cZ (by exact He.o.symm) (by rfl) (by have h1:=A.o.1.1;have h2:=D.o.nB;omega) (by have h1:=A.o.1.1;have h2:=D.o.nB;omega) C.o.ge ?_;intro v6 w6 ho6 hg6 hl6;have hb6:=C.o.mid (j:=0) (by omega) hg6;have r60:=hb6.cell 0;have f60:=hb6.frozen 0;have hst:=HSt.step C.o (j:=0) (by omega) HT.o hg6 ho6 hl6;obtain⟨A6,c6,e6,-⟩:=aP ho6;rw[A.o.1.1]at e6;subst e6;have L:Hd (HSt (w6.setCell ⟨gh,0,none⟩ (.slice A6 (i+t+1) c6)) gh gh i j X YS (upd v 0 (.slice A6 (i+t+1) c6)) z (upd r 0 (r 0+1)) c):=hst.1;have O:=aa hst.2;have Y:Hd (ab (w6.setCell ⟨gh,0,none⟩ (.slice A6 (i+t+1) c6)) (go+1) 72 [.slice none 0 0, .slice none 0 0, .slice none 0 0, .slice none 0 0].toArray):=eM Q.o (fun h=>by have:=N.o _ h;have:=E.o;omega) (j:=0) (by omega) O.o;have U:Hd (Below w.heap.size w (w6.setCell ⟨gh,0,none⟩ (.slice A6 (i+t+1) c6))):=O.o.toBelow H.o H.o.size fun B hB=>by
        have h1:gh<=B:=by
         rcases hB with h|h
         ·omega
         ·exact N.o B (.inr (.inl ⟨0,by omega,h⟩))
        have h2:=E.o;have h3:=T.o.1;omega
       have J:Hd (RC (upd r 0 (r 0+1)) c (i+t+1) (j+t) i j i j t):=by
        obtain⟨⟨a1,a2,a3,a4⟩,a5⟩:=A.o;exact⟨⟨by rw[az,a1],a2,a3,a4⟩,a5⟩
       clear ho6 hg6 hl6 hb6 hst C Q H N HT O A;(try simp only[Act.put,LS]);generalize hr':upd r 0 (r 0+1)=r' at*;obtain⟨v',hv'⟩:∃v',v'=upd v 0 (.slice A6 (i+t+1) c6):=⟨_,rfl⟩;rw[<-hv']at L;clear hv' hr';go_wp2_with((with_reducible refine atS 87 ?_);skip);refine aa ?_;generalize hw7:w6.setCell ⟨gh,0,none⟩ (.slice A6 (i+t+1) c6)=w7 at*;clear hw7 r60 f60 p0;obtain⟨A1,c1,e1,-⟩:=aP (HSt.rowR L.o (j:=1) (by omega));rw[J.o.1.2.1]at e1;have Ha:=aa e1;have p1:=L.o.at_.1.2.1;rw[e1]at p1;clear e1;go_wp2_with((with_reducible refine atS 89 ?_);skip);refine aa ?_;have hbk:ar (w7.alloc (.cells #[.int .u8 202, .int .u8 8] 5)) w7.heap.size 5 mkR:=ab.new w7 5 #[.int .u8 202, .int .u8 8];have hbw:Below w7.heap.size w7 (w7.alloc (.cells #[.int .u8 202, .int .u8 8] 5)):=(Below.refl _ _).alloc (Nat.le_refl _) _;have P:Hd (HSt (w7.alloc (.cells #[.int .u8 202, .int .u8 8] 5)) gh gh i j X YS v' (pR z 2 (c 2) w7.heap.size) r' (upd c 2 (c 2+1))):=HSt.new L.o (J.o.ok (.inr rfl) (.inr rfl) (Nat.le_refl _) (Nat.le_refl _) (Nat.le_refl _)) hbw (by omega) (by
        unfold bS;rw[if_neg (by omega),if_neg (by omega)];exact hbk) (Nat.le_refl _);have HS:Hd (ab (w7.alloc (.cells #[.int .u8 202, .int .u8 8] 5)) (go+1) 72 [.slice none 0 0, .slice none 0 0, .slice none 0 0, .slice none 0 0].toArray):=ab.below Y.o hbw;have HA:Hd (Below w.heap.size w (w7.alloc (.cells #[.int .u8 202, .int .u8 8] 5))):=U.o.trans (hbw.mono U.o.size);obtain⟨g,hg⟩:∃g,g=w7.heap.size:=⟨_,rfl⟩;obtain⟨z',hz'⟩:∃z',z'=pR z 2 (c 2) w7.heap.size:=⟨_,rfl⟩;obtain⟨c',hc'⟩:∃c',c'=upd c 2 (c 2+1):=⟨_,rfl⟩;have q:Hd (z' 2 t=g):=by
        rw[hz',hg,<-J.o.2.2.2];exact ei _ _ _ _
       have M:Hd (RC r' c' (i+t+1) (j+t) i j i j (t+1)):=by
        rw[hc'];exact⟨J.o.1,J.o.2.1,J.o.2.2.1,by rw[az,J.o.2.2.2]⟩
       rw[<-hz',<-hc']at P;rw[<-hg];clear hz' hc' hbk hbw L Y U J;generalize hw8:w7.alloc (.cells #[.int .u8 202, .int .u8 8] 5)=w8 at*;clear hw8 p1 hg;have N:Hd (∀B,HUs gh v' c' z' B->gh<=B):=fun B hB=>(HdI.lt P.o hB).1;have Hb:Hd (xS i j X YS z' r' 1++[.slice (some ⟨g,0,none⟩) 2 2]=xS i j X YS z' (upd r' 1 (r' 1+1)) 1):=by
        have h:=Fp (n:=i) (m:=j) (X:=X) (YS:=YS) (z:=z') (r:=r');unfold uB at h;rw[M.o.1.2.1,if_neg (by omega),show j+t-j=t by omega,q.o]at h;rw[M.o.1.2.1];exact h
       go_wp2_with((with_reducible refine atS 90 ?_);skip);refine aa ?_;refine ir (t:=24) (e:=36) (o:=⟨some 90,_,_,_,_,_⟩) fT fj rfl (by decide) w8 (by rfl) (.tmp 87) (.tmp 89) (by rfl) gh (v' 1) (r' 1) _ (P.o.rowR (by omega)) [.slice (some ⟨g,0,none⟩) 2 2] _ rfl rfl (by intro u hu;simp at hu;subst hu;rfl) (by exact Ha.o.symm) (by rfl) (by have h1:=M.o.1.2.1;have h2:=D.o.mB;omega) (by have h1:=M.o.1.2.1;have h2:=D.o.mB;omega) P.o.ge ?_;intro v9 w9 ho9 hg9 hl9;have hb9:=P.o.mid (j:=1) (by omega) hg9;have r91:=hb9.cell 1;have f91:=hb9.frozen 1;have hst:=HSt.step P.o (j:=1) (by omega) Hb.o hg9 ho9 hl9;obtain⟨A9,c9,e9,-⟩:=aP ho9;rw[M.o.1.2.1]at e9;subst e9;have HU:=aa hst.1;have R:=aa hst.2;have HV:Hd (ab (w9.setCell ⟨gh,1,none⟩ (.slice A9 (j+t+1) c9)) (go+1) 72 [.slice none 0 0, .slice none 0 0, .slice none 0 0, .slice none 0 0].toArray):=eM HS.o (fun h=>by have:=N.o _ h;have:=E.o;omega) (j:=1) (by omega) R.o;have HW:Hd (Below w.heap.size w (w9.setCell ⟨gh,1,none⟩ (.slice A9 (j+t+1) c9))):=R.o.toBelow HA.o HA.o.size fun B hB=>by
        have h1:gh<=B:=by
         rcases hB with h|h
         ·omega
         ·exact N.o B (.inr (.inl ⟨1,by omega,h⟩))
        have h2:=E.o;have h3:=T.o.1;omega
       have HZ:Hd (RC (upd r' 1 (r' 1+1)) c' (i+(t+1)) (j+(t+1)) i j i j (t+1)):=by
        obtain⟨⟨a1,a2,a3,a4⟩,a5⟩:=M.o;exact⟨⟨a1,by rw[az,a2];omega,a3,a4⟩,a5⟩
       clear ho9 hg9 hl9 hb9 hst P HS HA N Hb R M;(try simp only[Act.put,LS]);go_wp2_with fail;go_roundw
       case rel=>exact⟨t+1,_,_,_,_,by omega,by go_num,HU.o,HZ.o,HV.o,HW.o⟩
       case measure=>simp[intOf];omega
      ·have ht:t=4:=by omega
       have hnlt4:¬(t:Int)<4:=by omega
       subst ht;have N:Hd (∀B,HUs gh v c z B->gh<=B):=fun B hB=>(HdI.lt C.o hB).1;go_wp2_with(first|((with_reducible refine atS 92 ?_);refine aj (by rfl) 72 (.tmp 3) rfl gh 0 [v 0,v 1,v 2,v 3] rfl (ab.range (HdI.blk C.o)) nO mC ?_;(try simp only[Act.put,LS]))|((with_reducible refine atU ?_);refine a8 (o:=⟨none,_,_,_,_,_⟩) (by rfl) 72 (.tmp 2) (.tmp 92) rfl (go+1) [v 0,v 1,v 2,v 3] [.slice none 0 0, .slice none 0 0, .slice none 0 0, .slice none 0 0] 72 rfl rfl Q.o mC rfl (Df C.o) ?_;intro w6 Y JJ JM;(try simp only[Act.put])));have hT6:ae (fun B=>B=go+1) wr w6:=(ae.grown JJ.o).mono fun B _ h=>by injection h
       have L:Hd (HSt w6 gh gh i j X YS v z r c):=HdI.touch C.o hT6 fun B hB h=>by
        have h1:=N.o B hB;have h2:=E.o;omega
       have U:Hd (Below w.heap.size w w6):=hT6.toBelow H.o H.o.size fun B h=>by
        have h3:=T.o.1;omega
       refine wE (g:=go+1) rfl rfl Y.o nO mC rfl ⟨gh,v,rfl,z,r,c,HdI.mono L.o ?_,A.o,U.o⟩;have h2:=E.o;have h3:=T.o.1;omega
end Go.Proofs.YtfnlhfaihoojfaaGreatDoor
