/- Texts of the proof of ledgerlaw13.ClientPlays, part 14; no condition of its own. -/
import Derived.Deep.CutRange
import Derived.Deep.LoopGhost
import Derived.Test.YtfnlhfaihoojfaaGreatDoorS13
set_option maxRecDepth 100000
set_option maxHeartbeats 4000000
namespace Go.Proofs.YtfnlhfaihoojfaaGreatDoor
open Go.RowKit
theorem dC{P:Program}{ops:Array Oper}{K:Act->World->Prop}{E:Prop}{o:Oper}{a:Act}{w:World}{Q:Exit->Act->World->Prop}(hw:Region.wanted o (yielded ops a.tmps)=true)(t:TypeId)(ho:o.op= .alloc t)(cs:Array Value)(n:Nat)(hi:(P.info? t).map (fun i=>(i.zero,i.size))=some (some (.agg cs),n))(h:∀w',Hd (ab w' w.heap.size t cs)->Hd (Below w.heap.size w w')->Hd (w'.heap.size=w.heap.size+1)->K (a.put o.dst (.pointer (some ⟨w.heap.size,0,none⟩))) w'):if Region.wanted o (yielded ops a.tmps)=true then o.wp P a w K Q else E:=by
 rw[if_pos hw];have hz:(zeroValue t).run P w= .ok (.agg cs) w:=by
  cases hq:P.info? t with
  |none=>simp[hq]at hi
  |some i=>
   have h1:i.zero=some (.agg cs):=by
    simp[hq]at hi;exact hi.1
   simp[zeroValue,typeInfo,hq,h1]
 have hrun:(Instr.alloc t true (.tuple #[])).run P w= .ok (.pointer (some ⟨w.heap.size,0,none⟩)) (w.alloc (.cells cs t)):=by
  simp[Instr.alloc,newVar,newRow,Sem.run_bind,hz,Value.cells]
 unfold Oper.wp execOp;simp only[ho,Sem.run_bind,Sem.run_pure,hrun,Result.andThen_ok];exact h _ (ab.new _ _ _) ((Below.refl _ _).alloc (Nat.le_refl _) _) (by show _=_;simp)
theorem yd{P:Program}{ops:Array Oper}{K:Act->World->Prop}{E:Prop}{o:Oper}{a:Act}{w:World}{Q:Exit->Act->World->Prop}(hw:Region.wanted o (yielded ops a.tmps)=true)(x:Operand)(ho:o.op= .move x)(h:K (a.put o.dst (a.eval x)) w):if Region.wanted o (yielded ops a.tmps)=true then o.wp P a w K Q else E:=by
 rw[if_pos hw];unfold Oper.wp execOp;simp only[ho,Sem.run_pure];exact h
theorem lZ{P:Program}{ops:Array Oper}{K:Act->World->Prop}{E:Prop}{o:Oper}{a:Act}{w:World}{Q:Exit->Act->World->Prop}(hw:Region.wanted o (yielded ops a.tmps)=true)(x:Operand)(i:Nat)(ho:o.op= .extract x i)(vs:Array Value)(v:Value)(hx:a.eval x= .tuple vs)(hv:vs[i]?=some v)(h:K (a.put o.dst v) w):if Region.wanted o (yielded ops a.tmps)=true then o.wp P a w K Q else E:=by
 rw[if_pos hw];unfold Oper.wp execOp;simp only[ho,hx,Instr.extract,hv,Sem.run_bind,Sem.run_pure,Result.andThen_ok];exact h
theorem fU(V:Nat->Value){l:List Nat}{a:Act}{d:Nat}(hd:d∈l)(hs:d<a.tmps.size):(fH a V l).eval (.tmp d)=V d:=by
 obtain⟨_,h2,h3⟩:=i8 V l a;have:=h3 d hs;rw[if_pos hd]at this;simp[Act.eval,Array.getD_eq_getD_getElem?,this]
theorem FH{α:Type}(f:Nat->α){i j:Nat}(x:α)(h:j≠i):sv f i x j=f j:=if_neg h
theorem FI{α:Type}(f:Nat->α)(i:Nat)(x:α):sv f i x i=x:=if_pos rfl
structure AG(w0:World)(d1 d2:List Nat)(bc bm b1 b2 ba bb bs bt:Bool)(vc vm v1 v2 va vb:Value)(w:World):Prop where
 lo:Below w0.heap.size w0 w
 c:bc=true->vc= .tuple #[.agg (bvs d1).toArray, .agg (bvs d2).toArray]
 m:bm=true->vm= .tuple #[.agg (bvs d1).toArray, .agg (bvs d2).toArray]
 e1:b1=true->v1= .agg (bvs d1).toArray
 e2:b2=true->v2= .agg (bvs d2).toArray
 a1:ba=true->∃g,va= .pointer (some ⟨g,0,none⟩)/\w0.heap.size<=g/\ar w g 34 (if bs=true then d1 else zs 32)
 a2:bb=true->∃g,vb= .pointer (some ⟨g,0,none⟩)/\w0.heap.size<=g/\ar w g 34 (if bt=true then d2 else zs 32)
 s1:bs=true->ba=true
 s2:bt=true->bb=true
 ne:ba=true->bb=true->va≠vb
def oW(c sc sm x1 x2 sa sb:Nat)(w0:World)(d1 d2:List Nat)(b:Nat->Bool)(V:Nat->Value)(w:World):Prop:=AG w0 d1 d2 (b c) (b (c+1)) (b (c+2)) (b (c+3)) (b (c+4)) (b (c+5)) (b (c+6)) (b (c+7)) (V sc) (V sm) (V x1) (V x2) (V sa) (V sb) w
theorem AG.below{w0 w w':World}{d1 d2:List Nat}{bc bm b1 b2 ba bb bs bt:Bool}{vc vm v1 v2 va vb:Value}(h:AG w0 d1 d2 bc bm b1 b2 ba bb bs bt vc vm v1 v2 va vb w)(hB:Below w.heap.size w w'):AG w0 d1 d2 bc bm b1 b2 ba bb bs bt vc vm v1 v2 va vb w':={h with
  lo:=h.lo.trans (hB.mono h.lo.size)
  a1:=fun e=>let⟨g,r1,r2,r3⟩:=h.a1 e;⟨g,r1,r2,ab.below r3 hB⟩
  a2:=fun e=>let⟨g,r1,r2,r3⟩:=h.a2 e;⟨g,r1,r2,ab.below r3 hB⟩}
def dep(md:Region.Mode)(e:Array Edge)(j:Nat):Bool:=e.toList.any fun e=>Region.binds md e&&e.on==j
theorem i9{ops:Array Oper}{Q:Exit->Act->World->Prop}{md:Region.Mode}{S:World->Prop}{fuel:Nat}{l0:Array Bool}{a:Act}{w:World}(c sc sm x1 x2 sa sb:Nat)(w0:World)(d1 d2:List Nat)(hd1:d1.length=32)(hd2:d2.length=32)(hw:Below w0.heap.size w0 w)(hS:∀W,Below w0.heap.size w0 W->S W){oc:Oper}{tm te1 te2 ta tb ts tt:TypeId}{pm pe1 pe2 pa pb p1 p2:String}{em ee1 ee2 ea eb es et:Array Edge}(hcall:∀V w' A,Below w0.heap.size w0 w'->A=fH a V [sc,sm,x1,x2,sa,sb]->∀K:Act->World->Prop,Shut (∀w'',Below w'.heap.size w' w''->K (A.put (some sc) (.tuple #[.agg (bvs d1).toArray, .agg (bvs d2).toArray])) w'')->if Region.wanted oc (yielded ops A.tmps)=true then oc.wp Tryz.prog A w' K Q else K (A.put oc.dst undef) w')(hend:∀V g1 g2 w' A,A=fH a V [sc,sm,x1,x2,sa,sb]->V sa= .pointer (some ⟨g1,0,none⟩)->V sb= .pointer (some ⟨g2,0,none⟩)->w0.heap.size<=g1/\w0.heap.size<=g2->Below w0.heap.size w0 w'->ar w' g1 34 d1->ar w' g2 34 d2->Q .normal A w')(hc:ops[c]?=some oc:=by exact rfl)(hcd:oc.dst=some sc:=by exact rfl)(hm:ops[c+1]?=some ⟨some sm, .move (.tmp sc),tm,pm,em,none⟩:=by exact rfl)(he1:ops[c+2]?=some ⟨some x1, .extract (.tmp sm) 0,te1,pe1,ee1,none⟩:=by exact rfl)(he2:ops[c+3]?=some ⟨some x2, .extract (.tmp sm) 1,te2,pe2,ee2,none⟩:=by exact rfl)(ha:ops[c+4]?=some ⟨some sa, .alloc 34,ta,pa,ea,none⟩:=by exact rfl)(hb:ops[c+5]?=some ⟨some sb, .alloc 34,tb,pb,eb,none⟩:=by exact rfl)(hs1:ops[c+6]?=some ⟨none, .store 34 (.tmp sa) (.tmp x1),ts,p1,es,none⟩:=by exact rfl)(hs2:ops[c+7]?=some ⟨none, .store 34 (.tmp sb) (.tmp x2),tt,p2,et,none⟩:=by exact rfl)(hdep:(dep md em c&&(dep md ee1 (c+1)&&(dep md ee2 (c+1)&&(dep md es (c+4)&&(dep md es (c+2)&&(dep md et (c+5)&&dep md et (c+3)))))))=true:=by kernel_rfl)(hsl:(decide ([sc,sm,x1,x2,sa,sb].Nodup)&&[sc,sm,x1,x2,sa,sb].all fun d=>decide (d<a.tmps.size))=true:=by kernel_rfl)(hgb:AA md ops=true:=by kernel_rfl)(hl:(decide (l0.size=ops.size)&&(decide (l0.toList.count false<=fuel)&&(([c,c+1,c+2,c+3,c+4,c+5,c+6,c+7].all fun i=>decide (i<ops.size)&&!(l0.getD i true))&&(List.range ops.size).all fun i=>l0.getD i false||[c,c+1,c+2,c+3,c+4,c+5,c+6,c+7].contains i)))=true:=by kernel_rfl):wpAnyH Tryz.prog md ops Q S fuel l0 a w:=by
 simp only[Bool.and_eq_true]at hdep hsl;obtain⟨q1,q2,q3,q4,q5,q6,q7⟩:=hdep;obtain⟨hnd,hsz⟩:=hsl;have hnd:=of_decide_eq_true hnd;simp only[List.nodup_cons,List.mem_cons,List.not_mem_nil,or_false,not_or,List.all_cons,List.all_nil,Bool.and_true,Bool.and_eq_true,decide_eq_true_eq]at hnd hsz;obtain⟨⟨n1,n2,n3,n4,n5⟩,⟨n6,n7,n8,n9⟩,⟨n10,n11,n12⟩,⟨n13,n14⟩,n15,_⟩:=hnd;obtain⟨z1,z2,z3,z4,z5,z6⟩:=hsz;have NE:=And.intro n1 (And.intro n2 (And.intro n3 (And.intro n4 (And.intro n5 (And.intro n6 (And.intro n7 (And.intro n8 (And.intro n9 (And.intro n10 (And.intro n11 (And.intro n12 (And.intro n13 (And.intro n14 (And.intro n15 (And.intro (Ne.symm n1) (And.intro (Ne.symm n2) (And.intro (Ne.symm n3) (And.intro (Ne.symm n4) (And.intro (Ne.symm n5) (And.intro (Ne.symm n6) (And.intro (Ne.symm n7) (And.intro (Ne.symm n8) (And.intro (Ne.symm n9) (And.intro (Ne.symm n10) (And.intro (Ne.symm n11) (And.intro (Ne.symm n12) (And.intro (Ne.symm n13) (And.intro (Ne.symm n14) (Ne.symm n15)))))))))))))))))))))))))))));refine pi [sc,sm,x1,x2,sa,sb] [c,c+1,c+2,c+3,c+4,c+5,c+6,c+7] (oW c sc sm x1 x2 sa sb w0 d1 d2) (fun b V h=>?_) (fun b V w h=>hS w h.lo) (fun b V w' A h hall hA=>?_) ?_ hgb hl
 ·have f:∀i,i∈[c,c+1,c+2,c+3,c+4,c+5,c+6,c+7]->¬b i=true:=fun i hi e=>by rw[h i hi]at e;cases e
  exact⟨hw,fun e=>absurd e (f _ (by simp)),fun e=>absurd e (f _ (by simp)),fun e=>absurd e (f _ (by simp)),fun e=>absurd e (f _ (by simp)),fun e=>absurd e (f _ (by simp)),fun e=>absurd e (f _ (by simp)),fun e=>absurd e (f _ (by simp)),fun e=>absurd e (f _ (by simp)),fun e=>absurd e (f _ (by simp))⟩
 ·obtain⟨g1,k1,m1,r1⟩:=h.a1 (hall _ (by simp));obtain⟨g2,k2,m2,r2⟩:=h.a2 (hall _ (by simp));rw[if_pos (hall _ (by simp))]at r1 r2;exact hend V g1 g2 w' A hA k1 k2 ⟨m1,m2⟩ h.lo r1 r2
 refine .cons c (fun b V w' A h hb hd hA K hK=>hcall V w' A h.lo hA K fun w'' hB=>?_) ?_ hc (by rw[hcd];simp)
 ·have:=hK.out (.tuple #[.agg (bvs d1).toArray, .agg (bvs d2).toArray]) w'' (by
   rw[hcd];simp only[svO];simp only[oW,sv];simp[NE];exact{h.below hB with c:=fun _=>rfl});rwa[hcd]at this
 refine .cons (c+1) (fun b V w' A h hb hd hA K hK=>?_) ?_ hm (by simp)
 ·refine yd rfl (.tmp sc) rfl (hK.out _ _ ?_);rw[hA,fU V (by simp) z1,h.c (hd _ q1)];simp only[svO];simp only[oW,sv];simp[NE];exact{h with m:=fun _=>rfl}
 refine .cons (c+2) (fun b V w' A h hb hd hA K hK=>?_) ?_ he1 (by simp)
 ·refine lZ rfl (.tmp sm) 0 rfl _ (.agg (bvs d1).toArray) (by rw[hA,fU V (by simp) z2,h.m (hd _ q2)]) rfl (hK.out _ _ ?_);simp only[svO];simp only[oW,sv];simp[NE];exact{h with e1:=fun _=>rfl}
 refine .cons (c+3) (fun b V w' A h hb hd hA K hK=>?_) ?_ he2 (by simp)
 ·refine lZ rfl (.tmp sm) 1 rfl _ (.agg (bvs d2).toArray) (by rw[hA,fU V (by simp) z2,h.m (hd _ q3)]) rfl (hK.out _ _ ?_);simp only[svO];simp only[oW,sv];simp[NE];exact{h with e2:=fun _=>rfl}
 refine .cons (c+4) (fun b V w' A h hb hd hA K hK=>?_) ?_ ha (by simp)
 ·refine dC rfl 34 rfl _ _ aD ?_;intro y hz hB hs;have hz2:ar y w'.heap.size 34 (zs 32):=hz.o;refine hK.out _ _ ?_;have f:¬b (c+6)=true:=fun e=>by rw[h.s1 e]at hb;cases hb
  simp only[svO];simp only[oW,sv];simp[NE];exact{h.below hB.o with
   a1:=fun _=>⟨w'.heap.size,rfl,h.lo.size,by rw[if_neg f];exact hz2⟩
   s1:=fun _=>rfl
   ne:=fun _ e=>by
    obtain⟨g,r1,_,r3⟩:=h.a2 e;have:=ab.lt r3;rw[r1];intro e;injection e with e;injection e with e;injection e with e;omega}
 refine .cons (c+5) (fun b V w' A h hb hd hA K hK=>?_) ?_ hb (by simp)
 ·refine dC rfl 34 rfl _ _ aD ?_;intro y hz hB hs;have hz2:ar y w'.heap.size 34 (zs 32):=hz.o;refine hK.out _ _ ?_;have f:¬b (c+7)=true:=fun e=>by rw[h.s2 e]at hb;cases hb
  simp only[svO];simp only[oW,sv];simp[NE];exact{h.below hB.o with
   a2:=fun _=>⟨w'.heap.size,rfl,h.lo.size,by rw[if_neg f];exact hz2⟩
   s2:=fun _=>rfl
   ne:=fun e _=>by
    obtain⟨g,r1,_,r3⟩:=h.a1 e;have:=ab.lt r3;rw[r1];intro e;injection e with e;injection e with e;injection e with e;omega}
 refine .cons (c+6) (fun b V w' A h hb hd hA K hK=>?_) ?_ hs1 (by simp)
 ·obtain⟨g,r1,r2,r3⟩:=h.a1 (hd _ q4);rw[if_neg (by rw[hb];simp)]at r3;refine aA rfl 34 (.tmp sa) (.tmp x1) rfl 0 [] (bvs (zs 32)) (bvs d1) [] (by rw[hA,fU V (by simp) z5,r1]) (by rw[hA,fU V (by simp) z3,h.e1 (hd _ q5)]) (bj r3) rfl (by simp[bvs,zs,hd1]) (by rw[ag];simp[bvs,hd1]) (ah _) fun y hz hg=>hK.out undef _ ?_;simp only[svO];simp only[oW,sv];simp;exact{h with
   lo:=(ae.one hg).toBelow h.lo h.lo.size fun B e=>e▸r2
   a1:=fun _=>⟨g,r1,r2,by rw[if_pos rfl];exact aN hz⟩
   a2:=fun e=>by
    obtain⟨g',k1,k2,k3⟩:=h.a2 e;exact⟨g',k1,k2,(ae.one hg).blk k3 fun e'=>h.ne (hd _ q4) e (by rw[r1,k1,e'])⟩
   s1:=fun _=>hd _ q4}
 refine .cons (c+7) (fun b V w' A h hb hd hA K hK=>?_) .nil hs2 (by simp)
 ·obtain⟨g,r1,r2,r3⟩:=h.a2 (hd _ q6);rw[if_neg (by rw[hb];simp)]at r3;refine aA rfl 34 (.tmp sb) (.tmp x2) rfl 0 [] (bvs (zs 32)) (bvs d2) [] (by rw[hA,fU V (by simp) z6,r1]) (by rw[hA,fU V (by simp) z4,h.e2 (hd _ q7)]) (bj r3) rfl (by simp[bvs,zs,hd2]) (by rw[ag];simp[bvs,hd2]) (ah _) fun y hz hg=>hK.out undef _ ?_;simp only[svO];simp only[oW,sv];simp;exact{h with
   lo:=(ae.one hg).toBelow h.lo h.lo.size fun B e=>e▸r2
   a2:=fun _=>⟨g,r1,r2,by rw[if_pos rfl];exact aN hz⟩
   a1:=fun e=>by
    obtain⟨g',k1,k2,k3⟩:=h.a1 e;exact⟨g',k1,k2,(ae.one hg).blk k3 fun e'=>h.ne e (hd _ q6) (by rw[r1,k1,e'])⟩
   s2:=fun _=>hd _ q6}
theorem fX(fn:Nat)(cap:Array Value)(g:Nat)(c:Ck)(p:Pr)(d0:List Nat)(J:Nat->(Nat->Prop)->World->Prop)(U:Nat->Prop)(b:Value)(w:World)(hE:Eye fn cap g c p (bd c.wd c.key d0 (av c.wd p)) J)(hj:J 0 U w)(hr:aX w g (c.blanked b) p)(hf:Far U g (c.blanked b))(hl:d0.length=32)(hB:IsB d0):Calls Tryz.prog 21 #[.pointer (some ⟨g,0,none⟩), .agg (bvs d0).toArray, .func (.func fn) #[] cap] w (Ey g c p d0 J U b w):=by
 have D:=aa hE;have HJ:=aa hj;have d:=aa hr;have HF:=aa hf;have HL:=aa hl;have H4:=aa hB;have hen:=hE.enters;clear hE hj hr hf hl hB;go_enter Tryz.func21,Tryz.ntmps21;go_wp2_with fail;refine bV (G:=fun w2=>Code.wp _ _ _ _ w2) fun w2 H1 H2 HW P=>?_;have H5:Hd (ar w2 w.heap.size 34 d0):=H1;have H6:Hd (ar w2 (w.heap.size+1) 34 (zs 32)):=H2;have H7:Hd (aX w2 g (c.blanked b) p):=d.o.below HW.o;have H8:Hd (J 0 U w2):=D.o.keep HJ.o (ae.ofBelow HW.o) fun _ h=>h.elim;clear H1 H2;have hpd:∀h,(bd c.wd c.key d0 (av c.wd p) h).length=32/\IsB (bd c.wd c.key d0 (av c.wd p) h):=fun h=>dy _ _ _ HL.o H4.o h;have F:=aa hpd;have H9:Hd (∀h,bd c.wd c.key d0 (av c.wd p) (h+1)=aZ c.wd (aU c.wd (aI c.key h (bd c.wd c.key d0 (av c.wd p) h) (av c.wd p h)).1 (aI c.key h (bd c.wd c.key d0 (av c.wd p) h) (av c.wd p h)).2)):=fun h=>vF _ _ _ _ h;have JT:Hd (bd c.wd c.key d0 (av c.wd p) 0=d0):=rfl;clear hpd;go_loopg[7,12]256(fun gh nx i wr=>∃h:Nat,h<=256/\gh=256-h/\i= .int .i64 h/\nx= .int .i64 (ek p.bits h:Nat)/\Hd (∃U' b',J h U' wr/\aX wr g (c.blanked b') p/\me w2 b b'/\mx w U U'/\Far U' g (c.blanked b')/\¬U' w.heap.size/\¬U' (w.heap.size+1))/\Hd (ae (fun B=>U B∨B=g) w wr)/\Hd (ar wr w.heap.size 34 (bd c.wd c.key d0 (av c.wd p) h))/\Hd (ar wr (w.heap.size+1) 34 (zs 32)))
 case atStart=>exact⟨0,by omega,rfl,rfl,rfl,⟨U,b,H8.o,H7.o, .inl rfl,mx.refl _ _,HF.o,fun h=>by have:=D.o.lt HJ.o _ h;omega,fun h=>by have:=D.o.lt HJ.o _ h;omega⟩,(ae.ofBelow HW.o).mono fun _ _ h=>h.elim,H5.o,H6.o⟩
 case round=>
  obtain⟨h,hh,rfl,rfl,rfl,HI,HT,HD,f⟩:=hrel;by_cases hlt:h<256
  ·have hlt':(h:Int)<256:=by omega
   obtain⟨Ui,bi,hj,hr,hnb,hnu,hf,hn1,hn2⟩:=HI.o;have Hf:=aa hj;have Hg:=aa hr;have Hh:=aa hnb;have HG:=aa hnu;have HH:=aa hf;have HK:=aa hn1;have HM:=aa hn2;have HN:=aa (D.o.lt hj);clear hj hr hnb hnu hf hn1 hn2 HI;go_wp2_with fail;refine(Hg.o.bare hlt).mono ?_;rintro e w3⟨rfl,⟨b3,hr3,hnb3⟩,ht3⟩;have hwd:(c.blanked bi).wd=c.wd:=rfl;rw[hwd];have l:Hd (aX w3 g (c.blanked b3) p):=hr3;have Hi:Hd (J h Ui w3):=D.o.keep Hf.o ht3 fun B hB hU=>HH.o.ck (hB▸hU);have Hj:Hd (me w2 b b3):=Hh.o.trans hnb3 (by have:=f.o.lt;have:=P.o;omega);have Hk:Hd (Far Ui g (c.blanked b3)):=HH.o.bare hnb3 HN.o;have Hl:Hd (ae (fun B=>U B∨B=g) w w3):=HT.o.trans (ht3.mono fun _ _ h=> .inr h);have Q:Hd (g<w.heap.size):=d.o.ck.lt;have Hm:Hd (ar w3 w.heap.size 34 (bd c.wd c.key d0 (av c.wd p) h)):=ht3.blk HD.o (by have:=Q.o;omega);have HO:Hd (ar w3 (w.heap.size+1) 34 (zs 32)):=ht3.blk f.o (by have:=Q.o;omega);have Hn:Hd (∀B,Ui B->B<w3.heap.size):=fun B hB=>Nat.lt_of_lt_of_le (HN.o B hB) ht3.size;clear hwd hr3 hnb3 ht3 Hg Hf Hh HH HT HD f HN;have HP:Hd (∀B,Ui B->B≠w3.heap.size):=fun B hB=>by have:=Hn.o B hB;omega
   have JA:Hd (g<w3.heap.size):=l.o.ck.lt;have R:Hd (w.heap.size+1<w3.heap.size):=HO.o.lt;go_wp2_with(first|((with_reducible refine atS 9 ?_);refine aC (by rfl) 34 rfl _ _ aD ?_;intro w4 Ho HU JB)|(refine aq (o:=⟨none,_,_,_,_,_⟩) (by rfl) 34 (.tmp 9) (.tmp 17) rfl 0 [] (bvs (zs 32)) (bvs (ay c.wd h)) [] rfl rfl (bj Ho.o) rfl (by simp[bvs,zs,al]) (by rw[ag];simp[bvs,al]) (fun u hu=>ah _ u hu) ?_;intro w5 h5 g5)|(with_reducible refine atS 20 ?_));have JC:Hd (Far (fun B=>B=w3.heap.size) g (c.blanked b3)):=l.o.farNew.mono fun B hB=>by rw[hB];exact Nat.le_refl _
   have hb35:Below w3.heap.size w3 w5:=HU.o.grown g5 HU.o.size fun k hk=>by injection hk with hk;omega
   have E:Hd (aX w5 g (c.blanked b3) p):=l.o.below hb35;have Hp:Hd (J h Ui w5):=D.o.keep Hi.o (ae.ofBelow hb35) fun _ h=>h.elim;have Hq:Hd (ae (fun B=>U B∨B=g) w w5):=Hl.o.trans ((ae.ofBelow hb35).mono fun _ _ h=>h.elim);have Hr:Hd (ar w5 w.heap.size 34 (bd c.wd c.key d0 (av c.wd p) h)):=ab.below Hm.o hb35;have Hs:=dA HO hb35;have Ht:Hd (ar w5 w3.heap.size 34 (ay c.wd h)):=aN h5;clear hb35 h5 g5 Ho HU JB Hi Hl Hm HO l;generalize w3.heap.size=M at*;refine aa ?_;go_wp2_with fail;refine(qZ g 66 p.bits h w5 (by rw[E.o.bits];exact xR E.o.ck E.o.ok) hlt).mono ?_;rintro e w6⟨rfl,rfl⟩;have hci3:((ek p.bits h:Nat):Int)<=256:=by
    have h1:=xP p.bits hh;rw[<-fV E.o.pok.bl]at h1;have:=iy (ds:=p.bits);have:=E.o.pok.bl;omega
   go_upto_if 22with fail;go_cut[7,12]from 12to 56(fun s7 s12 wx=>∃q:Nat,Hd (q=ek p.bits (h+1))/\s7= .int .i64 q/\s12= .int .i64 h/\Hd (aX wx g (c.blanked b3) p)/\Hd (J h Ui wx)/\Hd (ae (fun B=>U B∨B=g) w wx)/\Hd (ar wx w.heap.size 34 (bd c.wd c.key d0 (av c.wd p) h))/\Hd (ar wx (w.heap.size+1) 34 (zs 32))/\Hd (ar wx M 34 (av c.wd p h)))
   case first=>
    cases hbit:gM p.bits h with
    |false=>
     have HV:Hd (ek p.bits (h+1)=ek p.bits h):=by show _=_;rw[ek,hbit];rfl
     have T:Hd (ar w6 M 34 (av c.wd p h)):=by
      show ar _ _ _ _;unfold av;rw[if_neg (by rw[hbit];decide)];exact Ht.o
     clear hbit;go_wp2_with fail;go_meet
     case rel=>exact⟨_,HV.o.symm,rfl,rfl,E.o,Hp.o,Hq.o,Hr.o,Hs.o,T.o⟩
    |true=>
     have hci:ek p.bits h<p.sums.length:=by
      rw[E.o.pok.sl,fV E.o.pok.bl];exact pe hbit hlt
     have HV:Hd (ek p.bits (h+1)=ek p.bits h+1):=by show _=_;rw[ek,hbit];rfl
     have JD:Hd (av c.wd p h=p.sums.getD (ek p.bits h) (zs 32)):=by
      show av c.wd p h=_;unfold av;rw[if_pos hbit]
     have Hu:=aa (E.o.pok.sB (p.sums.getD (ek p.bits h) (zs 32)) (by rw[jx _ _ hci];exact List.getElem_mem hci));obtain⟨B,n,k,hs,hn,hx,hn2⟩:=E.o.sumAt hci;have hci2:((ek p.bits h:Nat):Int)<(n:Int):=by omega
     obtain⟨_,_,_,_,cs,_⟩:=bF (c:=c.blanked b3) E.o.ck E.o.ok;rw[hs]at cs;have HX:=aa hx;clear hs hn hx hn2 hci hbit;generalize ek p.bits h=q at*;generalize p.sums.getD q (zs 32)=ds at*;go_wp2_with(first|(refine ac (o:=⟨some 30,_,_,_,_,_⟩) (by rfl) 34 (.tmp 29) rfl ⟨B,q*32,none⟩ 32 ds rfl HX.o (by omega) (by kernel_rfl) (by kernel_rfl) ?_)|(refine aq (o:=⟨none,_,_,_,_,_⟩) (by rfl) 34 (.tmp 9) (.tmp 30) rfl 0 [] (bvs (ay c.wd h)) (bvs ds) [] rfl rfl (bj Ht.o) rfl (by simp[bvs,al,Hu.o.2]) (by rw[ag];simp[bvs,Hu.o.2]) (fun u hu=>ah _ u hu) ?_;intro w7 h7 g7));have hb67:ae (fun B=>B=M) w6 w7:=ae.one g7;have W:Hd (ar w7 M 34 (av c.wd p h)):=by
      show ar _ _ _ _;rw[JD.o];exact aN h7
     have H:Hd (aX w7 g (c.blanked b3) p):=E.o.far hb67 JC.o;have m:Hd (J h Ui w7):=D.o.keep Hp.o hb67 fun B hB h1=>HP.o B h1 hB;have r:Hd (ae (fun B=>U B∨B=g) w w7):=Hq.o.andThen hb67 fun B hB h1=>by have:=R.o;omega
     have X:Hd (ar w7 w.heap.size 34 (bd c.wd c.key d0 (av c.wd p) h)):=hb67.blk Hr.o (by have:=R.o;omega);have s:Hd (ar w7 (w.heap.size+1) 34 (zs 32)):=hb67.blk Hs.o (by have:=R.o;omega);clear h7 g7 hb67;go_wp2_with fail;go_meet
     case rel=>exact⟨q+1,HV.o.symm,by go_num,rfl,H.o,m.o,r.o,X.o,s.o,W.o⟩
   case rest=>
    obtain⟨q,HQ,rfl,rfl,HY,Hv,Ha,t,x,T⟩:=hcut;have N:=aa (aG (w:=c.wd) HY.o.pok hlt);go_wp2_with(first|(refine ac (o:=⟨some 35,_,_,_,_,_⟩) (by rfl) 34 (.tmp 4) rfl ⟨w.heap.size,0,none⟩ 32 (bd c.wd c.key d0 (av c.wd p) h) rfl (t.o.whole (F.o h).2 (F.o h).1) (by omega) (by kernel_rfl) (by kernel_rfl) ?_)|(refine ac (o:=⟨some 36,_,_,_,_,_⟩) (by rfl) 34 (.tmp 9) rfl ⟨M,0,none⟩ 32 (av c.wd p h) rfl (T.o.whole N.o.2 N.o.1) (by omega) (by kernel_rfl) (by kernel_rfl) ?_));refine(D.o.call h Ui b3 wc hlt Hv.o HY.o Hk.o).mono ?_;rintro e w7⟨rfl,U7,b7,hj7,hr7,hnb7,ht7,hnu7,hf7⟩;have H:Hd (aX w7 g (c.blanked b7) p):=hr7;have m:Hd (J (h+1) U7 w7):=hj7;have Hw:Hd (me w2 b b7):=Hj.o.trans hnb7 (by have:=x.o.lt;have:=P.o;omega);have r:Hd (ae (fun B=>U B∨B=g) w w7):=Ha.o.andThen ht7 fun B hB h1=>by
     rcases h1 with h1|h1
     ·rcases HG.o B h1 with h2|h2
      ·exact .inl h2
      ·omega
     ·exact .inr h1
    have JE:Hd (mx w U U7):=HG.o.trans hnu7 Ha.o.size;have JF:Hd (Far U7 g (c.blanked b7)):=hf7;have X:Hd (ar w7 w.heap.size 34 (bd c.wd c.key d0 (av c.wd p) h)):=ht7.blk t.o fun h1=>by
     rcases h1 with h1|h1
     ·exact HK.o h1
     ·have:=Q.o;omega
    have s:Hd (ar w7 (w.heap.size+1) 34 (zs 32)):=ht7.blk x.o fun h1=>by
     rcases h1 with h1|h1
     ·exact HM.o h1
     ·have:=Q.o;omega
    have W:Hd (ar w7 M 34 (av c.wd p h)):=ht7.blk T.o fun h1=>by
     rcases h1 with h1|h1
     ·exact HP.o M h1 rfl
     ·have:=JA.o;omega
    have Hx:Hd (¬U7 w.heap.size):=hnu7.not t.o.lt HK.o;have JG:Hd (¬U7 (w.heap.size+1)):=hnu7.not x.o.lt HM.o;have JH:Hd (M<w7.heap.size):=W.o.lt;clear hj7 hr7 hnb7 ht7 hnu7 hf7 HY Hv Ha t x T HG HK HM Hn HP Hk Hj hen;have Hb:Hd (c.key.length=32/\IsB c.key):=⟨H.o.ok.kl,H.o.ok.kB⟩;have I:=aa (fu (k:=c.key) (h:=h) (F.o h).2 (F.o h).1 N.o.2 N.o.1);go_upto_region 10with fail;go_cut[10,11,12]from 12to 56(fun s10 s11 s12 wx=>∃a1 a2:Nat,s10= .pointer (some ⟨a1,0,none⟩)/\s11= .pointer (some ⟨a2,0,none⟩)/\s12= .int .i64 h/\Hd (M<a1/\M<a2)/\Hd (Below w7.heap.size w7 wx)/\Hd (ar wx a1 34 (aI c.key h (bd c.wd c.key d0 (av c.wd p) h) (av c.wd p h)).1)/\Hd (ar wx a2 34 (aI c.key h (bd c.wd c.key d0 (av c.wd p) h) (av c.wd p h)).2))
    case first=>
     have hu:=bE;have hszp:(Tryz.prog.info? 34).map (·.size)=some (bvs (bd c.wd c.key d0 (av c.wd p) h)).length:=by rw[ag];simp[bvs,(F.o h).1]
     have hszn:(Tryz.prog.info? 34).map (·.size)=some (bvs (av c.wd p h)).length:=by rw[ag];simp[bvs,N.o.1]
     have huk:=bW;have hszk:(Tryz.prog.info? 37).map (·.size)=some (bvs c.key).length:=by rw[aB];simp[bvs,Hb.o.1]
     have hrk:w7.rangeAt g 1 (bvs c.key):=by
      have h:ab w7 g _ (c.blanked b7).C.toArray:=H.o.ck;rw[Ck.byKey]at h;exact h.rangeOf rfl
     have Hy:Hd (∀wx,Below w7.heap.size w7 wx->wx.rangeAt g 1 (bvs c.key)/\wx.rangeAt w.heap.size 0 (bvs (bd c.wd c.key d0 (av c.wd p) h))/\wx.rangeAt M 0 (bvs (av c.wd p h))):=fun wx hb=>⟨fun j v hj=>(hb.cell (p:=⟨g,1+j,none⟩) H.o.ck.lt).trans (hrk j v hj),ab.range (ab.below X.o hb),ab.range (ab.below W.o hb)⟩;clear hrk;refine wp_region_held_drew (S:=fun w'=>w'.rangeAt g 1 (bvs c.key)/\w'.rangeAt w.heap.size 0 (bvs (bd c.wd c.key d0 (av c.wd p) h))/\w'.rangeAt M 0 (bvs (av c.wd p h))) (by kernel_rfl) (Hy.o _ (af (Below.refl _ _) 1)) fun hH=>?_;have JI:Hd (Below w7.heap.size w7 w7.drew):=af (Below.refl _ _) 1;generalize w7.drew=w7d at*;refine tka 0 ?_;refine tka 1 ?_;refine tka 2 ?_;refine tkl 3 ?_;refine tka 4 ?_;refine tkl 5 ?_;refine tkl 6 ?_;clear hu hszp hszn huk hszk;refine i9 7 46 38 47 48 10 11 w7 _ _ I.o.2.1 I.o.2.2.2 JI.o Hy.o (fun V w' A hb hA K hK=>?_) (fun V g1 g2 w' A hA e1 e2 hg hb h1 h2=>?_)
     ·simp only[fH,Act.put,LS]at hA;subst hA;go_simp;go_at_call 48;refine(mS c.key (bd c.wd c.key d0 (av c.wd p) h) (av c.wd p h) h w' Hb.o.2 Hb.o.1 (F.o h).2 (F.o h).1 N.o.2 N.o.1 hlt).mono ?_;rintro e y⟨rfl,hb1⟩;exact hK.out _ hb1
     ·simp only[fH,Act.put,LS]at hA;subst hA;go_wp2_with fail;go_meet
      case rel=>exact⟨g1,g2,e1,e2,rfl,by have:=JH.o;exact⟨by omega,by omega⟩,hb,h1,h2⟩
    case rest=>
     obtain⟨a1,a2,rfl,rfl,rfl,Hz,O,Y,Z⟩:=hcut;have L:Hd (aX wc g (c.blanked b7) p):=H.o.below O.o;have z:Hd (J (h+1) U7 wc):=D.o.keep m.o (ae.ofBelow O.o) fun _ h=>h.elim;have HA:Hd (ae (fun B=>U B∨B=g) w wc):=r.o.trans ((ae.ofBelow O.o).mono fun _ _ h=>h.elim);have HB:Hd (ar wc w.heap.size 34 (bd c.wd c.key d0 (av c.wd p) h)):=ab.below X.o O.o;have HC:=dA s O.o;clear H m r X s W O;have JJ:Hd (ab wc g 96 (c.blanked b7).C.toArray):=L.o.ck;go_upto_region 11with fail;have hu:=bE;have hsz1:(Tryz.prog.info? 34).map (·.size)=some (bvs (aI c.key h (bd c.wd c.key d0 (av c.wd p) h) (av c.wd p h)).1).length:=by rw[ag];simp[bvs,I.o.2.1]
     have hsz2:(Tryz.prog.info? 34).map (·.size)=some (bvs (aI c.key h (bd c.wd c.key d0 (av c.wd p) h) (av c.wd p h)).2).length:=by rw[ag];simp[bvs,I.o.2.2.2]
     refine wp_region_held_drew (S:=fun w'=>w'.cell? ⟨g,0,none⟩=some (.int .i64 c.wd)/\w'.rangeAt a1 0 (bvs (aI c.key h (bd c.wd c.key d0 (av c.wd p) h) (av c.wd p h)).1)/\w'.rangeAt a2 0 (bvs (aI c.key h (bd c.wd c.key d0 (av c.wd p) h) (av c.wd p h)).2)) (by kernel_rfl) ⟨(bF (c:=c.blanked b7) L.o.ck L.o.ok).1,ab.range Y.o,ab.range Z.o⟩ fun hH=>?_;replace L:Hd (aX wc.drew g (c.blanked b7) p):=L.o.below (af (Below.refl _ _) 1);replace z:Hd (J (h+1) U7 wc.drew):=D.o.keep z.o (ae.ofBelow (af (Below.refl _ _) 1)) fun _ h=>h.elim;replace HA:Hd (ae (fun B=>U B∨B=g) w wc.drew):=HA.o.drewN 1;replace HB:Hd (ar wc.drew w.heap.size 34 (bd c.wd c.key d0 (av c.wd p) h)):=HB.o;replace HC:Hd (ar wc.drew (w.heap.size+1) 34 (zs 32)):=HC.o;replace Y:Hd (ar wc.drew a1 34 (aI c.key h (bd c.wd c.key d0 (av c.wd p) h) (av c.wd p h)).1):=Y.o;replace Z:Hd (ar wc.drew a2 34 (aI c.key h (bd c.wd c.key d0 (av c.wd p) h) (av c.wd p h)).2):=Z.o;clear JJ;generalize wc.drew=v1 at*;refine tka 0 ?_;refine tka 1 ?_;refine tka 2 ?_;refine tka 3 ?_;refine tkl 4 ?_;refine tkl 5 ?_;clear hH hu hsz1 hsz2;refine rdy 6 fun K hK=>?_;go_simp;go_at_call 49;refine(jI c.wd _ _ v1 I.o.1 I.o.2.1 I.o.2.2.1 I.o.2.2.2 L.o.tabs).mono ?_;rintro e v2⟨rfl,hb2⟩;rw[<-H9.o h];have Hc:Hd (aX v2 g (c.blanked b7) p):=L.o.below hb2;have JK:Hd (J (h+1) U7 v2):=D.o.keep z.o (ae.ofBelow hb2) fun _ h=>h.elim;have JL:Hd (ae (fun B=>U B∨B=g) w v2):=HA.o.trans ((ae.ofBelow hb2).mono fun _ _ h=>h.elim);have JM:Hd (ar v2 w.heap.size 34 (bd c.wd c.key d0 (av c.wd p) h)):=ab.below HB.o hb2;have JN:=dA HC hb2;have H0:Hd (ar v2 a1 34 (aI c.key h (bd c.wd c.key d0 (av c.wd p) h) (av c.wd p h)).1):=ab.below Y.o hb2;have H3:Hd (ar v2 a2 34 (aI c.key h (bd c.wd c.key d0 (av c.wd p) h) (av c.wd p h)).2):=ab.below Z.o hb2;refine hK.out _ _ ⟨(bF (c:=c.blanked b7) Hc.o.ck Hc.o.ok).1,ab.range H0.o,ab.range H3.o⟩ (fun hH=>?_);clear hK hb2 L z HA HB HC Y Z;refine rdy 7 fun K hK=>?_;refine aA (o:=⟨none,_,_,_,_,_⟩) (by rfl) 34 (.tmp 4) (.tmp 55) rfl 0 [] (bvs (bd c.wd c.key d0 (av c.wd p) h)) (bvs (bd c.wd c.key d0 (av c.wd p) (h+1))) [] rfl rfl (bj JM.o) rfl (by simp[bvs,(F.o _).1]) (by rw[ag];simp[bvs,(F.o _).1]) (fun u hu=>ah _ u hu) ?_;intro v3 h3 g3;have ht3:ae (fun B=>B=w.heap.size) v2 v3:=ae.one g3;have JO:Hd (Far (fun B=>B=w.heap.size) g (c.blanked b7)):=by
      have hr0:=d.o;refine⟨by have:=Q.o;omega,fun B hB e=>by have:=(di hr0.sums hB).2;omega,fun B hB e=>?_,by have:=hr0.tabs.lt.1;omega,by have:=hr0.tabs.lt.2;omega⟩;rcases Hw.o with h1|⟨B',h1,h2⟩
      ·have h3:b7.ownBlock=some B:=hB;rw[h1]at h3;have:=hr0.blank.own B h3;omega
      ·have h3:b7.ownBlock=some B:=hB;rw[h2]at h3;injection h3 with h3;have h4:B'=B:=h3;have:=P.o;omega
     have He:Hd (aX v3 g (c.blanked b7) p):=Hc.o.far ht3 JO.o;have JP:Hd (J (h+1) U7 v3):=D.o.keep JK.o ht3 fun B hB h1=>Hx.o (hB▸h1);have JQ:Hd (ae (fun B=>U B∨B=g) w v3):=JL.o.andThen ht3 fun B hB h1=>by omega
     have JR:Hd (ar v3 w.heap.size 34 (bd c.wd c.key d0 (av c.wd p) (h+1))):=aN h3;have JS:Hd (ar v3 (w.heap.size+1) 34 (zs 32)):=ht3.blk JN.o (by omega);refine hK.out _ _ ⟨(bF (c:=c.blanked b7) He.o.ck He.o.ok).1,ab.range (ht3.blk H0.o (by have:=Hz.o;have:=R.o;omega)),ab.range (ht3.blk H3.o (by have:=Hz.o;have:=R.o;omega))⟩ (fun hH=>?_);clear hK hH h3 g3 ht3;refine bN ?_;go_wp2_with fail;go_roundg(256-(h+1))
     case measure=>omega
     case rel=>exact⟨h+1,by omega,rfl,by go_num,by rw[<-HQ.o],⟨U7,b7,JP.o,He.o,Hw.o,JE.o,JF.o,Hx.o,JG.o⟩,JQ.o,JR.o,JS.o⟩
  ·have hh256:h=256:=by omega
   subst hh256;obtain⟨Ui,bi,hj,hr,hnb,hnu,hf,hn1,hn2⟩:=HI.o;have a:=aa (F.o 256);go_wp2_with(first|(refine ac (o:=⟨some 57,_,_,_,_,_⟩) (by rfl) 34 (.tmp 4) rfl ⟨w.heap.size,0,none⟩ 32 (bd c.wd c.key d0 (av c.wd p) 256) rfl (HD.o.whole a.o.2 a.o.1) (by omega) (by kernel_rfl) (by kernel_rfl) ?_)|(refine aq (o:=⟨none,_,_,_,_,_⟩) (by rfl) 34 (.tmp 6) (.tmp 57) rfl 0 [] (bvs (zs 32)) (bvs (bd c.wd c.key d0 (av c.wd p) 256)) [] rfl rfl (bj f.o) rfl (by simp[bvs,zs,a.o.1]) (by rw[ag];simp[bvs,a.o.1]) (fun u hu=>ah _ u hu) ?_;intro vf hvf gvf));have htf:ae (fun B=>B=w.heap.size+1) wr vf:=ae.one gvf;have hr0:=d.o;have hff:Far (fun B=>B=w.heap.size+1) g (c.blanked bi):=by
    refine⟨by have:=hr0.ck.lt;omega,fun B hB e=>by have:=(di hr0.sums hB).2;omega,fun B hB e=>?_,by have:=hr0.tabs.lt.1;omega,by have:=hr0.tabs.lt.2;omega⟩;rcases hnb with h1|⟨B',h1,h2⟩
    ·have h3:bi.ownBlock=some B:=hB;rw[h1]at h3;have:=hr0.blank.own B h3;omega
    ·have h3:bi.ownBlock=some B:=hB;rw[h2]at h3;injection h3 with h3;have h4:B'=B:=h3;have:=P.o;omega
   have hnb0:me w b bi:=by
    rcases hnb with h1|⟨B',h1,h2⟩
    ·exact .inl h1
    ·exact .inr ⟨B',by have:=P.o;omega,h2⟩
   exact bH rfl rfl (aN hvf) a.o.1 aF ag rfl ⟨rfl,Ui,bi,D.o.keep hj htf (fun B hB h1=>hn2 (hB▸h1)),hr.far htf hff,hnb0,HT.o.andThen htf (fun B hB h1=>by omega),hnu,hf⟩
end Go.Proofs.YtfnlhfaihoojfaaGreatDoor
