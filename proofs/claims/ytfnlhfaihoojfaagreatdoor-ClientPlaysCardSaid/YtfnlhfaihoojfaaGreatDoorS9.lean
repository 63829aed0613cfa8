/- Texts of the proof of ledgerlaw13.ClientPlays, part 9; no condition of its own. -/
import Derived.Test.YtfnlhfaihoojfaaGreatDoorS8
set_option maxRecDepth 100000
set_option maxHeartbeats 4000000
namespace Go.Proofs.YtfnlhfaihoojfaaGreatDoor
open Go.RowKit
def prC(f:Bool)(v:Value)(bits:List Nat)(s:Value):List Value:= .bool f::v::(bvs bits++[s])
abbrev cG(w:World)(g:Nat)(f:Bool)(v:Value)(bits:List Nat)(s:Value):Prop:=ab w g 94 (prC f v bits s).toArray
abbrev UT2(a b:Nat)(B:Nat):Prop:=B=a∨B=b
def mw(gr gp:Nat)(xs:List Nat)(w:World)(e:Ending)(w':World):Prop:=ae (UT2 gr gp) w w'/\(dQ xs=none->e= .returned (.bool false))/\∀f v r,dQ xs=some (f,v,r)->e= .returned (.bool true)/\∃V A' c',cG w' gp f V (zs 32) (.slice none 0 0)/\bn w' w.heap.size V v/\jS w' gr A' r.length c' false/\RB w' A' r.length r/\r.length<=c'/\c'<=maxLen/\(A'=none->c'=0)/\(∀ad,A'=some ad->ad.block≠gr/\ad.block≠gp/\ad.block<w.heap.size)
theorem qL{xs:List Nat}(h:xs.length=0):dQ xs=none:=by unfold dQ;rw[if_pos h]
theorem oO{xs:List Nat}(h:xs.length≠0)(h0:xs.getD 0 0=0):dQ xs=some (false,[],xs.drop 1):=by unfold dQ;rw[if_neg h,if_pos h0]
theorem qK{xs:List Nat}(h:xs.length≠0)(h0:xs.getD 0 0=1):dQ xs=if 3<=xs.length/\Ae (xs.drop 1)<=128/\3+Ae (xs.drop 1)<=xs.length then some (true,(xs.drop 3).take (Ae (xs.drop 1)),xs.drop (3+Ae (xs.drop 1)))else none:=by
 unfold dQ;rw[if_neg h,if_neg (by omega),h0];have e:Ae (xs.drop 1)=xs.getD 1 0+256*xs.getD 2 0:=by
  unfold Ae;simp[List.getD]
 rw[e];simp
theorem nl{xs:List Nat}(h:xs.length≠0)(h0:xs.getD 0 0≠0)(h1:xs.getD 0 0≠1):dQ xs=none:=by
 unfold dQ;rw[if_neg h,if_neg h0,if_neg (fun x=>h1 x.1)]
theorem wK(gr gp:Nat)(A:Option Addr)(n c:Nat)(xs:List Nat)(w:World)(hr:jS w gr A n c false)(hx:RB w A n xs)(h0:xs.length=0):Calls Tryz.prog 102 #[.pointer (some ⟨gr,0,none⟩), .pointer (some ⟨gp,0,none⟩)] w (mw gr gp xs w):=by
 have B:=aa (jC gr A n c 1 false w hr (by have:=hx.1;omega));have C:=aa (qL h0);clear hr hx h0;go_enter Tryz.func102,Tryz.ntmps102;go_wp2_with fail;refine B.o.mono ?_;rintro e w1⟨rfl,h1,h2⟩;have D:=aa h2;clear h1 h2 B;have hny:=rT w1;go_wp2_with fail;go_ret;exact⟨(ae.one D.o).mono fun _ _ h=> .inl h,fun _=>rfl,fun f v r h=>by rw[C.o]at h;cases h⟩
theorem lL{w w':World}{g:Nat}{ad:Addr}{v:Value}(h:w.grownBy w' (some g))(hb:ad.block<w.heap.size)(hg:ad.block≠g)(hc:w.cell? ad=some v):w'.cell? ad=some v:=by
 rw[World.cell?_of_block (w:=w) (a:=ad) (h.block _ hb fun e=>by injection e with e;exact hg e)];exact hc
theorem wI(gr gp:Nat)(A:Option Addr)(n c:Nat)(xs:List Nat)(w:World)(hr:jS w gr A n c false)(hp:cG w gp false (.slice none 0 0) (zs 32) (.slice none 0 0))(hne:gr≠gp)(hx:RB w A n xs)(hg:∀ad,A=some ad->ad.block≠gr/\ad.block≠gp)(hnc:n<=c)(hA:A=none->c=0)(hc:c<=maxLen)(h0:xs.length≠0)(h1:xs.getD 0 0≠1):Calls Tryz.prog 102 #[.pointer (some ⟨gr,0,none⟩), .pointer (some ⟨gp,0,none⟩)] w (mw gr gp xs w):=by
 have hl:=hx.1;have E:=aa (jV gr A n c 1 false w hr (by omega) hnc hA hc);obtain⟨ad,rfl,hb,hc0⟩:=hx.at_ (show 0<n by omega);rw[show ad.add 0=ad by simp[Addr.add]]at hc0;have G:=aa hc0;have F:=aa hb;have C:=aa (hg ad rfl);have K:=aa hx;have L:=aa hp;have M:=aa hnc;have N:=aa hc;have H:=aa hl;have I:Hd (xs.getD 0 0=0->dQ xs=some (false,[],xs.drop 1)):=oO h0;have O:Hd (xs.getD 0 0≠0->dQ xs=none):=fun h=>nl h0 h h1;have P:=aa h0;have Q:=aa hne;clear hr hp hne hx hg hnc hA hc hb hc0 hl h0;generalize xs.getD 0 0=x0 at*;have hx1:¬(x0:Int)=1:=by omega
 clear h1;by_cases hx0:x0=0
 ·subst hx0;clear hx1;go_enter Tryz.func102,Tryz.ntmps102;go_wp2_with fail;refine E.o.mono ?_;rintro e w1⟨rfl,h1,h2⟩;have R:=aa h1;have D:=aa h2;have c1:=lL h2 F.o C.o.1 G.o;clear h1 h2 E;have hnn:=p9 ad 1 1 w1;go_wp2_with fail;go_ret;refine⟨(ae.one D.o).mono fun _ _ h=> .inl h,fun h=>?_,fun f v r h=>?_⟩
  ·rw[I.o trivial]at h;cases h
  ·rw[I.o trivial]at h;injection h with h;injection h with e1 h;injection h with e2 e3;subst e1 e2 e3;obtain⟨A',q1,q2,q3,q4⟩:=R.o;have hdl:(xs.drop 1).length=n-1:=by rw[List.length_drop,H.o]
   refine⟨rfl, .slice none 0 0,A',c-1,(ae.one D.o).blk L.o (fun e=>Q.o e.symm),Own.nil _ _ _,by rw[hdl];exact q1,?_,by rw[hdl];have:=M.o;omega,Nat.le_trans (Nat.sub_le _ _) N.o,q3,fun ad' e=>?_⟩
   ·rw[hdl];have hX1:=K.o.drop (k:=1) (B:=A') (by have:=P.o;have:=H.o;omega) q2;exact(ae.one D.o).rb hX1 fun ad' e e2=>by
     obtain⟨ad2,r1,r2⟩:=q4 ad' e;injection r1 with r1;subst r1;exact C.o.1 (r2.symm.trans e2)
   ·obtain⟨ad2,r1,r2⟩:=q4 ad' e;injection r1 with r1;subst r1;rw[r2];exact⟨C.o.1,C.o.2,F.o⟩
 ·have hx2:¬(x0:Int)=0:=by omega
  have J:=O.o hx0;have S:=aa J;clear J hx0;go_enter Tryz.func102,Tryz.ntmps102;go_wp2_with fail;refine E.o.mono ?_;rintro e w1⟨rfl,h1,h2⟩;have D:=aa h2;have c1:=lL h2 F.o C.o.1 G.o;clear h1 h2 E;have hnn:=p9 ad 1 1 w1;go_wp2_with fail;go_ret;exact⟨(ae.one D.o).mono fun _ _ h=> .inl h,fun _=>rfl,fun f v r h=>by rw[S.o]at h;cases h⟩
theorem eL{w:World}{g:Nat}{f:Bool}{v s:Value}{bits:List Nat}(h:cG w g f v bits s):w.cell? ⟨g,0,none⟩=some (.bool f)/\w.cell? ⟨g,1,none⟩=some v/\w.frozen? ⟨g,0,none⟩=false/\w.frozen? ⟨g,1,none⟩=false:=⟨h.cell 0,h.cell 1,h.frozen 0,h.frozen 1⟩
theorem cG.found{w:World}{g:Nat}{f:Bool}{v s:Value}{bits:List Nat}(h:cG w g f v bits s)(f':Bool):cG (w.setCell ⟨g,0,none⟩ (.bool f')) g f' v bits s:=by
 have h1:=ab.stored h 0 (.bool f');have e:(prC f v bits s).toArray.setIfInBounds 0 (.bool f')=(prC f' v bits s).toArray:=by simp[prC]
 rw[e]at h1;exact h1
theorem cG.val{w:World}{g:Nat}{f:Bool}{v s:Value}{bits:List Nat}(h:cG w g f v bits s)(v':Value):cG (w.setCell ⟨g,1,none⟩ v') g f v' bits s:=by
 have h1:=ab.stored h 1 v';have e:(prC f v bits s).toArray.setIfInBounds 1 v'=(prC f v' bits s).toArray:=by simp[prC]
 rw[e]at h1;exact h1
structure Mid(U:Nat->Prop)(gr:Nat)(ad:Addr)(n c k:Nat)(w0 w:World):Prop where
 rd:∃A',jS w gr A' (n-k) (c-k) false/\(k<n->A'=some (ad.add k))/\(A'=none->c-k=0)/\∀ad',A'=some ad'->ad'.block=ad.block
 touch:ae U w0 w
theorem Mid.of{U:Nat->Prop}{gr n c k j:Nat}{ad:Addr}{w0 w w':World}{A:Option Addr}(ht:ae U w0 w)(hU:U gr)(hA:j<n->A=some (ad.add j))(hb:∀ad',A=some ad'->ad'.block=ad.block)(hg:w.grownBy w' (some gr))(h:∃A',jS w' gr A' (n-j-k) (c-j-k) false/\(k<n-j->A'=A.map (·.add k))/\(A'=none->c-j-k=0)/\∀ad',A'=some ad'->∃ad,A=some ad/\ad'.block=ad.block):Mid U gr ad n c (j+k) w0 w':=by
 obtain⟨A',h1,h2,h3,h4⟩:=h;refine⟨⟨A',by rwa[Nat.sub_sub,Nat.sub_sub]at h1,fun hk=>?_,fun e=>by have:=h3 e;omega,fun ad' e=>?_⟩,ht.trans ((ae.one hg).mono fun _ _ h=>by rw[h];exact hU)⟩
 ·rw[h2 (by omega),hA (by omega)];show some ((ad.add j).add k)=_;rw[x4]
 ·obtain⟨ad2,e1,e2⟩:=h4 ad' e;rw[e2,hb ad2 e1]
section
variable{U:Nat->Prop}{gr gp n c k:Nat}{ad:Addr}{xs:List Nat}{w0 w w':World}
theorem Mid.rb(h:Mid U gr ad n c k w0 w)(hx:RB w0 (some ad) n xs)(hg:¬U ad.block)(hk:k<=n):∃A',jS w gr A' (n-k) (c-k) false/\RB w A' (n-k) (xs.drop k)/\(k<n->A'=some (ad.add k))/\(A'=none->c-k=0)/\∀ad',A'=some ad'->ad'.block=ad.block:=by
 obtain⟨A',h1,h2,h3,h4⟩:=h.rd;refine⟨A',h1,?_,h2,h3,h4⟩;exact(h.touch.rb hx fun ad' e=>by
  injection e with e;subst e;exact hg).drop hk fun hk=>by rw[h2 hk];rfl
theorem Mid.next(h:Mid U gr ad n c k w0 w){V:Nat->Prop}(ht:ae V w w')(hr:¬V gr)(hUV:∀B,V B->U B):Mid U gr ad n c k w0 w':=by
 obtain⟨A',h1,h2,h3,h4⟩:=h.rd;exact⟨⟨A',ht.blk h1 hr,h2,h3,h4⟩,h.touch.trans (ht.mono fun B _ hB=>hUV B hB)⟩
theorem Mid.wide(h:Mid U gr ad n c k w0 w){V:Nat->Prop}(hUV:∀B,U B->V B):Mid V gr ad n c k w0 w:=⟨h.rd,h.touch.mono fun B _ hB=>hUV B hB⟩
end
theorem wJ(gr gp:Nat)(A:Option Addr)(n c:Nat)(xs:List Nat)(w:World)(hr:jS w gr A n c false)(hp:cG w gp false (.slice none 0 0) (zs 32) (.slice none 0 0))(hne:gr≠gp)(hx:RB w A n xs)(hg:∀ad,A=some ad->ad.block≠gr/\ad.block≠gp)(hnc:n<=c)(hA:A=none->c=0)(hc:c<=maxLen)(h0:xs.length≠0)(h1:xs.getD 0 0=1):Calls Tryz.prog 102 #[.pointer (some ⟨gr,0,none⟩), .pointer (some ⟨gp,0,none⟩)] w (mw gr gp xs w):=by
 have hl:=hx.1;have Q:=aa (jV gr A n c 1 false w hr (by omega) hnc hA hc);obtain⟨ad,rfl,hb,hc0⟩:=hx.at_ (show 0<n by omega);rw[show ad.add 0=ad by simp[Addr.add],h1]at hc0;have R:=aa hc0;have S:=aa hb;have D:=aa (hg ad rfl);have M:=aa hx;have T:=aa hp;have J:=aa hnc;have G:=aa hl;have N:=aa hc;have K:=aa (qK h0 h1);have b:Hd (0<n):=(by omega:0<n);have C:=aa hne;have t:=aa hA;clear hr hp hne hx hg hnc hA hc hb hc0 hl h0 h1;have W:Hd (∀w1,w.grownBy w1 (some gr)->(∃A',jS w1 gr A' (n-1) (c-1) false/\(1<n->A'=(some ad:Option Addr).map (·.add 1))/\(A'=none->c-1=0)/\∀ad',A'=some ad'->∃ad2,some ad=some ad2/\ad'.block=ad2.block)->Mid (fun B=>B=gr) gr ad n c 1 w w1):=fun w1 h2 h=>by
  have:=Mid.of (U:=fun B=>B=gr) (gr:=gr) (n:=n) (c:=c) (k:=1) (j:=0) (ad:=ad) (w0:=w) (w:=w) (w':=w1) (A:=some ad) (ae.refl _ _) rfl (fun _=>by simp[Addr.add]) (fun ad' e=>by injection e with e;rw[e]) h2 h;exact this
 go_enter Tryz.func102,Tryz.ntmps102;go_wp2_with fail;refine Q.o.mono ?_;rintro e w1⟨rfl,h1,h2⟩;have M1:=aa (W.o w1 h2 h1);have c1:=lL h2 S.o D.o.1 R.o;clear h1 h2 Q W R;have hnn:=p9 ad 1 1 w1;go_wp2_with fail;clear hnn c1;obtain⟨A1,r1,x1,a1,nil1,blk1⟩:=M1.o.rb M.o D.o.1 b.o;by_cases h3:3<=n
 ·refine(yR gr A1 (n-1) (c-1) (xs.drop 1) false w1 r1 x1 (fun ad' e=>by rw[blk1 ad' e];exact D.o.1) (by omega) (by have:=J.o;omega) nil1 (by have:=N.o;omega)).mono ?_;rintro e w2⟨rfl,h1,h2⟩;have M2:Hd (Mid (fun B=>B=gr) gr ad n c 3 w w2):=Mid.of (j:=1) (k:=2) M1.o.touch rfl a1 blk1 h2 h1;clear h1 h2 r1 x1 a1 nil1 blk1 M1;have E:=aa (M2.o.touch.blk T.o fun e=>C.o e.symm);generalize Ae (xs.drop 1)=q at*;by_cases hq:(128:Int)<q
  ·have H:Hd (dQ xs=none):=by
    show dQ xs=none;rw[K.o,if_neg (by have:=G.o;omega)]
   go_wp2_with fail;go_ret;exact⟨M2.o.touch.mono fun _ _ h=> .inl h,fun _=>rfl,fun f v r h=>by rw[H.o]at h;cases h⟩
  ·obtain⟨p0,p1,pf0,pf1⟩:=eL E.o;have L:Hd (cG (w2.setCell ⟨gp,0,none⟩ (.bool true)) gp true (.slice none 0 0) (zs 32) (.slice none 0 0)):=cG.found E.o true;have M3:Hd (Mid (UT2 gr gp) gr ad n c 3 w (w2.setCell ⟨gp,0,none⟩ (.bool true))):=(M2.o.wide fun _ h=> .inl h).next (V:=fun B=>B=gp) (ae.one (ai _ _ _)) C.o fun _ h=> .inr h;have hq2:(q:Int)<=128:=by omega
   go_wp2_with fail;clear p0 p1 pf0 pf1 E M2;generalize w2.setCell ⟨gp,0,none⟩ (.bool true)=w3 at*;obtain⟨A3,r3,x3,a3,nil3,blk3⟩:=M3.o.rb M.o (fun h=>h.elim D.o.1 D.o.2) h3;by_cases hcut:n-3<q
   ·refine(jC gr A3 (n-3) (c-3) q false w3 r3 hcut).mono ?_;rintro e w4⟨rfl,h1,h2⟩;have F:=aa ((ae.one h2).blk L.o fun e=>C.o e.symm);have I:=aa h1;have O:=aa (M3.o.touch.trans ((ae.one h2).mono fun _ _ h=>Or.inl h));have H:Hd (dQ xs=none):=by
     show dQ xs=none;rw[K.o,if_neg (by have:=G.o;omega)]
    clear h1 h2 r3 x3 a3 nil3 blk3 M3;have pc:=eL F.o;have hd:=(fE (ab.far I.o (p:=⟨gp,1,none⟩) C.o (.slice none 0 0))).2.1;go_wp2_with fail;go_ret;exact⟨O.o.trans ((ae.one (ai _ _ _)).mono fun _ _ h=>Or.inr h),fun _=>rfl,fun f v r h=>by rw[H.o]at h;cases h⟩
   ·refine(jV gr A3 (n-3) (c-3) q false w3 r3 (by omega) (by have:=J.o;omega) nil3 (by have:=N.o;omega)).mono ?_;rintro e w4⟨rfl,h1,h2⟩;have F:=aa ((ae.one h2).blk L.o fun e=>C.o e.symm);have M4:Hd (Mid (UT2 gr gp) gr ad n c (3+q) w w4):=Mid.of (j:=3) (k:=q) M3.o.touch (.inl rfl) a3 blk3 h2 h1;have d:Hd (RB w4 A3 q ((xs.drop 3).take q)):=((ae.one h2).rb x3 fun ad' e e2=>D.o.1 ((blk3 ad' e).symm.trans e2)).take (by omega);have g:Hd (A3=none->q=0):=fun e=>by have:=nil3 e;have:=J.o;omega
    have X:Hd (dQ xs=some (true,(xs.drop 3).take q,xs.drop (3+q))):=by
     show dQ xs=_;rw[K.o,if_pos (by have:=G.o;omega)]
    have i:Hd (w.heap.size<=w4.heap.size):=M4.o.touch.size;have l:Hd (gp<w4.heap.size):=F.o.lt;obtain⟨A4,hr4,_⟩:=M4.o.rd;have I:=aa hr4;clear h1 h2 r3 x3 a3 nil3 blk3 M3 hr4;generalize(xs.drop 3).take q=vs at*;go_wp2_with(at_builtin;refine dc (o:=⟨some 33,_,_,_,_,_⟩) ax aH w4 rfl (.const (.slice none 0 0)) (.tmp 32) rfl w4.heap.size _ [] (Own.nil _ _ _) A3 q q vs d.o g.o rfl rfl (by simp;omega) (Nat.le_refl _) ?_;intro v5 w5 ho hg5;replace ho:bn w5 w4.heap.size v5 vs:=ho;obtain⟨A5,c5,rfl,_⟩:=ho.form;have Y:=aa ho;have P:Hd (Below w4.heap.size w4 w5):=⟨hg5.os,hg5.tape,hg5.output,hg5.size,fun k hk=>hg5.block k hk (by simp[Value.ownBlock])⟩;have Z:=aa (ab.below F.o P.o);have m:=aa (ab.below I.o P.o);have pc:=eL Z.o;have hd:=(fE (ab.far m.o (p:=⟨gp,1,none⟩) C.o (.slice A5 vs.length c5))).2.1;clear ho hg5);go_ret;have M6:=(M4.o.next (V:=fun _=>False) (ae.ofBelow P.o) (fun h=>h) (fun _ h=>h.elim)).next (V:=fun B=>B=gp) (ae.one (ai w5 1 (.slice A5 vs.length c5))) C.o fun _ h=> .inr h;refine⟨M6.touch,fun h=>(by rw[X.o]at h;cases h),fun f v r h=>?_⟩;rw[X.o]at h;injection h with h;injection h with e1 h;injection h with e2 e3;subst e1 e2 e3;obtain⟨A6,r6,x6,a6,n6,b6⟩:=M6.rb M.o (fun h=>h.elim D.o.1 D.o.2) (by omega);have hdl:(xs.drop (3+q)).length=n-(3+q):=by rw[List.length_drop,G.o]
    refine⟨rfl,_,A6,c-(3+q),cG.val Z.o _,(ae.one (ai w5 1 _)).own (Y.o.mono i.o) fun B hB e=>by have:=(Y.o.lt B hB).1;have:=l.o;omega,by rw[hdl];exact r6,by rw[hdl];exact x6,by rw[hdl];have:=J.o;omega,Nat.le_trans (Nat.sub_le _ _) N.o,n6,fun ad' e=>?_⟩;rw[b6 ad' e];exact⟨D.o.1,D.o.2,S.o⟩
 ·refine(rv gr A1 (n-1) (c-1) false w1 r1 (by omega)).mono ?_;rintro e w2⟨rfl,h1,h2⟩;have H:Hd (dQ xs=none):=by
   show dQ xs=none;rw[K.o,if_neg (by have:=G.o;omega)]
  have M2:=aa (M1.o.touch.trans (ae.one h2));have a:=aa h1;have E:=aa (M2.o.blk T.o fun e=>C.o e.symm);obtain⟨p0,p1,pf0,pf1⟩:=eL E.o;have L:Hd (cG (w2.setCell ⟨gp,0,none⟩ (.bool true)) gp true (.slice none 0 0) (zs 32) (.slice none 0 0)):=cG.found E.o true;have s:Hd (jS (w2.setCell ⟨gp,0,none⟩ (.bool true)) gr none 0 0 true):=ab.far a.o C.o _;have M3:Hd (ae (UT2 gr gp) w (w2.setCell ⟨gp,0,none⟩ (.bool true))):=(M2.o.mono fun _ _ h=>Or.inl h).trans ((ae.one (ai _ _ _)).mono fun _ _ h=>Or.inr h);clear h1 h2 r1 x1 a1 nil1 blk1 M1;go_wp2_with fail;clear p0 p1 pf0 pf1 E a M2;generalize w2.setCell ⟨gp,0,none⟩ (.bool true)=w3 at*;refine(jV gr none 0 0 0 true w3 s.o (Nat.le_refl _) (Nat.le_refl _) (fun _=>rfl) (Nat.zero_le _)).mono ?_;rintro e w4⟨rfl,⟨A4,h1,_,h5,_⟩,h2⟩;have F:=aa ((ae.one h2).blk L.o fun e=>C.o e.symm);have I:=aa h1;have O:=aa (M3.o.trans ((ae.one h2).mono fun _ _ h=>Or.inl h));clear h1 h2 h5;have pc:=eL F.o;have hd:=(fE (ab.far I.o (p:=⟨gp,1,none⟩) C.o (.slice none 0 0))).2.1;go_wp2_with fail;go_ret;exact⟨O.o.trans ((ae.one (ai _ _ _)).mono fun _ _ h=>Or.inr h),fun _=>rfl,fun f v r h=>by rw[H.o]at h;cases h⟩
theorem wL(gr gp:Nat)(A:Option Addr)(n c:Nat)(xs:List Nat)(w:World)(hr:jS w gr A n c false)(hp:cG w gp false (.slice none 0 0) (zs 32) (.slice none 0 0))(hne:gr≠gp)(hx:RB w A n xs)(hg:∀ad,A=some ad->ad.block≠gr/\ad.block≠gp)(hnc:n<=c)(hA:A=none->c=0)(hc:c<=maxLen):Calls Tryz.prog 102 #[.pointer (some ⟨gr,0,none⟩), .pointer (some ⟨gp,0,none⟩)] w (mw gr gp xs w):=by
 by_cases h0:xs.length=0
 ·exact wK gr gp A n c xs w hr hx h0
 ·by_cases h1:xs.getD 0 0=1
  ·exact wJ gr gp A n c xs w hr hp hne hx hg hnc hA hc h0 h1
  ·exact wI gr gp A n c xs w hr hp hne hx hg hnc hA hc h0 h1
section
variable{P:Program}
theorem tI{ops:Array Oper}{Q:Exit->Act->World->Prop}{K:Act->World->Prop}{E:Prop}{o:Oper}{a:Act}{w:World}(hgd:o.guard=none)(d s:Operand)(dT sT:TypeId)(ho:o.op= .call {callee:= .builtin .copy,args:=#[d,s],argTypes:=#[dT,sT]})(elem:TypeId)(hu:P.underlying dT=some (.slice elem))(hsz:(P.info? elem).map (·.size)=some 1)(sp:Option Addr)(g off dLen dCap sLen sCap:Nat)(hd:a.eval d= .slice (some ⟨g,off,none⟩) dLen dCap)(hs:a.eval s= .slice sp sLen sCap)(L:List Value)(t:TypeId)(hL:ab w g t L.toArray)(xs:List Nat)(hx:RB w sp sLen xs)(hle:sLen<=dLen)(hfit:off+sLen<=L.length)(h:∀w',ab w' g t (splice L off (bvs xs)).toArray->w.grownBy w' (some g)->K (a.put o.dst (goInt sLen)) w'):if Region.wanted o (yielded ops a.tmps)=true then Oper.wp P o a w K Q else E:=by
 have hw:Region.wanted o (yielded ops a.tmps)=true:=by simp[Region.wanted,hgd]
 rw[if_pos hw];have hl:(bvs xs).length=sLen:=by simp[bvs,hx.1]
 by_cases h0:sLen=0
 ·obtain rfl:xs=[]:=List.eq_nil_of_length_eq_zero (by have:=hx.1;omega);subst h0;have hrun:=run_copy_none (P:=P) w dT sT o.type elem (some ⟨g,off,none⟩) sp dLen dCap 0 sCap hu hsz (by simp);unfold Oper.wp;simp[execOp,ho,resolve,invoke,builtin,hd,hs,hrun,Result.andThen];exact h w (by simpa[splice,bvs]using hL) (World.grownBy.refl w _)
 ·obtain⟨ad,rfl,_,hc⟩:=hx.2.2 (by omega);have hrun:=run_copy_row (P:=P) w dT sT o.type elem g off dLen dCap ad sLen sCap L.toArray t (bvs xs) hu hsz hL (by rw[hl];exact(Nat.min_eq_left hle).symm) (fun j v hj=>by
   simp only[bvs,List.getElem?_map,Option.map_eq_some_iff]at hj;obtain⟨y,hy,rfl⟩:=hj;exact hc j y hy) (by rw[hl];simpa using hfit) (ah xs);rw[hl]at hrun;unfold Oper.wp;simp[execOp,ho,resolve,invoke,builtin,hd,hs,hrun,Result.andThen];exact h _ (show _=_ by
   have:=setRow_heap w g L.toArray (L.take off++(bvs xs++L.drop (off+sLen))).toArray t (0,0) hL;simpa[splice,hl]using this) (fv _)
theorem mb{t e:TypeId}{z:Value}{by_:Nat}(ht:P.underlying t=some (.slice e))(hinfo:(P.info? e).map (fun i=>(i.zero,i.size,i.bytes))=some (some z,32,by_))(hzs:z.cells.size=32){o:Oper}{a:Act}(w:World)(s x:Operand)(ho:o.op= .call {callee:= .builtin .append,args:=#[s,x],argTypes:=#[t,t]})(base:Nat)(v:Value)(n:Nat)(xs:List Value)(hown:w.ownsRow base e 32 v n xs)(cs:List Value)(hcl:cs.length=32)(hone:∀u∈cs,u.oneCell'=true)(hs:a.eval s=v)(hx:a.eval x= .slice (some ⟨w.heap.size,0,none⟩) 1 1)(hlen:(n+1)*by_<=140737488355328)(hm:n+1<=140737488355328)(hbase:base<=w.heap.size):∃v' w',(execOp a.eval o).run P (w.alloc (.cells cs.toArray e))= .ok (.value v') w'/\w'.ownsRow base e 32 v' (n+1) (xs++cs)/\w.grownBy w' v.ownBlock/\iT w v v':=by
 obtain⟨i,hi,hz,hs1,hby⟩:=info_parts hinfo;obtain⟨v',w',hr,h1,h2,_,h4⟩:=run_append_own_at (P:=P) (w.alloc (.cells cs.toArray e)) base t o.type e i z 32 by_ ht hi hz hs1 hby hzs (by decide) v n xs (hown.alloc _) ⟨w.heap.size,0,none⟩ 1 1 cs (by omega) (fun j u hj=>by
   rw[add_lit,cell_of_row _ _ _ _ _ _ (heap_alloc_new w _),Nat.zero_add,List.getElem?_toArray];exact hj) hone (by unfold maxLen;omega) hlen (by simp;omega);refine⟨v',w',?_,h1,aE (World.grownBy_alloc _ _ _) h2,?_⟩
 ·unfold execOp;simp only[ho,resolve,invoke,builtin,Sem.run_bind,Sem.run_pure,Result.andThen_ok,List.map_toArray,List.map_cons,List.map_nil,hs,hx,hr]
 ·intro k hk;rcases h4 with h4|h4
  ·rw[h4]at hk;exact .inl hk
  ·rw[h4]at hk;injection hk with hk;simp at hk;exact .inr (by omega)
theorem pI{t e:TypeId}{z:Value}{by_:Nat}(ht:P.underlying t=some (.slice e))(hinfo:(P.info? e).map (fun i=>(i.zero,i.size,i.bytes))=some (some z,32,by_))(hzs:z.cells.size=32){ops:Array Oper}{Q:Exit->Act->World->Prop}{K:Act->World->Prop}{o:Oper}{a:Act}(hw:Region.wanted o (yielded ops a.tmps)=true)(w:World)(s x:Operand)(ho:o.op= .call {callee:= .builtin .append,args:=#[s,x],argTypes:=#[t,t]})(base:Nat)(v:Value)(n:Nat)(xs:List Value)(hown:w.ownsRow base e 32 v n xs)(cs:List Value)(hcl:cs.length=32)(hone:∀u∈cs,u.oneCell'=true)(hs:a.eval s=v)(hx:a.eval x= .slice (some ⟨w.heap.size,0,none⟩) 1 1)(hlen:(n+1)*by_<=140737488355328)(hm:n+1<=140737488355328)(hbase:base<=w.heap.size)(h:∀v' w',w'.ownsRow base e 32 v' (n+1) (xs++cs)->w.grownBy w' v.ownBlock->iT w v v'->K (a.put o.dst v') w'):if Region.wanted o (yielded ops a.tmps)=true then o.wp P a (w.alloc (.cells cs.toArray e)) K Q else K (a.put o.dst undef) (w.alloc (.cells cs.toArray e)):=by
 obtain⟨v',w',hr,h1,h2,h3⟩:=mb ht hinfo hzs w s x ho base v n xs hown cs hcl hone hs hx hlen hm hbase;rw[if_pos hw];unfold Oper.wp;rw[hr];exact h v' w' h1 h2 h3
end
theorem lF:(Tryz.prog.info? 94).map (fun i=>(i.zero,i.size))=some (some (.agg (prC false (.slice none 0 0) (zs 32) (.slice none 0 0)).toArray),35):=by kernel_rfl
theorem Da:(Tryz.prog.underlying 94).map (·.isRow)=some true:=by kernel_rfl
theorem lq:(Tryz.prog.info? 94).map (·.size)=some 35:=(zero_of_info lF).2
theorem a7{f:Bool}{v s:Value}{bits:List Nat}(h:bits.length=32):(prC f v bits s).length=35:=by simp[prC,bvs,h]
theorem oX{f:Bool}{v s:Value}{bits:List Nat}(hv:v.oneCell'=true)(hs:s.oneCell'=true):∀u∈prC f v bits s,u.oneCell'=true:=fun u hu=>by
 simp only[prC,List.mem_cons,List.mem_append,List.not_mem_nil,or_false]at hu;rcases hu with rfl|rfl|hu|rfl
 ·rfl
 ·exact hv
 ·exact ah bits u hu
 ·exact hs
section
variable{P:Program}
theorem xL(off:Nat):∀(xs:List Value)(k:Nat)(c:Array Value)(j:Nat),off+k+xs.length<=c.size->((xs.zipIdx k).foldl (fun(cs:Array Value)(p:Value×Nat)=>cs.setIfInBounds (off+p.2) p.1) c)[j]?=if off+k<=j/\j<off+k+xs.length then xs[j-(off+k)]?else c[j]?
 |[],k,c,j,_=>by
  rw[if_neg (by simp)];rfl
 |x::xs,k,c,j,h=>by
  rw[List.zipIdx_cons,List.foldl_cons,xL off xs (k+1) _ j (by simp at h⊢;omega)];simp only[List.length_cons]at h⊢;by_cases h1:off+(k+1)<=j/\j<off+(k+1)+xs.length
  ·rw[if_pos h1,if_pos (by omega),show j-(off+k)=(j-(off+(k+1)))+1by omega,List.getElem?_cons_succ]
  ·rw[if_neg h1];by_cases h2:j=off+k
   ·subst h2;rw[if_pos (by omega),Nat.sub_self,List.getElem?_cons_zero,Array.getElem?_setIfInBounds_self_of_lt (by omega)]
   ·rw[if_neg (by omega),Array.getElem?_setIfInBounds_ne (by omega)]
theorem uc(off:Nat)(v c:Array Value)(h:off+v.size<=c.size)(j:Nat):(v.zipIdx.foldl (fun(cs:Array Value)(p:Value×Nat)=>cs.setIfInBounds (off+p.2) p.1) c)[j]?=if off<=j/\j<off+v.size then v[j-off]?else c[j]?:=by
 have:=xL off v.toList 0 c j (by simpa using h);rw[Nat.add_zero]at this;rw[<-Array.foldl_toList,Array.toList_zipIdx,this];simp
theorem qN(off:Nat):∀(xs:List (Value×Nat))(c:Array Value),(xs.foldl (fun(cs:Array Value)(p:Value×Nat)=>cs.setIfInBounds (off+p.2) p.1) c).size=c.size
 |[],c=>rfl
 |x::xs,c=>by
  rw[List.foldl_cons,qN off xs];simp
theorem vX(v c:Array Value)(h:v.size=c.size):v.zipIdx.foldl (fun(cs:Array Value)(p:Value×Nat)=>cs.setIfInBounds (0+p.2) p.1) c=v:=by
 apply Array.ext_getElem?;intro j;rw[uc 0 v c (by omega) j];split
 ·rfl
 ·rw[Array.getElem?_eq_none (by omega),Array.getElem?_eq_none (by omega)]
theorem jm{t e:TypeId}{z:Value}{n:Nat}(ht:P.underlying t=some (.slice e))(hi:(P.info? e).map (fun i=>(i.zero,i.size))=some (some z,n))(h0:0<n)(h1:n<=1000)(v:Value)(hv:v.cells.size=n)(w:World):(Instr.buildSlice t 1 #[(0,v)]).run P w= .ok (.slice (some ⟨w.heap.size,0,none⟩) 1 1) (w.alloc (.cells v.cells e)):=by
 obtain⟨i,hi1,hi2,hi3⟩:∃i,P.info? e=some i/\i.zero=some z/\i.size=n:=by
  cases hq:P.info? e with
  |none=>simp[hq]at hi
  |some i=>
   simp[hq]at hi;exact⟨i,rfl,hi.1,hi.2⟩
 have hw:=vX v.cells ((Array.range (1*n)).map (z.cells[· %z.cells.size]!)) (by simp[hv]);have hfill:Instr.fill (fun i=>some (i*n,n)) ((Array.range (1*n)).map (z.cells[· %z.cells.size]!)) [(0,v)]=some v.cells:=by
  unfold Instr.fill;simp only[Nat.zero_mul];rw[if_neg (by simp[hv])];unfold Instr.fill;exact congrArg some hw
 have hsz:(sizeOf e).run P w= .ok n w:=by simp[sizeOf,typeInfo,hi1,hi3]
 have hze:(zeroValue e).run P w= .ok z w:=by simp[zeroValue,typeInfo,hi1,hi2]
 have g1:¬1*n>2^24:=by omega
 have g2:¬1*n=0:=by omega
 unfold Instr.buildSlice;simp only[Sem.run_bind,run_underlying ht,Result.andThen_ok,hsz,if_neg g1,if_neg g2,hze,Sem.run_pure,hfill];simp[newRow,newObj,Result.andThen];rfl
theorem el{ops:Array Oper}{Q:Exit->Act->World->Prop}{K:Act->World->Prop}{o:Oper}{a:Act}(hw:Region.wanted o (yielded ops a.tmps)=true)(w:World)(t e:TypeId)(z:Value)(n:Nat)(x:Operand)(ho:o.op= .buildSlice t 1 #[(0,x)])(ht:P.underlying t=some (.slice e))(hi:(P.info? e).map (fun i=>(i.zero,i.size))=some (some z,n))(h0:0<n)(h1:n<=1000)(cs:Array Value)(hx:a.eval x= .agg cs)(hv:cs.size=n)(h:K (a.put o.dst (.slice (some ⟨w.heap.size,0,none⟩) 1 1)) (w.alloc (.cells cs e))):if Region.wanted o (yielded ops a.tmps)=true then o.wp P a w K Q else K (a.put o.dst undef) w:=by
 rw[if_pos hw];have hr:=jm ht hi h0 h1 (.agg cs) hv w;unfold Oper.wp execOp;simp only[ho,List.map_toArray,List.map_cons,List.map_nil,hx,Sem.run_bind,hr,Result.andThen_ok,Sem.run_pure];exact h
end
section
variable{P:Program}{ops:Array Oper}{Q:Exit->Act->World->Prop}{md:Region.Mode}{S:World->Prop}{s:Nat}
def Fd(S:World->Prop)(s:Nat)(listed:Array Bool)(w:World):Prop:=listed.getD s true=false->S w
def fA(P:Program)(md:Region.Mode)(ops:Array Oper)(Q:Exit->Act->World->Prop)(S:World->Prop)(s:Nat):Nat->Array Bool->Act->World->Prop
 |0,listed,a,w=>Region.ready md ops listed=[]/\Q .normal a w
 |fuel+1,listed,a,w=>(Region.ready md ops listed=[]->Q .normal a w)/\∀i∈Region.ready md ops listed,wpOp P ops Q i (fun a' w'=>Fd S s (listed.setIfInBounds i true) w'/\fA P md ops Q S s fuel (listed.setIfInBounds i true) a' w') a w
theorem kT:∀(fuel:Nat)(listed:Array Bool)(a:Act)(w:World),fA P md ops Q S s fuel listed a w->wpAny P md ops Q fuel listed a w
 |0,_,_,_,h=>h
 |fuel+1,_,_,_,h=>⟨h.1,fun i hi=>wpOp_mono (fun a' w' h'=>kT fuel _ a' w' h'.2) (h.2 i hi)⟩
def jU(md:Region.Mode)(ops:Array Oper)(ch:List Nat)(i s:Nat):Bool:=ch.contains s&&(ch.all fun c=>match ops[c]?with
  |some oc=>oc.after.any fun e=>Region.binds md e&&(e.on==i||ch.contains e.on)
  |none=>false)
theorem yS{ch:List Nat}{i:Nat}{listed:Array Bool}(hch:jU md ops ch i s=true)(hi:listed.getD i true=false)(hun:∀c∈ch,listed.getD c true=false){j:Nat}(hj:j∈Region.ready md ops listed):j∉ch:=fun hc=>by
 obtain⟨_,oj,hoj,hall⟩:=mem_ready.1 hj;unfold jU at hch;rw[Bool.and_eq_true]at hch;have h1:=List.all_eq_true.1 hch.2 j hc;rw[hoj]at h1;dsimp only at h1;rw[Array.any_eq_true']at h1;obtain⟨e,he,h1⟩:=h1;rw[Bool.and_eq_true,Bool.or_eq_true,beq_iff_eq,List.contains_iff_mem]at h1;have h2:=hall e he h1.1;have h3:listed.getD e.on true=false:=by
  rcases h1.2with h3|h3
  ·rw[h3];exact hi
  ·exact hun _ h3
 rcases Nat.lt_or_ge e.on listed.size with h'|h'
 ·simp[h']at h2 h3;rw[h3]at h2;cases h2
 ·simp[Array.getElem?_eq_none h']at h2
theorem rj{i:Nat}{oi:Oper}{v:Value}{ch:List Nat}(hi:ops[i]?=some oi)(hsel:∀(j:Nat)(o:Oper)cs b,ops[j]?=some o->o.op≠ .select cs b)(hQ:∀c a w,Q (.panic c) (a.put oi.dst v) w->Q (.panic c) a w)(hch:jU md ops ch i s=true)(hni:i∉ch):∀(fuel:Nat)(listed:Array Bool)(a:Act)(w:World),(∀j oj,ops[j]?=some oj->j≠i->listed.getD j true=false->(∀e∈oj.after,Region.binds md e=true->e.on≠i)->oi.apart ops oj=true)->i∈Region.ready md ops listed->YieldsIf P ops S oi v a->S w->(∀c∈ch,listed.getD c true=false)->fA P md ops Q S s fuel (listed.setIfInBounds i true) (a.put oi.dst v) w->fA P md ops Q S s (fuel+1) listed a w:=by
 intro fuel;induction fuel with
 |zero=>
  intro listed a w _ hr hy hS hun H;refine⟨fun h=>(by rw[h]at hr;cases hr),fun j hj=>?_⟩;by_cases hji:j=i
  ·subst hji;exact hy.wpOp hi hS ⟨fun _=>hS,H⟩
  ·have:=ready_mono hj hji;rw[H.1]at this;cases this
 |succ fuel ih=>
  intro listed a w hfree hr hy hS hun H;refine⟨fun h=>(by rw[h]at hr;cases hr),fun j hj=>?_⟩;by_cases hji:j=i
  ·subst hji;exact hy.wpOp hi hS ⟨fun _=>hS,H⟩
  ·have h1:=H.2 j (ready_mono hj hji);have hi0:listed.getD i true=false:=(mem_ready.1 hr).1;have hjc:=yS hch hi0 hun hj;obtain⟨hjun,oj,hoj,hall⟩:=mem_ready.1 hj;have hnot:∀e∈oj.after,Region.binds md e=true->e.on≠i:=fun e he hb heq=>by
    have h1:=hall e he hb;rw[heq]at h1;rcases Nat.lt_or_ge i listed.size with h'|h'
    ·simp[h']at hi0 h1;rw[hi0]at h1;cases h1
    ·simp[Array.getElem?_eq_none h']at h1
   have h2:=wpOp_putIf hoj (hfree j oj hoj hji hjun hnot) (fun cs b=>hsel i oi cs b hi) (fun cs b=>hsel j oj cs b hoj) hQ hy h1;have hfree':∀k ok,ops[k]?=some ok->k≠i->(listed.setIfInBounds j true).getD k true=false->(∀e∈ok.after,Region.binds md e=true->e.on≠i)->oi.apart ops ok=true:=fun k ok hk hki hun2 hno=>by
    refine hfree k ok hk hki ?_ hno;by_cases hjk:j=k
    ·subst hjk;exact hjun
    ·rw[getD_set_ne true hjk]at hun2;exact hun2
   have hun':∀c∈ch,(listed.setIfInBounds j true).getD c true=false:=fun c hc=>by
    have hne:j≠c:=fun e=>hjc (by rw[e];exact hc);rw[getD_set_ne true hne];exact hun c hc
   have hsc:s∈ch:=by
    unfold jU at hch;rw[Bool.and_eq_true,List.contains_iff_mem]at hch;exact hch.1
   have hS':∀w':World,Fd S s ((listed.setIfInBounds i true).setIfInBounds j true) w'->S w':=fun w' h=>h (by
    have hn1:j≠s:=fun e=>hjc (by rw[e];exact hsc);have hn2:i≠s:=fun e=>hni (by rw[e];exact hsc);rw[getD_set_ne true hn1,getD_set_ne true hn2];exact hun s hsc);refine wpOp_mono (fun a' w' h3=>⟨fun _=>hS' w' h3.2.1,ih (listed.setIfInBounds j true) a' w' hfree' (ready_mono hr (Ne.symm hji)) h3.1 (hS' w' h3.2.1) hun' ?_⟩) h2;rw[Array.setIfInBounds_comm _ _ hji];exact h3.2.2
theorem m5{i:Nat}{oi:Oper}{v:Value}{fuel:Nat}{listed:Array Bool}{a:Act}{w:World}(ch:List Nat)(hi:ops[i]?=some oi)(hs:Region.noSelect ops=true)(hf:Region.free md ops listed i=true)(hr:(Region.ready md ops listed).contains i=true)(hQ:∀c a w,Q (.panic c) (a.put oi.dst v) w->Q (.panic c) a w)(hch:jU md ops ch i s=true)(hni:ch.contains i=false)(hun:(ch.all fun c=>!(listed.getD c true))=true)(hy:YieldsIf P ops S oi v a)(hS:S w)(h:fA P md ops Q S s fuel (listed.setIfInBounds i true) (a.put oi.dst v) w):fA P md ops Q S s (fuel+1) listed a w:=rj hi (Region.noSelect_spec hs) hQ hch (fun hc=>by rw[List.contains_iff_mem.2 hc]at hni;cases hni) fuel listed a w (Region.free_spec hi hf) (by simpa using hr) hy hS (fun c hc=>by
  have:=List.all_eq_true.1 hun c hc;simpa using this) h
theorem co{listed:Array Bool}{a:Act}{w:World}(hr:Region.ready md ops listed=[])(h:Q .normal a w):∀fuel,fA P md ops Q S s fuel listed a w
 |0=>⟨hr,h⟩
 |_+1=>⟨fun _=>h,by rw[hr];simp⟩
theorem b9{i:Nat}{o:Oper}{fuel:Nat}{listed:Array Bool}{a:Act}{w:World}(hr:Region.ready md ops listed=[i])(ho:ops[i]?=some o)(h:∀K':Act->World->Prop,Shut (∀a w,Fd S s (listed.setIfInBounds i true) w->fA P md ops Q S s fuel (listed.setIfInBounds i true) a w->K' a w)->if Region.wanted o (yielded ops a.tmps)=true then Oper.wp P o a w K' Q else K' (a.put o.dst undef) w):fA P md ops Q S s (fuel+1) listed a w:=⟨fun h0=>(by rw[hr]at h0;cases h0),fun j hj=>by
  rw[hr]at hj;obtain rfl:j=i:=by simpa using hj
  exact wpOp_step ho (fun K' hK=>h K' (fun a w hS hW=>hK a w ⟨hS,hW⟩))⟩
theorem tua{D:Option Nat}{o:Op}{t:TypeId}{p:String}{e:Array Edge}{g:Option (Nat×Bool)}{v:Value}{fuel:Nat}{listed:Array Bool}{a a':Act}{w:World}(i:Nat)(ch:List Nat)(h:fA P md ops Q S s fuel (listed.setIfInBounds i true) a' w)(hi:ops[i]?=some ⟨D,o,t,p,e,g⟩:=by exact rfl)(hs:Region.noSelect ops=true:=by kernel_rfl)(hf:Region.free md ops listed i=true:=by kernel_rfl)(hr:(Region.ready md ops listed).contains i=true:=by kernel_rfl)(hch:jU md ops ch i s=true:=by kernel_rfl)(hni:ch.contains i=false:=by kernel_rfl)(hun:(ch.all fun c=>!(listed.getD c true))=true:=by kernel_rfl)(hy:YieldsIf P ops S ⟨D,o,t,p,e,g⟩ v a:=by exact(Or.inl ⟨by rfl,fun w hw=>by((try dsimp only at hw);go_split_ands;go_simp;with_reducible rfl)⟩))(hQ:∀c a w,Q (.panic c) (a.put D v) w->Q (.panic c) a w:=by exact fun _ _ _ h=>h)(hS:S w:=by assumption)(hp:a.put D v=a':=by(try simp only[Act.put,LS]);(try with_reducible rfl)):fA P md ops Q S s (fuel+1) listed a w:=m5 ch hi hs hf hr hQ hch hni hun hy hS (hp▸h)
theorem tul{D:Option Nat}{o:Op}{t:TypeId}{p:String}{e:Array Edge}{g:Option (Nat×Bool)}{v:Value}{fuel:Nat}{listed:Array Bool}{a a':Act}{w:World}(i:Nat)(ch:List Nat)(h:fA P md ops Q S s fuel (listed.setIfInBounds i true) a' w)(hi:ops[i]?=some ⟨D,o,t,p,e,g⟩:=by exact rfl)(hs:Region.noSelect ops=true:=by kernel_rfl)(hf:Region.free md ops listed i=true:=by kernel_rfl)(hr:(Region.ready md ops listed).contains i=true:=by kernel_rfl)(hch:jU md ops ch i s=true:=by kernel_rfl)(hni:ch.contains i=false:=by kernel_rfl)(hun:(ch.all fun c=>!(listed.getD c true))=true:=by kernel_rfl)(hy:YieldsIf P ops S ⟨D,o,t,p,e,g⟩ v a:=by exact(yieldsIf_load_mid (by rfl) _ _ rfl _ _ rfl _ _ (fun w hw=>by(try dsimp only at hw);go_split_ands;assumption) (by assumption) rfl (by assumption)))(hQ:∀c a w,Q (.panic c) (a.put D v) w->Q (.panic c) a w:=by exact fun _ _ _ h=>h)(hS:S w:=by assumption)(hp:a.put D v=a':=by(try simp only[Act.put,LS]);(try with_reducible rfl)):fA P md ops Q S s (fuel+1) listed a w:=m5 ch hi hs hf hr hQ hch hni hun hy hS (hp▸h)
theorem rdu(i:Nat){o:Oper}{fuel:Nat}{listed:Array Bool}{a:Act}{w:World}(h:∀K':Act->World->Prop,Shut (∀a w,Fd S s (listed.setIfInBounds i true) w->fA P md ops Q S s fuel (listed.setIfInBounds i true) a w->K' a w)->if Region.wanted o (yielded ops a.tmps)=true then Oper.wp P o a w K' Q else K' (a.put o.dst undef) w)(ho:ops[i]?=some o:=by exact rfl)(hr:Region.ready md ops listed=[i]:=by kernel_rfl):fA P md ops Q S s (fuel+1) listed a w:=b9 hr ho h
theorem bA{id:Nat}{a:Act}{w:World}(s:Nat)(hm:P.follows .mixedOrders=true)(hS:S w.drew)(h:S w.drew->fA P .any ops Q S s ops.size (Array.replicate ops.size false) a w.drew):(Code.region id ops true).wp P Q a w:=wp_region_any hm (kT _ _ _ _ (h hS))
end
end Go.Proofs.YtfnlhfaihoojfaaGreatDoor
