/- Texts of the proof of ledgerlaw13.ClientPlays, part 15; no condition of its own. -/
import Derived.Laws.EntriesVeiled
import Derived.Test.YtfnlhfaihoojfaaGreatDoorS14
set_option maxRecDepth 100000
set_option maxHeartbeats 4000000
namespace Go.Proofs.YtfnlhfaihoojfaaGreatDoor
open Go.RowKit
theorem fN{P:Program}{fn:FuncId}{f:Func}(hf:P.funcs[fn]?=some f)(hb:f.body.isNone=false)(hn:(f.name== "runtime.NumGoroutine")=false)(args:Array Value)(w:World):(callFunc fn args).run P w= .ok (.enter fn args) w:=by
 have hb':¬f.body=none:=fun h=>by rw[h]at hb;cases hb
 have hn':¬f.name= "runtime.NumGoroutine":=by simpa using hn
 unfold callFunc;simp[Sem.run_bind,hf,hb',hn']
theorem BF(h:Int)(d n:List Nat)(w:World):Calls Tryz.prog 81 #[.int .i64 h, .agg (bvs d).toArray, .agg (bvs n).toArray] w fun e w'=>e= .returned (.tuple #[])/\Below w.heap.size w w':=by
 go_enter Tryz.func81,Tryz.ntmps81;go_wp2_with fail;exact bodyPost_end (results_none rfl _ _ _) rfl ⟨rfl,((Below.refl _ _).alloc (Nat.le_refl _) _).alloc (by simp) _⟩
theorem Cf(g:Nat)(c:Ck)(p:Pr)(ds:Nat->List Nat):Eye 81 #[] g c p ds (fun _ U _=>∀B,¬U B)where
 enters:=fN Tryz.func81 (by kernel_rfl) (by kernel_rfl)
 lt:=fun h B hB=>absurd hB (h B)
 keep:=fun h _ _=>h
 call:=fun h U b w _ hj hr hf=>(BF h (ds h) (av c.wd p h) w).mono fun _ w'⟨h1,h2⟩=>⟨h1,U,b,hj,hr.below h2, .inl rfl,(ae.ofBelow h2).mono fun _ _ h=>h.elim,mx.refl _ _,hf⟩
theorem uf{U:Nat->Prop}(h:∀B,¬U B)(g:Nat)(c:Ck):Far U g c:=⟨h _,fun B _=>h B,fun B _=>h B,h _,h _⟩
def Ck.ended(c:Ck)(fin:List Nat):Ck:={c with fin:=fin}
theorem aX.fin{w w':World}{g:Nat}{c:Ck}{p:Pr}{fin:List Nat}(h:aX w g c p)(ht:ae (fun B=>B=g) w w')(hc:fx w' g (c.ended fin))(hl:fin.length=32)(hB:IsB fin):aX w' g (c.ended fin) p:=by
 refine⟨hc,⟨h.ok.kl,h.ok.kB,h.ok.rl,h.ok.rB,h.ok.bl,h.ok.bB,hl,hB⟩,?_,ht.row h.sums h.notG,h.pok,h.bits,h.found,ht.tabs h.tabs h.g1 h.g2,h.g1,h.g2⟩;rcases h.blank with h1|⟨B,h1,h2⟩
 ·exact .inl h1
 ·exact .inr ⟨B,h1,ht.blk h2 (qa (cs:=(bvs (dS c.wd 256)).toArray) (cs':=c.C.toArray) (t:=34) (t':=96) h2 h.ck (by decide))⟩
def Led(g:Nat)(c:Ck)(p:Pr)(w:World)(e:Ending)(w':World):Prop:=e= .returned (.int .i64 (if bT c.wd c.key p 256=c.root then 0 else 131))/\(∃b fin,aX w' g ((c.blanked b).ended fin) p/\me w c.blank b)/\ae (fun B=>B=g) w w'
theorem yY(g:Nat)(c:Ck)(p:Pr)(w:World)(hr:aX w g c p)(hv:mz w c.v p.val):Calls Tryz.prog 45 #[.pointer (some ⟨g,0,none⟩)] w (Led g c p w):=by
 have D:=aa hr;have O:=aa hv;clear hr hv;go_enter Tryz.func45,Tryz.ntmps45;go_wp2_with fail;refine(jc g c p.val w D.o.ck D.o.ok O.o D.o.tabs).mono ?_;rintro e w1⟨rfl,hb1⟩;have J:Hd (aX w1 g c p):=D.o.below hb1;have H:Hd (ae (fun B=>B=g) w w1):=(ae.ofBelow hb1).mono fun _ _ h=>h.elim;have Q:Hd (bT c.wd c.key p 256=bd c.wd c.key (aZ c.wd (bQ c.key c.f p.val)) (av c.wd p) 256):=by
  show _=_;unfold bT;rw[D.o.found]
 clear hb1;go_wp2_with fail;refine(fX 81 #[] g c p (aZ c.wd (bQ c.key c.f p.val)) _ (fun _=>False) c.blank w1 (Cf g c p _) (fun _ h=>h) J.o (uf (fun _ h=>h) _ _) (aw _ _) (aY _ _)).mono ?_;rintro e w2⟨rfl,U2,b2,hj2,hr2,hnb2,ht2,hnu2,hf2⟩;have I:Hd (aX w2 g (c.blanked b2) p):=hr2;have R:Hd (ae (fun B=>B=g) w w2):=H.o.trans (ht2.mono fun B _ h=>h.elim (fun h=>h.elim) id);have K:Hd (me w c.blank b2):=(show me w c.blank c.blank from .inl rfl).trans hnb2 H.o.size;rw[<-Q.o];obtain⟨P,F⟩:∃P,Hd (P=bT c.wd c.key p 256):=⟨_,rfl⟩;have E:Hd (P.length=32/\IsB P):=by
  show _/\_;rw[F.o,fJ];exact⟨aw _ _,aY _ _⟩
 rw[<-F.o];have hci:ab w2 g 96 (((c.blanked b2).x66++prC c.f c.v c.bits c.s)++(bvs c.fin++[b2])).toArray:=by
  have h:ab w2 g _ (c.blanked b2).C.toArray:=I.o.ck;rw[Ck.byFin]at h;exact h
 have T:=aa hci;have hx66:((c.blanked b2).x66++prC c.f c.v c.bits c.s).length=101:=by rw[List.length_append,Ck.x66_length I.o.ok,a7 D.o.ok.bl]
 have L:=aa hx66;clear hr2 hnb2 ht2 hnu2 hf2 hj2 J H hci hx66;go_wp2_with(first|(refine aq (o:=⟨none,_,_,_,_,_⟩) (by rfl) 34 (.tmp 9) (.tmp 7) rfl 101 ((c.blanked b2).x66++prC c.f c.v c.bits c.s) (bvs c.fin) (bvs P) [b2] rfl rfl T.o L.o (by simp[bvs,D.o.ok.fl,E.o.1]) (by rw[ag];simp[bvs,E.o.1]) (fun u hu=>ah _ u hu) ?_;intro w3 h3 g3));have G:Hd (ae (fun B=>B=g) w w3):=R.o.trans (ae.one g3);have h3':fx w3 g ((c.blanked b2).ended P):=by
  show ab _ _ _ (Ck.C _).toArray;rw[Ck.byFin];exact h3
 have A:Hd (aX w3 g ((c.blanked b2).ended P) p):=I.o.fin (ae.one g3) h3' E.o.1 E.o.2;clear h3 g3 h3';obtain⟨qe,hqe⟩:∃qe:Bool,qe=decide (P=c.root):=⟨_,rfl⟩;have heq:∀w:World,(Op.equalIn 10000 34 (.agg (bvs P).toArray) (.agg (bvs c.root).toArray)).run Tryz.prog w= .ok qe w:=fun w=>by rw[hqe];exact fP w E.o.2 A.o.ok.rB E.o.1 A.o.ok.rl
 have M:=aa hqe;clear hqe;rename_i KK hKK;have N:=aa hKK;clear hKK;have hu:=bE;have hsz:(Tryz.prog.info? 34).map (·.size)=some (bvs P).length:=by rw[ag];simp[bvs,E.o.1]
 have hsz2:(Tryz.prog.info? 34).map (·.size)=some (bvs c.root).length:=by rw[ag];simp[bvs,show c.root.length=32from A.o.ok.rl]
 have hrf:w3.rangeAt g 101 (bvs P):=by
  have h:ab w3 g _ ((c.blanked b2).ended P).C.toArray:=A.o.ck;rw[Ck.byFin]at h;exact h.rangeOf L.o
 have hrr:w3.rangeAt g 34 (bvs c.root):=by
  have h:ab w3 g _ ((c.blanked b2).ended P).C.toArray:=A.o.ck;rw[Ck.byRoot]at h;exact h.rangeOf (by simp[bvs,show((c.blanked b2).ended P).key.length=32from A.o.ok.kl])
 refine wp_region_held_drew (S:=fun w'=>w'.rangeAt g 101 (bvs P)/\w'.rangeAt g 34 (bvs c.root)) (by kernel_rfl) ⟨hrf,hrr⟩ fun hH=>?_;clear hrf hrr;replace A:Hd (aX w3.drew g ((c.blanked b2).ended P) p):=A.o.below (af (Below.refl _ _) 1);replace G:Hd (ae (fun B=>B=g) w w3.drew):=G.o.drewN 1;generalize w3.drew=w4 at*;refine tka 0 ?_;refine tka 1 ?_;refine tka 2 ?_;refine tkl 3 ?_;refine tka 4 ?_;refine tka 5 ?_;refine tka 6 ?_;refine tkl 7 ?_;refine tka 8 ?_;refine bN ?_;change KK _ _;refine N.o _ _ ?_;clear heq N hH hsz hsz2;have U:Hd (P=bT c.wd c.key p 256):=F;cases qe with
 |true=>
  go_wp2_with fail;go_ret;exact⟨by rw[<-F.o,if_pos (of_decide_eq_true M.o.symm)];rfl,⟨b2,P,A.o,K.o⟩,G.o⟩
 |false=>
  go_wp2_with fail;go_ret;exact⟨by rw[<-F.o,if_neg (of_decide_eq_false M.o.symm)];rfl,⟨b2,P,A.o,K.o⟩,G.o⟩
def pg(n:Nat)(T:Nat->World->Prop)(E:Int->World->Prop)(e:Ending)(w':World):Prop:=∃r:Int,e= .returned (.int .i64 r)/\(r=0->T n w')/\(r≠0->E r w')
theorem m8(g G n c:Nat)(K:Nat->Nat)(T:Nat->World->Prop)(E:Int->World->Prop)(w:World)(hn:n<=4)(hK:∀i,i<n->∀(args:Array Value)(w:World),(callFunc (K i) args).run Tryz.prog w= .ok (.enter (K i) args) w)(hc:∀i w,T i w->∀j,j<n->w.cell? ⟨G,j,none⟩=some (.func (.func (K j)) #[.pointer (some ⟨g,0,none⟩)] #[]))(hs:∀i w,i<n->T i w->Calls Tryz.prog (K i) #[.pointer (some ⟨g,0,none⟩)] w fun e w'=>∃r:Int,e= .returned (.int .i64 r)/\(r=0->T (i+1) w')/\(r≠0->E r w'))(h0:T 0 w):Calls Tryz.prog 41 #[.slice (some ⟨G,0,none⟩) n c] w (pg n T E):=by
 have B:=aa hK;have C:=aa hc;have D:=aa hs;have F:=aa h0;clear hK hc hs h0;have hnn:(n:Int)<=4:=by omega
 go_enter Tryz.func41,Tryz.ntmps41;go_wp2_with fail;go_loopg[8]4(fun gh i wr=>∃k:Nat,k<=n/\gh=4-k/\i= .int .i64 k/\Hd (T k wr))
 case atStart=>exact⟨0,by omega,rfl,rfl,F.o⟩
 case round=>
  obtain⟨k,hk,rfl,rfl,A⟩:=hrel;by_cases hlt:k<n
  ·have hlt':(k:Int)<n:=by omega
   have hcell:=C.o k wr A.o k hlt;have hen:=B.o k hlt;go_wp2_with fail;refine(D.o k wr hlt A.o).mono ?_;rintro e w1⟨r,rfl,h1,h2⟩;by_cases hr:r=0
   ·have H:=aa (h1 hr);subst hr;clear h1 h2 hcell hen;go_wp2_with fail;go_roundg(4-(k+1))
    case measure=>omega
    case rel=>exact⟨k+1,by omega,rfl,by go_num,H.o⟩
   ·have I:=aa (h2 hr);have J:=aa hr;clear h1 h2 hcell hen;go_wp2_with fail;go_ret;exact⟨r,rfl,fun h=>absurd h J.o,fun _=>I.o⟩
  ·have hk2:k=n:=by omega
   subst hk2;go_wp2_with fail;go_ret;exact⟨0,rfl,fun _=>A.o,fun h=>absurd rfl h⟩
structure Ctx(w2:World)(g:Nat)(xs:List Nat)(A:Option Addr)(n k:Nat):Prop where
 tabs:eY w2
 g1:g≠2
 g2:g≠3
 glt:g<w2.heap.size
 rb:RB w2 A n xs
 alt:∀ad,A=some ad->ad.block<w2.heap.size/\ad.block≠g
 nk:n<=k
 nil:A=none->k=0
 kmax:k<=maxLen
 nb:n<=140737488355328
structure Sta(w2:World)(g:Nat)(wd:Int)(ks rs:List Nat)(A:Option Addr)(n k:Nat)(c:Ck)(w':World):Prop where
 ck:fx w' g c
 ok:c.Ok
 wdE:c.wd=wd
 keyE:c.key=ks
 rootE:c.root=rs
 raw:c.raw= .slice A n k
 blank:dw w' wd c.blank
 tch:ae (fun B=>B=g) w2 w'
def nK(wd:Int)(xs:List Nat):Nat:=if wd<1∨32<wd then 1 else match dF xs with
 |none=>120
 |some p=>bM wd p 256
def fD(w2:World)(g:Nat)(wd:Int)(ks rs xs:List Nat)(A:Option Addr)(n k:Nat):Nat->World->Prop
 |0,w'=>∃c,Sta w2 g wd ks rs A n k c w'
 |1,w'=>¬(wd<1∨32<wd)/\∃c,Sta w2 g wd ks rs A n k c w'
 |2,w'=>¬(wd<1∨32<wd)/\∃c p,Sta w2 g wd ks rs A n k c w'/\dF xs=some p/\aX w' g c p/\bn w' w2.heap.size c.v p.val
 |3,w'=>¬(wd<1∨32<wd)/\∃c p,Sta w2 g wd ks rs A n k c w'/\dF xs=some p/\aX w' g c p/\bn w' w2.heap.size c.v p.val/\bM wd p 256=0
 |_,w'=>¬(wd<1∨32<wd)/\∃c p,Sta w2 g wd ks rs A n k c w'/\dF xs=some p/\aX w' g c p/\bn w' w2.heap.size c.v p.val/\bM wd p 256=0/\bT wd ks p 256=rs
def j5(w2:World)(g:Nat)(wd:Int)(ks rs xs:List Nat)(A:Option Addr)(n k:Nat)(r:Int)(w':World):Prop:=r=(nK wd xs:Nat)/\∃c,Sta w2 g wd ks rs A n k c w'
def jA(w2:World)(g:Nat)(wd:Int)(ks rs xs:List Nat)(A:Option Addr)(n k:Nat)(r:Int)(w':World):Prop:=r=(dj wd rs ks xs:Nat)/\∃c,Sta w2 g wd ks rs A n k c w'
section
variable{w2 w':World}{g:Nat}{wd:Int}{ks rs xs:List Nat}{A:Option Addr}{n k:Nat}
theorem nV(h:fD w2 g wd ks rs xs A n k 0 w'):Calls Tryz.prog 42 #[.pointer (some ⟨g,0,none⟩)] w' fun e w3=>∃r:Int,e= .returned (.int .i64 r)/\(r=0->fD w2 g wd ks rs xs A n k 1 w3)/\(r≠0->j5 w2 g wd ks rs xs A n k r w3):=by
 obtain⟨c,hc⟩:=h;refine(mh g c w' hc.ck hc.ok).mono ?_;rintro e w3⟨rfl,rfl⟩;refine⟨_,rfl,fun h0=>?_,fun h0=>?_⟩
 ·refine⟨fun h=>?_,c,hc⟩;unfold pV at h0;rw[hc.wdE,if_pos h]at h0;cases h0
 ·refine⟨?_,c,hc⟩;unfold pV at h0⊢;rw[hc.wdE]at h0⊢;by_cases h:wd<1∨32<wd
  ·rw[if_pos h];unfold nK;rw[if_pos h];rfl
  ·rw[if_neg h]at h0;exact absurd rfl h0
theorem fW(hw:¬(wd<1∨32<wd)){p:Pr}(hp:dF xs=some p):nK wd xs=bM wd p 256:=by
 unfold nK;rw[if_neg hw,hp]
theorem qP(hw:¬(wd<1∨32<wd))(hp:dF xs=none):nK wd xs=120:=by
 unfold nK;rw[if_neg hw,hp]
theorem zl(h:nK wd xs≠0):dj wd rs ks xs=nK wd xs:=by
 unfold dj;unfold nK at h⊢;by_cases hw:wd<1∨32<wd
 ·rw[if_pos hw,if_pos hw]
 ·rw[if_neg hw]at h⊢;rw[if_neg hw];cases hp:dF xs with
  |none=>rfl
  |some p=>
   rw[hp]at h;exact if_neg h
theorem mX(h:nK wd xs=0)(hw:¬(wd<1∨32<wd)){p:Pr}(hp:dF xs=some p):dj wd rs ks xs=if bT wd ks p 256=rs then 0 else 131:=by
 rw[fW hw hp]at h;unfold dj;rw[if_neg hw,hp];exact if_pos h
theorem nX(hx:Ctx w2 g xs A n k)(h:fD w2 g wd ks rs xs A n k 1 w'):Calls Tryz.prog 43 #[.pointer (some ⟨g,0,none⟩)] w' fun e w3=>∃r:Int,e= .returned (.int .i64 r)/\(r=0->fD w2 g wd ks rs xs A n k 2 w3)/\(r≠0->j5 w2 g wd ks rs xs A n k r w3):=by
 obtain⟨hw,c,hc⟩:=h;have hrb:RB w' A n xs:=hc.tch.rb hx.rb fun ad e hg=>(hx.alt ad e).2 hg;refine(Bn g c A n k xs w' hc.ck hc.ok hc.raw hrb (fun ad e=>Nat.lt_of_lt_of_le (hx.alt ad e).1 hc.tch.size) hx.nk hx.nil hx.kmax hx.nb).mono ?_;rintro e w3⟨ht,hno,hyes⟩;have ht3:ae (fun B=>B=g) w2 w3:=hc.tch.trans ht;have hbl:dw w3 wd c.blank:=by
  rcases hc.blank with h1|⟨B,h1,h2⟩
  ·exact .inl h1
  ·exact .inr ⟨B,h1,ht.blk h2 (qa (cs:=(bvs (dS wd 256)).toArray) (cs':=c.C.toArray) (t:=34) (t':=96) h2 hc.ck (by decide))⟩
 cases hd:dF xs with
 |none=>
  obtain⟨rfl,h2⟩:=hno hd;exact⟨120,rfl,(fun h=>by cases h),fun _=>⟨by rw[qP hw hd];rfl,_,⟨h2,Ck.with_ok hc.ok (ak _) (dY _),hc.wdE,hc.keyE,hc.rootE,hc.raw,hbl,ht3⟩⟩⟩
 |some p=>
  obtain⟨rfl,V,S,h2,h3,h4⟩:=hyes p hd;have hp:=(df hrb.2.1 hd).1;have hok:(c.with p.found V p.bits S).Ok:=Ck.with_ok hc.ok hp.bl hp.bB;refine⟨0,rfl,fun _=>⟨hw,c.with p.found V p.bits S,p,⟨h2,hok,hc.wdE,hc.keyE,hc.rootE,hc.raw,hbl,ht3⟩,hd,⟨h2,hok,by rw[show(c.with p.found V p.bits S).wd=wd from hc.wdE];exact hbl,gG h4 (Nat.zero_le _),hp,rfl,rfl,ht3.tabs hx.tabs hx.g1 hx.g2,hx.g1,hx.g2⟩,h3.mono hc.tch.size⟩,fun h=>absurd rfl h⟩
theorem i6{w:World}{base:Nat}{v:Value}{ys:List Nat}(h:bn w base v ys)(hl:ys.length<=128):mz w v ys:=by
 obtain⟨A,c,h1,h2,_,h4,_⟩:=h.form;exact⟨A,_,c,h1,h2,h4,by omega⟩
theorem nW(hx:Ctx w2 g xs A n k)(h:fD w2 g wd ks rs xs A n k 2 w'):Calls Tryz.prog 44 #[.pointer (some ⟨g,0,none⟩)] w' fun e w3=>∃r:Int,e= .returned (.int .i64 r)/\(r=0->fD w2 g wd ks rs xs A n k 3 w3)/\(r≠0->j5 w2 g wd ks rs xs A n k r w3):=by
 obtain⟨hw,c,p,hc,hp,hr,ho⟩:=h;refine(AQ g c p w' hr (by rw[hc.wdE];omega) (by rw[hc.wdE];omega)).mono ?_;rintro e w3⟨rfl,⟨b,hr3,_⟩,ht⟩;have ht3:ae (fun B=>B=g) w2 w3:=hc.tch.trans ht;have hs:Sta w2 g wd ks rs A n k (c.blanked b) w3:=⟨hr3.ck,hr3.ok,hc.wdE,hc.keyE,hc.rootE,hc.raw,by have:=hr3.blank;rwa[show(c.blanked b).wd=wd from hc.wdE]at this,ht3⟩;refine⟨_,rfl,fun h0=>⟨hw,c.blanked b,p,hs,hp,hr3,ht.own ho fun B hB e=>?_,?_⟩,fun h0=>⟨?_,_,hs⟩⟩
 ·have:=(ho.lt B hB).1;have:=hx.glt;omega
 ·rw[hc.wdE]at h0;omega
 ·rw[fW hw hp,hc.wdE]
theorem sr(hx:Ctx w2 g xs A n k)(h:fD w2 g wd ks rs xs A n k 3 w'):Calls Tryz.prog 45 #[.pointer (some ⟨g,0,none⟩)] w' fun e w3=>∃r:Int,e= .returned (.int .i64 r)/\(r=0->fD w2 g wd ks rs xs A n k 4 w3)/\(r≠0->jA w2 g wd ks rs xs A n k r w3):=by
 obtain⟨hw,c,p,hc,hp,hr,ho,hf⟩:=h;refine(yY g c p w' hr (i6 ho hr.pok.vl)).mono ?_;rintro e w3⟨rfl,⟨b,fin,hr3,_⟩,ht⟩;have ht3:ae (fun B=>B=g) w2 w3:=hc.tch.trans ht;have hs:Sta w2 g wd ks rs A n k ((c.blanked b).ended fin) w3:=⟨hr3.ck,hr3.ok,hc.wdE,hc.keyE,hc.rootE,hc.raw,by have:=hr3.blank;rwa[show((c.blanked b).ended fin).wd=wd from hc.wdE]at this,ht3⟩;rw[hc.wdE,hc.keyE,hc.rootE];refine⟨_,rfl,fun h0=>⟨hw,_,p,hs,hp,hr3,ht.own ho fun B hB e=>?_,hf,?_⟩,fun h0=>⟨?_,_,hs⟩⟩
 ·have:=(ho.lt B hB).1;have:=hx.glt;omega
 ·by_cases h:bT wd ks p 256=rs
  ·exact h
  ·rw[if_neg h]at h0;cases h0
 ·rw[mX (by rw[fW hw hp];exact hf) hw hp];by_cases h:bT wd ks p 256=rs
  ·rw[if_pos h]at h0;exact absurd rfl h0
  ·rw[if_neg h,if_neg h];rfl
end
def spl(c:Array Value)(off:Nat)(v:Array Value):Array Value:=v.zipIdx.foldl (fun(cs:Array Value)(p:Value×Nat)=>cs.setIfInBounds (off+p.2) p.1) c
theorem dV(c:Array Value)(off:Nat)(v:Array Value):(spl c off v).size=c.size:=by
 unfold spl;rw[<-Array.foldl_toList];exact qN off _ c
theorem xg{c v:Array Value}{off:Nat}(h:off+v.size<=c.size)(j:Nat):(spl c off v)[j]?=if off<=j/\j<off+v.size then v[j-off]?else c[j]?:=uc off v c h j
theorem de{place:Nat->Option (Nat×Nat)}{c:Array Value}{i off size:Nat}{v:Value}{rest:List (Nat×Value)}(hp:place i=some (off,size))(hs:v.cells.size=size)(hf:off+size<=c.size):Instr.fill place c ((i,v)::rest)=Instr.fill place (spl c off v.cells) rest:=by
 rw[Instr.fill,hp];simp only;rw[if_neg (by simp[hs];omega)];rfl
theorem fy(X Y Y' Z:List Value)(h:Y.length=Y'.length):spl (X++(Y++Z)).toArray X.length Y'.toArray=(X++(Y'++Z)).toArray:=by
 apply Array.ext_getElem?;intro j;rw[xg (by simp;omega)];simp only[List.size_toArray,List.getElem?_toArray];by_cases h1:j<X.length
 ·rw[if_neg (by omega),List.getElem?_append_left h1,List.getElem?_append_left h1]
 ·have hL:(X++(Y++Z))[j]?=(Y++Z)[j-X.length]?:=List.getElem?_append_right (by omega);have hR:(X++(Y'++Z))[j]?=(Y'++Z)[j-X.length]?:=List.getElem?_append_right (by omega);rw[hL,hR];by_cases h2:j<X.length+Y'.length
  ·rw[if_pos (by omega),List.getElem?_append_left (show j-X.length<Y'.length by omega)]
  ·rw[if_neg (by omega),List.getElem?_append_right (show Y.length<=j-X.length by omega),List.getElem?_append_right (show Y'.length<=j-X.length by omega),h]
def p8:Ck:=⟨0,zs 32, .slice none 0 0,zs 32,false, .slice none 0 0,zs 32, .slice none 0 0,zs 32, .slice none 0 0⟩
theorem Eg(ps:List (Nat×Value)):Tryz.prog.built 96 ps=Instr.fill (#[(0,1),(1,32),(33,1),(34,32),(66,35),(101,32),(133,1)][·]?) p8.C.toArray ps:=by
 have h1:(Tryz.prog.info? 96).map (·.zero)=some (some (.agg p8.C.toArray)):=by kernel_rfl
 obtain⟨i,hi,hz⟩:∃i,Tryz.prog.info? 96=some i/\i.zero=some (.agg p8.C.toArray):=by
  cases hq:Tryz.prog.info? 96with
  |none=>simp[hq]at h1
  |some i=>exact⟨i,rfl,by simpa[hq]using h1⟩
 have hp:(Tryz.prog.underlying 96).bind (fun d=>match d with| .struct fs=>fs.toList.mapM (fun f=>(Tryz.prog.info? f.type).map fun i=>(f.offset,i.size))|_=>none)=some [(0,1),(1,32),(33,1),(34,32),(66,35),(101,32),(133,1)]:=by kernel_rfl
 rw[Tryz.underlying96]at hp;unfold Program.built;rw[hi,Tryz.underlying96];simp only[hz];simp only[Option.bind_some]at hp;rw[hp];rfl
def eI(wd:Int)(ks:List Nat)(raw:Value)(rs:List Nat):Ck:=⟨wd,ks,raw,rs,false, .slice none 0 0,zs 32, .slice none 0 0,zs 32, .slice none 0 0⟩
theorem qV(wd:Int)(ks:List Nat)(raw:Value)(hk:ks.length=32)(h1:raw.cells=#[raw])(rest:List (Nat×Value)):Tryz.prog.built 96 ((0, .int .i64 wd)::(1, .agg (bvs ks).toArray)::(2,raw)::rest)=Instr.fill (#[(0,1),(1,32),(33,1),(34,32),(66,35),(101,32),(133,1)][·]?) (eI wd ks raw (zs 32)).C.toArray rest:=by
 have hkl:(bvs ks).length=32:=by simp[bvs,hk]
 have s1:((Value.agg (bvs ks).toArray).cells).size=32:=by simp[Value.cells,hkl]
 have hzl:p8.C.toArray.size=134:=by rfl
 rw[Eg,de (off:=0) (size:=1) rfl rfl (by rw[hzl];omega),de (off:=1) (size:=32) rfl s1 (by rw[dV,hzl];omega),de (off:=33) (size:=1) rfl (by rw[h1];rfl) (by rw[dV,dV,hzl];omega)];congr 1;have e1:(Value.int .i64 wd).cells=[Value.int .i64 wd].toArray:=rfl;have e2:((Value.agg (bvs ks).toArray).cells)=(bvs ks).toArray:=rfl;have e3:raw.cells=[raw].toArray:=h1;rw[e1,e2,e3];have f1:=fy [] [Value.int .i64 0] [Value.int .i64 wd] (bvs (zs 32)++(Value.slice none 0 0::(bvs (zs 32)++(prC false (Value.slice none 0 0) (zs 32) (Value.slice none 0 0)++(bvs (zs 32)++[Value.slice none 0 0]))))) rfl;have f2:=fy [Value.int .i64 wd] (bvs (zs 32)) (bvs ks) (Value.slice none 0 0::(bvs (zs 32)++(prC false (Value.slice none 0 0) (zs 32) (Value.slice none 0 0)++(bvs (zs 32)++[Value.slice none 0 0])))) (by rw[hkl];rfl);have f3:=fy ([Value.int .i64 wd]++bvs ks) [Value.slice none 0 0] [raw] (bvs (zs 32)++(prC false (Value.slice none 0 0) (zs 32) (Value.slice none 0 0)++(bvs (zs 32)++[Value.slice none 0 0]))) rfl;rw[show([Value.int .i64 wd]++bvs ks).length=33by simp[hkl]]at f3;have g1:p8.C.toArray=([]++([Value.int .i64 0]++(bvs (zs 32)++(Value.slice none 0 0::(bvs (zs 32)++(prC false (Value.slice none 0 0) (zs 32) (Value.slice none 0 0)++(bvs (zs 32)++[Value.slice none 0 0]))))))).toArray:=by rfl
 rw[g1];change spl (spl (spl _ (List.length ([]:List Value)) _) (List.length [Value.int IntKind.i64 wd]) _) 33 _=_;rw[f1];have g2:(([]:List Value)++([Value.int .i64 wd]++(bvs (zs 32)++(Value.slice none 0 0::(bvs (zs 32)++(prC false (Value.slice none 0 0) (zs 32) (Value.slice none 0 0)++(bvs (zs 32)++[Value.slice none 0 0])))))))=[Value.int .i64 wd]++(bvs (zs 32)++(Value.slice none 0 0::(bvs (zs 32)++(prC false (Value.slice none 0 0) (zs 32) (Value.slice none 0 0)++(bvs (zs 32)++[Value.slice none 0 0]))))):=rfl;rw[g2,f2];have g3:[Value.int .i64 wd]++(bvs ks++(Value.slice none 0 0::(bvs (zs 32)++(prC false (Value.slice none 0 0) (zs 32) (Value.slice none 0 0)++(bvs (zs 32)++[Value.slice none 0 0])))))=([Value.int .i64 wd]++bvs ks)++([Value.slice none 0 0]++(bvs (zs 32)++(prC false (Value.slice none 0 0) (zs 32) (Value.slice none 0 0)++(bvs (zs 32)++[Value.slice none 0 0])))):=by simp
 rw[g3,f3];congr 1;simp[eI,Ck.C,Ck.x66]
theorem uu(wd:Int)(ks:List Nat)(raw:Value)(rs:List Nat)(hk:ks.length=32)(h1:raw.cells=#[raw])(hr:rs.length=32):Tryz.prog.built 96 [(0, .int .i64 wd),(1, .agg (bvs ks).toArray),(2,raw),(3, .agg (bvs rs).toArray)]=some (eI wd ks raw rs).C.toArray:=by
 have hrl:(bvs rs).length=32:=by simp[bvs,hr]
 have hkl:(bvs ks).length=32:=by simp[bvs,hk]
 have s1:((Value.agg (bvs rs).toArray).cells).size=32:=by simp[Value.cells,hrl]
 have hx:([Value.int .i64 wd]++bvs ks++[raw]).length=34:=by simp[hkl]
 have e:(eI wd ks raw (zs 32)).C=([Value.int .i64 wd]++bvs ks++[raw])++(bvs (zs 32)++(prC false (Value.slice none 0 0) (zs 32) (Value.slice none 0 0)++(bvs (zs 32)++[Value.slice none 0 0]))):=by simp[eI,Ck.C,Ck.x66]
 have hz:(eI wd ks raw (zs 32)).C.toArray.size=134:=by
  rw[e,List.size_toArray,List.length_append,hx];rfl
 rw[qV wd ks raw hk h1,de (off:=34) (size:=32) rfl s1 (by rw[hz];omega),Instr.fill];have f:=fy ([Value.int .i64 wd]++bvs ks++[raw]) (bvs (zs 32)) (bvs rs) (prC false (Value.slice none 0 0) (zs 32) (Value.slice none 0 0)++(bvs (zs 32)++[Value.slice none 0 0])) (by rw[hrl];rfl);rw[hx]at f;have e2:((Value.agg (bvs rs).toArray).cells)=(bvs rs).toArray:=rfl;rw[e,e2,f];simp[eI,Ck.C,Ck.x66]
theorem zO(wd:Int)(ks:List Nat)(raw:Value)(hk:ks.length=32)(h1:raw.cells=#[raw]):Tryz.prog.built 96 [(0, .int .i64 wd),(1, .agg (bvs ks).toArray),(2,raw)]=some (eI wd ks raw (zs 32)).C.toArray:=by
 rw[qV wd ks raw hk h1,Instr.fill]
theorem ju{wd:Int}{ks:List Nat}{raw:Value}{rs:List Nat}(hk:ks.length=32)(hkB:IsB ks)(hr:rs.length=32)(hrB:IsB rs):(eI wd ks raw rs).Ok:=⟨hk,hkB,hr,hrB,ak _,dY _,ak _,dY _⟩
def iK(i:Nat):Nat:=[42,43,44,45].getD i 0
theorem kU(i:Nat)(hi:i<4)(args:Array Value)(w:World):(callFunc (iK i) args).run Tryz.prog w= .ok (.enter (iK i) args) w:=by
 match i,hi with
 |0,_=>exact fN Tryz.func42 (by kernel_rfl) (by kernel_rfl) args w
 |1,_=>exact fN Tryz.func43 (by kernel_rfl) (by kernel_rfl) args w
 |2,_=>exact fN Tryz.func44 (by kernel_rfl) (by kernel_rfl) args w
 |3,_=>exact fN Tryz.func45 (by kernel_rfl) (by kernel_rfl) args w
section
variable{w2 w':World}{g:Nat}{wd:Int}{ks rs xs:List Nat}{A:Option Addr}{n k:Nat}
theorem fD.sta:∀{i:Nat},fD w2 g wd ks rs xs A n k i w'->∃c,Sta w2 g wd ks rs A n k c w'
 |0,h=>h
 |1,h=>h.2
 |2,⟨_,c,_,h,_⟩=>⟨c,h⟩
 |3,⟨_,c,_,h,_⟩=>⟨c,h⟩
 |_+4,⟨_,c,_,h,_⟩=>⟨c,h⟩
theorem fD.cells{G m i:Nat}(h:fD w2 g wd ks rs xs A n k i w')(hG:G≠g)(hlt:G<w2.heap.size)(hc:∀j,j<m->w2.cell? ⟨G,j,none⟩=some (.func (.func (iK j)) #[.pointer (some ⟨g,0,none⟩)] #[])):∀j,j<m->w'.cell? ⟨G,j,none⟩=some (.func (.func (iK j)) #[.pointer (some ⟨g,0,none⟩)] #[]):=fun j hj=>by
 obtain⟨c,hs⟩:=h.sta;rw[World.cell?_of_block (w:=w2) (a:=⟨G,j,none⟩) (hs.tch.block G hlt hG)];exact hc j hj
theorem ER{G:Nat}(hx:Ctx w2 g xs A n k)(hG:G≠g)(hlt:G<w2.heap.size)(hc:∀j,j<3->w2.cell? ⟨G,j,none⟩=some (.func (.func (iK j)) #[.pointer (some ⟨g,0,none⟩)] #[]))(h0:fD w2 g wd ks rs xs A n k 0 w2):Calls Tryz.prog 41 #[.slice (some ⟨G,0,none⟩) 3 3] w2 (pg 3 (fD w2 g wd ks rs xs A n k) (j5 w2 g wd ks rs xs A n k)):=by
 refine m8 g G 3 3 iK _ _ w2 (by omega) (fun i hi=>kU i (by omega)) (fun i w' h=>h.cells hG hlt hc) (fun i w' hi h=>?_) h0;match i,hi,h with
 |0,_,h=>exact nV h
 |1,_,h=>exact nX hx h
 |2,_,h=>exact nW hx h
theorem j5.two{r:Int}(h:j5 w2 g wd ks rs xs A n k r w')(h0:r≠0):jA w2 g wd ks rs xs A n k r w':=by
 obtain⟨h1,h2⟩:=h;refine⟨?_,h2⟩;rw[zl (fun e=>h0 (by rw[h1,e];rfl))];exact h1
theorem xe{f:FuncId}{args:Array Value}{i:Nat}(h:Calls Tryz.prog f args w' fun e w3=>∃r:Int,e= .returned (.int .i64 r)/\(r=0->fD w2 g wd ks rs xs A n k i w3)/\(r≠0->j5 w2 g wd ks rs xs A n k r w3)):Calls Tryz.prog f args w' fun e w3=>∃r:Int,e= .returned (.int .i64 r)/\(r=0->fD w2 g wd ks rs xs A n k i w3)/\(r≠0->jA w2 g wd ks rs xs A n k r w3):=by
 refine h.mono ?_;rintro e w3⟨r,h1,h2,h3⟩;exact⟨r,h1,h2,fun h0=>(h3 h0).two h0⟩
theorem ES(hx:Ctx w2 g xs A n k)(i:Nat)(hi:i<4)(h:fD w2 g wd ks rs xs A n k i w'):Calls Tryz.prog (iK i) #[.pointer (some ⟨g,0,none⟩)] w' fun e w3=>∃r:Int,e= .returned (.int .i64 r)/\(r=0->fD w2 g wd ks rs xs A n k (i+1) w3)/\(r≠0->jA w2 g wd ks rs xs A n k r w3):=by
 rcases i with _|_|_|_|i
 ·exact xe (nV h)
 ·exact xe (nX hx h)
 ·exact xe (nW hx h)
 ·exact sr hx h
 ·omega
theorem C5{G:Nat}(hx:Ctx w2 g xs A n k)(hG:G≠g)(hlt:G<w2.heap.size)(hc:∀j,j<4->w2.cell? ⟨G,j,none⟩=some (.func (.func (iK j)) #[.pointer (some ⟨g,0,none⟩)] #[]))(h0:fD w2 g wd ks rs xs A n k 0 w2):Calls Tryz.prog 41 #[.slice (some ⟨G,0,none⟩) 4 4] w2 (pg 4 (fD w2 g wd ks rs xs A n k) (jA w2 g wd ks rs xs A n k)):=m8 g G 4 4 iK _ _ w2 (by omega) (fun i hi=>kU i hi) (fun i w' h=>h.cells hG hlt hc) (fun i w' hi h=>ES hx i hi h) h0
end
end Go.Proofs.YtfnlhfaihoojfaaGreatDoor
