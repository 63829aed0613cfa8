/- Texts of the proof of ledgerlaw13.ClientPlays, part 11; no condition of its own. -/
import Derived.Test.YtfnlhfaihoojfaaGreatDoorS10
set_option maxRecDepth 100000
set_option maxHeartbeats 4000000
namespace Go.Proofs.YtfnlhfaihoojfaaGreatDoor
open Go.RowKit
section
variable{P:Program}{w:World}{g:Nat}{t:TypeId}
theorem sf:∀(Y Y' X Z:List Value)(w:World),ab w g t (X++(Y++Z)).toArray->Y.length=Y'.length->ab (w.setCells g X.length Y') g t (X++(Y'++Z)).toArray
 |[],[],X,Z,w,h,_=>h
 |y::Y,y'::Y',X,Z,w,h,hl=>by
  have h1:=ab.stored h X.length y';have e:(X++(y::Y++Z)).toArray.setIfInBounds X.length y'=((X++[y'])++(Y++Z)).toArray:=by
   rw[List.setIfInBounds_toArray,List.set_append_right _ _ (Nat.le_refl _),Nat.sub_self];simp
  rw[e]at h1;have h2:=sf Y Y' (X++[y']) Z _ h1 (by simpa using hl);rw[List.length_append]at h2;have e2:(X++[y'])++(Y'++Z)=X++(y'::Y'++Z):=by simp
  rw[e2]at h2;exact h2
 |[],_::_,_,_,_,_,h=>by simp at h
 |_::_,[],_,_,_,_,h=>by simp at h
theorem gX(g:Nat):∀(vs:List Value)(o:Nat)(w:World),w.grownBy (w.setCells g o vs) (some g)
 |[],_,w=>World.grownBy.refl w _
 |v::r,o,w=>aE (ai w o v) (gX g r (o+1) _)
theorem ab.thereMid{L:List Value}(h:ab w g t L.toArray){o n:Nat}(ho:o+n<=L.length):w.there g o n:=fun j hj=>by
 refine⟨?_,h.frozen _⟩;have h1:=h.cell (o+j);rw[h1,List.getElem?_toArray,List.getElem?_eq_getElem (by omega)];rfl
theorem ab.rangeOf{X Y Z:List Value}(h:ab w g t (X++(Y++Z)).toArray){o:Nat}(ho:X.length=o):w.rangeAt g o Y:=fun j v hj=>by
 have h1:=h.cell (o+j);have hlt:j<Y.length:=by
  rcases Nat.lt_or_ge j Y.length with h'|h'
  ·exact h'
  ·rw[List.getElem?_eq_none h']at hj;cases hj
 rw[h1,List.getElem?_toArray,List.getElem?_append_right (by omega),show o+j-X.length=j by omega,List.getElem?_append_left hlt,hj]
theorem ab.rbOf{X Z:List Value}{ds:List Nat}(h:ab w g t (X++(bvs ds++Z)).toArray){o n:Nat}(ho:X.length=o)(hn:ds.length=n)(hB:IsB ds):RB w (some ⟨g,o,none⟩) n ds:=by
 refine⟨hn,hB,fun _=>⟨_,rfl,h.lt,fun j x hj=>?_⟩⟩;rw[add_lit];have h1:=h.rangeOf ho j (.int .u8 x) (by rw[bvs,List.getElem?_map,hj];rfl);exact h1
theorem aq{ops:Array Oper}{rest:List Oper}{o:Oper}{a:Act}{Q:Exit->Act->World->Prop}(hgd:o.guard=none)(ty:TypeId)(x y:Operand)(ho:o.op= .store ty x y)(k:Nat)(X Y Y' Z:List Value)(hx:a.eval x= .pointer (some ⟨g,k,none⟩))(hy:a.eval y= .agg Y'.toArray)(h0:ab w g t (X++(Y++Z)).toArray)(hk:X.length=k)(hl:Y.length=Y'.length)(hi:(P.info? ty).map (·.size)=some Y'.length)(h1:∀u∈Y',u.oneCell'=true)(h:∀w',ab w' g t (X++(Y'++Z)).toArray->w.grownBy w' (some g)->wpList P ops Q rest (a.put o.dst undef) w'):wpList P ops Q (o::rest) a w:=by
 refine wpList_store_mid hgd ty x y ho g k Y'.toArray hx hy (h0.thereMid (by simp;omega)) (by simpa using hi) (all_oneCell_toArray h1) ?_;refine h _ ?_ (gX _ _ _ _);rw[<-hk];exact sf Y Y' X Z w h0 hl
theorem aA{ops:Array Oper}{K:Act->World->Prop}{E:Prop}{o:Oper}{a:Act}{Q:Exit->Act->World->Prop}(hw:Region.wanted o (yielded ops a.tmps)=true)(ty:TypeId)(x y:Operand)(ho:o.op= .store ty x y)(k:Nat)(X Y Y' Z:List Value)(hx:a.eval x= .pointer (some ⟨g,k,none⟩))(hy:a.eval y= .agg Y'.toArray)(h0:ab w g t (X++(Y++Z)).toArray)(hk:X.length=k)(hl:Y.length=Y'.length)(hi:(P.info? ty).map (·.size)=some Y'.length)(h1:∀u∈Y',u.oneCell'=true)(h:∀w',ab w' g t (X++(Y'++Z)).toArray->w.grownBy w' (some g)->K (a.put o.dst undef) w'):if Region.wanted o (yielded ops a.tmps)=true then o.wp P a w K Q else E:=by
 rw[if_pos hw];refine wp_store_mid ty x y ho g k Y'.toArray hx hy (h0.thereMid (by simp;omega)) (by simpa using hi) (all_oneCell_toArray h1) ?_;refine h _ ?_ (gX _ _ _ _);rw[<-hk];exact sf Y Y' X Z w h0 hl
end
structure Ck where
 wd:Int
 key:List Nat
 raw:Value
 root:List Nat
 f:Bool
 v:Value
 bits:List Nat
 s:Value
 fin:List Nat
 blank:Value
namespace Ck
def x66(c:Ck):List Value:= .int .i64 c.wd::(bvs c.key++c.raw::bvs c.root)
def C(c:Ck):List Value:=c.x66++(prC c.f c.v c.bits c.s++(bvs c.fin++[c.blank]))
structure Ok(c:Ck):Prop where
 kl:c.key.length=32
 kB:IsB c.key
 rl:c.root.length=32
 rB:IsB c.root
 bl:c.bits.length=32
 bB:IsB c.bits
 fl:c.fin.length=32
 fB:IsB c.fin
theorem x66_length{c:Ck}(h:c.Ok):c.x66.length=66:=by simp[x66,bvs,h.kl,h.rl]
theorem Fe{c:Ck}(h:c.Ok):c.C.length=134:=by simp[C,x66_length h,a7 h.bl,bvs,h.fl]
theorem at0(c:Ck):c.C[0]?=some (.int .i64 c.wd):=rfl
theorem at33{c:Ck}(h:c.Ok):c.C[33]?=some c.raw:=by
 unfold C;rw[List.getElem?_append_left (by rw[x66_length h];omega)];show(Value.int IntKind.i64 c.wd::(bvs c.key++c.raw::bvs c.root))[33]?=_;rw[List.getElem?_cons_succ,List.getElem?_append_right (by simp[bvs,h.kl])];simp[bvs,h.kl]
theorem at66{c:Ck}(h:c.Ok):c.C[66]?=some (.bool c.f):=by
 unfold C;rw[List.getElem?_append_right (by rw[x66_length h];omega),x66_length h];rfl
theorem at67{c:Ck}(h:c.Ok):c.C[67]?=some c.v:=by
 unfold C;rw[List.getElem?_append_right (by rw[x66_length h];omega),x66_length h];rfl
theorem at100{c:Ck}(h:c.Ok):c.C[100]?=some c.s:=by
 unfold C;rw[List.getElem?_append_right (by rw[x66_length h];omega),x66_length h,List.getElem?_append_left (by rw[a7 h.bl];omega)];show(Value.bool c.f::c.v::(bvs c.bits++[c.s]))[34]?=_;rw[List.getElem?_cons_succ,List.getElem?_cons_succ,List.getElem?_append_right (by simp[bvs,h.bl])];simp[bvs,h.bl]
theorem at133{c:Ck}(h:c.Ok):c.C[133]?=some c.blank:=by
 unfold C;rw[List.getElem?_append_right (by rw[x66_length h];omega),x66_length h,List.getElem?_append_right (by rw[a7 h.bl];omega),a7 h.bl,List.getElem?_append_right (by simp[bvs,h.fl])];simp[bvs,h.fl]
theorem byKey(c:Ck):c.C=[.int .i64 c.wd]++(bvs c.key++(c.raw::(bvs c.root++(prC c.f c.v c.bits c.s++(bvs c.fin++[c.blank]))))):=by simp[C,x66]
theorem byRoot(c:Ck):c.C=(.int .i64 c.wd::(bvs c.key++[c.raw]))++(bvs c.root++(prC c.f c.v c.bits c.s++(bvs c.fin++[c.blank]))):=by simp[C,x66]
theorem byBits(c:Ck):c.C=(c.x66++[.bool c.f,c.v])++(bvs c.bits++(c.s::(bvs c.fin++[c.blank]))):=by simp[C,prC]
theorem byFin(c:Ck):c.C=(c.x66++prC c.f c.v c.bits c.s)++(bvs c.fin++[c.blank]):=by simp[C]
theorem byBlank(c:Ck):c.C=(c.x66++prC c.f c.v c.bits c.s++bvs c.fin)++([c.blank]++[]):=by simp[C]
theorem FJ(c:Ck):c.C=c.x66++(prC c.f c.v c.bits c.s++(bvs c.fin++[c.blank])):=rfl
end Ck
abbrev fx(w:World)(g:Nat)(c:Ck):Prop:=ab w g 96 c.C.toArray
section
variable{w:World}{g:Nat}{c:Ck}
theorem bF(h:fx w g c)(hc:c.Ok):w.cell? ⟨g,0,none⟩=some (.int .i64 c.wd)/\w.cell? ⟨g,33,none⟩=some c.raw/\w.cell? ⟨g,66,none⟩=some (.bool c.f)/\w.cell? ⟨g,67,none⟩=some c.v/\w.cell? ⟨g,100,none⟩=some c.s/\w.cell? ⟨g,133,none⟩=some c.blank:=by
 refine⟨(h.cell 0).trans ?_,(h.cell 33).trans ?_,(h.cell 66).trans ?_,(h.cell 67).trans ?_,(h.cell 100).trans ?_,(h.cell 133).trans ?_⟩<;>rw[List.getElem?_toArray]
 ·exact c.at0
 ·exact Ck.at33 hc
 ·exact Ck.at66 hc
 ·exact Ck.at67 hc
 ·exact Ck.at100 hc
 ·exact Ck.at133 hc
theorem xR(h:fx w g c)(hc:c.Ok):RB w (some ⟨g,68,none⟩) 32 c.bits:=by
 have h:ab w g _ c.C.toArray:=h;rw[c.byBits]at h;exact h.rbOf (by simp[Ck.x66_length hc]) hc.bl hc.bB
theorem us(h:fx w g c)(hc:c.Ok)(b:Value):fx (w.setCell ⟨g,133,none⟩ b) g {c with blank:=b}:=by
 have h:ab w g _ c.C.toArray:=h;have h1:=ab.stored h 133 b;have e:c.C.toArray.setIfInBounds 133 b=(Ck.C {c with blank:=b}).toArray:=by
  rw[List.setIfInBounds_toArray,c.byBlank,Ck.byBlank,List.set_append_right _ _ (by simp[Ck.x66_length hc,a7 hc.bl,bvs,hc.fl])];have:133-(c.x66++prC c.f c.v c.bits c.s++bvs c.fin).length=0:=by simp[Ck.x66_length hc,a7 hc.bl,bvs,hc.fl]
  rw[this];rfl
 rw[e]at h1;exact h1
end
theorem Fs(x r:Nat)(hx:x<256):bits .and .u8 ((x:Int)/2^r) 1=((x/2^r%2:Nat):Int):=by
 have e:((x:Int)/2^r)=((x/2^r:Nat):Int):=by simp
 have hb:x/2^r<256:=Nat.lt_of_le_of_lt (Nat.div_le_self _ _) hx;rw[e];generalize x/2^r=y at hb;have hy:∀y:Fin 256,bits .and .u8 (y.val:Int) 1=((y.val%2:Nat):Int):=by decide+kernel
 exact hy ⟨y,hb⟩
theorem qZ(g o:Nat)(ds:List Nat)(h:Nat)(w:World)(hx:RB w (some ⟨g,o+2,none⟩) 32 ds)(hh:h<256):Calls Tryz.prog 47 #[.pointer (some ⟨g,o,none⟩), .int .i64 h] w fun e w'=>e= .returned (.bool (gM ds h))/\w'=w:=by
 obtain⟨ad,e,_,hc⟩:=hx.at_ (show h/8<32by omega);injection e with e;subst e;rw[add_lit]at hc;have hx8:=hx.lt (show h/8<32by omega);have A:Hd (gM ds h=decide ((((ds.getD (h/8) 0)/2^(h%8)%2:Nat):Int)=1)):=by
  show _=_;unfold gM;by_cases hq:ds.getD (h/8) 0/2^(h%8)%2=1
  ·rw[hq];rfl
  ·rw[decide_eq_false hq,decide_eq_false (by omega)]
 clear hx;generalize ds.getD (h/8) 0=x at*;have h1:=Fs x (h%8) hx8;have B:Hd (gM ds h=((x:Int)/2^(h%8)%2==1)):=by
  show _=_;rw[A.o,show((x:Int)/2^(h%8)%2)=((x/2^(h%8)%2:Nat):Int)by simp];rfl
 go_enter Tryz.func47,Tryz.ntmps47;go_wp2_with fail;go_ret;exact⟨by rw[B.o];rfl,rfl⟩
def pV(wd:Int):Int:=if wd<1∨32<wd then 1 else 0
theorem mh(g:Nat)(c:Ck)(w:World)(h:fx w g c)(hc:c.Ok):Calls Tryz.prog 42 #[.pointer (some ⟨g,0,none⟩)] w fun e w'=>e= .returned (.int .i64 (pV c.wd))/\w'=w:=by
 obtain⟨c0,_⟩:=bF h hc;have A:Hd (pV c.wd=if c.wd<1∨32<c.wd then 1 else 0):=rfl;clear h hc;generalize c.wd=wd at*;by_cases h1:wd<1
 ·go_enter Tryz.func42,Tryz.ntmps42;go_wp2_with fail;go_ret;exact⟨by rw[A.o,if_pos (.inl h1)];rfl,rfl⟩
 ·by_cases h2:wd>32
  ·go_enter Tryz.func42,Tryz.ntmps42;go_wp2_with fail;go_ret;exact⟨by rw[A.o,if_pos (.inr h2)];rfl,rfl⟩
  ·go_enter Tryz.func42,Tryz.ntmps42;go_wp2_with fail;go_ret;exact⟨by rw[A.o,if_neg (by omega)];rfl,rfl⟩
def Ck.with(c:Ck)(f:Bool)(v:Value)(bits:List Nat)(s:Value):Ck:={c with f:=f,v:=v,bits:=bits,s:=s}
theorem Ck.with_ok{c:Ck}(h:c.Ok){f:Bool}{v s:Value}{bits:List Nat}(h1:bits.length=32)(h2:IsB bits):(c.with f v bits s).Ok:=⟨h.kl,h.kB,h.rl,h.rB,h1,h2,h.fl,h.fB⟩
def Fa(g:Nat)(c:Ck)(xs:List Nat)(w:World)(e:Ending)(w':World):Prop:=ae (fun B=>B=g) w w'/\(dF xs=none->e= .returned (.int .i64 120)/\fx w' g (c.with false (.slice none 0 0) (zs 32) (.slice none 0 0)))/\∀p,dF xs=some p->e= .returned (.int .i64 0)/\∃V S,fx w' g (c.with p.found V p.bits S)/\bn w' w.heap.size V p.val/\ko w' w.heap.size S p.sums
theorem Bn(g:Nat)(c:Ck)(A:Option Addr)(n k:Nat)(xs:List Nat)(w:World)(h:fx w g c)(hc:c.Ok)(hr:c.raw= .slice A n k)(hx:RB w A n xs)(hlt:∀ad,A=some ad->ad.block<w.heap.size)(hnc:n<=k)(hA:A=none->k=0)(hk:k<=maxLen)(hn:n<=140737488355328):Calls Tryz.prog 43 #[.pointer (some ⟨g,0,none⟩)] w (Fa g c xs w):=by
 obtain⟨_,c1,_⟩:=bF h hc;rw[hr]at c1;have E:=aa h;have C:=aa hc;have F:=aa (wB A n k xs w hx hlt hnc hA hk hn);have L:=aa hx;clear h hc hr hlt hnc hA hk hn hx;go_enter Tryz.func43,Tryz.ntmps43;go_wp2_with fail;refine F.o.mono ?_;rintro e w1⟨⟨hno,hyes⟩,hb⟩;have G:=aa hb;have H:=aa (ab.below E.o hb);clear c1 F hb;cases hd:dF xs with
 |none=>
  rw[hno hd];have D:=aa hd;clear hno hyes hd;go_wp2_with(refine aq (o:=⟨none,_,_,_,_,_⟩) (by rfl) 94 (.tmp 14) (.tmp 11) rfl 66 c.x66 (prC c.f c.v c.bits c.s) (prC false (.slice none 0 0) (zs 32) (.slice none 0 0)) (bvs c.fin++[c.blank]) rfl rfl H.o (Ck.x66_length C.o) (by rw[a7 C.o.bl,a7 (ak 32)]) (by rw[lq,a7 (ak 32)]) (oX rfl rfl) ?_;intro w2 h2 g2);go_ret;exact⟨((ae.ofBelow G.o).mono fun _ _ h=>h.elim).trans (ae.one g2),fun _=>⟨rfl,h2⟩,fun p h=>by rw[D.o]at h;cases h⟩
 |some p=>
  obtain⟨V,S,rfl,hv,hs⟩:=hyes p hd;have D:=aa hd;have I:=aa hv;have J:=aa hs;have hbl:p.bits.length=32:=(df L.o.2.1 hd).1.bl;have hv1:V.oneCell'=true:=j8 hv.1;have hs1:S.oneCell'=true:=j8 hs;have K:Hd (g<w.heap.size):=E.o.lt;clear hno hyes hd hv hs;go_wp2_with(refine aq (o:=⟨none,_,_,_,_,_⟩) (by rfl) 94 (.tmp 14) (.tmp 11) rfl 66 c.x66 (prC c.f c.v c.bits c.s) (prC p.found V p.bits S) (bvs c.fin++[c.blank]) rfl rfl H.o (Ck.x66_length C.o) (by rw[a7 C.o.bl,a7 hbl]) (by rw[lq,a7 hbl]) (oX hv1 hs1) ?_;intro w2 h2 g2);go_ret;refine⟨((ae.ofBelow G.o).mono fun _ _ h=>h.elim).trans (ae.one g2),fun h=>(by rw[D.o]at h;cases h),fun q h=>?_⟩;rw[D.o]at h;injection h with h;subst h;exact⟨rfl,V,S,h2,(ae.one g2).own I.o fun B hB e=>by have:=(I.o.lt B hB).1;have:=K.o;omega,(ae.one g2).row J.o fun B hB e=>by have:=(di J.o hB).1;have:=K.o;omega⟩
theorem C6{w:World}{a b c d f:Array Value}{ta tb tc td tf:TypeId}{G:World->Prop}(h:∀w',Hd (ab w' w.heap.size ta a)->Hd (ab w' (w.heap.size+1) tb b)->Hd (ab w' (w.heap.size+1+1) tc c)->Hd (ab w' (w.heap.size+1+1+1) td d)->Hd (ab w' (w.heap.size+1+1+1+1) tf f)->Hd (Below w.heap.size w w')->Hd (w'.heap.size=w.heap.size+1+1+1+1+1)->G w'):G (((((w.alloc (.cells a ta)).alloc (.cells b tb)).alloc (.cells c tc)).alloc (.cells d td)).alloc (.cells f tf)):=by
 refine fC (G:=fun w3=>G ((w3.alloc (.cells d td)).alloc (.cells f tf))) fun w3 h1 h2 h3 hb hs=>?_;have e:w3.heap.size=w.heap.size+1+1+1:=hs.o;refine bV (G:=G) (w:=w3) fun w5 h4 h5 hb2 hs2=>?_;have hb2':=hb2.o;have h4':=h4.o;have h5':=h5.o;have hs2':=hs2.o;rw[e]at h4' h5' hs2';exact h w5 (ab.below h1.o hb2') (ab.below h2.o hb2') (ab.below h3.o hb2') h4' h5' (hb.o.trans (hb2'.mono (by omega))) hs2'
theorem bj{w:World}{g:Nat}{t:TypeId}{ys:List Nat}(h:ar w g t ys):ab w g t (([]:List Value)++(bvs ys++[])).toArray:=by
 rw[List.nil_append,List.append_nil];exact h
theorem aN{w:World}{g:Nat}{t:TypeId}{ys:List Nat}(h:ab w g t (([]:List Value)++(bvs ys++[])).toArray):ar w g t ys:=by
 rw[List.nil_append,List.append_nil]at h;exact h
theorem bw{w w':World}{g o:Nat}{cs:List Value}{r:Nat}(h:w.rangeAt g o cs)(hg:w.grownBy w' (some r))(hn:g≠r):w'.rangeAt g o cs:=fun j v hj=>by
 have h1:=h j v hj;rw[World.cell?_of_block (w:=w) (a:=⟨g,o+j,none⟩) (hg.block g (World.block_lt_of_cell? w ⟨g,o+j,none⟩ h1) fun e=>by injection e with e;exact hn e)];exact h1
theorem pJ{fn:Func}{p p':Tmp}{ty ty':TypeId}(h:fn.results=#[.cell p ty, .cell p' ty'])(tmps:Array Value)(P:Program)(w:World):(results fn tmps).run P w=((asAddr (tmps.getD p undef)).run P w).andThen fun a w1=>((loadVar ty a).run P w1).andThen fun v w2=>((asAddr (tmps.getD p' undef)).run P w2).andThen fun b w3=>((loadVar ty' b).run P w3).andThen fun v' w4=> .ok (.tuple #[v,v']) w4:=by
 simp only[results,h];simp[Sem.run_bind,Result.andThen]
theorem mr{fn:Func}{p p':Tmp}{R:Ending->World->Prop}{x:Act}{w:World}{g g':Nat}{ys zs:List Nat}(h:fn.results=#[.cell p 34, .cell p' 34])(hp:x.tmps.getD p undef= .pointer (some ⟨g,0,none⟩))(hp':x.tmps.getD p' undef= .pointer (some ⟨g',0,none⟩))(hb:ar w g 34 ys)(hb':ar w g' 34 zs)(hl:ys.length=32)(hl':zs.length=32)(hd:x.defers=[])(hR:R (.returned (.tuple #[.agg (bvs ys).toArray, .agg (bvs zs).toArray])) w):bodyPost Tryz.prog fn R .ret x w:=by
 refine bodyPost_ret (v:= .tuple #[.agg (bvs ys).toArray, .agg (bvs zs).toArray]) ?_ hd hR;rw[pJ h,hp,hp'];simp[asAddr,Result.andThen,pr w g 32 34 ys hb hl aF ag,pr w g' 32 34 zs hb' hl' aF ag]
theorem mS(ks ds ns:List Nat)(h:Nat)(w:World)(hk:IsB ks)(hkl:ks.length=32)(hd:IsB ds)(hdl:ds.length=32)(hn:IsB ns)(hnl:ns.length=32)(hh:h<256):Calls Tryz.prog 48 #[.agg (bvs ks).toArray, .int .i64 h, .agg (bvs ds).toArray, .agg (bvs ns).toArray] w fun e w'=>e= .returned (.tuple #[.agg (bvs (aI ks h ds ns).1).toArray, .agg (bvs (aI ks h ds ns).2).toArray])/\Below w.heap.size w w':=by
 have N:=aa hk;have O:=aa hkl;have c:=aa hd;have B:=aa hdl;have d:=aa hn;have C:=aa hnl;clear hk hkl hd hdl hn hnl;go_enter Tryz.func48,Tryz.ntmps48;go_wp2_with(with_reducible refine atS 10 ?_);refine C6 (G:=fun w2=>Hd (wpList _ _ _ _ _ w2)) fun w2 P Q R T U a b=>?_;have V:Hd (ar w2 w.heap.size 37 ks):=P;have W:Hd (ar w2 (w.heap.size+1) 34 ds):=Q;have X:Hd (ar w2 (w.heap.size+1+1) 34 ns):=R;have Y:Hd (ar w2 (w.heap.size+1+1+1) 34 (zs 32)):=T;have Z:Hd (ar w2 (w.heap.size+1+1+1+1) 34 (zs 32)):=U;clear P Q R T U;refine aa ?_;go_wp2_with(refine ac (o:=⟨some 10,_,_,_,_,_⟩) (by rfl) 37 (.tmp 4) rfl ⟨w.heap.size,0,none⟩ 32 ks rfl (V.o.whole N.o O.o) (by omega) (by kernel_rfl) (by kernel_rfl) ?_);have hi:((255:Int)-h)=((255-h:Nat):Int):=by omega
 rw[hi];refine(E6 ks (255-h) w2 N.o O.o (by omega)).mono ?_;rintro e w3⟨rfl,hb3⟩;have A:=aQ a hb3;have H:=dA W hb3;have I:=dA X hb3;have D:=dA Y hb3;have E:=dA Z hb3;have J:Hd (w.heap.size+1+1+1+1+1<=w3.heap.size):=by have h1:=b.o;have h2:=hb3.size;show _<=_;omega
 have hu:=bE;have hszd:(Tryz.prog.info? 34).map (·.size)=some (bvs ds).length:=by rw[ag];simp[bvs,B.o]
 have hszn:(Tryz.prog.info? 34).map (·.size)=some (bvs ns).length:=by rw[ag];simp[bvs,C.o]
 clear hb3 hi V W X Y Z;by_cases hb:cU ks (255-h)=0
 ·have L:Hd (aI ks h ds ns=(ds,ns)):=by
   show _=_;unfold aI;rw[if_pos hb]
  have hb':((cU ks (255-h):Nat):Int)=0:=by omega
  clear hb;generalize cU ks (255-h)=q at*;go_wp2_with fail;rename_i KK hKK;have M:=aa hKK;clear hKK;refine wp_region_held_drew (S:=fun w'=>w'.rangeAt (w.heap.size+1) 0 (bvs ds)/\w'.rangeAt (w.heap.size+1+1) 0 (bvs ns)) (by kernel_rfl) ⟨ab.range H.o,ab.range I.o⟩ fun hH=>?_;replace D:Hd (ar w3.drew (w.heap.size+1+1+1) 34 (zs 32)):=D.o;replace E:Hd (ar w3.drew (w.heap.size+1+1+1+1) 34 (zs 32)):=E.o;replace A:Hd (Below w.heap.size w w3.drew):=af A.o 1;replace J:Hd (w.heap.size+1+1+1+1+1<=w3.drew.heap.size):=J.o;have F:=aa hH;clear H I;generalize w3.drew=w3 at*;refine tkl 0 ?_;refine tkl 1 ?_;clear hH;refine rdy 2 fun K hK=>?_;refine aA (o:=⟨none,_,_,_,_,_⟩) (by rfl) 34 (.tmp 8) (.tmp 15) rfl 0 [] (bvs (zs 32)) (bvs ds) [] rfl rfl (bj D.o) rfl (by simp[bvs,zs,B.o]) (by rw[ag];simp[bvs,B.o]) (fun u hu=>ah _ u hu) ?_;intro w4 hb4 hg4;have hH4:w4.rangeAt (w.heap.size+1) 0 (bvs ds)/\w4.rangeAt (w.heap.size+1+1) 0 (bvs ns):=⟨bw F.o.1 hg4 (by omega),bw F.o.2 hg4 (by omega)⟩;refine hK.out _ _ hH4 (fun _=>?_);clear hK;refine rdy 3 fun K hK=>?_;have h24:ar w4 (w.heap.size+1+1+1+1) 34 (zs 32):=(ae.one hg4).blk E.o (by omega);refine aA (o:=⟨none,_,_,_,_,_⟩) (by rfl) 34 (.tmp 9) (.tmp 16) rfl 0 [] (bvs (zs 32)) (bvs ns) [] rfl rfl (bj h24) rfl (by simp[bvs,zs,C.o]) (by rw[ag];simp[bvs,C.o]) (fun u hu=>ah _ u hu) ?_;intro w5 hb5 hg5;refine hK.out _ _ ⟨bw hH4.1 hg5 (by omega),bw hH4.2 hg5 (by omega)⟩ (fun _=>?_);clear hK;refine bN ?_;change KK _ _;refine M.o _ _ ?_;go_wp2_with fail;have hb:Below w.heap.size w w5:=(A.o.grown hg4 A.o.size fun k hk=>by injection hk with hk;omega).grown hg5 (Nat.le_trans A.o.size hg4.size) fun k hk=>by injection hk with hk;omega
  refine mr rfl rfl rfl (g:=w.heap.size+1+1+1) (g':=w.heap.size+1+1+1+1) (ys:=ds) (zs:=ns) ?_ ?_ B.o C.o rfl ⟨by rw[L.o],hb⟩
  ·exact(ae.one hg5).blk (aN hb4) (by omega)
  ·exact aN hb5
 ·have L:Hd (aI ks h ds ns=(ns,ds)):=by
   show _=_;unfold aI;rw[if_neg hb]
  have hb':¬((cU ks (255-h):Nat):Int)=0:=by omega
  clear hb;generalize cU ks (255-h)=q at*;go_wp2_with fail;rename_i KK hKK;have M:=aa hKK;clear hKK;refine wp_region_held_drew (S:=fun w'=>w'.rangeAt (w.heap.size+1+1) 0 (bvs ns)/\w'.rangeAt (w.heap.size+1) 0 (bvs ds)) (by kernel_rfl) ⟨ab.range I.o,ab.range H.o⟩ fun hH=>?_;replace D:Hd (ar w3.drew (w.heap.size+1+1+1) 34 (zs 32)):=D.o;replace E:Hd (ar w3.drew (w.heap.size+1+1+1+1) 34 (zs 32)):=E.o;replace A:Hd (Below w.heap.size w w3.drew):=af A.o 1;replace J:Hd (w.heap.size+1+1+1+1+1<=w3.drew.heap.size):=J.o;have F:=aa hH;clear H I;generalize w3.drew=w3 at*;refine tkl 0 ?_;refine tkl 1 ?_;clear hH;refine rdy 2 fun K hK=>?_;refine aA (o:=⟨none,_,_,_,_,_⟩) (by rfl) 34 (.tmp 8) (.tmp 17) rfl 0 [] (bvs (zs 32)) (bvs ns) [] rfl rfl (bj D.o) rfl (by simp[bvs,zs,C.o]) (by rw[ag];simp[bvs,C.o]) (fun u hu=>ah _ u hu) ?_;intro w4 hb4 hg4;have hH4:w4.rangeAt (w.heap.size+1+1) 0 (bvs ns)/\w4.rangeAt (w.heap.size+1) 0 (bvs ds):=⟨bw F.o.1 hg4 (by omega),bw F.o.2 hg4 (by omega)⟩;refine hK.out _ _ hH4 (fun _=>?_);clear hK;refine rdy 3 fun K hK=>?_;have h24:ar w4 (w.heap.size+1+1+1+1) 34 (zs 32):=(ae.one hg4).blk E.o (by omega);refine aA (o:=⟨none,_,_,_,_,_⟩) (by rfl) 34 (.tmp 9) (.tmp 18) rfl 0 [] (bvs (zs 32)) (bvs ds) [] rfl rfl (bj h24) rfl (by simp[bvs,zs,B.o]) (by rw[ag];simp[bvs,B.o]) (fun u hu=>ah _ u hu) ?_;intro w5 hb5 hg5;refine hK.out _ _ ⟨bw hH4.1 hg5 (by omega),bw hH4.2 hg5 (by omega)⟩ (fun _=>?_);clear hK;refine bN ?_;change KK _ _;refine M.o _ _ ?_;go_wp2_with fail;have hb:Below w.heap.size w w5:=(A.o.grown hg4 A.o.size fun k hk=>by injection hk with hk;omega).grown hg5 (Nat.le_trans A.o.size hg4.size) fun k hk=>by injection hk with hk;omega
  refine mr rfl rfl rfl (g:=w.heap.size+1+1+1) (g':=w.heap.size+1+1+1+1) (ys:=ns) (zs:=ds) ?_ ?_ C.o B.o rfl ⟨by rw[L.o],hb⟩
  ·exact(ae.one hg5).blk (aN hb4) (by omega)
  ·exact aN hb5
end Go.Proofs.YtfnlhfaihoojfaaGreatDoor
