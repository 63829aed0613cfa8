/- Texts of the proof of ledgerlaw13.ClientPlays, part 16; no condition of its own. -/
import Derived.OpenShut
import Derived.Test.YtfnlhfaihoojfaaGreatDoorS15
set_option maxRecDepth 100000
set_option maxHeartbeats 4000000
namespace Go.Proofs.YtfnlhfaihoojfaaGreatDoor
open Go.RowKit
def Fg(wd:Int)(rs ks xs:List Nat)(w:World)(e:Ending)(w':World):Prop:=∃g c,e= .returned (.tuple #[.pointer (some ⟨g,0,none⟩), .int .i64 (dj wd rs ks xs:Nat)])/\w.heap.size<=g/\fx w' g c/\c.Ok/\c.wd=wd/\c.key=ks/\dw w' wd c.blank/\Below w.heap.size w w'/\(dj wd rs ks xs=0->∃p,dF xs=some p/\bM wd p 256=0/\bT wd ks p 256=rs/\aX w' g c p/\bn w' w.heap.size c.v p.val)
theorem ub{w w4 w5:World}{g:Nat}{wd:Int}{rs ks xs:List Nat}{A:Option Addr}{n k:Nat}{r:Int}(hb:Below w.heap.size w w4)(hg:w.heap.size<=g)(h0:r=0->fD w4 g wd ks rs xs A n k 4 w5)(h1:r≠0->jA w4 g wd ks rs xs A n k r w5):Fg wd rs ks xs w (.returned (.tuple #[.pointer (some ⟨g,0,none⟩), .int .i64 r])) w5:=by
 have bel:∀{c:Ck},Sta w4 g wd ks rs A n k c w5->Below w.heap.size w w5:=fun h=>h.tch.toBelow hb hb.size fun B e=>by rw[e];exact hg
 by_cases h:r=0
 ·obtain⟨hw,c,p,hs,hp,hr,ho,hf,hpp⟩:=h0 h;have he:dj wd rs ks xs=0:=by rw[mX (by rw[fW hw hp];exact hf) hw hp,if_pos hpp]
  exact⟨g,c,by rw[he,h];rfl,hg,hs.ck,hs.ok,hs.wdE,hs.keyE,hs.blank,bel hs,fun _=>⟨p,hp,hf,hpp,hr,ho.mono hb.size⟩⟩
 ·obtain⟨he,c,hs⟩:=h1 h;exact⟨g,c,by rw[he],hg,hs.ck,hs.ok,hs.wdE,hs.keyE,hs.blank,bel hs,fun h2=>absurd (by rw[he,h2];rfl) h⟩
theorem kO(wd:Int)(rs ks xs:List Nat)(A:Option Addr)(n k:Nat)(w:World)(hr:rs.length=32)(hrB:IsB rs)(hk:ks.length=32)(hkB:IsB ks)(hx:RB w A n xs)(hlt:∀ad,A=some ad->ad.block<w.heap.size)(hnc:n<=k)(hA:A=none->k=0)(hkm:k<=maxLen)(hn:n<=140737488355328)(ht:eY w):Calls Tryz.prog 19 #[.int .i64 wd, .agg (bvs rs).toArray, .agg (bvs ks).toArray, .slice A n k, .slice none 0 0] w (Fg wd rs ks xs w):=by
 have D:=aa hr;have I:=aa hrB;have E:=aa hk;have J:=aa hkB;have S:=aa hx;have K:=aa hlt;have T:=aa hnc;have U:=aa hA;have V:=aa hkm;have W:=aa hn;have L:=aa ht;clear hr hrB hk hkB hx hlt hnc hA hkm hn ht;go_enter Tryz.func19,Tryz.ntmps19;go_wp2_with(with_reducible refine atS 14 ?_);refine bV (G:=fun w2=>Hd (wpList _ _ _ _ _ w2)) fun w2 B M N h=>?_;have X:Hd (ar w2 w.heap.size 34 rs):=B;have Y:Hd (ar w2 (w.heap.size+1) 37 ks):=M;clear B M;refine aa ?_;go_wp2_with(first|(refine ac (o:=⟨some 14,_,_,_,_,_⟩) (by rfl) 37 (.tmp 7) rfl ⟨w.heap.size+1,0,none⟩ 32 ks rfl (Y.o.whole J.o E.o) (by omega) (by kernel_rfl) (by kernel_rfl) ?_)|(refine ac (o:=⟨some 16,_,_,_,_,_⟩) (by rfl) 34 (.tmp 6) rfl ⟨w.heap.size,0,none⟩ 32 rs rfl (X.o.whole I.o D.o) (by omega) (by kernel_rfl) (by kernel_rfl) ?_)|(refine aM (o:=⟨some 17,_,_,_,_,_⟩) (by rfl) 96 #[(0, .tmp 13),(1, .tmp 14),(2, .tmp 15),(3, .tmp 16)] rfl [(0, .int .i64 wd),(1, .agg (bvs ks).toArray),(2, .slice A n k),(3, .agg (bvs rs).toArray)] (by simp[go_sem]) _ (uu wd ks _ rs E.o rfl D.o) ?_)|(with_reducible refine atS 40 ?_));refine bh (G:=fun w3=>Hd (wpList _ _ _ _ _ w3)) fun w3 B Z i=>?_;have F:Hd (fx w3 w2.heap.size (eI wd ks (.slice A n k) rs)):=B;have a:=aQ N Z.o;have O:Hd (w.heap.size<=w2.heap.size):=N.o.size;clear B;refine aa ?_;go_wp2_with fail;refine bh (G:=fun w4=>Calls _ _ _ w4 _) fun w4 B P b=>?_;have H:Hd (fx w4 w2.heap.size (eI wd ks (.slice A n k) rs)):=ab.below F.o P.o;have C:=aQ a P.o;have Q:Ctx w4 w2.heap.size xs A n k:=by
  have h1:=L.o.lt;have h2:=O.o;exact⟨L.o.below (C.o),by omega,by omega,H.o.lt,S.o.below C.o,fun ad e=>⟨by have:=K.o ad e;have:=C.o.size;omega,by have:=K.o ad e;omega⟩,T.o,U.o,V.o,W.o⟩
 have R:Hd (w3.heap.size≠w2.heap.size/\w3.heap.size<w4.heap.size):=by have h3:=F.o.lt;have h4:=b.o;show _/\_;omega
 have c:Hd (∀j,j<4->w4.cell? ⟨w3.heap.size,j,none⟩=some (.func (.func (iK j)) #[.pointer (some ⟨w2.heap.size,0,none⟩)] #[])):=fun j hj=>by
  rw[ab.cell B.o j];match j,hj with
  |0,_=>rfl
  |1,_=>rfl
  |2,_=>rfl
  |3,_=>rfl
 have d:Hd (fD w4 w2.heap.size wd ks rs xs A n k 0 w4):=⟨eI wd ks (.slice A n k) rs,H.o,ju E.o J.o D.o I.o,rfl,rfl,rfl,rfl, .inl rfl,ae.refl _ _⟩;have f:=aa Q;clear B Q F H;refine(C5 f.o R.o.1 R.o.2 c.o d.o).mono ?_;rintro e w5⟨r,rfl,h0,h1⟩;have g:=aa h0;have B:=aa h1;clear h0 h1;go_wp2_with fail;go_ret2;exact ub C.o O.o g.o B.o
theorem mW(S cap ga:Nat)(ca:Ck)(wd:Int)(rs ks xs:List Nat)(A:Option Addr)(n k:Nat)(w:World)(hr:rs.length=32)(hrB:IsB rs)(hk:ks.length=32)(hkB:IsB ks)(hx:RB w A n xs)(hlt:∀ad,A=some ad->ad.block<w.heap.size)(hnc:n<=k)(hA:A=none->k=0)(hkm:k<=maxLen)(hn:n<=140737488355328)(ht:eY w)(hs:w.cell? ⟨S,0,none⟩=some (.pointer (some ⟨ga,0,none⟩)))(hca:fx w ga ca)(hco:ca.Ok)(hbb:dw w wd ca.blank):Calls Tryz.prog 19 #[.int .i64 wd, .agg (bvs rs).toArray, .agg (bvs ks).toArray, .slice A n k, .slice (some ⟨S,0,none⟩) 1 cap] w (Fg wd rs ks xs w):=by
 have D:=aa hr;have H:=aa hrB;have E:=aa hk;have I:=aa hkB;have Z:=aa hx;have O:=aa hlt;have a:=aa hnc;have b:=aa hA;have c:=aa hkm;have d:=aa hn;have P:=aa ht;have Q:=aa hs;have f:=aa hca;have g:=aa hco;have R:=aa hbb;clear hr hrB hk hkB hx hlt hnc hA hkm hn ht hs hca hco hbb;go_enter Tryz.func19,Tryz.ntmps19;go_wp2_with(with_reducible refine atS 14 ?_);refine bV (G:=fun w2=>Hd (wpList _ _ _ _ _ w2)) fun w2 C T U y=>?_;have i:Hd (ar w2 w.heap.size 34 rs):=C;have l:Hd (ar w2 (w.heap.size+1) 37 ks):=T;clear C T;refine aa ?_;go_wp2_with(first|(refine ac (o:=⟨some 14,_,_,_,_,_⟩) (by rfl) 37 (.tmp 7) rfl ⟨w.heap.size+1,0,none⟩ 32 ks rfl (l.o.whole I.o E.o) (by omega) (by kernel_rfl) (by kernel_rfl) ?_)|(refine ac (o:=⟨some 16,_,_,_,_,_⟩) (by rfl) 34 (.tmp 6) rfl ⟨w.heap.size,0,none⟩ 32 rs rfl (i.o.whole H.o D.o) (by omega) (by kernel_rfl) (by kernel_rfl) ?_)|(refine aM (o:=⟨some 17,_,_,_,_,_⟩) (by rfl) 96 #[(0, .tmp 13),(1, .tmp 14),(2, .tmp 15),(3, .tmp 16)] rfl [(0, .int .i64 wd),(1, .agg (bvs ks).toArray),(2, .slice A n k),(3, .agg (bvs rs).toArray)] (by simp[go_sem]) _ (uu wd ks _ rs E.o rfl D.o) ?_)|(with_reducible refine atS 24 ?_));refine bh (G:=fun w3=>Hd (wpList _ _ _ _ _ w3)) fun w3 C m z=>?_;have J:Hd (fx w3 w2.heap.size (eI wd ks (.slice A n k) rs)):=C;have K:=aQ U m.o;have L:Hd (w.heap.size<=w2.heap.size):=U.o.size;clear C;have hslt:S<w.heap.size:=by
  have:=World.block_lt_of_cell? w ⟨S,0,none⟩ Q.o;exact this
 have hs3:w3.cell? ⟨S,0,none⟩=some (.pointer (some ⟨ga,0,none⟩)):=(K.o.cell (p:=⟨S,0,none⟩) hslt).trans Q.o;obtain⟨_,_,_,_,_,hb3⟩:=bF (ab.below f.o K.o) g.o;obtain⟨_,_,_,_,_,hn3⟩:=bF J.o (ju E.o I.o D.o H.o);have hf3:w3.frozen? ⟨w2.heap.size,133,none⟩=false:=ab.frozen J.o 133;obtain⟨Ab,nb,cb,hbk⟩:∃Ab nb cb,ca.blank= .slice Ab nb cb:=by
  rcases R.o with h|⟨B,h,_⟩
  ·exact⟨_,_,_,h⟩
  ·exact⟨_,_,_,h⟩
 have q:=aa hbk;rw[hbk]at hb3;clear hslt hbk;refine aa ?_;go_wp2_with(with_reducible refine atS 33 ?_);have M:Hd (fx (w3.setCell ⟨w2.heap.size,133,none⟩ (.slice Ab nb cb)) w2.heap.size ((eI wd ks (.slice A n k) rs).blanked (.slice Ab nb cb))):=us J.o (ju E.o I.o D.o H.o) _;have V:Hd (Below w.heap.size w (w3.setCell ⟨w2.heap.size,133,none⟩ (.slice Ab nb cb))):=K.o.setCell (show w.heap.size<=w2.heap.size from L.o) _;have HB:Hd ((w3.setCell ⟨w2.heap.size,133,none⟩ (.slice Ab nb cb)).heap.size=w3.heap.size):=by show _=_;simp
 clear hs3 hb3 hn3 hf3 J K;generalize w3.setCell ⟨w2.heap.size,133,none⟩ (.slice Ab nb cb)=w3' at*;refine aa ?_;go_wp2_with fail;refine bh (G:=fun w4=>Calls _ _ _ w4 _) fun w4 C W s=>?_;have N:Hd (fx w4 w2.heap.size ((eI wd ks (.slice A n k) rs).blanked (.slice Ab nb cb))):=ab.below M.o W.o;have F:Hd (Below w.heap.size w w4):=V.o.trans (W.o.mono V.o.size);have X:Ctx w4 w2.heap.size xs A n k:=by
  have h1:=P.o.lt;have h2:=L.o;exact⟨P.o.below (F.o),by omega,by omega,N.o.lt,Z.o.below F.o,fun ad e=>⟨by have:=O.o ad e;have:=F.o.size;omega,by have:=O.o ad e;omega⟩,a.o,b.o,c.o,d.o⟩
 have Y:Hd (w3'.heap.size≠w2.heap.size/\w3'.heap.size<w4.heap.size):=by have h3:=M.o.lt;have h4:=s.o;show _/\_;omega
 have t:Hd (∀j,j<4->w4.cell? ⟨w3'.heap.size,j,none⟩=some (.func (.func (iK j)) #[.pointer (some ⟨w2.heap.size,0,none⟩)] #[])):=fun j hj=>by
  rw[ab.cell C.o j];match j,hj with
  |0,_=>rfl
  |1,_=>rfl
  |2,_=>rfl
  |3,_=>rfl
 have hbo:dw w4 wd (.slice Ab nb cb):=by
  rw[<-q.o];rcases R.o with h|⟨B,h,h2⟩
  ·exact .inl h
  ·exact .inr ⟨B,h,ab.below h2 F.o⟩
 have hok:=ju (wd:=wd) (raw:= .slice A n k) E.o I.o D.o H.o;have u:Hd (fD w4 w2.heap.size wd ks rs xs A n k 0 w4):=⟨(eI wd ks (.slice A n k) rs).blanked (.slice Ab nb cb),N.o,⟨hok.kl,hok.kB,hok.rl,hok.rB,hok.bl,hok.bB,hok.fl,hok.fB⟩,rfl,rfl,rfl,rfl,hbo,ae.refl _ _⟩;have v:=aa X;clear C X M N hbo hok;refine(C5 v.o Y.o.1 Y.o.2 t.o u.o).mono ?_;rintro e w5⟨r,rfl,h0,h1⟩;have x:=aa h0;have C:=aa h1;clear h0 h1;go_wp2_with fail;go_ret2;exact ub F.o L.o x.o C.o
theorem BC{w:World}{g:Nat}(h:ab w g 5 #[]):bn w g (.slice (some ⟨g,0,none⟩) 0 0) []:=⟨⟨rfl, .inr ⟨g,0,#[],rfl,Nat.le_refl _,h,Nat.le_refl _,by simp[maxLen],rfl,rfl⟩⟩,IsB.nil⟩
theorem zG(v:Value)(xs:List Nat)(base:Nat)(w:World)(hv:bn w base v xs)(hl:xs.length<=1073741824):Calls Tryz.prog 58 #[v] w fun e w'=>Below w.heap.size w w'/\∃V,e= .returned V/\bn w' w.heap.size V xs:=by
 obtain⟨A,c,rfl,hr,hlt,hA,hc⟩:=hv.form;cases A with
 |none=>
  have hx:xs=[]:=by
   have h1:=hr.1;have h2:=hA rfl;exact List.eq_nil_of_length_eq_zero (by omega)
  subst hx;have hnn:=rT;obtain rfl:c=0:=hA rfl;clear hr hlt hA hc hv;go_enter Tryz.func58,Tryz.ntmps58;go_wp2_with fail;go_ret;exact⟨Below.refl _ _,_,rfl,Own.nil _ _ _⟩
 |some ad=>
  have hnn:=p9 ad xs.length c;have C:=aa hr;have E:=aa hl;clear hr hlt hA hc hv hl;obtain⟨m,hm⟩:∃m,xs.length=m:=⟨_,rfl⟩;have F:=aa hm;rw[hm]at hnn C⊢;clear hm;go_enter Tryz.func58,Tryz.ntmps58;go_wp2_with(with_reducible refine atS 7 ?_);refine bh (G:=fun w2=>Hd (wpList _ _ _ _ _ w2)) fun w2 D B J=>?_;have H:Hd (bn w2 w.heap.size (.slice (some ⟨w.heap.size,0,none⟩) 0 0) []):=BC D.o;have I:Hd (RB w2 (some ad) m xs):=C.o.below B.o;clear D;refine aa ?_;go_wp2_with(at_builtin;refine dc (o:=⟨some 7,_,_,_,_,_⟩) ax aH w2 (by rfl) (.tmp 5) (.tmp 6) (by rfl) w.heap.size _ [] H.o (some ad) m c xs I.o (fun h=>by cases h) (by rfl) (by rfl) (by have:=E.o;have:=F.o;simp;omega) B.o.size ?_;intro V w3 ho hg);go_ret;exact⟨B.o.grown hg B.o.size fun k hk=>by injection hk with hk;subst hk;exact Nat.le_refl _,_,rfl,ho⟩
theorem DM:(Tryz.prog.underlying 75).map (·.isRow)=some true:=by kernel_rfl
theorem jq:(Tryz.prog.info? 75).map (·.size)=some 2:=by kernel_rfl
theorem lR:Tryz.prog.built 75 []=some #[.bool false, .slice none 0 0]:=by kernel_rfl
theorem mN{fn:Func}{p u:Tmp}{R:Ending->World->Prop}{x:Act}{w:World}{g:Nat}{f:Bool}{v z:Value}(h:fn.results=#[.cell p 75, .tmp u])(hp:x.tmps.getD p undef= .pointer (some ⟨g,0,none⟩))(hb:ab w g 75 #[.bool f,v])(hu:x.tmps.getD u undef=z)(hd:x.defers=[])(hR:R (.returned (.tuple #[.agg #[.bool f,v],z])) w):bodyPost Tryz.prog fn R .ret x w:=by
 refine bodyPost_ret (v:= .tuple #[.agg #[.bool f,v],z]) ?_ hd hR;obtain⟨d,hu2,hd2⟩:=gq DM;have hb':ab w g 75 [.bool f,v].toArray:=hb;have hl:=run_loadVar_mid (P:=Tryz.prog) w g 0 75 [.bool f,v] d (ab.range hb') hu2 hd2 (by rw[jq];rfl);rw[results_cell_tmp h,hp,hu];simp[asAddr,Result.andThen,hl]
theorem qX(f:Bool)(A:Option Addr)(n c:Nat):Tryz.prog.built 75 [(0, .bool f),(1, .slice A n c)]=some #[.bool f, .slice A n c]:=by kernel_rfl
theorem uM{P:Program}{ops:Array Oper}{Q:Exit->Act->World->Prop}{K:Act->World->Prop}{o:Oper}{a:Act}(hw:Region.wanted o (yielded ops a.tmps)=true)(w:World)(t:TypeId)(parts:Array (Nat×Operand))(ho:o.op= .build t parts)(vs:List (Nat×Value))(hv:(parts.map fun(i,x)=>(i,a.eval x)).toList=vs)(cells:Array Value)(hb:P.built t vs=some cells)(h:K (a.put o.dst (.agg cells)) w):if Region.wanted o (yielded ops a.tmps)=true then o.wp P a w K Q else K (a.put o.dst undef) w:=by
 subst hv;rw[if_pos hw];exact wp_build t parts ho (by rw[hb];rfl) (by rw[hb];exact h)
def kF(wd:Int)(rs ks xs:List Nat)(w:World)(e:Ending)(w':World):Prop:=Below w.heap.size w w'/\(dj wd rs ks xs≠0->e= .returned (.tuple #[.agg #[.bool false, .slice none 0 0], .int .i64 (dj wd rs ks xs:Nat)]))/\(dj wd rs ks xs=0->∃p V,dF xs=some p/\bM wd p 256=0/\bT wd ks p 256=rs/\e= .returned (.tuple #[.agg #[.bool p.found,V], .int .i64 0])/\bn w' w.heap.size V p.val)
theorem uN(wd:Int)(rs ks xs:List Nat)(A:Option Addr)(n k:Nat)(w:World)(hr:rs.length=32)(hrB:IsB rs)(hk:ks.length=32)(hkB:IsB ks)(hx:RB w A n xs)(hlt:∀ad,A=some ad->ad.block<w.heap.size)(hnc:n<=k)(hA:A=none->k=0)(hkm:k<=maxLen)(hn:n<=140737488355328)(ht:eY w):Calls Tryz.prog 29 #[.int .i64 wd, .agg (bvs rs).toArray, .agg (bvs ks).toArray, .slice A n k] w (kF wd rs ks xs w):=by
 have M:=aa hr;have N:=aa hrB;have O:=aa hk;have P:=aa hkB;have a:=aa hx;have b:=aa hlt;have d:=aa hnc;have i:=aa hA;have j:=aa hkm;have l:=aa hn;have m:=aa ht;clear hr hrB hk hkB hx hlt hnc hA hkm hn ht;go_enter Tryz.func29,Tryz.ntmps29;go_wp2_with(with_reducible refine atS 14 ?_);refine fC (G:=fun w2=>Hd (wpList _ _ _ _ _ w2)) fun w2 Q R T F r=>?_;have U:Hd (ar w2 w.heap.size 34 rs):=Q;have W:Hd (ar w2 (w.heap.size+1) 37 ks):=R;clear Q R;refine aa ?_;go_wp2_with(first|(refine ac (o:=⟨some 14,_,_,_,_,_⟩) (by rfl) 34 (.tmp 5) rfl ⟨w.heap.size,0,none⟩ 32 rs rfl (U.o.whole N.o M.o) (by omega) (by kernel_rfl) (by kernel_rfl) ?_)|(refine ac (o:=⟨some 15,_,_,_,_,_⟩) (by rfl) 37 (.tmp 6) rfl ⟨w.heap.size+1,0,none⟩ 32 ks rfl (W.o.whole P.o O.o) (by omega) (by kernel_rfl) (by kernel_rfl) ?_));refine(kO wd rs ks xs A n k w2 M.o N.o O.o P.o (a.o.below F.o) (fun ad e=>Nat.lt_of_lt_of_le (b.o ad e) F.o.size) d.o i.o j.o l.o (m.o.below F.o)).mono ?_;rintro e w3⟨g,c,rfl,hg,hck,hok,hwd,hky,hbl,hbe,hyes⟩;have X:=aa hyes;have I:=aa hck;have s:=aa hok;have D:=aQ F hbe;have J:Hd (ab w3 (w.heap.size+1+1) 75 (([]:List Value)++(([Value.bool false,Value.slice none 0 0]:List Value)++[])).toArray):=ab.below T.o hbe;have t:Hd (w.heap.size+1+1<w3.heap.size):=J.o.lt;have v:Hd (w.heap.size+1+1<g):=by have h1:=r.o;show _<_;omega
 clear hg hck hok hwd hky hbl hbe hyes T U W;obtain⟨q,H⟩:∃q,Hd (dj wd rs ks xs=q):=⟨_,rfl⟩;rw[H.o]at X⊢;by_cases hq:q=0
 ·obtain⟨p,hp,hf,hpp,hr,ho⟩:=X.o hq;subst hq;have x:=aa hp;have y:=aa hf;have z:=aa hpp;have HB:=aa hr;have HC:=aa ho;obtain⟨A1,c1,hv1,hx1,hlt1,hA1,hc1⟩:=ho.form;obtain⟨_,_,cf,cv,_,_⟩:=bF I.o s.o;rw[hv1]at cv;have HD:=aa hv1;have hfd:c.f=p.found:=hr.found.symm;rw[hfd]at cf;clear hp hf hpp hr ho hv1 hx1 hlt1 hA1 hc1 hfd;have E:Hd (∀wx,Below w3.heap.size w3 wx->wx.cell? ⟨g,66,none⟩=some (.bool p.found)/\wx.cell? ⟨g,67,none⟩=some (.slice A1 p.val.length c1)):=fun wx hb=>⟨(hb.cell (p:=⟨g,66,none⟩) I.o.lt).trans cf,(hb.cell (p:=⟨g,67,none⟩) I.o.lt).trans cv⟩;clear cf cv;go_wp2_with fail;rename_i KK hKK;have HG:=aa hKK;clear hKK;refine wp_region_held_drew (S:=fun w'=>w'.cell? ⟨g,66,none⟩=some (.bool p.found)/\w'.cell? ⟨g,67,none⟩=some (.slice A1 p.val.length c1)) (by kernel_rfl) (E.o _ (af (Below.refl _ _) 1)) fun hH=>?_;have L:Hd (Below w3.heap.size w3 w3.drew):=af (Below.refl _ _) 1;generalize w3.drew=w4 at*;refine tka 0 ?_;refine tka 1 ?_;refine tka 2 ?_;refine tka 3 ?_;refine tka 4 ?_;refine tka 5 ?_;refine tka 6 ?_;refine tka 7 ?_;refine tka 8 ?_;refine tka 9 ?_;clear hH;refine rdy 10 fun K hK=>?_;go_simp;go_at_call 58;refine(zG _ p.val _ w4 (by rw[<-HD.o];exact HC.o.below L.o) (by have:=HB.o.pok.vl;omega)).mono ?_;rintro e w5⟨hb5,V,rfl,ho5⟩;have C:=aQ L hb5;have Y:=aa ho5;have Z:Hd (w3.heap.size<=w4.heap.size):=L.o.size;refine hK.out _ _ (E.o _ C.o) (fun hH=>?_);obtain⟨A2,c2,hv2,_⟩:=ho5.form;subst hv2;clear hK hb5 ho5;refine rdy 11 fun K hK=>?_;refine uM (o:=⟨some 35,_,_,_,_,_⟩) (by rfl) w5 75 #[(0, .tmp 28),(1, .tmp 34)] rfl [(0, .bool p.found),(1, .slice A2 p.val.length c2)] (by simp[go_sem]) _ (qX _ _ _ _) ?_;refine hK.out _ _ (E.o _ C.o) (fun hH=>?_);clear hK;refine rdy 12 fun K hK=>?_;have HH:Hd (ab w5 (w.heap.size+1+1) 75 (([]:List Value)++(([Value.bool false,Value.slice none 0 0]:List Value)++[])).toArray):=ab.below J.o C.o;refine aA (o:=⟨none,_,_,_,_,_⟩) (by rfl) 75 (.tmp 8) (.tmp 35) rfl 0 [] [.bool false, .slice none 0 0] [.bool p.found, .slice A2 p.val.length c2] [] rfl rfl HH.o rfl rfl (by rw[jq];rfl) (by intro u hu;simp at hu;rcases hu with rfl|rfl<;>rfl) ?_;intro w6 h6 g6;have hgn:g≠w.heap.size+1+1:=by have:=v.o;omega
  refine hK.out _ _ ⟨jG g6 hgn (E.o _ C.o).1,jG g6 hgn (E.o _ C.o).2⟩ (fun hH=>?_);clear hK;refine tka 13 ?_;refine bN ?_;change KK _ _;refine HG.o _ _ ?_;go_wp2_with fail;have hb6:Below w.heap.size w w6:=(D.o.trans (C.o.mono D.o.size)).grown g6 (Nat.le_trans D.o.size C.o.size) fun k hk=>by injection hk with hk;omega
  have ho6:bn w6 w.heap.size (.slice A2 p.val.length c2) p.val:=((ae.one g6).own Y.o fun B hB e=>by
   have:=(Y.o.lt B hB).1;have:=t.o;have:=Z.o;omega).mono (by have:=D.o.size;have:=Z.o;omega);exact mN rfl rfl h6 rfl rfl ⟨hb6,fun h=>absurd H.o h,fun _=>⟨p,_,x.o,y.o,z.o,rfl,ho6⟩⟩
 ·have hq':¬(q:Int)=0:=by omega
  have HI:=aa hq;clear hq;go_wp2_with(first|(refine aM (o:=⟨some 22,_,_,_,_,_⟩) (by rfl) 75 #[] rfl [] (by simp[go_sem]) _ lR ?_)|(refine aq (o:=⟨none,_,_,_,_,_⟩) (by rfl) 75 (.tmp 8) (.tmp 22) rfl 0 [] [.bool false, .slice none 0 0] [.bool false, .slice none 0 0] [] rfl rfl J.o rfl rfl (by rw[jq];rfl) (by intro u hu;simp at hu;rcases hu with rfl|rfl<;>rfl) ?_;intro w4 h4 g4));exact mN rfl rfl h4 rfl rfl ⟨D.o.grown g4 D.o.size fun k hk=>by injection hk with hk;omega,fun _=>by rw[H.o];rfl,fun h=>absurd (H.o.symm.trans h) HI.o⟩
theorem gH{w:World}(a:Nat)(ha:a<256):bn (w.alloc (.cells #[.int .u8 (a:Int)] 5)) w.heap.size (.slice (some ⟨w.heap.size,0,none⟩) 1 1) [a]:=⟨⟨rfl, .inr ⟨w.heap.size,1,#[.int .u8 (a:Int)],rfl,Nat.le_refl _,heap_alloc_new w _,Nat.le_refl _,by simp[maxLen],rfl,rfl⟩⟩,fun x hx=>by simp at hx;omega⟩
theorem iG(n lo hi:Int)(w:World):Calls Tryz.prog 16 #[.int .i64 n, .int .i64 lo, .int .i64 hi] w fun e w'=>e= .returned (.int .i64 (if n<lo then lo else if hi<n then hi else n))/\w'=w:=by
 by_cases h1:n<lo
 ·go_enter Tryz.func16,Tryz.ntmps16;go_wp2_with fail;go_ret;exact⟨rfl,rfl⟩
 ·by_cases h2:hi<n
  ·go_enter Tryz.func16,Tryz.ntmps16;go_wp2_with fail;go_ret;exact⟨rfl,rfl⟩
  ·go_enter Tryz.func16,Tryz.ntmps16;go_wp2_with fail;go_ret;exact⟨rfl,rfl⟩
theorem yw(n:Int)(w:World):Calls Tryz.prog 16 #[.int .i64 n, .int .i64 0, .int .i64 32] w fun e w'=>e= .returned (.int .i64 (gj n:Nat))/\w'=w:=by
 refine(iG n 0 32 w).mono ?_;rintro e w'⟨rfl,rfl⟩;refine⟨?_,rfl⟩;congr 2;unfold gj;split<;>(try split)<;>omega
theorem kp(A:Option Addr)(n c:Nat)(xs:List Nat)(wd:Int)(w:World)(hx:RB w A n xs)(hA:A=none->c=0)(hn:n+128<=140737488355328)(ht:du w):Calls Tryz.prog 17 #[.slice A n c, .int .i64 wd] w fun e w'=>e= .returned (.agg (bvs (aZ wd xs)).toArray)/\Below w.heap.size w w':=by
 have M:=aa hx;have N:=aa hA;have O:=aa hn;have E:=aa ht;clear hx hA hn ht;go_enter Tryz.func17,Tryz.ntmps17;go_wp2_with(with_reducible refine atS 7 ?_);refine bh (G:=fun w2=>Hd (wpList _ _ _ _ _ w2)) fun w2 F C W=>?_;have H:Hd (ar w2 w.heap.size 34 (zs 32)):=F;clear F;refine aa ?_;go_wp2_with fail;refine(vt A n c xs w2 (M.o.below C.o) N.o O.o ⟨E.o.1.below C.o,E.o.2.below C.o⟩).mono ?_;rintro e w3⟨rfl,hb3⟩;have P:=aQ C hb3;have Q:=dA H hb3;have B:=aa (And.intro (cS xs) (iw xs));have I:Hd (aZ wd xs=jp (kY xs) wd):=rfl;obtain⟨D,R⟩:∃D,Hd (kY xs=D):=⟨_,rfl⟩;rw[R.o]at I B⊢;clear hb3 H;go_wp2_with(first|((with_reducible refine atS 5 ?_);refine aC (by rfl) 34 rfl _ _ aD ?_;intro w4 S J X)|(refine aq (o:=⟨none,_,_,_,_,_⟩) (by rfl) 34 (.tmp 5) (.tmp 7) rfl 0 [] (bvs (zs 32)) (bvs D) [] rfl rfl (bj S.o) rfl (by simp[bvs,zs,B.o.1]) (by rw[ag];simp[bvs,B.o.1]) (fun u hu=>ah _ u hu) ?_;intro w5 h5 g5;have T:Hd (ar w5 w3.heap.size 34 D):=aN h5)|(refine ac (o:=⟨some 8,_,_,_,_,_⟩) (by rfl) 34 (.tmp 5) rfl ⟨w3.heap.size,0,none⟩ 32 D rfl (T.o.whole B.o.2 B.o.1) (by omega) (by kernel_rfl) (by kernel_rfl) ?_));have hb35:Below w3.heap.size w3 w5:=J.o.grown g5 J.o.size fun k hk=>by injection hk with hk;omega
 have U:=aQ P hb35;have K:=dA Q hb35;clear hb35 g5 h5;refine(oq D wd w5 B.o.2 B.o.1).mono ?_;rintro e w6⟨rfl,hb6⟩;have L:=aQ U hb6;have V:=dA K hb6;rw[<-I.o];clear hb6 K;go_wp2_with(refine aq (o:=⟨none,_,_,_,_,_⟩) (by rfl) 34 (.tmp 4) (.tmp 10) rfl 0 [] (bvs (zs 32)) (bvs (aZ wd xs)) [] rfl rfl (bj V.o) rfl (by simp[bvs,zs,aw]) (by rw[ag];simp[bvs,aw]) (fun u hu=>ah _ u hu) ?_;intro w7 h7 g7);exact bH rfl rfl (aN h7) (aw _ _) aF ag rfl ⟨rfl,L.o.grown g7 L.o.size fun k hk=>by injection hk with hk;omega⟩
theorem jl(wd:Int)(ls rs:List Nat)(w:World)(hl:IsB ls)(hll:ls.length=32)(hr:IsB rs)(hrl:rs.length=32):Calls Tryz.prog 40 #[.int .i64 wd, .agg (bvs ls).toArray, .agg (bvs rs).toArray] w fun e w'=>Below w.heap.size w w'/\∃V,e= .returned V/\bn w' w.heap.size V (aU wd ls rs):=by
 have H:=aa (And.intro hll hl);have I:=aa (And.intro hrl hr);have C:=aa (lH wd);clear hl hll hr hrl;go_enter Tryz.func40,Tryz.ntmps40;go_wp2_with fail;refine bV (G:=fun w2=>Calls _ _ _ w2 _) fun w2 J K D R=>?_;have M:Hd (ar w2 w.heap.size 34 ls):=J;have N:Hd (ar w2 (w.heap.size+1) 34 rs):=K;clear J K;refine(yw wd w2).mono ?_;rintro e w3⟨rfl,rfl⟩;obtain⟨m,L⟩:∃m,Hd (gj wd=m):=⟨_,rfl⟩;rw[L.o]at C⊢;have hm32:(m:Int)<=32:=by have:=C.o;omega
 go_wp2_with fail;have O:Hd (Below w3.heap.size w3 (w3.alloc (.cells #[.int .u8 1] 5))):=(Below.refl _ _).alloc (Nat.le_refl _) _;have P:Hd (bn (w3.alloc (.cells #[.int .u8 1] 5)) w3.heap.size (.slice (some ⟨w3.heap.size,0,none⟩) 1 1) (1::ls.take 0)):=gH 1 (by omega);go_loopw[8,9](fun v i wr=>∃k:Nat,k<=m/\i= .int .i64 k/\Hd (bn wr w3.heap.size v (1::ls.take k))/\Hd (Below w3.heap.size w3 wr))(fun _ i _=>m-(intOf i).toNat)
 case atStart=>exact⟨0,by omega,rfl,P.o,O.o⟩
 case round=>
  obtain⟨k,hk,rfl,B,A⟩:=hrel;by_cases hlt:k<m
  ·have hlt':(k:Int)<m:=by omega
   have hk32:k<ls.length:=by have:=H.o.1;have:=C.o;omega
   have hc:wr.cell? ⟨w.heap.size,k,none⟩=some (.int .u8 (ls.getD k 0:Nat)):=(ar.cell (ab.below M.o A.o) hk32);have hx8:ls.getD k 0<256:=H.o.2 _ (bL hk32);have E:Hd (1::ls.take (k+1)=1::ls.take k++[ls.getD k 0]):=by show _=_;rw[aJ hk32];rfl
   have hln:(1::ls.take k).length+1<=140737488355328:=by rw[List.length_cons,List.length_take];omega
   clear hk32;generalize ls.getD k 0=b at*;go_wp2_with(at_builtin;refine iu ax aH wr rfl (.tmp 19) (.tmp 23) rfl w3.heap.size _ _ B.o b hx8 rfl rfl hln A.o.size ?_;intro v' w1 hown1 hgrow1);have F:=aa (A.o.grown hgrow1 A.o.size B.o.ge);go_roundw
   case rel=>exact⟨k+1,by omega,by go_num,by rw[E.o];exact hown1,F.o⟩
   case measure=>simp[intOf];omega
  ·obtain rfl:k=m:=by omega
   go_wp2_with fail;go_loopw[8,10](fun v i wr=>∃j:Nat,j<=k/\i= .int .i64 j/\Hd (bn wr w3.heap.size v (1::(ls.take k++rs.take j)))/\Hd (Below w3.heap.size w3 wr))(fun _ i _=>k-(intOf i).toNat)
   case atStart=>exact⟨0,by omega,rfl,by rw[List.take_zero,List.append_nil];exact B.o,A.o⟩
   case round=>
    clear B A;obtain⟨j,hj,rfl,B,A⟩:=hrel;by_cases hlt:j<k
    ·have hlt':(j:Int)<k:=by omega
     have hk32:j<rs.length:=by have:=I.o.1;have:=C.o;omega
     have hc:wr.cell? ⟨w.heap.size+1,j,none⟩=some (.int .u8 (rs.getD j 0:Nat)):=(ar.cell (ab.below N.o A.o) hk32);have hx8:rs.getD j 0<256:=I.o.2 _ (bL hk32);have E:Hd (1::(ls.take k++rs.take (j+1))=1::(ls.take k++rs.take j)++[rs.getD j 0]):=by show _=_;rw[aJ hk32];simp
     have hln:(1::(ls.take k++rs.take j)).length+1<=140737488355328:=by rw[List.length_cons,List.length_append,List.length_take,List.length_take];omega
     clear hk32;generalize rs.getD j 0=b at*;go_wp2_with(at_builtin;refine iu ax aH wr rfl (.tmp 30) (.tmp 34) rfl w3.heap.size _ _ B.o b hx8 rfl rfl hln A.o.size ?_;intro v' w1 hown1 hgrow1);have F:=aa (A.o.grown hgrow1 A.o.size B.o.ge);go_roundw
     case rel=>exact⟨j+1,by omega,by go_num,by rw[E.o];exact hown1,F.o⟩
     case measure=>simp[intOf];omega
    ·obtain rfl:j=k:=by omega
     have Q:Hd (aU wd ls rs=1::(ls.take j++rs.take j)):=by show _=_;unfold aU;rw[L.o]
     go_wp2_with fail;go_ret;exact⟨D.o.trans (A.o.mono D.o.size),_,rfl,by rw[Q.o];exact B.o.mono D.o.size⟩
theorem jR(wd:Int)(ls rs:List Nat):(aU wd ls rs).length<=65:=by
 unfold aU;have:=lH wd;simp only[List.length_cons,List.length_append,List.length_take];omega
theorem dK(wd:Int)(ls rs:List Nat)(w:World)(hl:IsB ls)(hll:ls.length=32)(hr:IsB rs)(hrl:rs.length=32)(ht:du w):Calls Tryz.prog 18 #[.int .i64 wd, .agg (bvs ls).toArray, .agg (bvs rs).toArray] w fun e w'=>e= .returned (.agg (bvs (aZ wd (aU wd ls rs))).toArray)/\Below w.heap.size w w':=by
 have B:=aa (And.intro hll hl);have C:=aa (And.intro hrl hr);have E:=aa ht;clear hl hll hr hrl ht;go_enter Tryz.func18,Tryz.ntmps18;go_wp2_with(with_reducible refine atS 9 ?_);refine fC (G:=fun w2=>Hd (wpList _ _ _ _ _ w2)) fun w2 F H I Q X=>?_;have J:Hd (ar w2 w.heap.size 34 ls):=F;have K:Hd (ar w2 (w.heap.size+1) 34 rs):=H;have L:Hd (ar w2 (w.heap.size+1+1) 34 (zs 32)):=I;clear F H I;refine aa ?_;go_wp2_with(first|(refine ac (o:=⟨some 9,_,_,_,_,_⟩) (by rfl) 34 (.tmp 4) rfl ⟨w.heap.size,0,none⟩ 32 ls rfl (J.o.whole B.o.2 B.o.1) (by omega) (by kernel_rfl) (by kernel_rfl) ?_)|(refine ac (o:=⟨some 10,_,_,_,_,_⟩) (by rfl) 34 (.tmp 5) rfl ⟨w.heap.size+1,0,none⟩ 32 rs rfl (K.o.whole C.o.2 C.o.1) (by omega) (by kernel_rfl) (by kernel_rfl) ?_));refine(jl wd ls rs w2 B.o.2 B.o.1 C.o.2 C.o.1).mono ?_;rintro e w3⟨hb3,V,rfl,ho⟩;obtain⟨A,c,rfl,hx,_,hA,_⟩:=ho.form;have M:=aa hx;have R:=aa hA;have D:=aQ Q hb3;have S:=dA L hb3;have N:Hd ((aU wd ls rs).length+128<=140737488355328):=by have:=jR wd ls rs;show _<=_;omega
 have U:Hd (du w3):=⟨E.o.1.below D.o,E.o.2.below D.o⟩;obtain⟨T,O⟩:∃T,Hd (aU wd ls rs=T):=⟨_,rfl⟩;rw[O.o]at M N⊢;clear hb3 ho hx hA J K L;go_wp2_with fail;refine(kp A T.length c T wd w3 M.o R.o N.o U.o).mono ?_;rintro e w4⟨rfl,hb4⟩;have P:=aQ D hb4;have W:=dA S hb4;clear hb4;go_wp2_with(refine aq (o:=⟨none,_,_,_,_,_⟩) (by rfl) 34 (.tmp 6) (.tmp 14) rfl 0 [] (bvs (zs 32)) (bvs (aZ wd T)) [] rfl rfl (bj W.o) rfl (by simp[bvs,zs,aw]) (by rw[ag];simp[bvs,aw]) (fun u hu=>ah _ u hu) ?_;intro w7 h7 g7);exact bH rfl rfl (aN h7) (aw _ _) aF ag rfl ⟨by rw[O.o],P.o.grown g7 P.o.size fun k hk=>by injection hk with hk;omega⟩
theorem vr(wd:Int)(w:World)(ht:du w):Calls Tryz.prog 5 #[.int .i64 wd, .int .i64 256] w fun e w'=>e= .returned (.agg (bvs (ay wd 256)).toArray)/\Below w.heap.size w w':=by
 have H:=aa ht;clear ht;go_enter Tryz.func5,Tryz.ntmps5;go_wp2_with fail;refine bh (G:=fun w2=>Calls _ _ _ w2 _) fun w2 N O m=>?_;have U:Hd (ar w2 w.heap.size 34 (zs 32)):=N;clear N;refine(iG 256 0 256 w2).mono ?_;rintro e w3⟨rfl,rfl⟩;rw[show(if(256:Int)<0then(0:Int)else if(256:Int)<256then 256 else 256)=256from rfl];go_wp2_with fail;have J:Hd (Below w.heap.size w (w3.alloc (.cells #[.int .u8 2] 5))):=O.o.alloc O.o.size _;have V:Hd (bn (w3.alloc (.cells #[.int .u8 2] 5)) w3.heap.size (.slice (some ⟨w3.heap.size,0,none⟩) 1 1) [2]):=gH 2 (by omega);obtain⟨A,c,hv,hx,_,hA,_⟩:=V.o.form;have hx':RB (w3.alloc (.cells #[.int .u8 2] 5)) (some ⟨w3.heap.size,0,none⟩) 1 [2]:=by
  injection hv with e1 e2 e3;rw[<-e1]at hx;exact hx
 have C:=aa hx';clear hv hx hA hx';refine(kp _ 1 1 [2] wd _ C.o (fun h=>by cases h) (by omega) ⟨H.o.1.below J.o,H.o.2.below J.o⟩).mono ?_;rintro e w4⟨rfl,hb4⟩;have W:=aQ J hb4;have P:Hd (ar w4 w.heap.size 34 (zs 32)):=ab.below U.o (hb4.mono (by simp)|>fun h=>((Below.refl _ _).alloc (Nat.le_refl _) _).trans h);have X:Hd (aZ wd [2]=ay wd 0):=rfl;rw[X.o];clear hb4;go_wp2_with(first|((with_reducible refine atS 6 ?_);refine aC (by rfl) 34 rfl _ _ aD ?_;intro w5 Y Q n)|(refine aq (o:=⟨none,_,_,_,_,_⟩) (by rfl) 34 (.tmp 6) (.tmp 12) rfl 0 [] (bvs (zs 32)) (bvs (ay wd 0)) [] rfl rfl (bj Y.o) rfl (by simp[bvs,zs,al]) (by rw[ag];simp[bvs,al]) (fun u hu=>ah _ u hu) ?_;intro w6 h6 g6));have hb46:Below w4.heap.size w4 w6:=Q.o.grown g6 Q.o.size fun k hk=>by injection hk with hk;omega
 have Z:=aQ W hb46;have a:=dA P hb46;have b:Hd (ar w6 w4.heap.size 34 (ay wd 0)):=aN h6;have R:Hd (w.heap.size<w4.heap.size):=P.o.lt;clear hb46 h6 g6;go_loopw[7](fun i wr=>∃h:Nat,h<=256/\i= .int .i64 h/\Hd (ar wr w4.heap.size 34 (ay wd h))/\Hd (ar wr w.heap.size 34 (zs 32))/\Hd (Below w.heap.size w wr))(fun i _=>256-(intOf i).toNat)
 case atStart=>exact⟨0,by omega,rfl,b.o,a.o,Z.o⟩
 case round=>
  obtain⟨h,hh,rfl,C,K,D⟩:=hrel;by_cases hlt:h<256
  ·have hlt':(h:Int)<256:=by omega
   have L:Hd (ay wd (h+1)=aZ wd (aU wd (ay wd h) (ay wd h))):=rfl;have B:=aa (And.intro (al wd h) (bu wd h));have M:=aa (al wd (h+1));obtain⟨E,I⟩:∃E,Hd (ay wd h=E):=⟨_,rfl⟩;obtain⟨F,S⟩:∃F,Hd (ay wd (h+1)=F):=⟨_,rfl⟩;rw[I.o]at C L B;rw[S.o]at L M;go_wp2_with(first|(refine ac (o:=⟨some 19,_,_,_,_,_⟩) (by rfl) 34 (.tmp 6) rfl ⟨w4.heap.size,0,none⟩ 32 E rfl (C.o.whole B.o.2 B.o.1) (by omega) (by kernel_rfl) (by kernel_rfl) ?_)|(refine ac (o:=⟨some 20,_,_,_,_,_⟩) (by rfl) 34 (.tmp 6) rfl ⟨w4.heap.size,0,none⟩ 32 E rfl (C.o.whole B.o.2 B.o.1) (by omega) (by kernel_rfl) (by kernel_rfl) ?_));refine(dK wd E E wr B.o.2 B.o.1 B.o.2 B.o.1 ⟨H.o.1.below D.o,H.o.2.below D.o⟩).mono ?_;rintro e w7⟨rfl,hb7⟩;rw[<-L.o];have d:=dA C hb7;have f:=dA K hb7;have T:=aQ D hb7;clear hb7 C K D;go_wp2_with(refine aq (o:=⟨none,_,_,_,_,_⟩) (by rfl) 34 (.tmp 6) (.tmp 21) rfl 0 [] (bvs E) (bvs F) [] rfl rfl (bj d.o) rfl (by simp[bvs,B.o.1,M.o]) (by rw[ag];simp[bvs,M.o]) (fun u hu=>ah _ u hu) ?_;intro w8 h8 g8);have g:Hd (ar w8 w4.heap.size 34 (ay wd (h+1))):=by rw[S.o];exact aN h8
   have j:Hd (ar w8 w.heap.size 34 (zs 32)):=(ae.one g8).blk f.o (by have:=R.o;omega);have l:Hd (Below w.heap.size w w8):=T.o.grown g8 T.o.size fun k hk=>by injection hk with hk;have:=R.o;omega
   go_roundw
   case rel=>exact⟨h+1,by omega,by go_num,g.o,j.o,l.o⟩
   case measure=>simp[intOf];omega
  ·have hh256:h=256:=by omega
   subst hh256;have B:=aa (And.intro (al wd 256) (bu wd 256));obtain⟨E,I⟩:∃E,Hd (ay wd 256=E):=⟨_,rfl⟩;rw[I.o]at C B;go_wp2_with(first|(refine ac (o:=⟨some 22,_,_,_,_,_⟩) (by rfl) 34 (.tmp 6) rfl ⟨w4.heap.size,0,none⟩ 32 E rfl (C.o.whole B.o.2 B.o.1) (by omega) (by kernel_rfl) (by kernel_rfl) ?_)|(refine aq (o:=⟨none,_,_,_,_,_⟩) (by rfl) 34 (.tmp 4) (.tmp 22) rfl 0 [] (bvs (zs 32)) (bvs E) [] rfl rfl (bj K.o) rfl (by simp[bvs,zs,B.o.1]) (by rw[ag];simp[bvs,B.o.1]) (fun u hu=>ah _ u hu) ?_;intro w9 h9 g9));exact bH rfl rfl (aN h9) B.o.1 aF ag rfl ⟨by rw[I.o],D.o.grown g9 D.o.size fun k hk=>by injection hk with hk;omega⟩
def EM(k:IntKind)(w:World)(a:Option Addr)(len cap:Nat)(zs:List Int):Prop:=(a=none/\len=0/\cap=0/\zs=[])∨∃x,a=some x/\len<=cap/\cap<=maxLen/\zs.length=cap/\(∀i,i<zs.length->w.cell? (x.add i)=some (.int k (zs.getD i 0)))/\∀n∈zs,(Lit.int k n).wf=true
theorem jf{n:Int}(h:(Lit.int .u8 n).wf=true):0<=n/\n<=255:=by
 simpa[Lit.wf,IntKind.min,IntKind.max,IntKind.signed,IntKind.bits]using h
theorem lt_of_cell{w:World}{p:Addr}{v:Value}(h:w.cell? p=some v):p.block<w.heap.size:=by
 rcases Nat.lt_or_ge p.block w.heap.size with h'|h'
 ·exact h'
 ·simp[World.cell?,Array.getElem?_eq_none h']at h
theorem yH{w:World}{a:Option Addr}{len cap:Nat}{zs:List Int}(h:EM .u8 w a len cap zs):∃xs,RB w a len xs/\(a=none->cap=0)/\len<=cap/\cap<=maxLen:=by
 rcases h with⟨rfl,rfl,rfl,rfl⟩|⟨x,rfl,hl,hm,hz,hc,hwf⟩
 ·exact⟨[],RB.nil _ _,fun _=>rfl,Nat.le_refl _,by simp[maxLen]⟩
 ·have hb:∀i,i<cap->0<=zs.getD i 0/\zs.getD i 0<=255:=fun i hi=>by
   refine jf (hwf _ ?_);exact List.mem_of_getElem? (i:=i) (by simp[List.getD,hz,hi])
  refine⟨(zs.take len).map Int.toNat,⟨by simp;omega,?_,fun hn=>?_⟩,fun h=>(by cases h),hl,hm⟩
  ·intro y hy;simp only[List.mem_map]at hy;obtain⟨z,hz',rfl⟩:=hy;have:=jf (hwf z (List.mem_of_mem_take hz'));omega
  ·refine⟨x,rfl,?_,fun j y hj=>?_⟩
   ·have:=lt_of_cell (hc 0 (by omega));rwa[bX]at this
   ·simp only[List.getElem?_map,Option.map_eq_some_iff]at hj;obtain⟨z,hz',rfl⟩:=hj;have hjl:j<len:=by
     rcases Nat.lt_or_ge j len with h|h
     ·exact h
     ·rw[List.getElem?_eq_none (by simp;omega)]at hz';cases hz'
    have e:zs.getD j 0=z:=by
     rw[List.getElem?_take,if_pos hjl]at hz';simp[List.getD,hz']
    rw[hc j (by omega),e];have:=hb j (by omega);rw[e]at this;simp only[Option.some.injEq,Value.int.injEq,true_and];omega
end Go.Proofs.YtfnlhfaihoojfaaGreatDoor
