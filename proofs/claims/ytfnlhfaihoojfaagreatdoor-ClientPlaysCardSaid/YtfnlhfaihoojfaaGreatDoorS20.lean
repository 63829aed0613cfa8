/- Texts of the proof of ledgerlaw13.ClientPlays, part 20; no condition of its own. -/
import Derived.Test.YtfnlhfaihoojfaaGreatDoorS19
set_option maxRecDepth 100000
set_option maxHeartbeats 4000000
namespace Go.Proofs.YtfnlhfaihoojfaaGreatDoor
open Go.RowKit
theorem qW{key:List Nat}{d:Bool}(hk:key.length=32):Tryz.prog.built 39 [(0, .agg (bvs key).toArray),(1, .bool d)]=some (chS key d (.slice none 0 0)).toArray:=by
 have hb:∃Z:Array Value,Z.size=34/\Z[33]?=some (.slice none 0 0)/\∀ps,Tryz.prog.built 39 ps=Instr.fill (#[(0,32),(32,1),(33,1)][·]?) Z ps:=by
  refine⟨(gZ 32)++#[.bool false, .slice none 0 0],by simp[gZ,bvs,zs],by rfl,fun ps=>?_⟩;have h1:(Tryz.prog.info? 39).map (·.zero)=some (some (.agg ((gZ 32)++#[.bool false, .slice none 0 0]))):=by kernel_rfl
  obtain⟨i,hi,hz⟩:∃i,Tryz.prog.info? 39=some i/\i.zero=some (.agg ((gZ 32)++#[.bool false, .slice none 0 0])):=by
   cases hq:Tryz.prog.info? 39with
   |none=>simp[hq]at h1
   |some i=>exact⟨i,rfl,by simpa[hq]using h1⟩
  have hp:(Tryz.prog.underlying 39).bind (fun d=>match d with| .struct fs=>fs.toList.mapM (fun f=>(Tryz.prog.info? f.type).map fun i=>(f.offset,i.size))|_=>none)=some [(0,32),(32,1),(33,1)]:=by kernel_rfl
  rw[Tryz.underlying39]at hp;unfold Program.built;rw[hi,Tryz.underlying39];simp only[hz];simp only[Option.bind_some]at hp;rw[hp];rfl
 obtain⟨Z,hZ,hZ3,hb⟩:=hb;have hkl:(bvs key).length=32:=by simp[bvs,hk]
 have s1:((Value.agg (bvs key).toArray).cells).size=32:=by simp[Value.cells,hkl]
 rw[hb,de (off:=0) (size:=32) rfl s1 (by omega),de (off:=32) (size:=1) rfl rfl (by rw[dV];omega),Instr.fill];congr 1;apply Array.ext_getElem?;intro j;have e1:((Value.agg (bvs key).toArray).cells)=(bvs key).toArray:=rfl;have e2:(Value.bool d).cells=#[Value.bool d]:=rfl;unfold chS;rw[xg (by rw[dV,e2];simp;omega),e2,xg (by rw[s1];omega),e1];simp only[List.size_toArray,List.length_cons,List.length_nil,List.getElem?_toArray,hkl];by_cases h3:j=33
 ·subst h3;rw[if_neg (by omega),if_neg (by omega),List.getElem?_append_right (by omega),hkl];exact hZ3
 by_cases h2:j=32
 ·subst h2;rw[if_pos (by omega),List.getElem?_append_right (by omega),hkl];rfl
 rw[if_neg (by omega)];by_cases h1:j<32
 ·rw[if_pos (by omega),List.getElem?_append_left (by omega),Nat.sub_zero]
 ·rw[if_neg (by omega),Array.getElem?_eq_none (by omega),List.getElem?_eq_none (by rw[List.length_append,hkl];simp;omega)]
theorem ot{w w1 w2 w3 w4:World}{t1 t2:TypeId}{c1 c2:Array Value}(hw:Below w.heap.size w w3)(h1:ab w2 w.heap.size t1 c1)(h2:ab w2 w1.heap.size t2 c2)(h1':ab w3 w.heap.size t1 c1)(h2':ab w3 w1.heap.size t2 c2)(hg:w3.grownBy w4 (some w2.heap.size)):Below w.heap.size w w4/\ab w4 w.heap.size t1 c1/\ab w4 w1.heap.size t2 c2/\w.heap.size<w2.heap.size/\w1.heap.size<w2.heap.size:=by
 have a1:=ab.lt h1;have a2:=ab.lt h2;exact⟨hw.grown hg hw.size (fun k hk=>by injection hk with hk;omega),ab.grown h1' hg (fun e=>by injection e with e;omega),ab.grown h2' hg (fun e=>by injection e with e;omega),a1,a2⟩
theorem yJ{w w1 w2 w4 w5:World}{t1:TypeId}{c1:Array Value}{ky vl:List Nat}{A2:Option Addr}{c2:Nat}{old:List Value}(h01:w.heap.size<=w1.heap.size)(hb:Below w4.heap.size w4 w5)(hq:Below w.heap.size w w4/\ab w4 w.heap.size t1 c1/\ab w4 w1.heap.size 39 old.toArray/\w.heap.size<w2.heap.size/\w1.heap.size<w2.heap.size)(h4:ab w4 w2.heap.size 39 (chS ky false (.slice none 0 0)).toArray)(hk:ky.length=32)(hr:RB w5 A2 vl.length vl)(hle:vl.length<=c2)(hcm:c2<=maxLen)(hnil:A2=none->c2=0)(hlo:∀ad,A2=some ad->w4.heap.size<=ad.block/\ad.block<w5.heap.size):w5.cell? ⟨w2.heap.size,33,none⟩=some (.slice none 0 0)/\w5.frozen? ⟨w2.heap.size,33,none⟩=false/\ab (w5.setCell ⟨w2.heap.size,33,none⟩ (.slice A2 vl.length c2)) w2.heap.size 39 (chS ky false (.slice A2 vl.length c2)).toArray/\ab (w5.setCell ⟨w2.heap.size,33,none⟩ (.slice A2 vl.length c2)) w1.heap.size 39 old.toArray/\∀w6,(w5.setCell ⟨w2.heap.size,33,none⟩ (.slice A2 vl.length c2)).grownBy w6 (some w1.heap.size)->RB w6 A2 vl.length vl/\vl.length<=c2/\c2<=maxLen/\(A2=none->c2=0)/\(∀ad,A2=some ad->w.heap.size<=ad.block)/\Below w.heap.size w w6:=by
 have h5:=ab.below h4 hb;have hl4:=ab.lt h4;have hbel:Below w.heap.size w w5:=hq.1.trans (hb.mono hq.1.size);refine⟨?_,ab.frozen h5 33,oU h5 hk _,ab.far (ab.below hq.2.2.1 hb) (by show _≠w2.heap.size;omega) _,fun w6 hg=>⟨?_,hle,hcm,hnil,fun ad e=>?_,?_⟩⟩
 ·rw[ab.cell h5,List.getElem?_toArray,chS,List.getElem?_append_right (by simp[bvs,hk])];simp[bvs,hk]
 ·have h6:RB (w5.setCell ⟨w2.heap.size,33,none⟩ (.slice A2 vl.length c2)) A2 vl.length vl:=hr.grownBy (ai w5 (g:=w2.heap.size) 33 _) fun _ ad e he=>by
   have:=(hlo ad e).1;injection he with he;omega
  refine h6.grownBy hg fun _ ad e he=>?_;have:=(hlo ad e).1;injection he with he;omega
 ·have:=(hlo ad e).1;have:=hq.1.size;omega
 ·have h7:Below w.heap.size w (w5.setCell ⟨w2.heap.size,33,none⟩ (.slice A2 vl.length c2)):=hbel.setCell (p:=⟨w2.heap.size,33,none⟩) (by show _<=w2.heap.size;omega) _;exact h7.grown hg h7.size fun k hk=>by injection hk with hk;omega
def EN(x:Chg)(w:World)(e:Ending)(w':World):Prop:=∃A C,e= .returned (.agg (chC x A C).toArray)/\RB w' A x.val.length x.val/\x.val.length<=C/\C<=maxLen/\(A=none->C=0)/\(∀ad,A=some ad->w.heap.size<=ad.block)/\Below w.heap.size w w'
theorem yK(x:Chg)(A:Option Addr)(C:Nat)(w:World)(hk:x.key.length=32)(hr:RB w A x.val.length x.val)(hl:x.val.length<=140737488355328):Calls Tryz.prog 122 #[.agg (chC x A C).toArray] w (EN (bR x) w):=by
 obtain⟨ky,dl,vl⟩:=x;have U:=aa hr;have B:=aa hk;have hsz:(Tryz.prog.info? 37).map (·.size)=some (bvs ky).length:=by rw[aB];simp[bvs,B.o]
 clear hr hk;go_enter Tryz.func122,Tryz.ntmps122;cases dl
 ·go_wp2_with(first|((with_reducible refine atS 1 ?_);refine iY (by rfl) 39 (.tmp 0) rfl _ rfl ?_;intro w1 K G S)|((with_reducible refine atS 2 ?_);refine aC (by rfl) 39 rfl _ _ fk ?_;intro w2 H I V;have D:=aa (ab.below K.o I.o);have J:=aa (G.o.trans (I.o.mono G.o.size));have b32:=ie (ab.range D.o) B.o;rw[Nat.zero_add]at b32)|((with_reducible refine atS 5 ?_);refine aj (by rfl) 37 (.tmp 4) rfl w.heap.size 0 _ rfl (er (ab.range D.o)) fz hsz ?_)|((with_reducible refine atS 8 ?_);refine aM (by rfl) 39 #[(0, .tmp 5),(1, .tmp 7)] rfl [(0, .agg (bvs ky).toArray),(1, .bool false)] (by simp[go_sem]) _ (qW B.o) ?_)|((with_reducible refine atS 3 ?_);refine aC (by rfl) 39 rfl _ _ fk ?_;intro w3 L F T;have M:=aa (J.o.trans (F.o.mono J.o.size));have N:=aa (ab.below D.o F.o);have O:=aa (ab.below H.o F.o))|((with_reducible refine atT 3 ?_);refine a8 (o:=⟨none,_,_,_,_,_⟩) (by rfl) 39 (.tmp 3) (.tmp 8) rfl w2.heap.size _ _ 39 rfl rfl L.o (by rw[aK,aL _ _ B.o]) (by rw[aL _ _ B.o,aL _ _ (ak 32)]) (lI rfl) ?_;intro w4 R P W;have E:=aa (ot M.o D.o H.o N.o O.o P.o);have b32':=ie (ab.range E.o.2.1) B.o;have b33':=eW (ab.range E.o.2.1) B.o;rw[Nat.zero_add]at b32' b33';clear P L F T D N O H G I J M K b32));refine(zH A vl.length C vl w4 (U.o.below E.o.1) hl).mono ?_;rintro e w5⟨v,rfl,ho,hb⟩;obtain⟨A2,c2,rfl,hr2,hlo2,hnil2,hle2⟩:=ho.form;have hcm2:=xD ho;have Q:=aa (yJ (by have:=S.o;omega) hb E.o R.o B.o hr2 hle2 hcm2 hnil2 hlo2);have c33:=Q.o.1;have f33:=Q.o.2.1;clear ho hb hr2 hlo2 hnil2 hle2 hcm2 E R b32' b33';go_wp2_with(first|((with_reducible refine atS 16 ?_);refine aj (by rfl) 39 (.tmp 3) rfl w2.heap.size 0 _ rfl (ab.range Q.o.2.2.1) be (by rw[aK,aL _ _ B.o]) ?_)|((with_reducible refine atT 2 ?_);refine a8 (o:=⟨none,_,_,_,_,_⟩) (by rfl) 39 (.tmp 2) (.tmp 16) rfl w1.heap.size _ _ 39 rfl rfl Q.o.2.2.2.1 (by rw[aK,aL _ _ B.o]) (by rw[aL _ _ B.o,aL _ _ (ak 32)]) (lI rfl) ?_;intro w6 X Y b));refine ij (g:=w1.heap.size) rfl rfl X.o be (by rw[aK,aL _ _ B.o]) rfl ?_;obtain⟨h1,h2,h3,h4,h5,h6⟩:=Q.o.2.2.2.2 _ Y.o;exact⟨A2,c2,rfl,h1,h2,h3,h4,h5,h6⟩
 ·go_wp2_with(first|((with_reducible refine atS 1 ?_);refine iY (by rfl) 39 (.tmp 0) rfl _ rfl ?_;intro w1 K G S)|((with_reducible refine atS 2 ?_);refine aC (by rfl) 39 rfl _ _ fk ?_;intro w2 H I V;have D:=aa (ab.below K.o I.o);have J:=aa (G.o.trans (I.o.mono G.o.size));have b32:=ie (ab.range D.o) B.o;rw[Nat.zero_add]at b32)|((with_reducible refine atS 5 ?_);refine aj (by rfl) 37 (.tmp 4) rfl w.heap.size 0 _ rfl (er (ab.range D.o)) fz hsz ?_)|((with_reducible refine atS 8 ?_);refine aM (by rfl) 39 #[(0, .tmp 5),(1, .tmp 7)] rfl [(0, .agg (bvs ky).toArray),(1, .bool true)] (by simp[go_sem]) _ (qW B.o) ?_)|((with_reducible refine atS 3 ?_);refine aC (by rfl) 39 rfl _ _ fk ?_;intro w3 L F T;have M:=aa (J.o.trans (F.o.mono J.o.size));have N:=aa (ab.below D.o F.o);have O:=aa (ab.below H.o F.o))|((with_reducible refine atT 3 ?_);refine a8 (o:=⟨none,_,_,_,_,_⟩) (by rfl) 39 (.tmp 3) (.tmp 8) rfl w2.heap.size _ _ 39 rfl rfl L.o (by rw[aK,aL _ _ B.o]) (by rw[aL _ _ B.o,aL _ _ (ak 32)]) (lI rfl) ?_;intro w4 R P W;have E:=aa (ot M.o D.o H.o N.o O.o P.o);have b32':=ie (ab.range E.o.2.1) B.o;have b33':=eW (ab.range E.o.2.1) B.o;rw[Nat.zero_add]at b32' b33';clear P L F T D N O H G I J M K b32)|((with_reducible refine atS 16 ?_);refine aj (by rfl) 39 (.tmp 3) rfl w2.heap.size 0 _ rfl (ab.range R.o) be (by rw[aK,aL _ _ B.o]) ?_)|((with_reducible refine atT 2 ?_);refine a8 (o:=⟨none,_,_,_,_,_⟩) (by rfl) 39 (.tmp 2) (.tmp 16) rfl w1.heap.size _ _ 39 rfl rfl E.o.2.2.1 (by rw[aK,aL _ _ B.o]) (by rw[aL _ _ B.o,aL _ _ (ak 32)]) (lI rfl) ?_;intro w5 Z a c));refine ij (g:=w1.heap.size) rfl rfl Z.o be (by rw[aK,aL _ _ B.o]) rfl ?_;refine⟨none,0,rfl,RB.nil _ _,Nat.le_refl _,Nat.zero_le _,(fun _=>rfl),(fun ad e=>by cases e),?_⟩;exact E.o.1.grown a.o E.o.1.size (fun k hk=>by injection hk with hk;have:=S.o;omega)
theorem fa.take{w:World}{A:Option Addr}{N h:Nat}{X:Nat->Chg}(hx:fa w A N X)(hh:h<=N):fa w A h X:=⟨by have:=hx.1;omega,fun k hk=>hx.2 k (by omega)⟩
theorem fa.drop{w:World}{A B:Option Addr}{N h:Nat}{X:Nat->Chg}(hx:fa w A N X)(hh:h<=N)(hB:h<N->B=A.map (·.add (h*34))):fa w B (N-h) (fun k=>X (h+k)):=⟨by have:=hx.1;omega,fun k hk=>by
 obtain⟨b,o,Av,C,e,h2,h3,h4⟩:=hx.2 (h+k) (by omega);refine⟨b,o+h*34,Av,C,by rw[hB (by omega),e];simp[add_lit],h2,?_,h4⟩;rw[show o+h*34+k*34=o+(h+k)*34by omega];exact h3⟩
def Ex(N:Nat)(X:Nat->Chg)(w:World)(e:Ending)(w':World):Prop:=∃Z,Dl N Z w e w'/\dG (lst Z N)/\(lst Z N).Perm ((lst X N).map bR)
theorem rn{Z:Nat->Chg}{n:Nat}(h:n<2):dG (lst Z n):=by
 rcases n with _|_|n
 ·simp[lst,dG]
 ·simp[lst,dG]
 ·omega
theorem yn{X Z1 Z2:Nat->Chg}{h N:Nat}(hh:h<=N)(s1:dG (lst Z1 h))(s2:dG (lst Z2 (N-h)))(p1:(lst Z1 h).Perm ((lst X h).map bR))(p2:(lst Z2 (N-h)).Perm ((lst (fun k=>X (h+k)) (N-h)).map bR)):dG (lst (Dr ((lst Z1 h).merge (lst Z2 (N-h)) leC)) N)/\(lst (Dr ((lst Z1 h).merge (lst Z2 (N-h)) leC)) N).Perm ((lst X N).map bR):=by
 have hl:((lst Z1 h).merge (lst Z2 (N-h)) leC).length=N:=by rw[rx,ez,ez];omega
 have hf:=BN ((lst Z1 h).merge (lst Z2 (N-h)) leC);rw[hl]at hf;rw[hf];refine⟨ro s1 s2,(List.merge_perm_append (le:=leC)).trans ?_⟩;have h3:=xI X h (N-h);rw[show h+(N-h)=N by omega]at h3;rw[h3,List.map_append];exact p1.append p2
theorem uW{P:Program}{w:World}{ops:Array Oper}{rest:List Oper}{o:Oper}{a:Act}{Q:Exit->Act->World->Prop}(hgd:o.guard=none)(t:TypeId)(x ix:Operand)(ho:o.op= .slice t x (some ix) none none)(ht:P.underlying t=some (.slice (P.elem t)))(hsz:(P.info? (P.elem t)).map (·.size)=some 34)(A:Option Addr)(m d k:Nat)(hx:a.eval x= .slice A m d)(hi:a.eval ix= .int .i64 (k:Int))(hk:k<=m)(hmd:m<=d)(h:∀B,Hd ((k<m->B=A.map (·.add (k*34)))/\(∀ad,B=some ad->∃ad',A=some ad'/\ad'.block=ad.block)/\(A=none->B=none)/\(B=none->A=none))->wpList P ops Q rest (a.put o.dst (.slice B (m-k) (d-k))) w):wpList P ops Q (o::rest) a w:=by
 refine wpList_plain hgd fun K hK=>?_;have hs:(sizeOf (P.elem t)).run P w= .ok 34 w:=by
  cases hq:P.info? (P.elem t)with
  |none=>simp[hq]at hsz
  |some i=>
   have h1:i.size=34:=by simpa[hq]using hsz
   simp[sizeOf,typeInfo,hq,h1]
 have hrun:(Instr.sliceAt t (.slice A m d) (some (.int .i64 (k:Int))) none none).run P w= .ok (.slice (if d=k then A else A.map (·.add (k*34))) (m-k) (d-k)) w:=by
  rw[run_sliceAt_slice w t _ _ _ _ ht,run_slice_l w t A m d ht .i64 (k:Int) (by omega) (by omega),hs];simp only[Result.andThen_ok,sliced,Int.toNat_natCast]
 have h2:=h (if d=k then A else A.map (·.add (k*34))) (show _/\_/\_/\_ from⟨fun hlt=>if_neg (by omega),fun ad e=>by
   split at e
   ·exact⟨ad,e,rfl⟩
   ·rcases A with _|b
    ·cases e
    ·injection e with e;exact⟨b,rfl,by rw[<-e,bX]⟩,(fun e=>by subst e;split<;>rfl),fun e=>by
   split at e
   ·exact e
   ·rcases A with _|b
    ·rfl
    ·cases e⟩);unfold Oper.wp execOp;simp only[ho,hx,hi,Option.map,Sem.run_bind,Sem.run_pure,hrun,Result.andThen_ok];exact hK _ _ h2
theorem uw{w w2 w3 w4:World}{v:Value}{n:Nat}{X:Nat->Chg}{Ad:Nat->Option Addr}{Cp:Nat->Nat}{A:Option Addr}{c:Nat}{vl:List Nat}(hb:Below w.heap.size w w2)(ho:bJ w2 w.heap.size v n X Ad Cp)(hv:RB w2 A vl.length vl/\vl.length<=c/\c<=maxLen/\(A=none->c=0))(h3:Below w2.heap.size w2 w3)(hg:w3.grownBy w4 (some w2.heap.size)):Below w.heap.size w w4/\bJ w4 w.heap.size v n X Ad Cp/\RB w4 A vl.length vl/\vl.length<=c/\c<=maxLen/\(A=none->c=0):=by
 have far:Below w2.heap.size w2 w4:=h3.grown hg h3.size fun k hk=>by injection hk with hk;omega
 exact⟨hb.trans (far.mono hb.size),ho.later far,hv.1.below far,hv.2⟩
theorem bJ.mono{w:World}{base base' n:Nat}{v:Value}{X:Nat->Chg}{Ad:Nat->Option Addr}{Cp:Nat->Nat}(h:bJ w base v n X Ad Cp)(hb:base'<=base):bJ w base' v n X Ad Cp:={h with
  own:=by
   obtain⟨hl,hv⟩:=h.own;refine⟨hl,?_⟩;rcases hv with h0|⟨g,cap,cur,e,hg,r⟩
   ·exact .inl h0
   ·exact .inr ⟨g,cap,cur,e,by omega,r⟩}
theorem mp:Tryz.prog.elem 40=39:=by kernel_rfl
theorem nZ(N:Nat):∀(A:Option Addr)(c:Nat)(X:Nat->Chg)(w:World),fa w A N X->N<=c->N*64<=140737488355328->(∀k,k<N->(X k).val.length<=140737488355328)->Calls Tryz.prog 112 #[.slice A N c] w (Ex N X w):=by
 induction N using Nat.strongRecOn with
 |ind N ih=>
 intro A c X w hx hc hn hv;have H:=aa hx;have I:=aa hv;have O:=aa ih;clear hx hv ih;go_enter Tryz.func112,Tryz.ntmps112;by_cases h2:N<2
 ·have h2':(N:Int)<2:=by omega
  go_wp2_with fail;go_loopw[3,4](fun v i wr=>∃k:Nat,k<=N/\i= .int .i64 k/\(∃Z Ad Cp,Hd (bJ wr w.heap.size v k Z Ad Cp)/\Hd (lst Z k=(lst X k).map bR))/\Hd (Below w.heap.size w wr))(fun _ i _=>N-(intOf i).toNat)
  case atStart=>exact⟨0,by omega,rfl,⟨fun _=>default,fun _=>none,fun _=>0,bJ.nil _ _ _ _ _,rfl⟩,Below.refl _ _⟩
  case round=>
   obtain⟨k,hk,rfl,⟨Z,Ad,Cp,J,P⟩,F⟩:=hrel;obtain⟨w1,rfl⟩:∃w1,w1=wr:=⟨_,rfl⟩;by_cases hlt:k<N
   ·have hlt':(k:Int)<N:=by omega
    obtain⟨b,o,Av,Cv,rfl,hb,hr,hkB,hkl,hvr,hq⟩:=(H.o.below F.o).2 k hlt;have Q:=aa hr;have a:Hd (lst (upd Z k (bR (X k))) (k+1)=(lst X (k+1)).map bR):=by show _=_;rw[oY,P.o,jv,List.map_append];rfl
    have hvl:=I.o k hlt;have G:Hd (IsB (X k).key/\(X k).key.length=32):=⟨hkB,hkl⟩;have R:=aa hvr;clear hr hkB hkl hvr hq hb;generalize X k=x at*;go_wp2_with((with_reducible refine atS 21 ?_);refine aj (by rfl) 39 (.tmp 20) rfl b (o+k*34) (chC x Av Cv) rfl Q.o be (by rw[aK,am G.o.2]) ?_);refine(yK x Av Cv w1 G.o.2 R.o hvl).mono ?_;rintro e w2⟨A2,c2,rfl,hr2,hle2,hcm2,hnil2,hlo2,hb2⟩;have E:=aa (F.o.trans (hb2.mono F.o.size));have S:=aa (J.o.later hb2);have D:Hd (IsB (bR x).key/\(bR x).key.length=32):=by rw[ew];exact G.o
    have d:Hd (0<(bR x).val.length->∀ad,A2=some ad->some ad.block≠u3.ownBlock):=fun _ ad e he=>by
     have q1:=hlo2 ad e;have q2:=(J.o.own.lt _ he.symm).2;omega
    have T:=aa (show RB w2 A2 (bR x).val.length (bR x).val/\(bR x).val.length<=c2/\c2<=maxLen/\(A2=none->c2=0)from⟨hr2,hle2,hcm2,hnil2⟩);clear hr2 hle2 hcm2 hnil2 hlo2 hb2 Q R G;generalize bR x=y at*;go_wp2_with(first|((with_reducible refine atS 5 ?_);refine aC (by rfl) 39 rfl _ _ fk ?_;intro w3 U V r)|((with_reducible refine atT 5 ?_);refine a8 (o:=⟨none,_,_,_,_,_⟩) (by rfl) 39 (.tmp 5) (.tmp 22) rfl w2.heap.size _ _ 39 rfl rfl U.o (by rw[aK,am D.o.2]) (by rw[am D.o.2,aL _ _ (ak 32)]) cZ ?_;intro w4 f W s;have C:=aa (uw E.o S.o T.o V.o W.o);clear U V W T S)|((with_reducible refine atS 24 ?_);refine aj (by rfl) 39 (.tmp 5) rfl w2.heap.size 0 _ rfl (ab.range f.o) be (by rw[aK,am D.o.2]) ?_)|((with_reducible refine atS 25 ?_);refine aR rfl w4 40 39 _ 34 (.tmp 24) rfl dh dW (by decide) (by decide) (chC y A2 c2).toArray rfl (by rw[List.size_toArray,am D.o.2]) ?_)|((with_reducible refine atS 26 ?_);refine jz dh ej rfl w4 rfl (.tmp 23) (.tmp 25) rfl w.heap.size u3 k _ C.o.2.1.own (chC y A2 c2) (am D.o.2) cZ rfl rfl (by omega) (by omega) C.o.1.size ?_;intro v3 w5 ho3 hg3 hl3;have K:=aa (C.o.2.1.more D.o C.o.2.2 d.o ho3 hg3 hl3);have L:Hd (Below w.heap.size w w5):=C.o.1.grown hg3 C.o.1.size C.o.2.1.ge;clear ho3 hg3 hl3));go_roundw
    case rel=>exact⟨k+1,by omega,by go_num,⟨_,_,_,K.o,a.o⟩,L.o⟩
    case measure=>simp[intOf];omega
   ·have hnlt:¬(k:Int)<N:=by omega
    obtain rfl:k=N:=by omega
    go_wp2_with fail;go_ret;exact⟨Z,⟨_,_,_,rfl,J.o,F.o⟩,rn h2,by rw[P.o]⟩
 ·have h2':¬(N:Int)<2:=by omega
  go_wp2_with fail;rw[show(N:Int)/2=((N/2:Nat):Int)by omega];obtain⟨h,hN⟩:∃h,N/2=h:=⟨_,rfl⟩;rw[hN];have h3:h<=N:=by omega
  have h4:h<N:=by omega
  have h5:N-h<N:=by omega
  clear hN;refine(O.o h h4 A c X w (H.o.take h3) (by omega) (by omega) (fun k hk=>I.o k (by omega))).mono ?_;rintro e w1⟨Z1,⟨v1,Ad1,Cp1,rfl,ho1,hb1⟩,hs1,hp1⟩;obtain⟨A1,c1,rfl,hc1,_⟩:=ho1.form;have g:=aa hc1;have M:=aa hb1;have j:=aa hs1;have l:=aa hp1;clear hc1 hb1 hs1 hp1 ho1;go_wp2_with((with_reducible refine atS 37 ?_);refine uW rfl 40 (.tmp 35) (.tmp 36) rfl (by rw[mp];exact dh) (by rw[mp];exact aK) A N c h rfl rfl h3 hc ?_;intro B m);refine(O.o (N-h) h5 B (c-h) (fun k=>X (h+k)) w1 ((H.o.below M.o).drop h3 m.o.1) (by omega) (by omega) (fun k hk=>I.o _ (by omega))).mono ?_;rintro e w2⟨Z2,⟨v2,Ad2,Cp2,rfl,ho2,hb2⟩,hs2,hp2⟩;obtain⟨A2,c2,rfl,hc2,_⟩:=ho2.form;have n:=aa hc2;have p:=aa (g.o.below hb2);have E:=aa (M.o.trans (hb2.mono M.o.size));have Y:=aa (yn h3 j.o hs2 l.o hp2);clear hc2 hb2 hs2 hp2 ho2;go_wp2_with fail;refine(vN A1 A2 h (N-h) c1 c2 Z1 Z2 w2 p.o n.o (by omega)).mono ?_;rintro e w3⟨v3,Ad3,Cp3,rfl,ho3,hb3⟩;have K:=aa ho3;have L:=aa (E.o.trans (hb3.mono E.o.size));have q:=aa E.o.size;clear ho3 hb3;go_wp2_with fail;go_ret;refine⟨_,⟨_,Ad3,Cp3,rfl,?_,L.o⟩,Y.o.1,Y.o.2⟩;have h6:=K.o.mono q.o;rwa[show h+(N-h)=N by omega]at h6
def bU(X:Nat->Chg)(n hO:Nat):Nat:=if fM X n hO=0then(if 0<=pQ X n then 33 else 0)else fM X n hO
theorem lK{X:Nat->Chg}{n hO:Nat}(h:fM X n hO≠0):bU X n hO=fM X n hO:=if_neg h
theorem tJ{X Z:Nat->Chg}{N:Nat}(hs:dG (lst Z N))(hp:(lst Z N).Perm ((lst X N).map bR))(hg:∀k,k<N->uH (Z k)):nM (lst Z N) N=true↔0<=pQ X N:=by
 have h1:=zU hs (fun x hx=>by
  obtain⟨i,hi,rfl⟩:=i5.1 hx;exact hg i hi);rw[ez]at h1;rw[h1,kJ,vK hp];have:br ((lst X N).map bR)=br (lst X N):=by
  unfold br;rw[List.map_map];exact List.map_congr_left fun x _=>ew x
 rw[this]
theorem yc(A:Option Addr)(N c hO:Nat)(X:Nat->Chg)(w:World)(hx:fa w A N X)(hc:N<=c)(hm:hO<=4096)(hn:N*64<=140737488355328)(hv:∀k,k<N->(X k).val.length<=140737488355328):Calls Tryz.prog 111 #[.slice A N c, .int .i64 hO] w fun e w'=>e= .returned (.int .i64 (bU X N hO:Nat))/\Below w.heap.size w w':=by
 have Q:=aa hx;have R:=aa (fun W(hW:Below w.heap.size w W)=>nZ N A c X W (hx.below hW) hc hn hv);have hu:=bW;clear hx hv;go_enter Tryz.func111,Tryz.ntmps111;by_cases hmn:hO<N
 ·have D:Hd (bU X N hO=31):=by
   have h1:fM X N hO=31:=by unfold fM;rw[if_pos hmn]
   show _=_;rw[lK (by rw[h1];decide),h1]
  have hmn':(hO:Int)<N:=by omega
  go_wp2_with fail;go_ret;exact⟨by rw[D.o];rfl,Below.refl _ _⟩
 ·have hmn':¬(hO:Int)<N:=by omega
  go_wp2_with fail;go_loopw[5](fun i wr=>∃k:Nat,k<=N/\i= .int .i64 k/\Hd (dI X k=false)/\Hd (Below w.heap.size w wr))(fun i _=>N-(intOf i).toNat)
  case atStart=>exact⟨0,by omega,rfl,rfl,Below.refl _ _⟩
  case round=>
   obtain⟨k,hk,rfl,E,B⟩:=hrel;obtain⟨w1,rfl⟩:∃w1,w1=wr:=⟨_,rfl⟩;by_cases hlt:k<N
   ·obtain⟨b,o,Av,Cv,rfl,hb,hr,hkB,hkl,hvr,hvC,hCm,hnil⟩:=(Q.o.below B.o).2 k hlt;have hlt':(k:Int)<N:=by omega
    have b1:=ie hr hkl;have b2:=eW hr hkl;have F:Hd (long (X k)=(!(X k).del&&decide (128<(X k).val.length))):=rfl;have H:Hd (dI X (k+1)=(dI X k||long (X k))):=rfl;have T:Hd (long (X k)=true->bU X N hO=32):=fun h=>by
     have h1:fM X N hO=32:=by unfold fM;rw[if_neg hmn,lS hlt h];rfl
     rw[lK (by rw[h1];decide),h1]
    clear hr hkB hkl hvr hvC hCm hnil;generalize X k=x at*;obtain⟨ky,dl,vl⟩:=x;cases dl
    ·by_cases hlen:128<vl.length
     ·have hlen':(128:Int)<(vl.length:Int):=by omega
      have D:Hd (bU X N hO=32):=T.o (by rw[F.o];simp;exact hlen);go_wp2_with fail;go_ret;exact⟨by rw[D.o];rfl,B.o⟩
     ·have hlen':¬(128:Int)<(vl.length:Int):=by omega
      have G:Hd (dI X (k+1)=false):=by
       show _=_;rw[H.o,E.o,F.o];simp;omega
      go_wp2_with fail;go_roundw
      case rel=>exact⟨k+1,by omega,by go_num,G.o,B.o⟩
      case measure=>simp[intOf];omega
    ·have G:Hd (dI X (k+1)=false):=by
      show _=_;rw[H.o,E.o,F.o];simp
     go_wp2_with fail;go_roundw
     case rel=>exact⟨k+1,by omega,by go_num,G.o,B.o⟩
     case measure=>simp[intOf];omega
   ·have hnlt:¬(k:Int)<N:=by omega
    obtain rfl:k=N:=by omega
    have I:Hd (fM X k hO=0):=by show _=_;unfold fM;rw[if_neg hmn,E.o];rfl
    go_wp2_with fail;refine(R.o w1 B.o).mono ?_;rintro e w2⟨Z,⟨v,Ad,Cp,rfl,ho,hb⟩,hs,hp⟩;obtain⟨A2,c2,rfl,hc2,hq3,hq4,hN,hq5⟩:=ho.form;have J:=aa hc2;have L:=aa (B.o.trans (hb.mono B.o.size));have M:=aa (tJ hs hp ho.key);unfold maxLen at hN;clear ho hb hs hp hc2 hq3 hq4 hq5;go_wp2_with fail;go_loopw[7](fun i wr=>∃m q:Nat,1<=m/\(m<=k∨k=0)/\i= .int .i64 m/\Hd (nM (lst Z k) (min m k)=false)/\wr=w2.drewN q)(fun i _=>k-(intOf i).toNat)
    case atStart=>
     refine⟨1,0,by omega,by omega,rfl,?_,rfl⟩;show _=_;rcases Nat.eq_zero_or_pos k with h|h
     ·rw[h];rfl
     ·rw[show min 1 k=1by omega];simp[nM]
    case round=>
     obtain⟨m,q,h1m,hmk,rfl,O,rfl⟩:=hrel;by_cases hml:m<k
     ·have hml':(m:Int)<k:=by omega
      obtain⟨p,hp⟩:∃p,m-1=p:=⟨_,rfl⟩;have hpm:IntKind.i64.wrap ((m:Int)-1)=(p:Int):=by rw[IntWalk.i64_in _ (by omega)];omega
      have hp0:(0:Int)<=(p:Int):=by omega
      have hpk:(p:Int)<k:=by omega
      have hpk2:p<k:=by omega
      obtain⟨b,o,Av,Cv,e1,hb,hr,hkB,hkl,hq1⟩:=J.o.2 m hml;obtain⟨b',o',Av',Cv',e2,hb',hr',hkB',hkl',hq2⟩:=J.o.2 p hpk2;subst e1;injection e2 with e2;injection e2 with e2 e3 e4;clear e4;subst e2 e3;have a1:=er hr;have a2:=er hr';have hsz:(Tryz.prog.info? 37).map (·.size)=some (bvs (Z m).key).length:=by rw[aB];simp[bvs,hkl]
      have hsz2:(Tryz.prog.info? 37).map (·.size)=some (bvs (Z p).key).length:=by rw[aB];simp[bvs,hkl']
      have hek:∀w,(Op.equalIn 10000 37 (.agg (bvs (Z m).key).toArray) (.agg (bvs (Z p).key).toArray)).run Tryz.prog w= .ok (decide ((Z m).key=(Z p).key)) w:=fun w=>mD w _ _ hkB hkB' hkl hkl';have U:Hd ((Z m).key=(Z p).key->bU X k hO=33):=fun h=>by
       unfold bU;rw[if_pos I.o,if_pos (M.o.1 (si hml (by omega) (by rw[eN hml,hp,eN hpk2];exact h)))]
      have V:Hd (¬(Z m).key=(Z p).key->nM (lst Z k) (m+1)=false):=fun h=>by
       have h1:=O.o;rw[show min m k=m by omega]at h1;rw[nM,h1,eN hml,hp,eN hpk2,decide_eq_false h];simp
      obtain⟨w3,hw3⟩:∃w3,w2.drewN q=w3:=⟨_,rfl⟩;have P:=aa hw3;have KS:Hd (∀j,(w3.drewN j).rangeAt b (o+m*34) (bvs (Z m).key)/\(w3.drewN j).rangeAt b (o+p*34) (bvs (Z p).key)):=fun j=>by
       rw[<-hw3];exact⟨a1,a2⟩
      rw[hw3];clear hr hr' hkB hkl hkB' hkl' a1 a2 hw3 hp hq1 hq2;generalize(Z m).key=x at*;generalize(Z p).key=y at*;go_wp2_with fail;rename_i KK hKK;have Y:=aa hKK;clear hKK;refine wp_region_held_drew (S:=fun w'=>w'.rangeAt b (o+m*34) (bvs x)/\w'.rangeAt b (o+p*34) (bvs y)) (by kernel_rfl) (KS.o 1) fun hH=>?_;refine tka 0 ?_;refine tka 1 ?_;refine tka 2 ?_;refine tka 3 ?_;refine tkl 4 ?_;refine tka 5 ?_;refine tka 6 ?_;refine tka 7 ?_;refine tka 8 ?_;refine tka 9 ?_;refine tkl 10 ?_;refine rdy 11 fun K hK=>?_;go_simp;refine hK.out _ _ hH (fun hH2=>?_);clear hK hH;refine bN ?_;change KK _ _;refine Y.o _ _ ?_;clear hH2 hu hsz hsz2 hek hpm;by_cases hxy:x=y
      ·have C:=aa (U.o hxy);rw[decide_eq_true hxy];go_wp2_with fail;go_ret;exact⟨by rw[C.o];rfl,by rw[<-P.o];exact af (af L.o q) 1⟩
      ·have C:=aa (V.o hxy);rw[decide_eq_false hxy];go_wp2_with fail;go_roundw
       case rel=>exact⟨m+1,q+1,by omega,by omega,by go_num,(by show _=_;rw[show min (m+1) k=m+1by omega];exact C.o),by rw[<-P.o];rfl⟩
       case measure=>simp[intOf];omega
     ·have hml':¬(m:Int)<k:=by omega
      have C:Hd (bU X k hO=0):=by
       show _=_;have h1:nM (lst Z k) k=false:=by have:=O.o;rwa[show min m k=k by omega]at this
       unfold bU;rw[if_pos I.o,if_neg (fun h=>by rw[M.o.2 h]at h1;cases h1)]
      go_wp2_with fail;go_ret;exact⟨by rw[C.o];rfl,af L.o q⟩
def iZ(X:Nat->Chg)(N:Nat)(Z:Nat->Chg):Prop:=dG (lst Z N)/\(lst Z N).Perm ((lst X N).map bR)
def jB(X:Nat->Chg)(N:Nat)(w:World)(e:Ending)(w':World):Prop:=∃v,e= .returned (.tuple #[v, .int .i64 (bU X N 4096:Nat)])/\Below w.heap.size w w'/\(bU X N 4096=0->∃Z Ad Cp,bJ w' w.heap.size v N Z Ad Cp/\iZ X N Z)/\(bU X N 4096≠0->v= .slice none 0 0)
theorem fI{X:Nat->Chg}{n m:Nat}(h:bU X n m=0):fM X n m=0/\pQ X n<0:=by
 unfold bU at h;split at h
 ·split at h
  ·omega
  ·exact⟨by assumption,by omega⟩
 ·exact absurd h (by assumption)
theorem pK(A:Option Addr)(N c:Nat)(X:Nat->Chg)(w:World)(hx:fa w A N X)(hc:N<=c)(hn:N*64<=140737488355328)(hv:∀k,k<N->(X k).val.length<=140737488355328):Calls Tryz.prog 93 #[.slice A N c] w (jB X N w):=by
 have D:=aa (yc A N c 4096 X w hx hc (by omega) hn hv);have E:=aa (fun W(hW:Below w.heap.size w W)=>nZ N A c X W (hx.below hW) hc hn hv);clear hx hv;have C:Hd (∀v w',(bU X N 4096=0->∃Z Ad Cp,bJ w' w.heap.size v N Z Ad Cp/\iZ X N Z)->(bU X N 4096≠0->v= .slice none 0 0)->Below w.heap.size w w'->jB X N w (.returned (.tuple #[v, .int .i64 (bU X N 4096:Nat)])) w'):=fun v w' h1 h2 h3=>⟨v,rfl,h3,h1,h2⟩;generalize jB X N w=R at*;go_enter Tryz.func93,Tryz.ntmps93;go_wp2_with fail;refine D.o.mono ?_;rintro e w1⟨rfl,hb1⟩;have B:=aa hb1;clear hb1;by_cases h0:bU X N 4096=0
 ·have F:=aa (E.o w1 B.o);rw[h0]at C⊢;clear h0;go_wp2_with fail;refine F.o.mono ?_;rintro e w2⟨Z,⟨v2,Ad,Cp,rfl,ho2,hb2⟩,hs2,hp2⟩;have G:=aa (B.o.trans (hb2.mono B.o.size));have H:=aa (show∃Z Ad Cp,bJ w2 w.heap.size v2 N Z Ad Cp/\iZ X N Z from⟨Z,Ad,Cp,ho2.mono B.o.size,hs2,hp2⟩);clear ho2 hb2 hs2 hp2;go_wp2_with fail;exact C.o _ _ (fun _=>H.o) (fun h=>absurd rfl h) G.o
 ·obtain⟨z,hz⟩:∃z,z=bU X N 4096:=⟨_,rfl⟩;rw[<-hz]at C h0⊢;have h1:(z:Int)≠0:=by omega
  have h2:(((z:Nat):Int)!=0)=true:=by rw[bne_iff_ne];exact h1
  clear hz;go_wp2_with fail;exact C.o _ _ (fun h=>absurd h h0) (fun _=>rfl) B.o
def enC(x:Chg)(A:Option Addr)(C:Nat):List Value:=bvs x.key++[.slice A x.val.length C]
def ig(w:World)(P:Option Addr)(N:Nat)(X:Nat->Chg):Prop:=N<=maxLen/\∀k,k<N->∃b o A C,P=some ⟨b,o,none⟩/\b<w.heap.size/\w.rangeAt b (o+k*33) (enC (X k) A C)/\IsB (X k).key/\(X k).key.length=32/\RB w A (X k).val.length (X k).val/\(X k).val.length<=C/\C<=maxLen/\(A=none->C=0)
theorem ig.below{w w':World}{P:Option Addr}{N:Nat}{X:Nat->Chg}(h:ig w P N X)(hb:Below w.heap.size w w'):ig w' P N X:=⟨h.1,fun k hk=>by
 obtain⟨b,o,A,C,h1,h2,h3,h4,h5,h6,h7⟩:=h.2 k hk;exact⟨b,o,A,C,h1,Nat.lt_of_lt_of_le h2 hb.size,aV hb h2 h3,h4,h5,h6.below hb,h7⟩⟩
section
variable{w w':World}{b O:Nat}{x:Chg}{A:Option Addr}{C:Nat}
theorem Dg(h:w.rangeAt b O (enC x A C)):w.rangeAt b O (bvs x.key):=fun j v hj=>h j v (by
 unfold enC;rw[List.getElem?_append_left (List.getElem?_eq_some_iff.1 hj).1];exact hj)
theorem EY(h:w.rangeAt b O (enC x A C))(hl:x.key.length=32):w.cell? ⟨b,O+32,none⟩=some (.slice A x.val.length C):=h 32 _ (by
 unfold enC;rw[List.getElem?_append_right (by simp[bvs,hl])];simp[bvs,hl])
end
section
variable{X:Nat->Chg}{Ad:Nat->Option Addr}{Cp:Nat->Nat}
end
section
variable{w w':World}{base:Nat}{v v':Value}{n:Nat}{X:Nat->Chg}{Ad:Nat->Option Addr}{Cp:Nat->Nat}
end
section
variable{P:Program}
end
theorem BV:(Tryz.prog.info? 48).map (fun i=>(i.zero,i.size))=some (some (.agg ((gZ 32)++#[.slice none 0 0])),33):=by kernel_rfl
theorem AZ:(Tryz.prog.info? 48).map (·.size)=some 33:=by kernel_rfl
theorem xz:Tryz.prog.underlying 49=some (.slice 48):=by kernel_rfl
def wZ(m:List Chg)(n:Nat):Prop:=∀x,x∈m->∀y,y∈m->∀b,b<n->cU x.key b=cU y.key b
def Dv(m:List Chg):Prop:=∀x,x∈m->uH x
theorem su{m:List Chg}(hg:Dv m)(hn:(br m).Nodup)(hs:wZ m 256):m.length<=1:=by
 match m,hg,hn,hs with
 |[],_,_,_=>simp
 |[x],_,_,_=>simp
 |x::y::r,hg,hn,hs=>
  exfalso;have h1:x.key=y.key:=(kC (hg x (by simp)).1 (hg x (by simp)).2 (hg y (by simp)).1 (hg y (by simp)).2).1 (by
   have:=(dH (a:=x.key) (b:=y.key) (Nat.le_refl 256)).2 fun j hj=>hs x (by simp) y (by simp) j hj;have:=jZ x.key y.key;omega);simp[br,h1]at hn
theorem og{m:List Chg}{h:Nat}(hh:h<256)(hs:wZ m (255-h))(b:Nat):wZ (jK m h b) (256-h):=fun x hx y hy j hj=>by
 have hx':=List.mem_filter.1 hx;have hy':=List.mem_filter.1 hy;rcases Nat.lt_or_ge j (255-h)with h1|h1
 ·exact hs x hx'.1 y hy'.1 j h1
 ·obtain rfl:j=255-h:=by omega
  have a:=hx'.2;have c:=hy'.2;rw[decide_eq_true_eq]at a c;rw[a,c]
theorem rz{m:List Chg}(hn:(br m).Nodup)(f:Chg->Bool):(br (m.filter f)).Nodup:=hn.sublist (List.Sublist.map _ List.filter_sublist)
theorem oa{m:List Chg}(hn:(br m).Nodup)(h b:Nat):(br (jK m h b)).Nodup:=rz hn _
theorem nf{m:List Chg}(hn:dG m)(h b:Nat):dG (jK m h b):=hn.sublist List.filter_sublist
theorem ux{a b:List Nat}(ha:IsB a)(hal:a.length=32)(hb:IsB b)(hbl:b.length=32){n:Nat}(hs:∀j,j<n->cU a j=cU b j)(hle:eJ a<=eJ b):cU a n<=cU b n:=by
 by_cases e:a=b
 ·rw[e];exact Nat.le_refl _
 ·obtain⟨i,hi⟩:=lG hal hbl e;obtain⟨h1,h2,h3⟩:=pE ha hb hi;rcases h3 with⟨h4,h5,h6⟩|⟨h4,h5,h6⟩
  ·rcases Nat.lt_trichotomy n (te a b i)with h7|h7|h7
   ·rw[h2 n h7];exact Nat.le_refl _
   ·rw[h7,h5,h6];omega
   ·have:=hs _ h7;omega
  ·have h8:=fo b a i hb ha (by omega) (by have:=hi.1;omega) (fun j hj=>(hi.2.1 j hj).symm) h4;omega
theorem nQ{X:Nat->Chg}{N i:Nat}(hi:i<N):X i∈lst X N:=i5.2 ⟨i,hi,rfl⟩
theorem nY{X:Nat->Chg}{N i j:Nat}(h:dG (lst X N))(hij:i<j)(hj:j<N):eJ (X i).key<=eJ (X j).key:=by
 have:=mR h hij (by rw[ez];exact hj);rwa[eN (by omega),eN hj]at this
theorem uZ{X:Nat->Chg}{N k n:Nat}(hn:n<256)(hg:Dv (lst X N))(ho:dG (lst X N))(hs:wZ (lst X N) n)(hk:k<=N)(h0:∀i,i<k->cU (X i).key n=0)(h1:k<N->cU (X k).key n≠0):jK (lst X N) (255-n) 0=lst X k/\jK (lst X N) (255-n) 1=lst (fun i=>X (k+i)) (N-k):=by
 have hone:∀i,k<=i->i<N->cU (X i).key n=1:=fun i hi hN=>by
  have ha:=h1 (by omega);have hb:=lJ (X k).key n;have hc:=lJ (X i).key n;by_cases e:i=k
  ·subst e;omega
  ·have:=ux (hg _ (nQ (X:=X) (N:=N) (i:=k) (by omega))).1 (hg _ (nQ (X:=X) (N:=N) (i:=k) (by omega))).2 (hg _ (nQ hN)).1 (hg _ (nQ hN)).2 (fun j hj=>hs _ (nQ (by omega)) _ (nQ hN) j hj) (nY ho (show k<i by omega) hN);omega
 have hsp:=xI X k (N-k);rw[show k+(N-k)=N by omega]at hsp;have hz:∀x,x∈lst X k->cU x.key n=0:=fun x hx=>by
  obtain⟨i,hi,rfl⟩:=i5.1 hx;exact h0 i hi
 have ho1:∀x,x∈lst (fun i=>X (k+i)) (N-k)->cU x.key n=1:=fun x hx=>by
  obtain⟨i,hi,rfl⟩:=i5.1 hx;exact hone _ (by omega) (by omega)
 unfold jK;rw[show 255-(255-n)=n by omega,hsp,List.filter_append,List.filter_append];constructor
 ·rw[List.filter_eq_self.2 (fun x hx=>by simpa using hz x hx),List.filter_eq_nil_iff.2 (fun x hx=>by simp[ho1 x hx]),List.append_nil]
 ·rw[List.filter_eq_nil_iff.2 (fun x hx=>by simp[hz x hx]),List.filter_eq_self.2 (fun x hx=>by simpa using ho1 x hx),List.nil_append]
theorem ig.take{w:World}{A:Option Addr}{N h:Nat}{X:Nat->Chg}(hx:ig w A N X)(hh:h<=N):ig w A h X:=⟨by have:=hx.1;omega,fun k hk=>hx.2 k (by omega)⟩
theorem ig.drop{w:World}{A B:Option Addr}{N h:Nat}{X:Nat->Chg}(hx:ig w A N X)(hh:h<=N)(hB:h<N->B=A.map (·.add (h*33))):ig w B (N-h) (fun k=>X (h+k)):=⟨by have:=hx.1;omega,fun k hk=>by
 obtain⟨b,o,Av,C,rfl,h2,h3,h4⟩:=hx.2 (h+k) (by omega);refine⟨b,o+h*33,Av,C,by rw[hB (by omega)];simp[add_lit],h2,?_,h4⟩;rw[show o+h*33+k*33=o+(h+k)*33by omega];exact h3⟩
theorem ig.good{w:World}{A:Option Addr}{N:Nat}{X:Nat->Chg}(hx:ig w A N X):Dv (lst X N):=fun x h=>by
 obtain⟨i,hi,rfl⟩:=i5.1 h;obtain⟨_,_,_,_,_,_,_,h4,h5,_⟩:=hx.2 i hi;exact⟨h4,h5⟩
end Go.Proofs.YtfnlhfaihoojfaaGreatDoor
