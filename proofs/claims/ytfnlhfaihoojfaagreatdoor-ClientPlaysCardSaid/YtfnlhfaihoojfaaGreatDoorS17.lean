/- Texts of the proof of ledgerlaw13.ClientPlays, part 17; no condition of its own. -/
import Derived.Deep.Slices
import Derived.ChangeSame
import Derived.SizedLaws
import Derived.Laws.Tables
import Derived.Test.YtfnlhfaihoojfaaGreatDoorS16
set_option maxRecDepth 100000
set_option maxHeartbeats 4000000
namespace Go.Proofs.YtfnlhfaihoojfaaGreatDoor
open Go.ChangeShapes Go.WideShapes Go.RowKit
section
variable{H:Type}{enc:TypeId×Value->H}{P:Program}{w:World}{base:Nat}{spare:Nat->Bool}{held:Bool}
theorem Di:∀(cs:List Value),(∀v∈cs,∃a:Int,v= .int .u8 a/\(Lit.int .u8 a).wf=true)->∃ds:List Nat,cs=bvs ds/\IsB ds
 |[],_=>⟨[],rfl,IsB.nil⟩
 |v::r,h=>by
  obtain⟨ds,rfl,hd⟩:=Di r fun u hu=>h u (List.mem_cons_of_mem _ hu);obtain⟨a,rfl,wa⟩:=h v List.mem_cons_self;have hb:=jf wa;refine⟨a.toNat::ds,?_,fun x hx=>?_⟩
  ·simp only[bvs,List.map_cons,bv];congr 2;omega
  ·rcases List.mem_cons.1 hx with rfl|hx
   ·omega
   ·exact hd x hx
end
structure Chg where
 key:List Nat
 del:Bool
 val:List Nat
instance:Inhabited Chg:=⟨⟨[],false,[]⟩⟩
def chC(x:Chg)(A:Option Addr)(C:Nat):List Value:=bvs x.key++[.bool x.del, .slice A x.val.length C]
def fa(w:World)(P:Option Addr)(N:Nat)(X:Nat->Chg):Prop:=N<=maxLen/\∀k,k<N->∃b o A C,P=some ⟨b,o,none⟩/\b<w.heap.size/\w.rangeAt b (o+k*34) (chC (X k) A C)/\IsB (X k).key/\(X k).key.length=32/\RB w A (X k).val.length (X k).val/\(X k).val.length<=C/\C<=maxLen/\(A=none->C=0)
theorem aV{w w':World}{b o:Nat}{cs:List Value}(hb:Below w.heap.size w w')(h1:b<w.heap.size)(h:w.rangeAt b o cs):w'.rangeAt b o cs:=fun j v hj=>(hb.cell (p:=⟨b,o+j,none⟩) h1).trans (h j v hj)
theorem fa.below{w w':World}{P:Option Addr}{N:Nat}{X:Nat->Chg}(h:fa w P N X)(hb:Below w.heap.size w w'):fa w' P N X:=⟨h.1,fun k hk=>by
 obtain⟨b,o,A,C,h1,h2,h3,h4,h5,h6,h7⟩:=h.2 k hk;exact⟨b,o,A,C,h1,Nat.lt_of_lt_of_le h2 hb.size,aV hb h2 h3,h4,h5,h6.below hb,h7⟩⟩
theorem vy{w:World}{ad:Addr}{v:Value}(h:w.cell? ad=some v):∃b o,ad=⟨b,o,none⟩:=by
 obtain⟨b,o,s⟩:=ad;cases s with
 |none=>exact⟨b,o,rfl⟩
 |some z=>
  simp[World.cell?]at h;split at h<;>simp at h
theorem lM{w:World}{ad:Addr}{cs:List Value}{n:Nat}(h0:0<n)(hl:cs.length=n)(h:∀i,i<n->w.cell? ((ad.add 0).add i)=cs[i]?):∃b o,ad=⟨b,o,none⟩:=by
 have h5:=h 0 h0;rw[List.getElem?_eq_getElem (by omega),show ad.add 0=ad by simp[Addr.add],show ad.add 0=ad by simp[Addr.add]]at h5;exact vy h5
section
variable{H:Type}{enc:TypeId×Value->H}{P:Program}{w:World}{base:Nat}{held:Bool}
theorem tq{spare:Nat->Bool}{n fuel:Nat}{t e:TypeId}{cs:List Value}{x:DataW H×List MemPlace}(ht:P.underlying t=some (.array n e))(he:P.underlying e=some (.int .u8))(hc:P.cellsOf e=1)(hll:cs.length=n)(hf:DataW.trod enc P w base spare held fuel t cs=some x):∃ds:List Nat,cs=bvs ds/\IsB ds/\ds.length=n:=by
 obtain⟨xs,m,_,hx,_,hlen,hg⟩:=DataW.trod_array ht hf;obtain⟨ds,rfl,hB⟩:=Di cs fun v hv=>by
  obtain⟨i,hi,rfl⟩:=List.getElem_of_mem hv;have g:=hg i (by omega);rw[hc,Nat.mul_one,List.getElem?_eq_getElem (by omega)]at g;obtain⟨a,e0,q0,wa⟩:=DataW.trod_int he g;have e1:((cs.drop i).take 1)[0]?=some (.int .u8 a):=by rw[e0];rfl
  rw[List.getElem?_take,if_pos (by omega),List.getElem?_drop]at e1;rw[Nat.add_zero,List.getElem?_eq_getElem hi]at e1;exact⟨a,Option.some.inj e1,wa⟩
 exact⟨ds,rfl,hB,by simpa[bvs]using hll⟩
theorem iE{P:Program}{e:TypeId}{d:DataW H}:∀{l:List (DataW H)},d∈l->∀y∈d.weights P e,y∈DataW.weightsAll P e l
 |[],h,_,_=>by cases h
 |a::r,h,y,hy=>by
  simp only[DataW.weightsAll,List.mem_append];rcases List.mem_cons.1 h with rfl|h
  ·exact .inl hy
  ·exact .inr (iE h y hy)
def ed(P:Program)(t:TypeId)(d:DataW H)(M:Nat):Prop:=∀y∈d.weights P t,y<=M
theorem ut{t q:TypeId}{fuel:Nat}{cs:List Value}{x:DataW H×List MemPlace}(ht:P.underlying t=some (.slice q))(hq:P.underlying q=some (.int .u8))(cq:P.cellsOf q=1)(h:DataW.trod enc P w base (fun _=>true) held fuel t cs=some x):∃A C xs,cs=[.slice A xs.length C]/\RB w A xs.length xs/\xs.length<=C/\C<=maxLen/\(A=none->C=0)/\∀M,ed P t x.1 M->xs.length*P.bytesOf q<=M:=by
 have row:∃A L C,cs=[.slice A L C]/\(∃zs,EM .u8 w A L C zs)/\∀M,ed P t x.1 M->L*P.bytesOf q<=M:=by
  rcases open_ints ht hq cq h with⟨hcs,hxx⟩|⟨a,l,c,zs,hcs,_,hl,hm,hz,hxx,hcell,hwz⟩
  ·exact⟨none,0,0,hcs,⟨[], .inl ⟨rfl,rfl,rfl,rfl⟩⟩,fun M _=>by omega⟩
  ·refine⟨some a,l,c,hcs,⟨zs, .inr ⟨a,rfl,hl,hm,by simpa using hz,hcell,hwz⟩⟩,fun M hM=>?_⟩;have h1:=hM (((zs.take l).length+(zs.drop l).length)*P.bytesOf q) (by rw[hxx];simp[DataW.weights,ht,lits]);simp only[if_true]at hz;refine Nat.le_trans (Nat.mul_le_mul_right _ ?_) h1;rw[List.length_take,List.length_drop];omega
 obtain⟨A,L,C,hcs,⟨zs,hzs⟩,hsz⟩:=row;obtain⟨xs,r1,r2,r3,r4⟩:=yH hzs;obtain rfl:xs.length=L:=r1.1;exact⟨A,C,xs,hcs,r1,r3,r4,r2,hsz⟩
theorem xV{t:TypeId}{fuel:Nat}{cs:List Value}{x:DataW H×List MemPlace}{spare:Nat->Bool}(ht:P.underlying t=some .bool)(h:DataW.trod enc P w base spare held fuel t cs=some x):∃b,cs=[.bool b]:=by
 cases fuel with
 |zero=>simp[DataW.trod]at h
 |succ n=>
  unfold DataW.trod at h;rw[ht]at h;split at h<;>simp_all
theorem E4{t e q:TypeId}{fuel:Nat}{cs:List Value}{x:DataW H×List MemPlace}{fs:Array Field}{f0 f1 f2:Field}{tb:TypeId}(ht:P.underlying t=some (.slice e))(he:P.underlying e=some (.struct fs))(h0:fs[0]?=some f0)(h1:fs[1]?=some f1)(h2:fs[2]?=some f2)(o0:f0.offset=0)(o1:f1.offset=32)(o2:f2.offset=33)(k0:P.cellsOf f0.type=32)(k1:P.cellsOf f1.type=1)(k2:P.cellsOf f2.type=1)(u0:P.underlying f0.type=some (.array 32 tb))(u1:P.underlying f1.type=some .bool)(u2:P.underlying f2.type=some (.slice q))(hb:P.underlying tb=some (.int .u8))(cb:P.cellsOf tb=1)(hq:P.underlying q=some (.int .u8))(ce:P.cellsOf e=34)(cq:P.cellsOf q=1)(hf:DataW.trod enc P w base (fun _=>true) held fuel t cs=some x):∃A N C X,cs=[.slice A N C]/\fa w A N X/\N<=C/\C<=maxLen/\(A=none->C=0)/\∀M,ed P t x.1 M->N*P.bytesOf e<=M/\∀k,k<N->(X k).val.length*P.bytesOf q<=M:=by
 rcases Deep.open_slice ht hf with⟨hcs,_⟩|⟨ad,len,cap,m,n,D,Pl,hcs,_,hl,hm,hmm,hx,hrow⟩
 ·exact⟨none,0,0,fun _=>⟨[],false,[]⟩,hcs,⟨by omega,fun k hk=>by omega⟩,Nat.le_refl _,by simp[maxLen],fun _=>rfl,fun M _=>⟨by omega,fun k hk=>by omega⟩⟩
 ·simp only[if_true]at hmm;subst hmm;rw[ce]at hrow;rcases Nat.eq_zero_or_pos len with hz0|hpos
  ·subst hz0;exact⟨some ad,0,m,fun _=>⟨[],false,[]⟩,hcs,⟨by omega,fun k hk=>by omega⟩,hl,hm,(fun h=>by cases h),fun M _=>⟨by omega,fun k hk=>by omega⟩⟩
  obtain⟨b,o,eb⟩:∃b o,ad=⟨b,o,none⟩:=by
   obtain⟨cs,g1,g2⟩:=hrow 0 (by omega);obtain⟨_,g3,g4⟩:=World.cells?_some g1;rw[show(0:Nat)*34=0from rfl]at g4;exact lM (by omega) g3 g4
  subst eb;have each:∀k,k<len->∃y:Chg,∃b' o' A C,(some ⟨b,o,none⟩:Option Addr)=some ⟨b',o',none⟩/\b'<w.heap.size/\w.rangeAt b' (o'+k*34) (chC y A C)/\IsB y.key/\y.key.length=32/\RB w A y.val.length y.val/\y.val.length<=C/\C<=maxLen/\(A=none->C=0)/\∀M,ed P e (D k) M->y.val.length*P.bytesOf q<=M:=fun k hk=>by
   obtain⟨cs,g1,g2⟩:=hrow k (by omega);obtain⟨_,g3,g4⟩:=World.cells?_some g1;obtain⟨xs,n',_,hDk,_,hxl,hg⟩:=DataW.trod_struct he g2;have hfs:2<fs.size:=(Array.getElem?_eq_some_iff.1 h2).1;have e0:=hg 0 f0 h0;have e1:=hg 1 f1 h1;have e2:=hg 2 f2 h2;rw[o0,k0,List.getElem?_eq_getElem (by omega)]at e0;rw[o1,k1,List.getElem?_eq_getElem (by omega)]at e1;rw[o2,k2,List.getElem?_eq_getElem (by omega)]at e2;obtain⟨ds,q0,hB,hdl⟩:=tq u0 hb cb (by rw[List.length_take,List.length_drop];omega) e0;obtain⟨bl,q1⟩:=xV u1 e1;obtain⟨A,C,vs,q2,r1,r2,r3,r4,r5⟩:=ut u2 hq cq e2;have hszk:∀M,ed P e (D k) M->vs.length*P.bytesOf q<=M:=fun M hM=>r5 M fun y hy=>hM y (by
    rw[show D k= .agg (xs.map (·.1))from congrArg Prod.fst hDk];simp only[DataW.weights,he];refine DataW.weights_mem_each (j:=2) (t:=f2.type) (d:=xs[2].1) ?_ ?_ y hy
    ·rw[List.getElem?_map,Array.getElem?_toList,h2];rfl
    ·rw[List.getElem?_map,List.getElem?_eq_getElem (by omega)];rfl);have hcs:cs=chC ⟨ds,bl,vs⟩ A C:=by
    have a1:cs=cs.take 32++((cs.drop 32).take 1++(cs.drop 33).take 1):=by
     rw[show(cs.drop 33)=(cs.drop 32).drop 1by rw[List.drop_drop],List.take_of_length_le (l:=(cs.drop 32).drop 1) (by simp;omega),List.take_append_drop,List.take_append_drop]
    rw[List.drop_zero]at q0;rw[a1,q0,q1,q2];rfl
   have hblk:b<w.heap.size:=by
    have h5:=g4 0 (by omega);rw[List.getElem?_eq_getElem (by omega)]at h5;have:=lt_of_cell h5;rwa[bX,bX]at this
   refine⟨⟨ds,bl,vs⟩,b,o,A,C,rfl,hblk,fun j v hj=>?_,hB,hdl,r1,r2,r3,r4,hszk⟩;have hjl:j<34:=by
    have:=(List.getElem?_eq_some_iff.1 hj).1;rw[<-hcs]at this;omega
   have h5:=g4 j hjl;rw[add_lit,add_lit]at h5;rw[h5,hcs];exact hj
  obtain⟨X,hX⟩:=Deep.choose_lt each;refine⟨some ⟨b,o,none⟩,len,m,X,hcs,⟨by omega,fun k hk=>?_⟩,hl,hm,(fun h=>by cases h),fun M hM=>⟨?_,fun k hk=>?_⟩⟩
  ·obtain⟨b',o',A,C,g1,g2,g3,g4,g5,g6,g7,g8,g9,_⟩:=hX k hk;exact⟨b',o',A,C,g1,g2,g3,g4,g5,g6,g7,g8,g9⟩
  ·have h1:=hM ((((List.range len).map D).length+((List.range (m-len)).map fun j=>D (len+j)).length)*P.bytesOf e) (by rw[hx];simp[DataW.weights,ht]);refine Nat.le_trans (Nat.mul_le_mul_right _ ?_) h1;rw[List.length_map,List.length_range];omega
  ·obtain⟨b',o',A,C,_,_,_,_,_,_,_,_,_,g10⟩:=hX k hk;refine g10 M fun y hy=>hM y ?_;rw[hx];simp only[DataW.weights,ht,List.mem_cons,List.mem_append];exact .inr (.inl (iE (List.mem_map.2 ⟨k,List.mem_range.2 hk,rfl⟩) y hy))
end
section
variable{w w':World}{b O:Nat}{x:Chg}{A:Option Addr}{C:Nat}
theorem am(h:x.key.length=32):(chC x A C).length=34:=by simp[chC,bvs,h]
theorem er(h:w.rangeAt b O (chC x A C)):w.rangeAt b O (bvs x.key):=fun j v hj=>h j v (by
 unfold chC;rw[List.getElem?_append_left (List.getElem?_eq_some_iff.1 hj).1];exact hj)
theorem ie(h:w.rangeAt b O (chC x A C))(hl:x.key.length=32):w.cell? ⟨b,O+32,none⟩=some (.bool x.del):=h 32 _ (by
 unfold chC;rw[List.getElem?_append_right (by simp[bvs,hl])];simp[bvs,hl])
theorem eW(h:w.rangeAt b O (chC x A C))(hl:x.key.length=32):w.cell? ⟨b,O+33,none⟩=some (.slice A x.val.length C):=h 33 _ (by
 unfold chC;rw[List.getElem?_append_right (by simp[bvs,hl])];simp[bvs,hl])
theorem cZ:∀v∈chC x A C,v.oneCell'=true:=fun v hv=>by
 simp only[chC,bvs,List.mem_append,List.mem_map,List.mem_cons,List.not_mem_nil,or_false]at hv;rcases hv with⟨y,_,rfl⟩|rfl|rfl<;>rfl
end
def dR(X:Nat->Chg)(Ad:Nat->Option Addr)(Cp:Nat->Nat):Nat->List Value
 |0=>[]
 |n+1=>dR X Ad Cp n++chC (X n) (Ad n) (Cp n)
def upd{α:Type}(f:Nat->α)(i:Nat)(x:α):Nat->α:=fun j=>if j=i then x else f j
theorem az{α:Type}(f:Nat->α)(i:Nat)(x:α):upd f i x i=x:=if_pos rfl
theorem au{α:Type}(f:Nat->α){i j:Nat}(x:α)(h:j≠i):upd f i x j=f j:=if_neg h
section
variable{X:Nat->Chg}{Ad:Nat->Option Addr}{Cp:Nat->Nat}
theorem eA{n:Nat}(h:∀i,i<n->(X i).key.length=32):(dR X Ad Cp n).length=n*34:=by
 induction n with
 |zero=>rfl
 |succ n ih=>rw[dR,List.length_append,ih (fun i hi=>h i (by omega)),am (h n (by omega))];omega
theorem iz{n i j:Nat}(h:∀i,i<n->(X i).key.length=32)(hi:i<n)(hj:j<34):(dR X Ad Cp n)[i*34+j]?=(chC (X i) (Ad i) (Cp i))[j]?:=by
 induction n with
 |zero=>omega
 |succ n ih=>
  have hl:=eA (Ad:=Ad) (Cp:=Cp) (n:=n) (fun i hi=>h i (by omega));rw[dR];by_cases e:i=n
  ·subst e;rw[List.getElem?_append_right (by omega),hl,Nat.add_sub_cancel_left]
  ·rw[List.getElem?_append_left (by omega)];exact ih (fun i hi=>h i (by omega)) (by omega)
theorem eo{X':Nat->Chg}{Ad':Nat->Option Addr}{Cp':Nat->Nat}{n:Nat}(h:∀i,i<n->X i=X' i/\Ad i=Ad' i/\Cp i=Cp' i):dR X Ad Cp n=dR X' Ad' Cp' n:=by
 induction n with
 |zero=>rfl
 |succ n ih=>
  obtain⟨h1,h2,h3⟩:=h n (by omega);rw[dR,dR,ih (fun i hi=>h i (by omega)),h1,h2,h3]
theorem zc{n:Nat}(x:Chg)(A:Option Addr)(C:Nat):dR X Ad Cp n++chC x A C=dR (upd X n x) (upd Ad n A) (upd Cp n C) (n+1):=by
 rw[dR,az,az,az,eo (X':=upd X n x) (Ad':=upd Ad n A) (Cp':=upd Cp n C) fun i hi=>⟨(au _ _ (by omega)).symm,(au _ _ (by omega)).symm,(au _ _ (by omega)).symm⟩]
end
structure bJ(w:World)(base:Nat)(v:Value)(n:Nat)(X:Nat->Chg)(Ad:Nat->Option Addr)(Cp:Nat->Nat):Prop where
 own:w.ownsRow base 39 34 v n (dR X Ad Cp n)
 key:∀i,i<n->IsB (X i).key/\(X i).key.length=32
 val:∀i,i<n->RB w (Ad i) (X i).val.length (X i).val/\(X i).val.length<=Cp i/\Cp i<=maxLen/\(Ad i=none->Cp i=0)
 apart:∀i,i<n->0<(X i).val.length->∀ad,Ad i=some ad->some ad.block≠v.ownBlock
section
variable{w w':World}{base:Nat}{v v':Value}{n:Nat}{X:Nat->Chg}{Ad:Nat->Option Addr}{Cp:Nat->Nat}
theorem bJ.nil(w:World)(base:Nat)(X:Nat->Chg)(Ad:Nat->Option Addr)(Cp:Nat->Nat):bJ w base (.slice none 0 0) 0 X Ad Cp:={own:=World.ownsRow_nil w base 39 34,key:=fun i hi=>by omega,val:=fun i hi=>by omega,apart:=fun i hi=>by omega}
theorem bJ.later(h:bJ w base v n X Ad Cp)(hb:Below w.heap.size w w'):bJ w' base v n X Ad Cp:={h with
  own:=h.own.kept (jO hb none) (by cases v.ownBlock<;>simp)
  val:=fun i hi=>⟨(h.val i hi).1.below hb,(h.val i hi).2⟩}
theorem bJ.ge(h:bJ w base v n X Ad Cp):∀k,v.ownBlock=some k->base<=k:=fun k hk=>(h.own.lt k hk).1
theorem bJ.more(h:bJ w base v n X Ad Cp){x:Chg}{A:Option Addr}{C:Nat}(hk:IsB x.key/\x.key.length=32)(hv:RB w A x.val.length x.val/\x.val.length<=C/\C<=maxLen/\(A=none->C=0))(ha:0<x.val.length->∀ad,A=some ad->some ad.block≠v.ownBlock)(ho:w'.ownsRow base 39 34 v' (n+1) (dR X Ad Cp n++chC x A C))(hg:w.grownBy w' v.ownBlock)(hl:iT w v v'):bJ w' base v' (n+1) (upd X n x) (upd Ad n A) (upd Cp n C):=by
 have far:∀(A:Option Addr)(xs:List Nat),RB w A xs.length xs->0<xs.length->(∀ad,A=some ad->some ad.block≠v.ownBlock)->∀ad,A=some ad->some ad.block≠v'.ownBlock:=fun A xs hr h0 hne ad e he=>by
  rcases hl _ he.symm with h1|h1
  ·exact hne ad e h1.symm
  ·obtain⟨ad',e',hb,_⟩:=hr.2.2 h0;rw[e]at e';injection e' with e';rw[e']at h1;omega
 refine⟨by rw[<-zc];exact ho,fun i hi=>?_,fun i hi=>?_,fun i hi=>?_⟩
 ·by_cases e:i=n
  ·subst e;rw[az];exact hk
  ·rw[au _ _ e];exact h.key i (by omega)
 ·by_cases e:i=n
  ·subst e;rw[az,az,az];exact⟨hv.1.grownBy hg ha,hv.2⟩
  ·rw[au _ _ e,au _ _ e,au _ _ e];exact⟨(h.val i (by omega)).1.grownBy hg (h.apart i (by omega)),(h.val i (by omega)).2⟩
 ·by_cases e:i=n
  ·subst e;rw[az,az];exact fun h0 ad e=>far A x.val hv.1 h0 (ha h0) ad e
  ·rw[au _ _ e,au _ _ e];exact fun h0 ad e=>far _ _ (h.val i (by omega)).1 h0 (h.apart i (by omega) h0) ad e
theorem bJ.form(h:bJ w base v n X Ad Cp):∃A C,v= .slice A n C/\fa w A n X/\n<=C/\(A=none->C=0)/\n<=maxLen/\∀ad,A=some ad->∃g,ad=⟨g,0,none⟩/\base<=g:=by
 rcases h.own.2with⟨e1,h0⟩|⟨g,cap,cur,e1,hb,hc,hnc,hcm,hr⟩
 ·subst h0;exact⟨none,0,e1,⟨Nat.zero_le _,fun k hk=>by omega⟩,Nat.le_refl _,fun _=>rfl,Nat.zero_le _,(fun ad e=>by cases e)⟩
 ·have hn:n<=maxLen:=by omega
  have ho:=h.own;rw[e1]at ho;refine⟨_,cap,e1,⟨hn,fun k hk=>⟨g,0,Ad k,Cp k,rfl,(h.own.lt g (by rw[e1];rfl)).2,fun j u hj=>?_,(h.key k hk).1,(h.key k hk).2,(h.val k hk).1,(h.val k hk).2⟩⟩,hnc,(fun h=>by cases h),hn,fun ad e=>⟨g,by injection e with e;exact e.symm,hb⟩⟩;have hj34:j<34:=by
   have:=(List.getElem?_eq_some_iff.1 hj).1;rwa[am (h.key k hk).2]at this
  have hlt:k*34+j<n*34:=by omega
  rw[Nat.zero_add,World.ownsRow.cellAt ho _ hlt,iz (fun i hi=>(h.key i hi).2) hk hj34];exact hj
end
section
variable{P:Program}
theorem rH{t e:TypeId}{z:Value}{by_:Nat}(ht:P.underlying t=some (.slice e))(hinfo:(P.info? e).map (fun i=>(i.zero,i.size,i.bytes))=some (some z,34,by_))(hzs:z.cells.size=34){o:Oper}{a:Act}(w:World)(s x:Operand)(ho:o.op= .call {callee:= .builtin .append,args:=#[s,x],argTypes:=#[t,t]})(base:Nat)(v:Value)(n:Nat)(xs:List Value)(hown:w.ownsRow base e 34 v n xs)(cs:List Value)(hcl:cs.length=34)(hone:∀u∈cs,u.oneCell'=true)(hs:a.eval s=v)(hx:a.eval x= .slice (some ⟨w.heap.size,0,none⟩) 1 1)(hlen:(n+1)*by_<=140737488355328)(hm:n+1<=140737488355328)(hbase:base<=w.heap.size):∃v' w',(execOp a.eval o).run P (w.alloc (.cells cs.toArray e))= .ok (.value v') w'/\w'.ownsRow base e 34 v' (n+1) (xs++cs)/\w.grownBy w' v.ownBlock/\iT w v v':=by
 obtain⟨i,hi,hz,hs1,hby⟩:=info_parts hinfo;obtain⟨v',w',hr,h1,h2,_,h4⟩:=run_append_own_at (P:=P) (w.alloc (.cells cs.toArray e)) base t o.type e i z 34 by_ ht hi hz hs1 hby hzs (by decide) v n xs (hown.alloc _) ⟨w.heap.size,0,none⟩ 1 1 cs (by omega) (fun j u hj=>by
   rw[add_lit,cell_of_row _ _ _ _ _ _ (heap_alloc_new w _),Nat.zero_add,List.getElem?_toArray];exact hj) hone (by unfold maxLen;omega) hlen (by simp;omega);refine⟨v',w',?_,h1,aE (World.grownBy_alloc _ _ _) h2,?_⟩
 ·unfold execOp;simp only[ho,resolve,invoke,builtin,Sem.run_bind,Sem.run_pure,Result.andThen_ok,List.map_toArray,List.map_cons,List.map_nil,hs,hx,hr]
 ·intro k hk;rcases h4 with h4|h4
  ·rw[h4]at hk;exact .inl hk
  ·rw[h4]at hk;injection hk with hk;simp at hk;exact .inr (by omega)
theorem jz{t e:TypeId}{z:Value}{by_:Nat}(ht:P.underlying t=some (.slice e))(hinfo:(P.info? e).map (fun i=>(i.zero,i.size,i.bytes))=some (some z,34,by_))(hzs:z.cells.size=34){ops:Array Oper}{rest:List Oper}{o:Oper}{a:Act}{Q:Exit->Act->World->Prop}(w:World)(hgd:o.guard=none)(s x:Operand)(ho:o.op= .call {callee:= .builtin .append,args:=#[s,x],argTypes:=#[t,t]})(base:Nat)(v:Value)(n:Nat)(xs:List Value)(hown:w.ownsRow base e 34 v n xs)(cs:List Value)(hcl:cs.length=34)(hone:∀u∈cs,u.oneCell'=true)(hs:a.eval s=v)(hx:a.eval x= .slice (some ⟨w.heap.size,0,none⟩) 1 1)(hlen:(n+1)*by_<=140737488355328)(hm:n+1<=140737488355328)(hbase:base<=w.heap.size)(h:∀v' w',w'.ownsRow base e 34 v' (n+1) (xs++cs)->w.grownBy w' v.ownBlock->iT w v v'->wpList P ops Q rest (a.put o.dst v') w'):wpList P ops Q (o::rest) a (w.alloc (.cells cs.toArray e)):=by
 obtain⟨v',w',hr,h1,h2,h3⟩:=rH (o:=o) ht hinfo hzs w s x ho base v n xs hown cs hcl hone hs hx hlen hm hbase;refine wpList_plain hgd fun K hK=>?_;unfold Oper.wp;rw[hr];exact hK _ _ (h v' w' h1 h2 h3)
end
section
variable{P:Program}
end
section
variable{P:Program}
theorem aR{ops:Array Oper}{rest:List Oper}{Q:Exit->Act->World->Prop}{o:Oper}{a:Act}(hgd:o.guard=none)(w:World)(t e:TypeId)(z:Value)(n:Nat)(x:Operand)(ho:o.op= .buildSlice t 1 #[(0,x)])(ht:P.underlying t=some (.slice e))(hi:(P.info? e).map (fun i=>(i.zero,i.size))=some (some z,n))(h0:0<n)(h1:n<=1000)(cs:Array Value)(hx:a.eval x= .agg cs)(hv:cs.size=n)(h:wpList P ops Q rest (a.put o.dst (.slice (some ⟨w.heap.size,0,none⟩) 1 1)) (w.alloc (.cells cs e))):wpList P ops Q (o::rest) a w:=by
 refine wpList_plain hgd fun K hK=>?_;have hr:=jm ht hi h0 h1 (.agg cs) hv w;unfold Oper.wp execOp;simp only[ho,List.map_toArray,List.map_cons,List.map_nil,hx,Sem.run_bind,hr,Result.andThen_ok,Sem.run_pure];exact hK _ _ h
end
theorem dW:(Tryz.prog.info? 39).map (fun i=>(i.zero,i.size))=some (some (.agg ((gZ 32)++#[.bool false, .slice none 0 0])),34):=by kernel_rfl
theorem ej:(Tryz.prog.info? 39).map (fun i=>(i.zero,i.size,i.bytes))=some (some (.agg ((gZ 32)++#[.bool false, .slice none 0 0])),34,64):=by kernel_rfl
theorem be:(Tryz.prog.underlying 39).map (·.isRow)=some true:=by kernel_rfl
theorem aK:(Tryz.prog.info? 39).map (·.size)=some 34:=by kernel_rfl
theorem dh:Tryz.prog.underlying 40=some (.slice 39):=by kernel_rfl
theorem AN{α:Type}(f:Nat->α)(i:Nat):upd f i (f i)=f:=by
 funext j;unfold upd;split
 ·rename_i h;rw[h]
 ·rfl
theorem qM{x j i:Nat}(h:i<=j):x/2^(j-i)/2=x/2^(j+1-i):=by
 rw[show j+1-i=(j-i)+1by omega,Nat.pow_succ,Nat.div_div_eq_div_mul]
theorem i7(ks:List Nat)(i:Nat)(w:World)(hB:IsB ks)(hl:ks.length=32)(hi:i<256):Calls Tryz.prog 90 #[.agg (bvs ks).toArray, .int .i64 i] w fun e w'=>e= .returned (.int .i64 (cU ks i:Nat))/\Below w.heap.size w w':=by
 have hc:=ar.cell (ab.new w 37 (bvs ks).toArray:ar _ _ _ ks) (i:=i/8) (by omega);have hx8:=fQ hB (i/8);have A:Hd (cU ks i=ks.getD (i/8) 0/2^(7-i%8)%2):=rfl;have B:=aa ((Below.refl w.heap.size w).alloc (Nat.le_refl _) (.cells (bvs ks).toArray 37));clear hB hl;generalize ks.getD (i/8) 0=x at*;generalize cU ks i=z at*;generalize hww:w.alloc (.cells (bvs ks).toArray 37)=w1 at*;have hq:((i:Int).tdiv 8)=((i/8:Nat):Int):=by rw[Int.tdiv_eq_ediv_of_nonneg (by omega)];rfl
 have hr:((i:Int).tmod 8)=((i%8:Nat):Int):=by rw[Int.tmod_eq_emod_of_nonneg (by omega)];rfl
 have h00:¬(i:Int)<0:=by omega
 have h255:¬(255:Int)<(i:Int):=by omega
 go_enter Tryz.func90,Tryz.ntmps90;go_wp2_with fail;clear hq hr h00 h255 hc hww;go_loopw[5,6](fun v j wr=>∃k:Nat,i%8<=k/\k<=7/\j= .int .i64 k/\v= .int .i64 ((x/2^(k-i%8):Nat):Int)/\wr=w1)(fun _ j _=>8-(intOf j).toNat)
 case atStart=>exact⟨i%8,by omega,by omega,rfl,by rw[Nat.sub_self];simp,rfl⟩
 case round=>
  obtain⟨k,hk1,hk2,rfl,rfl,rfl⟩:=hrel;have hd8:x/2^(k-i%8)<256:=Nat.lt_of_le_of_lt (Nat.div_le_self _ _) hx8;by_cases hlt:k<7
  ·have C:=aa (qM (x:=x) hk1);have hlt':(k:Int)<7:=by omega
   generalize x/2^(k-i%8)=y at*;have hq2:((y:Int).tdiv 2)=((y/2:Nat):Int):=by rw[Int.tdiv_eq_ediv_of_nonneg (by omega)];rfl
   go_wp2_with fail;go_roundw
   case rel=>exact⟨k+1,by omega,by omega,by go_num,by rw[<-C.o];simp,trivial⟩
   case measure=>simp[intOf];omega
  ·obtain rfl:k=7:=by omega
   generalize x/2^(7-i%8)=y at*;have hr2:((y:Int).tmod 2)=((y%2:Nat):Int):=by rw[Int.tmod_eq_emod_of_nonneg (by omega)];rfl
   go_wp2_with fail;go_ret;exact⟨by rw[A.o];simp,B.o⟩
theorem pL(ds es:List Nat)(n:Nat)(w:World)(hB:IsB ds)(hl:ds.length=32)(hB2:IsB es)(hl2:es.length=32)(hn:n<=256)(hs:∀j,j<n->cU ds j=cU es j)(hd:n<256->¬cU ds n=cU es n):Calls Tryz.prog 76 #[.agg (bvs ds).toArray, .agg (bvs es).toArray] w fun e w'=>e= .returned (.int .i64 n)/\Below w.heap.size w w':=by
 have H:=aa hB;have I:=aa hl;have J:=aa hB2;have K:=aa hl2;have P:=aa hs;have Q:=aa hd;clear hB hl hB2 hl2 hs hd;go_enter Tryz.func76,Tryz.ntmps76;go_wp2_with(first|((with_reducible refine atS 2 ?_);refine iY (by rfl) 37 (.tmp 0) rfl _ rfl ?_;intro w1 L D R)|((with_reducible refine atS 3 ?_);refine iY (by rfl) 37 (.tmp 1) rfl _ rfl ?_;intro w2 M E S));have B:=dA L E.o;have C:Hd (ar w2 w1.heap.size 37 es):=M.o;have A:=aa (D.o.trans (E.o.mono D.o.size));clear L M D E R S;go_loopw[5](fun i wr=>∃k:Nat,k<=n/\i= .int .i64 k/\Hd (ar wr w.heap.size 37 ds)/\Hd (ar wr w1.heap.size 37 es)/\Hd (Below w.heap.size w wr))(fun i _=>257-(intOf i).toNat)
 case atStart=>exact⟨0,by omega,rfl,B.o,C.o,A.o⟩
 case round=>
  clear B C A;obtain⟨k,hk,rfl,B,C,A⟩:=hrel;by_cases h256:k<256
  ·have hk2:(k:Int)<256:=by omega
   go_wp2_with(refine ac (o:=⟨some 12,_,_,_,_,_⟩) (by rfl) 37 (.tmp 2) rfl ⟨w.heap.size,0,none⟩ 32 ds rfl (B.o.whole H.o I.o) (by omega) fz aB ?_);refine(i7 ds k wr H.o I.o h256).mono ?_;rintro e w3⟨rfl,hb⟩;have N:=dA B hb;have F:=dA C hb;have G:=aa (A.o.trans (hb.mono A.o.size));clear hb B C A;go_wp2_with(refine ac (o:=⟨some 15,_,_,_,_,_⟩) (by rfl) 37 (.tmp 3) rfl ⟨w1.heap.size,0,none⟩ 32 es rfl (F.o.whole J.o K.o) (by omega) fz aB ?_);refine(i7 es k w3 J.o K.o h256).mono ?_;rintro e w4⟨rfl,hb⟩;have T:=dA N hb;have U:=dA F hb;have O:=aa (G.o.trans (hb.mono G.o.size));clear hb N F G;by_cases hlt:k<n
   ·have hs:=P.o k hlt;rw[hs];clear hs;generalize cU es k=z;go_wp2_with fail;go_roundw
    case rel=>exact⟨k+1,by omega,by go_num,T.o,U.o,O.o⟩
    case measure=>simp[intOf];omega
   ·obtain rfl:k=n:=by omega
    have hd:=Q.o h256;generalize cU es k=z at*;generalize cU ds k=y at*;have hne:¬(y:Int)=(z:Int):=by omega
    have hne2:((y:Int)!=(z:Int))=true:=by rw[bne_iff_ne];exact hne
    go_wp2_with fail;go_ret;exact⟨rfl,O.o⟩
  ·obtain rfl:k=256:=by omega
   obtain rfl:n=256:=by omega
   go_wp2_with fail;go_ret;exact⟨rfl,A.o⟩
theorem jN(ds es:List Nat)(n:Nat)(z:Int)(w:World)(hB:IsB ds)(hl:ds.length=32)(hB2:IsB es)(hl2:es.length=32)(hn:n<=32)(hs:∀j,j<n->ds.getD j 0=es.getD j 0)(hd:n<32->¬ds.getD n 0=es.getD n 0)(h32:n=32->z=0)(hz:n<32->z=if ds.getD n 0<es.getD n 0then-1 else 1):Calls Tryz.prog 139 #[.agg (bvs ds).toArray, .agg (bvs es).toArray] w fun e w'=>e= .returned (.int .i64 z)/\Below w.heap.size w w':=by
 have P:=aa hB;have H:=aa hl;have Q:=aa hB2;have I:=aa hl2;have J:=aa hs;have K:=aa hd;have L:=aa hz;have M:=aa h32;clear hB hl hB2 hl2 hs hd hz h32;go_enter Tryz.func139,Tryz.ntmps139;go_wp2_with(first|((with_reducible refine atS 2 ?_);refine iY (by rfl) 37 (.tmp 0) rfl _ rfl ?_;intro w1 F D N)|((with_reducible refine atS 3 ?_);refine iY (by rfl) 37 (.tmp 1) rfl _ rfl ?_;intro w2 G E O));have B:=dA F E.o;have C:Hd (ar w2 w1.heap.size 37 es):=G.o;have A:=aa (D.o.trans (E.o.mono D.o.size));clear F G D E N O;go_loopw[5](fun i wr=>∃k:Nat,k<=n/\i= .int .i64 k/\Hd (ar wr w.heap.size 37 ds)/\Hd (ar wr w1.heap.size 37 es)/\Hd (Below w.heap.size w wr))(fun i _=>33-(intOf i).toNat)
 case atStart=>exact⟨0,by omega,rfl,B.o,C.o,A.o⟩
 case round=>
  clear B C A;obtain⟨k,hk,rfl,B,C,A⟩:=hrel;by_cases h32:k<32
  ·have hk2:(k:Int)<32:=by omega
   have hc1:=B.o.cell (i:=k) (by rw[H.o];omega);have hc2:=C.o.cell (i:=k) (by rw[I.o];omega);by_cases hlt:k<n
   ·have hs:=J.o k hlt;rw[hs]at hc1;clear hs;generalize es.getD k 0=y at*;go_wp2_with fail;go_quiet(fail);go_wp2_with fail;go_roundw
    case rel=>exact⟨k+1,by omega,by go_num,B.o,C.o,af A.o _⟩
    case measure=>simp[intOf];omega
   ·obtain rfl:k=n:=by omega
    have hd:=K.o h32;have hz:=L.o h32;generalize es.getD k 0=y at*;generalize ds.getD k 0=x at*;have hne:¬(x:Int)=(y:Int):=by omega
    have hne2:((x:Int)!=(y:Int))=true:=by rw[bne_iff_ne];exact hne
    by_cases hxy:x<y
    ·rw[if_pos hxy]at hz;have hxy2:decide ((x:Int)<(y:Int))=true:=decide_eq_true (by omega);subst hz;go_wp2_with fail;go_quiet(fail);go_wp2_with fail;go_quiet(fail);go_wp2_with fail;go_ret;exact⟨rfl,af (af A.o _) _⟩
    ·rw[if_neg hxy]at hz;have hxy2:decide ((x:Int)<(y:Int))=false:=decide_eq_false (by omega);subst hz;go_wp2_with fail;go_quiet(fail);go_wp2_with fail;go_quiet(fail);go_wp2_with fail;go_ret;exact⟨rfl,af (af A.o _) _⟩
  ·have hk32:k=32:=by omega
   have hz:=M.o (by omega);subst hz;have hk2:¬(k:Int)<32:=by omega
   go_wp2_with fail;go_ret;exact⟨rfl,A.o⟩
end Go.Proofs.YtfnlhfaihoojfaaGreatDoor
