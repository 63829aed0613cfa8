/- Texts of the proof of ledgerlaw13.ClientPlays, part 42; no condition of its own. -/
import Derived.Test.YtfnlhfaihoojfaaGreatDoorS41
set_option maxRecDepth 100000
set_option maxHeartbeats 4000000
namespace Go.Proofs.YtfnlhfaihoojfaaGreatDoor
open Go.RowKit
def eH(j:Nat):TypeId:=if j=0then 39 else 36
def sH(j:Nat):Nat:=if j=0then 34 else 1
def pR{α:Type}(f:Nat->Nat->α)(a i:Nat)(x:α):Nat->Nat->α:=upd f a (upd (f a) i x)
theorem ei{α:Type}(f:Nat->Nat->α)(a i:Nat)(x:α):pR f a i x a i=x:=by rw[pR,az,az]
theorem ev{α:Type}(f:Nat->Nat->α){a i a' i':Nat}(x:α)(h:¬(a'=a/\i'=i)):pR f a i x a' i'=f a' i':=by
 unfold pR;by_cases h1:a'=a
 ·subst h1;rw[az,au _ _ fun e=>h ⟨rfl,e⟩]
 ·rw[au _ _ h1]
structure HdL(W:World)(gh lo:Nat)(lab:Nat->Nat×Nat)(v:Nat->Value)(k:Nat->Nat)(x:Nat->List Value)(c:Nat->Nat)(z:Nat->Nat->Nat)(bs:Nat->Nat->List Nat):Prop where
 blk:ab W gh 72 #[v 0,v 1,v 2,v 3]
 row:∀j,j<4->W.ownsRow lo (eH j) (sH j) (v j) (k j) (x j)
 lrow:∀j,j<4->∀B,(v j).ownBlock=some B->lab B=(3+j,0)
 byt:∀a i,a<3->i<c a->ar W (z a i) 5 (bs a i)/\lo<=z a i/\lab (z a i)=(a,i)
 lgh:lab gh=(9,0)/\lo<=gh
def HUs(gh:Nat)(v:Nat->Value)(c:Nat->Nat)(z:Nat->Nat->Nat)(B:Nat):Prop:=B=gh∨(∃j,j<4/\(v j).ownBlock=some B)∨∃a i,a<3/\i<c a/\z a i=B
def HdI(W:World)(gh lo:Nat)(v:Nat->Value)(k:Nat->Nat)(x:Nat->List Value)(c:Nat->Nat)(z:Nat->Nat->Nat)(bs:Nat->Nat->List Nat):Prop:=∃lab,HdL W gh lo lab v k x c z bs
section
variable{W W' W1:World}{gh lo:Nat}{lab:Nat->Nat×Nat}{v:Nat->Value}{k:Nat->Nat}{x:Nat->List Value}{c:Nat->Nat}{z:Nat->Nat->Nat}{bs:Nat->Nat->List Nat}{V:Nat->Prop}
theorem HdL.lt(h:HdL W gh lo lab v k x c z bs){B:Nat}(hB:HUs gh v c z B):lo<=B/\B<W.heap.size:=by
 rcases hB with rfl|⟨j,hj,hB⟩|⟨a,i,ha,hi,rfl⟩
 ·exact⟨h.lgh.2,h.blk.lt⟩
 ·exact(h.row j hj).lt B hB
 ·exact⟨(h.byt a i ha hi).2.1,ab.lt (h.byt a i ha hi).1⟩
theorem HdL.touch(h:HdL W gh lo lab v k x c z bs)(ht:ae V W W')(hd:∀B,HUs gh v c z B->¬V B):HdL W' gh lo lab v k x c z bs:={h with
  blk:=ht.blk h.blk (hd gh (.inl rfl))
  row:=fun j hj=>ht.row (h.row j hj) fun B hB=>hd B (.inr (.inl ⟨j,hj,hB⟩))
  byt:=fun a i ha hi=>⟨ht.blk (h.byt a i ha hi).1 (hd _ (.inr (.inr ⟨a,i,ha,hi,rfl⟩))),(h.byt a i ha hi).2⟩}
theorem HdI.lt(h:HdI W gh lo v k x c z bs){B:Nat}(hB:HUs gh v c z B):lo<=B/\B<W.heap.size:=by
 obtain⟨lab,h⟩:=h;exact h.lt hB
theorem HdI.touch(h:HdI W gh lo v k x c z bs)(ht:ae V W W')(hd:∀B,HUs gh v c z B->¬V B):HdI W' gh lo v k x c z bs:=by
 obtain⟨lab,h⟩:=h;exact⟨lab,h.touch ht hd⟩
theorem HdI.below(h:HdI W gh lo v k x c z bs)(hb:Below W.heap.size W W'):HdI W' gh lo v k x c z bs:=h.touch (ae.ofBelow hb) fun _ _ h=>h
theorem HdI.blk(h:HdI W gh lo v k x c z bs):ab W gh 72 #[v 0,v 1,v 2,v 3]:=by
 obtain⟨lab,h⟩:=h;exact h.blk
theorem HdI.row(h:HdI W gh lo v k x c z bs){j:Nat}(hj:j<4):W.ownsRow lo (eH j) (sH j) (v j) (k j) (x j):=by
 obtain⟨lab,h⟩:=h;exact h.row j hj
theorem HdI.byt(h:HdI W gh lo v k x c z bs){a i:Nat}(ha:a<3)(hi:i<c a):ar W (z a i) 5 (bs a i)/\lo<=z a i:=by
 obtain⟨lab,h⟩:=h;exact⟨(h.byt a i ha hi).1,(h.byt a i ha hi).2.1⟩
theorem HdI.apart(h:HdI W gh lo v k x c z bs){a i:Nat}(ha:a<3)(hi:i<c a){B:Nat}(hB:HUs gh v c z B):B=z a i->∃a' i',a'<3/\i'<c a'/\z a' i'=B/\a'=a/\i'=i:=by
 obtain⟨lab,h⟩:=h;intro e;have h1:=(h.byt a i ha hi).2.2;rw[<-e]at h1;rcases hB with rfl|⟨j,hj,hB⟩|⟨a',i',ha',hi',rfl⟩
 ·rw[h.lgh.1]at h1;injection h1 with h1;omega
 ·rw[h.lrow j hj B hB]at h1;injection h1 with h1;omega
 ·have h2:=(h.byt a' i' ha' hi').2.2;rw[h1]at h2;injection h2 with h2 h3;exact⟨a',i',ha',hi',rfl,h2.symm,h3.symm⟩
theorem HdI.rowApart(h:HdI W gh lo v k x c z bs){j:Nat}(hj:j<4){g:Nat}(hg:(v j).ownBlock=some g):gh≠g/\(∀j',j'<4->j'≠j->(v j').ownBlock≠some g)/\∀a i,a<3->i<c a->z a i≠g:=by
 obtain⟨lab,h⟩:=h;have h1:=h.lrow j hj g hg;refine⟨fun e=>?_,fun j' hj' hne e=>?_,fun a i ha hi e=>?_⟩
 ·rw[<-e,h.lgh.1]at h1;injection h1 with h1;omega
 ·rw[h.lrow j' hj' g e]at h1;injection h1 with h1;omega
 ·rw[<-e,(h.byt a i ha hi).2.2]at h1;injection h1 with h1;omega
theorem HdI.new(h:HdI W gh lo v k x c z bs)(hb:Below W.heap.size W W'){a g:Nat}{ys:List Nat}(ha:a<3)(hg:ar W' g 5 ys)(hn:W.heap.size<=g):HdI W' gh lo v k x (upd c a (c a+1)) (pR z a (c a) g) (pR bs a (c a) ys):=by
 obtain⟨lab,h⟩:=h;have h':=h.touch (ae.ofBelow hb) fun _ _ h=>h;have old:∀B,HUs gh v c z B->(upd lab g (a,c a)) B=lab B:=fun B hB=>au _ _ (by have:=(h.lt hB).2;omega);refine⟨upd lab g (a,c a),⟨h'.blk,h'.row,fun j hj B hB=>?_,fun a' i ha' hi=>?_,?_⟩⟩
 ·rw[old B (.inr (.inl ⟨j,hj,hB⟩))];exact h.lrow j hj B hB
 ·by_cases e:a'=a/\i=c a
  ·obtain⟨rfl,rfl⟩:=e;rw[ei,ei,az];have:=(h.lt (.inl rfl:HUs gh v c z gh));exact⟨hg,by omega,rfl⟩
  ·have hi':i<c a':=by
    by_cases e1:a'=a
    ·subst e1;rw[az]at hi;have:i≠c a':=fun e2=>e ⟨rfl,e2⟩;omega
    ·rw[au _ _ e1]at hi;exact hi
   rw[ev _ _ e,ev _ _ e,old _ (.inr (.inr ⟨a',i,ha',hi',rfl⟩))];exact h'.byt a' i ha' hi'
 ·rw[old gh (.inl rfl)];exact h.lgh
theorem HdI.set(h:HdI W gh lo v k x c z bs){a i:Nat}{ys:List Nat}(ha:a<3)(hi:i<c a)(ht:ae (fun B=>B=z a i) W W')(hg:ar W' (z a i) 5 ys):HdI W' gh lo v k x c z (pR bs a i ys):=by
 have hap:=h.apart ha hi (B:=z a i);have hno:∀B,HUs gh v c z B->(∃a' i',a'<3/\i'<c a'/\z a' i'=B/\a'=a/\i'=i)∨B≠z a i:=fun B hB=>by
  by_cases e:B=z a i
  ·exact .inl (h.apart ha hi hB e)
  ·exact .inr e
 obtain⟨lab,h⟩:=h;have hzl:=(h.byt a i ha hi).2.2;have nrow:∀j,j<4->∀B,(v j).ownBlock=some B->B≠z a i:=fun j hj B hB e=>by
  have h1:=h.lrow j hj B hB;rw[e,hzl]at h1;injection h1 with h1;omega
 refine⟨lab,⟨ht.blk h.blk fun e=>?_,fun j hj=>ht.row (h.row j hj) (nrow j hj),h.lrow,fun a' i' ha' hi'=>?_,h.lgh⟩⟩
 ·have h1:=h.lgh.1;rw[e,hzl]at h1;injection h1 with h1;omega
 ·by_cases e:a'=a/\i'=i
  ·obtain⟨rfl,rfl⟩:=e;rw[ei];exact⟨hg,(h.byt a' i' ha' hi').2⟩
  ·rw[ev _ _ e];refine⟨ht.blk (h.byt a' i' ha' hi').1 fun e2=>?_,(h.byt a' i' ha' hi').2⟩;have h1:=(h.byt a' i' ha' hi').2.2;rw[e2,hzl]at h1;injection h1 with h1 h2;exact e ⟨h1.symm,h2.symm⟩
theorem HdI.step(h:HdI W gh lo v k x c z bs){j:Nat}(hj:j<4){v':Value}{k':Nat}{xs:List Value}(hg:W.grownBy W1 (v j).ownBlock)(hr:W1.ownsRow lo (eH j) (sH j) v' k' xs)(hl:iT W (v j) v'):HdI (W1.setCell ⟨gh,j,none⟩ v') gh lo (upd v j v') (upd k j k') (upd x j xs) c z bs/\ae (fun B=>B=gh∨(v j).ownBlock=some B) W (W1.setCell ⟨gh,j,none⟩ v'):=by
 have hgl:=h.lt (.inl rfl);have hgh:(v j).ownBlock≠some gh:=fun e=>(h.rowApart hj e).1 rfl;have hne:v'.ownBlock≠some gh:=fun e=>by
  rcases hl gh e with q|q
  ·exact hgh q
  ·omega
 have ht:=ae.grown hg;have hs:=ae.grown (ai W1 (g:=gh) j v');obtain⟨lab,h⟩:=h;let lab':Nat->Nat×Nat:=fun B=>if v'.ownBlock=some B then(3+j,0)else lab B;have old:∀B,HUs gh v c z B->(v j).ownBlock≠some B->lab' B=lab B:=fun B hB hn=>if_neg fun e=>by
  rcases hl B e with q|q
  ·exact hn q
  ·have:=(h.lt hB).2;omega
 have stay:∀B,HUs gh v c z B->(v j).ownBlock≠some B->B≠gh->(W1.setCell ⟨gh,j,none⟩ v').heap[B]?=W.heap[B]?:=fun B hB hn hn2=>(hs.block B (Nat.lt_of_lt_of_le (h.lt hB).2 hg.size) fun e=>hn2 (by injection e)).trans (hg.block B (h.lt hB).2 fun e=>hn e.symm);refine⟨⟨lab',⟨?_,fun i hi=>?_,fun i hi B hB=>?_,fun a i ha hi=>?_,?_⟩⟩,bO (ht.mono fun B _ e=> .inr e.symm) hs fun B _ e=> .inl (.inl (by injection e))⟩
 ·have h1:=(ht.blk h.blk fun e=>hgh e.symm).stored j v';have h4:j=0∨j=1∨j=2∨j=3:=by omega
  rcases h4 with rfl|rfl|rfl|rfl<;>exact h1
 ·by_cases e:i=j
  ·subst e;rw[az,az,az];exact hs.row hr fun B hB e=>hne (by rw[hB];exact e)
  ·rw[au _ _ e,au _ _ e,au _ _ e];refine hs.row (ht.row (h.row i hi) fun B hB e2=>?_) fun B hB e2=>?_
   ·have h1:=h.lrow i hi B hB;rw[h.lrow j hj B e2.symm]at h1;injection h1 with h1;omega
   ·have h1:=h.lrow i hi B hB;have e3:B=gh:=by injection e2
    rw[e3,h.lgh.1]at h1;injection h1 with h1;omega
 ·by_cases e:i=j
  ·subst e;rw[az]at hB;exact if_pos hB
  ·rw[au _ _ e]at hB;rw[old B (.inr (.inl ⟨i,hi,hB⟩)) fun e2=>by
    have h1:=h.lrow i hi B hB;rw[h.lrow j hj B e2]at h1;injection h1 with h1;omega];exact h.lrow i hi B hB
 ·have hb:=h.byt a i ha hi;have n1:(v j).ownBlock≠some (z a i):=fun e=>by
   have h1:=h.lrow j hj _ e;rw[hb.2.2]at h1;injection h1 with h1;omega
  have n2:z a i≠gh:=fun e=>by
   have h1:=h.lgh.1;rw[<-e,hb.2.2]at h1;injection h1 with h1;omega
  have hu:HUs gh v c z (z a i):= .inr (.inr ⟨a,i,ha,hi,rfl⟩);exact⟨(stay _ hu n1 n2).trans hb.1,hb.2.1,by rw[old _ hu n1];exact hb.2.2⟩
 ·rw[old gh (.inl rfl) hgh];exact h.lgh
theorem HdI.rowSet(h:HdI W gh lo v k x c z bs){j g:Nat}(hj:j<4)(hvg:(v j).ownBlock=some g){xs:List Value}(ht:ae (fun B=>B=g) W W')(hr:W'.ownsRow lo (eH j) (sH j) (v j) (k j) xs):HdI W' gh lo v k (upd x j xs) c z bs:=by
 obtain⟨a1,a2,a3⟩:=h.rowApart hj hvg;obtain⟨lab,h⟩:=h;refine⟨lab,⟨ht.blk h.blk a1,fun i hi=>?_,h.lrow,fun a i ha hi=>⟨ht.blk (h.byt a i ha hi).1 (a3 a i ha hi),(h.byt a i ha hi).2⟩,h.lgh⟩⟩;by_cases e:i=j
 ·subst e;rw[az];exact hr
 ·rw[au _ _ e];exact ht.row (h.row i hi) fun B hB e2=>a2 i hi e (by rw[hB,e2])
theorem HdI.move(h:HdI W gh lo v k x c z bs)(hb:Below W.heap.size W W'){g':Nat}(hg:ab W' g' 72 #[v 0,v 1,v 2,v 3])(hn:W.heap.size<=g'):HdI W' g' lo v k x c z bs:=by
 have h':=h.below hb;have hlt:∀{B},HUs gh v c z B->lo<=B/\B<W.heap.size:=fun hB=>h.lt hB;obtain⟨lab,h⟩:=h';have hl:=hlt (.inl rfl);refine⟨upd lab g' (9,0),⟨hg,h.row,fun j hj B hB=>?_,fun a i ha hi=>?_,az _ _ _,by omega⟩⟩
 ·rw[au _ _ (by have:=(hlt (.inr (.inl ⟨j,hj,hB⟩))).2;omega)];exact h.lrow j hj B hB
 ·refine⟨(h.byt a i ha hi).1,(h.byt a i ha hi).2.1,?_⟩;rw[au _ _ (by have:=(hlt (.inr (.inr ⟨a,i,ha,hi,rfl⟩))).2;omega)];exact(h.byt a i ha hi).2.2
theorem HdI.nil{vs:Nat->Value}(hv:∀j,j<4->vs j= .slice none 0 0)(hb:ab W gh 72 #[vs 0,vs 1,vs 2,vs 3])(hl:lo<=gh)(z:Nat->Nat->Nat)(bs:Nat->Nat->List Nat):HdI W gh lo vs (fun _=>0) (fun _=>[]) (fun _=>0) z bs:=⟨fun _=>(9,0),⟨hb,fun j hj=>by rw[hv j hj];exact World.ownsRow_nil _ _ _ _,(fun j hj B hB=>by rw[hv j hj]at hB;cases hB),(fun _ _ _ hi=>by omega),rfl,hl⟩⟩
theorem HdI.congr{x':Nat->List Value}{z':Nat->Nat->Nat}{bs':Nat->Nat->List Nat}(h:HdI W gh lo v k x c z bs)(hx:∀j,j<4->x j=x' j)(hz:∀a i,a<3->i<c a->z a i=z' a i/\bs a i=bs' a i):HdI W gh lo v k x' c z' bs':=by
 obtain⟨lab,h⟩:=h;exact⟨lab,⟨h.blk,fun j hj=>by rw[<-hx j hj];exact h.row j hj,h.lrow,fun a i ha hi=>by rw[<-(hz a i ha hi).1,<-(hz a i ha hi).2];exact h.byt a i ha hi,h.lgh⟩⟩
end
def mkC:Chg:=⟨201::7::zs 30,true,[]⟩
def mkR:List Nat:=[202,8]
theorem jX:mkC.key.length=32/\IsB mkC.key:=⟨rfl,fun x hx=>by
 simp[mkC,zs]at hx;omega⟩
section
variable(n m:Nat)(X:Nat->Chg)(YS:Nat->List Nat)(z:Nat->Nat->Nat)
def XP(k:Nat):Chg:=if k<n then X k else mkC
def AdP(k:Nat):Option Addr:=if k<n then some ⟨z 0 k,0,none⟩else none
def CpP(k:Nat):Nat:=if k<n then(X k).val.length+80 else 0
def uB(k:Nat):Value:=if k<m then .slice (some ⟨z 1 k,0,none⟩) (YS k).length ((YS k).length+80)else .slice (some ⟨z 2 (k-m),0,none⟩) 2 2
def zZ(k:Nat):Value:= .slice (some ⟨z 0 k,0,none⟩) ((X k).val.length+80) ((X k).val.length+80)
def C2(k:Nat):Value:= .slice (some ⟨z 1 k,0,none⟩) ((YS k).length+80) ((YS k).length+80)
def xS(r:Nat->Nat):Nat->List Value:=fun j=>if j=0then dR (XP n X) (AdP n z) (CpP n X) (r 0)else if j=1then(List.range (r 1)).map (uB m YS z)else if j=2then(List.range (r 2)).map (zZ X z)else(List.range (r 3)).map (C2 YS z)
def bS:Nat->Nat->List Nat:=fun a i=>if a=0then(X i).val++m80 else if a=1then YS i++m80 else mkR
end
structure ROk(n m:Nat)(r c:Nat->Nat):Prop where
 r0:∀k,k<r 0->k<n->k<c 0
 r1:∀k,k<r 1->k<m->k<c 1
 r2:∀k,k<r 1->m<=k->k-m<c 2
 r3:r 2<=c 0
 r4:r 3<=c 1
def HSt(W:World)(gh lo n m:Nat)(X:Nat->Chg)(YS:Nat->List Nat)(v:Nat->Value)(z:Nat->Nat->Nat)(r c:Nat->Nat):Prop:=HdI W gh lo v r (xS n m X YS z r) c z (bS X YS)
section
variable{W W' W1:World}{gh lo n m:Nat}{X:Nat->Chg}{YS:Nat->List Nat}{v:Nat->Value}{z:Nat->Nat->Nat}{r c:Nat->Nat}
theorem AK{z':Nat->Nat->Nat}(hr:ROk n m r c)(hz:∀a i,a<3->i<c a->z a i=z' a i)(j:Nat):xS n m X YS z r j=xS n m X YS z' r j:=by
 unfold xS;by_cases h0:j=0
 ·rw[if_pos h0,if_pos h0];refine eo fun i hi=>⟨rfl,?_,rfl⟩;unfold AdP;split
  ·rename_i h;rw[hz 0 i (by omega) (hr.r0 i hi h)]
  ·rfl
 rw[if_neg h0,if_neg h0];by_cases h1:j=1
 ·rw[if_pos h1,if_pos h1];refine List.map_congr_left fun i hi=>?_;have hi:=List.mem_range.1 hi;unfold uB;split
  ·rename_i h;rw[hz 1 i (by omega) (hr.r1 i hi h)]
  ·rename_i h;rw[hz 2 (i-m) (by omega) (hr.r2 i hi (by omega))]
 rw[if_neg h1,if_neg h1];by_cases h2:j=2
 ·rw[if_pos h2,if_pos h2];refine List.map_congr_left fun i hi=>?_;have hi:=List.mem_range.1 hi;unfold zZ;rw[hz 0 i (by omega) (by have:=hr.r3;omega)]
 ·rw[if_neg h2,if_neg h2];refine List.map_congr_left fun i hi=>?_;have hi:=List.mem_range.1 hi;unfold C2;rw[hz 1 i (by omega) (by have:=hr.r4;omega)]
theorem HSt.new(h:HSt W gh lo n m X YS v z r c)(hr:ROk n m r c)(hb:Below W.heap.size W W'){a g:Nat}(ha:a<3)(hg:ar W' g 5 (bS X YS a (c a)))(hn:W.heap.size<=g):HSt W' gh lo n m X YS v (pR z a (c a) g) r (upd c a (c a+1)):=by
 have h1:=HdI.new h hb ha hg hn;refine h1.congr (fun j _=>?_) fun a' i _ hi=>⟨rfl,?_⟩
 ·refine AK hr (fun a' i _ hi=>?_) j;rw[ev _ _ fun e=>by
   obtain⟨rfl,rfl⟩:=e;omega]
 ·by_cases e:a'=a/\i=c a
  ·obtain⟨rfl,rfl⟩:=e;rw[ei]
  ·rw[ev _ _ e]
theorem HSt.step(h:HSt W gh lo n m X YS v z r c){j:Nat}(hj:j<4){v':Value}{xs:List Value}(hx:xS n m X YS z r j++xs=xS n m X YS z (upd r j (r j+1)) j)(hg:W.grownBy W1 (v j).ownBlock)(hr:W1.ownsRow lo (eH j) (sH j) v' (r j+1) (xS n m X YS z r j++xs))(hl:iT W (v j) v'):HSt (W1.setCell ⟨gh,j,none⟩ v') gh lo n m X YS (upd v j v') z (upd r j (r j+1)) c/\ae (fun B=>B=gh∨(v j).ownBlock=some B) W (W1.setCell ⟨gh,j,none⟩ v'):=by
 have h1:=HdI.step h hj hg hr hl;refine⟨h1.1.congr (fun i hi=>?_) fun _ _ _ _=>⟨rfl,rfl⟩,h1.2⟩;by_cases e:i=j
 ·subst e;rw[az,hx]
 ·rw[au _ _ e];unfold xS;have h4:j=0∨j=1∨j=2∨j=3:=by omega
  have h5:i=0∨i=1∨i=2∨i=3:=by omega
  rcases h4 with rfl|rfl|rfl|rfl<;>rcases h5 with rfl|rfl|rfl|rfl<;>first|(exact absurd rfl e)|rfl
theorem Fq:xS n m X YS z r 0++chC (XP n X (r 0)) (AdP n z (r 0)) (CpP n X (r 0))=xS n m X YS z (upd r 0 (r 0+1)) 0:=by
 unfold xS;rw[if_pos rfl,if_pos rfl,az,dR]
theorem Fp:xS n m X YS z r 1++[uB m YS z (r 1)]=xS n m X YS z (upd r 1 (r 1+1)) 1:=by
 unfold xS;simp[upd,List.range_succ]
theorem FA:xS n m X YS z r 2++[zZ X z (r 2)]=xS n m X YS z (upd r 2 (r 2+1)) 2:=by
 unfold xS;simp[upd,List.range_succ]
theorem Fz:xS n m X YS z r 3++[C2 YS z (r 3)]=xS n m X YS z (upd r 3 (r 3+1)) 3:=by
 unfold xS;simp[upd,List.range_succ]
theorem HSt.rowC(h:HSt W gh lo n m X YS v z r c):W.ownsRow lo 39 34 (v 0) (r 0) (xS n m X YS z r 0):=HdI.row h (j:=0) (by omega)
theorem HSt.rowR(h:HSt W gh lo n m X YS v z r c){j:Nat}(hj:0<j/\j<4):W.ownsRow lo 36 1 (v j) (r j) (xS n m X YS z r j):=by
 have h1:=HdI.row h hj.2;unfold eH sH at h1;rw[if_neg (by omega),if_neg (by omega)]at h1;exact h1
theorem HSt.at_(h:HSt W gh lo n m X YS v z r c):(W.cell? ⟨gh,0,none⟩=some (v 0)/\W.cell? ⟨gh,1,none⟩=some (v 1)/\W.cell? ⟨gh,2,none⟩=some (v 2)/\W.cell? ⟨gh,3,none⟩=some (v 3))/\∀i,W.frozen? ⟨gh,i,none⟩=false:=⟨⟨(HdI.blk h).cell 0,(HdI.blk h).cell 1,(HdI.blk h).cell 2,(HdI.blk h).cell 3⟩,(HdI.blk h).frozen⟩
theorem HSt.mid(h:HSt W gh lo n m X YS v z r c){j:Nat}(hj:j<4)(hg:W.grownBy W1 (v j).ownBlock):ab W1 gh 72 #[v 0,v 1,v 2,v 3]:=(ae.grown hg).blk (HdI.blk h) fun e=>(HdI.rowApart h hj e.symm).1 rfl
end
end Go.Proofs.YtfnlhfaihoojfaaGreatDoor
