/- Texts of the proof of ledgerlaw13.ClientPlays, part 33; no condition of its own. -/
import Derived.Test.YtfnlhfaihoojfaaGreatDoorS17
import Derived.Test.YtfnlhfaihoojfaaGreatDoorS32
set_option maxRecDepth 100000
set_option maxHeartbeats 4000000
namespace Go.Proofs.YtfnlhfaihoojfaaGreatDoor
open Go.RowKit
def Pb(a:Nat)(i:Nat):Value:= .int .u8 (mkN a i:Nat)
def eX(a:Nat):List Nat:=[211,a%256,a/256%256,a/65536%256]++zs 28
def Pd(a:Nat)(i:Nat):Value:= .int .u8 ((eX a).getD (i%32) 0:Nat)
theorem dM(a:Nat):(eX a).length=32:=by simp[eX,zs]
theorem tS(a:Nat):IsB (eX a):=fun x hx=>by
 rcases List.mem_append.1 hx with h|h
 ·simp at h;omega
 ·simp[zs]at h;omega
theorem EW(n j:Nat):mkN n j<256:=Nat.mod_lt _ (by omega)
theorem xr(a i:Nat):(Pb a i).oneCell'=true:=rfl
theorem Fb(a i:Nat):(Pd a i).oneCell'=true:=rfl
def eT(j:Nat):TypeId:=if j=0then 36 else if j=1then 3 else if j=2then 27 else 34
def sT(j:Nat):Nat:=if j=3then 32 else 1
def cI(j:Nat):Nat:=if j<2then j+1 else j+2
def bP(gb:Nat)(v:Nat->Value)(B:Nat):Prop:=B=gb∨∃j,j<4/\(v j).ownBlock=some B
structure dv(w:World)(gb base:Nat)(n n2:Nat)(v:Nat->Value)(k:Nat->Nat)(x:Nat->List Value):Prop where
 blk:ab w gb 31 #[.int .i64 (n:Nat),v 0,v 1, .int .i64 (n2:Nat),v 2,v 3]
 row:∀j,j<4->aO w (eT j) (sT j) (v j) (k j) (x j)
 ap:∀i j,i<4->j<4->i≠j->cM (v i) (v j)
 ne:∀j,j<4->(v j).ownBlock≠some gb
 ge:∀B,bP gb v B->base<=B
theorem CH(n n2:Nat)(v:Nat->Value)(j:Nat)(hj:j<4)(u:Value):(#[.int .i64 (n:Nat),v 0,v 1, .int .i64 (n2:Nat),v 2,v 3]:Array Value).setIfInBounds (cI j) u=#[.int .i64 (n:Nat),upd v j u 0,upd v j u 1, .int .i64 (n2:Nat),upd v j u 2,upd v j u 3]:=by
 have h4:j=0∨j=1∨j=2∨j=3:=by omega
 rcases h4 with rfl|rfl|rfl|rfl<;>rfl
section
variable{w w' w1:World}{gb base n n2:Nat}{v:Nat->Value}{k:Nat->Nat}{x:Nat->List Value}{U:Nat->Prop}
theorem dv.lt(h:dv w gb base n n2 v k x){B:Nat}(hB:bP gb v B):B<w.heap.size:=by
 rcases hB with rfl|⟨j,hj,hB⟩
 ·exact h.blk.lt
 ·exact(h.row j hj).lt B hB
theorem dv.touch(h:dv w gb base n n2 v k x)(ht:ae U w w')(hd:∀B,bP gb v B->¬U B):dv w' gb base n n2 v k x:=⟨ht.blk h.blk (hd gb (.inl rfl)),fun j hj=>(h.row j hj).touch ht fun k hk=>hd k (.inr ⟨j,hj,hk⟩),h.ap,h.ne,h.ge⟩
theorem dv.below(h:dv w gb base n n2 v k x)(hb:Below w.heap.size w w'):dv w' gb base n n2 v k x:=h.touch (ae.ofBelow hb) fun _ _ h=>h
theorem dv.at_(h:dv w gb base n n2 v k x):(w.cell? ⟨gb,0,none⟩=some (.int .i64 (n:Nat))/\w.cell? ⟨gb,1,none⟩=some (v 0)/\w.cell? ⟨gb,2,none⟩=some (v 1)/\w.cell? ⟨gb,3,none⟩=some (.int .i64 (n2:Nat))/\w.cell? ⟨gb,4,none⟩=some (v 2)/\w.cell? ⟨gb,5,none⟩=some (v 3))/\∀i,w.frozen? ⟨gb,i,none⟩=false:=⟨⟨h.blk.cell 0,h.blk.cell 1,h.blk.cell 2,h.blk.cell 3,h.blk.cell 4,h.blk.cell 5⟩,h.blk.frozen⟩
theorem dv.mid(h:dv w gb base n n2 v k x){j:Nat}(hj:j<4)(hg:w.grownBy w1 (v j).ownBlock):ab w1 gb 31 #[.int .i64 (n:Nat),v 0,v 1, .int .i64 (n2:Nat),v 2,v 3]:=(ae.grown hg).blk h.blk fun e=>h.ne j hj e.symm
theorem dv.step(h:dv w gb base n n2 v k x){j:Nat}(hj:j<4){v':Value}{k':Nat}{xs:List Value}(hg:w.grownBy w1 (v j).ownBlock)(hr:aO w1 (eT j) (sT j) v' k' xs)(hl:iT w (v j) v'):dv (w1.setCell ⟨gb,cI j,none⟩ v') gb base n n2 (upd v j v') (upd k j k') (upd x j xs)/\ae (bP gb v) w (w1.setCell ⟨gb,cI j,none⟩ v')/\(∀B,bP gb (upd v j v') B->bP gb v B∨w.heap.size<=B):=by
 have ht:=ae.grown hg;have hs:=ae.grown (ai w1 (g:=gb) (cI j) v');have hgb:=h.blk.lt;have hne:v'.ownBlock≠some gb:=fun e=>by
  rcases hl gb e with k|k
  ·exact h.ne j hj k
  ·omega
 have hv:∀i,i<4->i≠j->aO (w1.setCell ⟨gb,cI j,none⟩ v') (eT i) (sT i) (v i) (k i) (x i):=fun i hi hij=>((h.row i hi).touch ht fun k hk e=>h.ap i j hi hj hij k hk e.symm).touch hs fun k hk e=>h.ne i hi (by rw[hk];exact e);have hsp:∀B,bP gb (upd v j v') B->bP gb v B∨w.heap.size<=B:=fun B hB=>by
  rcases hB with rfl|⟨i,hi,hB⟩
  ·exact .inl (.inl rfl)
  ·by_cases e:i=j
   ·subst e;rw[az]at hB;rcases hl B hB with k|k
    ·exact .inl (.inr ⟨i,hi,k⟩)
    ·exact .inr k
   ·rw[au _ _ e]at hB;exact .inl (.inr ⟨i,hi,hB⟩)
 refine⟨⟨?_,fun i hi=>?_,fun i k hi hk hik=>?_,fun i hi=>?_,fun B hB=>?_⟩,?_,hsp⟩
 ·rw[<-CH n n2 v j hj v'];exact(ht.blk h.blk fun e=>h.ne j hj e.symm).stored (cI j) v'
 ·by_cases e:i=j
  ·subst e;rw[az,az,az];exact hr.touch hs fun k hk e=>hne (by rw[hk];exact e)
  ·rw[au _ _ e,au _ _ e,au _ _ e];exact hv i hi e
 ·by_cases e1:i=j
  ·subst e1;rw[az,au _ _ (Ne.symm hik)];exact da (h.ap i k hi hk hik) hl fun q hq=>(h.row k hk).lt q hq
  ·by_cases e2:k=j
   ·subst e2;rw[az,au _ _ e1];exact(da (h.ap k i hk hi (Ne.symm hik)) hl fun q hq=>(h.row i hi).lt q hq).symm'
   ·rw[au _ _ e1,au _ _ e2];exact h.ap i k hi hk hik
 ·by_cases e:i=j
  ·subst e;rw[az];exact hne
  ·rw[au _ _ e];exact h.ne i hi
 ·rcases hsp B hB with k|k
  ·exact h.ge B k
  ·have:=h.ge gb (.inl rfl);omega
 ·exact(ht.mono fun k _ hk=> .inr ⟨j,hj,hk.symm⟩).trans (hs.mono fun k _ hk=>by injection hk with hk;exact .inl hk)
theorem dv.bump(h:dv w gb base n n2 v k x):dv (w.setCell ⟨gb,0,none⟩ (.int .i64 ((n+1:Nat):Int))) gb base (n+1) n2 v k x:=by
 have hs:=ae.grown (ai w (g:=gb) 0 (.int .i64 ((n+1:Nat):Int)));exact⟨h.blk.stored 0 _,fun j hj=>(h.row j hj).touch hs fun k hk e=>h.ne j hj (by rw[hk];exact e),h.ap,h.ne,h.ge⟩
theorem dv.bump2(h:dv w gb base n n2 v k x):dv (w.setCell ⟨gb,3,none⟩ (.int .i64 ((n2+1:Nat):Int))) gb base n (n2+1) v k x:=by
 have hs:=ae.grown (ai w (g:=gb) 3 (.int .i64 ((n2+1:Nat):Int)));exact⟨h.blk.stored 3 _,fun j hj=>(h.row j hj).touch hs fun k hk e=>h.ne j hj (by rw[hk];exact e),h.ap,h.ne,h.ge⟩
end
def inV(a:Nat):Value:= .int .i64 (a:Nat)
def xB(xl:List Value)(ms:List Nat)(yl:List Value)(ns:List Nat):Nat->List Value:=fun j=>if j=0then xl else if j=1then ms.map inV else if j=2then yl else if j=3then(ns.map fun a=>bvs (eX a)).flatten else[]
def kB(xl:List Value)(ms:List Nat)(yl:List Value)(ns:List Nat):Nat->Nat:=fun j=>if j=0then xl.length else if j=1then ms.length else if j=2then yl.length else if j=3then ns.length else 0
theorem nw(ns:List Nat)(d:Nat):(ns.map fun a=>bvs (eX a)).flatten.drop (d*32)=((ns.drop d).map fun a=>bvs (eX a)).flatten:=by
 induction ns generalizing d with
 |nil=>simp
 |cons a r ih=>
  cases d with
  |zero=>simp
  |succ d=>
   rw[List.map_cons,List.flatten_cons,List.drop_succ_cons,<-ih,show(d+1)*32=(bvs (eX a)).length+d*32by simp[bvs,dM];omega,<-List.drop_drop,List.drop_left]
def Dt(w:World)(n:Nat)(u:Value)(a:Nat):Prop:=a<n/\∃m,m<=140737488355328/\w.ownsRow 0 5 1 u m (pat (Pb a) (m*1))
def Du(w:World)(u:Value)(a:Nat):Prop:=∃m,m<=1073741824/\w.ownsRow 0 34 32 u m (pat (Pd a) (m*32))
structure BkI(w:World)(gb base:Nat)(S:Nat->Prop)(n n2:Nat)(v:Nat->Value)(xl:List Value)(ms:List Nat)(yl:List Value)(ns:List Nat):Prop where
 heads:dv w gb base n n2 v (kB xl ms yl ns) (xB xl ms yl ns)
 lenL:ms.length=xl.length
 lenK:ns.length=yl.length
 maxL:xl.length<=600
 maxK:yl.length<=200
 fulL:∀(i:Nat)(u:Value)(a:Nat),xl[i]?=some u->ms[i]?=some a->Dt w n u a
 fulK:∀(i:Nat)(u:Value)(a:Nat),yl[i]?=some u->ns[i]?=some a->Du w u a
 kept:∀u,u∈xl++yl->∀B,u.ownBlock=some B->S B/\¬bP gb v B
 spn:∀B,bP gb v B->S B
 bnd:∀B,S B->base<=B/\B<w.heap.size
def Bk(w:World)(gb base N:Nat)(S:Nat->Prop):Prop:=∃n n2 v xl ms yl ns,n<=N/\n2<=N/\BkI w gb base S n n2 v xl ms yl ns
section
variable{w w' w1 w4:World}{gb base N n n2:Nat}{S U V:Nat->Prop}{v v':Nat->Value}{xl yl:List Value}{ms ns:List Nat}
theorem BkI.touch(h:BkI w gb base S n n2 v xl ms yl ns)(ht:ae U w w')(hd:∀B,S B->¬U B):BkI w' gb base S n n2 v xl ms yl ns:={h with
  heads:=h.heads.touch ht fun B hB=>hd B (h.spn B hB)
  fulL:=fun i u a hu ha=>by
   obtain⟨h1,m,h2,h3⟩:=h.fulL i u a hu ha;exact⟨h1,m,h2,ht.row h3 fun B hB=>hd B (h.kept u (List.mem_append_left _ (List.mem_of_getElem? hu)) B hB).1⟩
  fulK:=fun i u a hu ha=>by
   obtain⟨m,h2,h3⟩:=h.fulK i u a hu ha;exact⟨m,h2,ht.row h3 fun B hB=>hd B (h.kept u (List.mem_append_right _ (List.mem_of_getElem? hu)) B hB).1⟩
  bnd:=fun B hB=>⟨(h.bnd B hB).1,Nat.lt_of_lt_of_le (h.bnd B hB).2 ht.size⟩}
theorem Bk.touch(h:Bk w gb base N S)(ht:ae U w w')(hd:∀B,S B->¬U B):Bk w' gb base N S:=by
 obtain⟨n,n2,v,xl,ms,yl,ns,h1,h2,h⟩:=h;exact⟨n,n2,v,xl,ms,yl,ns,h1,h2,h.touch ht hd⟩
theorem Bk.below(h:Bk w gb base N S)(hb:Below w.heap.size w w'):Bk w' gb base N S:=h.touch (ae.ofBelow hb) fun _ _ h=>h
theorem Bk.mono{N':Nat}(h:Bk w gb base N S)(hN:N<=N'):Bk w gb base N' S:=by
 obtain⟨n,n2,v,xl,ms,yl,ns,h1,h2,h⟩:=h;exact⟨n,n2,v,xl,ms,yl,ns,by omega,by omega,h⟩
theorem Bk.bnd(h:Bk w gb base N S):∀B,S B->base<=B/\B<w.heap.size:=by
 obtain⟨n,n2,v,xl,ms,yl,ns,h1,h2,h⟩:=h;exact h.bnd
def pZ(gb base N:Nat)(S:Nat->Prop)(lb:Option Nat)(w:World)(e:Ending)(w':World):Prop:=e= .returned (.tuple #[])/\∃S',Bk w' gb base (N+1) S'/\(∀B,S' B->S B∨lb=some B∨w.heap.size<=B)/\ae (fun B=>S B∨lb=some B) w w'
theorem yZ{d:Nat}{lb:Option Nat}{l g h:Value}(hb:BkI w gb base S n n2 v xl ms yl ns)(hnN:n<=N)(hnN2:n2<=N)(hf:∀B,lb=some B->¬S B/\base<=B/\B<w.heap.size)(hbase:base<=w.heap.size)(hn:dv w4 gb base (n+1) n2 v' (kB ((xl++[l,g,h]).drop d) ((ms++[n,n,n]).drop d) yl ns) (xB ((xl++[l,g,h]).drop d) ((ms++[n,n,n]).drop d) yl ns))(hd:xl.length+3-d<=600)(hsp:∀B,bP gb v' B->bP gb v B∨w.heap.size<=B)(hls:∀u,u∈[l,g,h]->Dt w4 (n+1) u n/\∀B,u.ownBlock=some B->(lb=some B∨w.heap.size<=B)/\¬bP gb v' B/\B<w4.heap.size)(ht:ae (fun B=>bP gb v B∨lb=some B) w w4):∃S',Bk w4 gb base (N+1) S'/\(∀B,S' B->S B∨lb=some B∨w.heap.size<=B)/\ae (fun B=>S B∨lb=some B) w w4:=by
 have hsz:=ht.size;refine⟨fun B=>S B∨lb=some B∨w.heap.size<=B/\B<w4.heap.size,⟨n+1,n2,v',_,_,yl,ns,by omega,by omega,⟨hn,?_,hb.lenK,?_,hb.maxK,?_,?_,?_,?_,?_⟩⟩,?_,ht.mono fun B _ hB=>hB.imp (hb.spn B) id⟩
 ·have:=hb.lenL;simp only[List.length_drop,List.length_append,List.length_cons,List.length_nil];omega
 ·simp only[List.length_drop,List.length_append,List.length_cons,List.length_nil];omega
 ·intro i u a hu ha;rw[List.getElem?_drop]at hu ha;by_cases hi:d+i<xl.length
  ·rw[List.getElem?_append_left hi]at hu;rw[List.getElem?_append_left (by rw[hb.lenL];exact hi)]at ha;obtain⟨h1,m,h2,h3⟩:=hb.fulL _ u a hu ha;have hk:=hb.kept u (List.mem_append_left _ (List.mem_of_getElem? hu));refine⟨by omega,m,h2,ht.row h3 fun B hB hU=>?_⟩;rcases hU with hU|hU
   ·exact(hk B hB).2 hU
   ·exact(hf B hU).1 (hk B hB).1
  ·rw[List.getElem?_append_right (by omega)]at hu;rw[List.getElem?_append_right (by rw[hb.lenL];omega)]at ha;have ha':a=n:=by
    have h1:=List.mem_of_getElem? ha;simp at h1;exact h1
   rw[ha'];exact(hls u (List.mem_of_getElem? hu)).1
 ·intro i u a hu ha;obtain⟨m,h2,h3⟩:=hb.fulK i u a hu ha;have hk:=hb.kept u (List.mem_append_right _ (List.mem_of_getElem? hu));refine⟨m,h2,ht.row h3 fun B hB hU=>?_⟩;rcases hU with hU|hU
  ·exact(hk B hB).2 hU
  ·exact(hf B hU).1 (hk B hB).1
 ·intro u hu B hB;have old:u∈xl++yl->(S B∨lb=some B∨w.heap.size<=B/\B<w4.heap.size)/\¬bP gb v' B:=fun hu=>by
   have hk:=hb.kept u hu B hB;refine⟨.inl hk.1,fun hs=>?_⟩;rcases hsp B hs with h1|h1
   ·exact hk.2 h1
   ·have:=(hb.bnd B hk.1).2;omega
  rcases List.mem_append.1 hu with hu|hu
  ·rcases List.mem_append.1 (List.mem_of_mem_drop hu)with hu|hu
   ·exact old (List.mem_append_left _ hu)
   ·obtain⟨h1,h2,h3⟩:=(hls u hu).2 B hB;exact⟨.inr (h1.imp id fun h=>⟨h,h3⟩),h2⟩
  ·exact old (List.mem_append_right _ hu)
 ·intro B hB;rcases hsp B hB with h1|h1
  ·exact .inl (hb.spn B h1)
  ·exact .inr (.inr ⟨h1,hn.lt hB⟩)
 ·intro B hB;rcases hB with hB|hB|hB
  ·have:=hb.bnd B hB;omega
  ·have:=hf B hB;omega
  ·omega
 ·intro B hB;rcases hB with hB|hB|hB
  ·exact .inl hB
  ·exact .inr (.inl hB)
  ·exact .inr (.inr hB.1)
theorem y5{d:Nat}{lb:Option Nat}{l g:Value}(hb:BkI w gb base S n n2 v xl ms yl ns)(hnN:n<=N)(hnN2:n2<=N)(hf:∀B,lb=some B->¬S B/\base<=B/\B<w.heap.size)(hbase:base<=w.heap.size)(hn:dv w4 gb base n (n2+1) v' (kB xl ms ((yl++[l,g]).drop d) ((ns++[n2,n2]).drop d)) (xB xl ms ((yl++[l,g]).drop d) ((ns++[n2,n2]).drop d)))(hd:yl.length+2-d<=200)(hsp:∀B,bP gb v' B->bP gb v B∨w.heap.size<=B)(hls:∀u,u∈[l,g]->Du w4 u n2/\∀B,u.ownBlock=some B->(lb=some B∨w.heap.size<=B)/\¬bP gb v' B/\B<w4.heap.size)(ht:ae (fun B=>bP gb v B∨lb=some B) w w4):∃S',Bk w4 gb base (N+1) S'/\(∀B,S' B->S B∨lb=some B∨w.heap.size<=B)/\ae (fun B=>S B∨lb=some B) w w4:=by
 have hsz:=ht.size;refine⟨fun B=>S B∨lb=some B∨w.heap.size<=B/\B<w4.heap.size,⟨n,n2+1,v',xl,ms,_,_,by omega,by omega,⟨hn,hb.lenL,?_,hb.maxL,?_,?_,?_,?_,?_,?_⟩⟩,?_,ht.mono fun B _ hB=>hB.imp (hb.spn B) id⟩
 ·have:=hb.lenK;simp only[List.length_drop,List.length_append,List.length_cons,List.length_nil];omega
 ·simp only[List.length_drop,List.length_append,List.length_cons,List.length_nil];omega
 ·intro i u a hu ha;obtain⟨h1,m,h2,h3⟩:=hb.fulL i u a hu ha;have hk:=hb.kept u (List.mem_append_left _ (List.mem_of_getElem? hu));refine⟨h1,m,h2,ht.row h3 fun B hB hU=>?_⟩;rcases hU with hU|hU
  ·exact(hk B hB).2 hU
  ·exact(hf B hU).1 (hk B hB).1
 ·intro i u a hu ha;rw[List.getElem?_drop]at hu ha;by_cases hi:d+i<yl.length
  ·rw[List.getElem?_append_left hi]at hu;rw[List.getElem?_append_left (by rw[hb.lenK];exact hi)]at ha;obtain⟨m,h2,h3⟩:=hb.fulK _ u a hu ha;have hk:=hb.kept u (List.mem_append_right _ (List.mem_of_getElem? hu));refine⟨m,h2,ht.row h3 fun B hB hU=>?_⟩;rcases hU with hU|hU
   ·exact(hk B hB).2 hU
   ·exact(hf B hU).1 (hk B hB).1
  ·rw[List.getElem?_append_right (by omega)]at hu;rw[List.getElem?_append_right (by rw[hb.lenK];omega)]at ha;have ha':a=n2:=by
    have h1:=List.mem_of_getElem? ha;simp at h1;exact h1
   rw[ha'];exact(hls u (List.mem_of_getElem? hu)).1
 ·intro u hu B hB;have old:u∈xl++yl->(S B∨lb=some B∨w.heap.size<=B/\B<w4.heap.size)/\¬bP gb v' B:=fun hu=>by
   have hk:=hb.kept u hu B hB;refine⟨.inl hk.1,fun hs=>?_⟩;rcases hsp B hs with h1|h1
   ·exact hk.2 h1
   ·have:=(hb.bnd B hk.1).2;omega
  rcases List.mem_append.1 hu with hu|hu
  ·exact old (List.mem_append_left _ hu)
  ·rcases List.mem_append.1 (List.mem_of_mem_drop hu)with hu|hu
   ·exact old (List.mem_append_right _ hu)
   ·obtain⟨h1,h2,h3⟩:=(hls u hu).2 B hB;exact⟨.inr (h1.imp id fun h=>⟨h,h3⟩),h2⟩
 ·intro B hB;rcases hsp B hB with h1|h1
  ·exact .inl (hb.spn B h1)
  ·exact .inr (.inr ⟨h1,hn.lt hB⟩)
 ·intro B hB;rcases hB with hB|hB|hB
  ·have:=hb.bnd B hB;omega
  ·have:=hf B hB;omega
  ·omega
 ·intro B hB;rcases hB with hB|hB|hB
  ·exact .inl hB
  ·exact .inr (.inl hB)
  ·exact .inr (.inr hB.1)
end
theorem fT:Tryz.prog.underlying 24=some (.slice 36):=by kernel_rfl
theorem fj:(Tryz.prog.info? 36).map (fun i=>(i.zero,i.size,i.bytes))=some (some (.slice none 0 0),1,24):=by kernel_rfl
theorem tC:Tryz.prog.underlying 25=some (.slice 3):=by kernel_rfl
theorem y6:(Tryz.prog.info? 3).map (fun i=>(i.zero,i.size,i.bytes))=some (some (.int .i64 0),1,8):=by kernel_rfl
theorem ww:Tryz.prog.elem 24=36:=by kernel_rfl
theorem zu:Tryz.prog.elem 25=3:=by kernel_rfl
theorem uX:(Tryz.prog.info? 36).map (·.size)=some 1:=by kernel_rfl
theorem DD:(Tryz.prog.info? 3).map (·.size)=some 1:=by kernel_rfl
theorem kG{P:Program}{w:World}{ops:Array Oper}{rest:List Oper}{o:Oper}{a:Act}{Q:Exit->Act->World->Prop}(hgd:o.guard=none)(t e:TypeId)(x ix:Operand)(ho:o.op= .slice t x (some ix) none none)(ht:P.underlying t=some (.slice e))(he:P.elem t=e)(sz:Nat)(hsz:(P.info? e).map (·.size)=some sz)(g f m d k:Nat)(hx:a.eval x= .slice (some ⟨g,f,none⟩) m d)(hi:a.eval ix= .int .i64 (k:Int))(hk:k<m)(hmd:m<=d)(h:wpList P ops Q rest (a.put o.dst (.slice (some ⟨g,f+k*sz,none⟩) (m-k) (d-k))) w):wpList P ops Q (o::rest) a w:=by
 subst he;refine wpList_plain hgd fun K hK=>?_;have hs:(sizeOf (P.elem t)).run P w= .ok sz w:=by
  cases hq:P.info? (P.elem t)with
  |none=>simp[hq]at hsz
  |some i=>
   have h1:i.size=sz:=by simpa[hq]using hsz
   simp[sizeOf,typeInfo,hq,h1]
 have hrun:(Instr.sliceAt t (.slice (some ⟨g,f,none⟩) m d) (some (.int .i64 (k:Int))) none none).run P w= .ok (.slice (some ⟨g,f+k*sz,none⟩) (m-k) (d-k)) w:=by
  rw[run_sliceAt_slice w t _ _ _ _ ht,run_slice_l w t (some ⟨g,f,none⟩) m d ht .i64 (k:Int) (by omega) (by omega),hs];simp only[Result.andThen_ok,sliced,Int.toNat_natCast];rw[if_neg (by omega),Option.map_some,add_lit]
 unfold Oper.wp execOp;simp only[ho,hx,hi,Option.map,Sem.run_bind,Sem.run_pure,hrun,Result.andThen_ok];exact hK _ _ h
def mkL(xs:List Nat)(n j:Nat):List Nat:=(List.range j).map (mkN n)++xs.drop j
theorem BH(xs:List Nat)(n:Nat):mkL xs n 0=xs:=by simp[mkL]
theorem oA{xs:List Nat}{n j m:Nat}(h:xs.length=m)(hj:j<=m):(mkL xs n j).length=m:=by
 simp[mkL];omega
theorem DW{xs:List Nat}{n m:Nat}(h:xs.length=m):bvs (mkL xs n m)=pat (Pb n) m:=by
 unfold mkL bvs pat;rw[List.drop_eq_nil_of_le (by omega),List.append_nil,List.map_map];rfl
theorem BI{xs:List Nat}{n j m:Nat}(h:xs.length=m)(hj:j<m):(mkL xs n j).set j (mkN n j)=mkL xs n (j+1):=by
 have e:xs.drop j=xs.getD j 0::xs.drop (j+1):=by
  rw[List.drop_eq_getElem_cons (by omega)];simp[List.getD,show j<xs.length by omega]
 unfold mkL;rw[List.set_append_right _ _ (by simp),List.length_map,List.length_range,Nat.sub_self,e,List.set_cons_zero,List.range_succ,List.map_append];simp
theorem iV.one{p:Nat->Value}{e:TypeId}{w w':World}(h:iV p e 1 w w'){base j:Nat}{u:Value}(hu:w.ownsRow base e 1 u j (pat p j)):w'.ownsRow base e 1 u j (pat p j):=by
 have:=h base u j;rw[Nat.mul_one]at this;exact this hu
theorem pF{P:Program}{t e:TypeId}(ht:P.underlying t=some (.slice e))(hinfo:(P.info? e).map (fun i=>(i.zero,i.size,i.bytes))=some (some (.int .u8 0),1,1)){ops:Array Oper}{rest:List Oper}{o:Oper}{a:Act}{Q:Exit->Act->World->Prop}(w:World)(hgd:o.guard=none)(s x:Operand)(ho:o.op= .call {callee:= .builtin .append,args:=#[s,x],argTypes:=#[t,t]})(p:Nat->Value)(v:Value)(n j:Nat)(hown:w.ownsRow 0 e 1 v n (pat p n))(hone:∀i,(p i).oneCell'=true)(cs:Array Value)(hcs:cs=(nA p n j).toArray)(hs:a.eval s=v)(hx:a.eval x= .slice (some ⟨w.heap.size,0,none⟩) j j)(hj:0<j)(hm:n+j<=140737488355328)(h:∀v' w',w'.ownsRow 0 e 1 v' (n+j) (pat p (n+j))->w.grownBy w' v.ownBlock->iT w v v'->iV p e 1 w w'->wpList P ops Q rest (a.put o.dst v') w'):wpList P ops Q (o::rest) a (w.alloc (.cells cs e)):=by
 refine xZ (sz:=1) ht hinfo rfl (by decide) w hgd s x ho p 0 v n j (by rw[Nat.mul_one];exact hown) hone cs (by rw[Nat.mul_one,Nat.mul_one];exact hcs) hs hx hj hm (by omega) (Nat.zero_le _) fun v' w' h1 h2 h3 h4=>?_;rw[Nat.mul_one]at h1;exact h v' w' h1 h2 h3 h4
def UT(l:Value)(w:World)(B:Nat):Prop:=l.ownBlock=some B∨w.heap.size<=B
theorem gN(l:Value)(w:World):∀B,l.ownBlock=some B->UT l w B:=fun _ h=> .inl h
theorem mG{l v:Value}{w y y1:World}(h:ae (UT l w) w y)(hg:y.grownBy y1 v.ownBlock)(hv:∀B,v.ownBlock=some B->UT l w B):ae (UT l w) w y1:=h.trans ((ae.grown hg).mono fun k _ hk=>hv k hk.symm)
theorem mH{l v v':Value}{w y:World}(h:ae (UT l w) w y)(hl:iT y v v')(hv:∀B,v.ownBlock=some B->UT l w B):∀B,v'.ownBlock=some B->UT l w B:=fun B hB=>by
 rcases hl B hB with k|k
 ·exact hv B k
 ·have:=h.size;exact .inr (by omega)
theorem aP{w:World}{base n:Nat}{e:TypeId}{k:Nat}{v:Value}{xs:List Value}(h:w.ownsRow base e k v n xs):∃A c,v= .slice A n c/\n<=c/\c<=maxLen/\(A=none->c=0):=by
 rcases h.2with⟨h,h0⟩|⟨g,cap,cur,h,_,_,h1,h2,_⟩
 ·exact⟨none,0,by rw[h,h0],by omega,Nat.zero_le _,fun _=>rfl⟩
 ·exact⟨_,_,h,h1,h2,fun e=>by cases e⟩
theorem FD{w:World}{base:Nat}{u:Value}{xs:List Nat}(h:bn w base u xs):bn w 0 u xs:=h.mono (Nat.zero_le _)
section
variable{w w1 y w4:World}{gb base N n n2:Nat}{S:Nat->Prop}{v v':Nat->Value}{xl yl:List Value}{ms ns:List Nat}
theorem Fx{l:List Value}:upd (kB xl ms yl ns) 0 l.length=kB l ms yl ns/\upd (xB xl ms yl ns) 0 l=xB l ms yl ns:=by
 refine⟨?_,?_⟩<;>(funext j;by_cases e:j=0<;>simp[upd,kB,xB,e])
theorem Fw{l:List Nat}:upd (kB xl ms yl ns) 1 l.length=kB xl l yl ns/\upd (xB xl ms yl ns) 1 (l.map inV)=xB xl l yl ns:=by
 refine⟨?_,?_⟩<;>(funext j;by_cases e:j=1<;>simp[upd,kB,xB,e])
theorem dv.putL(h:dv w gb base n n2 v (kB xl ms yl ns) (xB xl ms yl ns)){v':Value}{l:List Value}{k:Nat}(hk:k=l.length)(hg:w.grownBy w1 (v 0).ownBlock)(hr:aO w1 36 1 v' k l)(hl:iT w (v 0) v'):dv (w1.setCell ⟨gb,1,none⟩ v') gb base n n2 (upd v 0 v') (kB l ms yl ns) (xB l ms yl ns)/\ae (bP gb v) w (w1.setCell ⟨gb,1,none⟩ v')/\(∀B,bP gb (upd v 0 v') B->bP gb v B∨w.heap.size<=B):=by
 subst hk;have h1:=h.step (j:=0) (by omega) hg hr hl;rw[Fx.1,Fx.2]at h1;exact h1
theorem dv.putM(h:dv w gb base n n2 v (kB xl ms yl ns) (xB xl ms yl ns)){v':Value}{l:List Nat}{k:Nat}(hk:k=l.length)(hg:w.grownBy w1 (v 1).ownBlock)(hr:aO w1 3 1 v' k (l.map inV))(hl:iT w (v 1) v'):dv (w1.setCell ⟨gb,2,none⟩ v') gb base n n2 (upd v 1 v') (kB xl l yl ns) (xB xl l yl ns)/\ae (bP gb v) w (w1.setCell ⟨gb,2,none⟩ v')/\(∀B,bP gb (upd v 1 v') B->bP gb v B∨w.heap.size<=B):=by
 subst hk;have h1:=h.step (j:=1) (by omega) hg hr hl;rw[Fw.1,Fw.2]at h1;exact h1
theorem jF(w:World)(r:Option Nat):w.grownBy w r:=⟨rfl,rfl,rfl,Nat.le_refl _,fun _ _ _=>rfl⟩
theorem pt{lb:Option Nat}{m a:Nat}{u:Value}(hb:BkI w gb base S n n2 v xl ms yl ns)(hf:∀B,lb=some B->¬S B/\base<=B/\B<w.heap.size)(h:y.ownsRow 0 5 1 u m (pat (Pb a) m))(hu:∀B,u.ownBlock=some B->lb=some B∨w.heap.size<=B)(hm:m<=140737488355328)(ht:ae (fun B=>bP gb v B∨y.heap.size<=B) y w4)(hsp:∀B,bP gb v' B->bP gb v B∨y.heap.size<=B):Dt w4 (a+1) u a/\∀B,u.ownBlock=some B->(lb=some B∨w.heap.size<=B)/\¬bP gb v' B/\B<w4.heap.size:=by
 have hno:∀B,u.ownBlock=some B->¬(bP gb v B∨y.heap.size<=B):=fun B hB hs=>by
  have h1:=(h.lt B hB).2;rcases hs with hs|hs
  ·rcases hu B hB with h2|h2
   ·exact(hf B h2).1 (hb.spn B hs)
   ·have:=hb.heads.lt hs;omega
  ·omega
 refine⟨⟨by omega,m,hm,?_⟩,fun B hB=>⟨hu B hB,fun hs=>hno B hB (hsp B hs),Nat.lt_of_lt_of_le (h.lt B hB).2 ht.size⟩⟩;rw[Nat.mul_one];exact ht.row h hno
theorem oI{d:Nat}{lb:Option Nat}{l g h:Value}{m:Nat}(hb:BkI w gb base S n n2 v xl ms yl ns)(hnN:n<=N)(hnN2:n2<=N)(hf:∀B,lb=some B->¬S B/\base<=B/\B<w.heap.size)(hbase:base<=w.heap.size)(hm:m+302<=140737488355328)(hty:ae (fun B=>B=gb∨lb=some B) w y)(rl:y.ownsRow 0 5 1 l m (pat (Pb n) m))(rg:y.ownsRow 0 5 1 g (m+1) (pat (Pb n) (m+1)))(rh:y.ownsRow 0 5 1 h (m+302) (pat (Pb n) (m+302)))(ul:∀B,l.ownBlock=some B->lb=some B∨w.heap.size<=B)(ug:∀B,g.ownBlock=some B->lb=some B∨w.heap.size<=B)(uh:∀B,h.ownBlock=some B->lb=some B∨w.heap.size<=B)(hn:dv w4 gb base (n+1) n2 v' (kB ((xl++[l,g,h]).drop d) ((ms++[n,n,n]).drop d) yl ns) (xB ((xl++[l,g,h]).drop d) ((ms++[n,n,n]).drop d) yl ns))(hd:xl.length+3-d<=600)(hsp:∀B,bP gb v' B->bP gb v B∨y.heap.size<=B)(ht:ae (fun B=>bP gb v B∨y.heap.size<=B) y w4):pZ gb base N S lb w (.returned (.tuple #[])) w4:=by
 have hy:=hty.size;refine⟨rfl,yZ hb hnN hnN2 hf hbase hn hd (fun B hB=>(hsp B hB).imp id fun h=>Nat.le_trans hy h) (fun u hu=>?_) ?_⟩
 ·rcases List.mem_cons.1 hu with rfl|hu
  ·exact pt hb hf rl ul (by omega) ht hsp
  ·rcases List.mem_cons.1 hu with rfl|hu
   ·exact pt hb hf rg ug (by omega) ht hsp
   ·rw[List.mem_singleton.1 hu];exact pt hb hf rh uh (by omega) ht hsp
 ·refine bO (hty.mono fun B _ hB=>?_) ht fun B _ hB=>?_
  ·rcases hB with rfl|hB
   ·exact .inl (.inl rfl)
   ·exact .inr hB
  ·rcases hB with hB|hB
   ·exact .inl (.inl hB)
   ·exact .inr (by omega)
end
theorem tD:Tryz.prog.underlying 26=some (.slice 27):=by kernel_rfl
theorem y8:(Tryz.prog.info? 27).map (fun i=>(i.zero,i.size,i.bytes))=some (some (.slice none 0 0),1,24):=by kernel_rfl
theorem mV:(Tryz.prog.info? 34).map (fun i=>(i.zero,i.size,i.bytes))=some (some (.agg (bvs (zs 32)).toArray),32,32):=by kernel_rfl
theorem zv:Tryz.prog.elem 26=27:=by kernel_rfl
theorem Ci:Tryz.prog.elem 27=34:=by kernel_rfl
theorem DE:(Tryz.prog.info? 27).map (·.size)=some 1:=by kernel_rfl
theorem C7:(Tryz.prog.info? 34).map (·.size)=some 32:=by kernel_rfl
theorem zN(a b c:Nat):Tryz.prog.built 34 [(0, .int .u8 211),(1, .int .u8 (a:Nat)),(2, .int .u8 (b:Nat)),(3, .int .u8 (c:Nat))]=some (bvs ([211,a,b,c]++zs 28)).toArray:=by kernel_rfl
theorem rU(a j:Nat):nA (Pd a) (j*32) 32=bvs (eX a):=by
 apply List.ext_getElem?;intro i;rw[ml];by_cases h:i<32
 ·rw[if_pos h];unfold bvs;rw[List.getElem?_map,bK (by rw[dM];exact h),Option.map_some];unfold Pd bv;rw[show(j*32+i)%32=i by omega]
 ·rw[if_neg h,List.getElem?_eq_none (by simp[bvs,dM];omega)]
def mkK(cs:List Value)(a j:Nat):List Value:=pat (Pd a) (j*32)++cs.drop (j*32)
theorem BJ(cs:List Value)(a:Nat):mkK cs a 0=cs:=by simp[mkK,pat]
theorem DX{cs:List Value}{a m:Nat}(h:cs.length=m*32):mkK cs a m=pat (Pd a) (m*32):=by
 unfold mkK;rw[List.drop_eq_nil_of_le (by omega),List.append_nil]
theorem BK(cs:List Value)(a j:Nat):(mkK cs a j).take (j*32)++(bvs (eX a)++(mkK cs a j).drop (j*32+32))=mkK cs a (j+1):=by
 unfold mkK;rw[List.take_left' (ey _ _),<-List.drop_drop,List.drop_left' (ey _ _),List.drop_drop,<-List.append_assoc,<-rU a j,xC,show(j+1)*32=j*32+32by omega]
theorem tF{X Y Z:List Value}{a s n:Nat}(hX:X.length=a)(hY:Y.length=s)(hn:a+s<=n):(X++(Y++Z)).take n=X++(Y++Z.take (n-(a+s))):=by
 subst hX hY;rw[List.take_append,List.take_of_length_le (show X.length<=n by omega),List.take_append,List.take_of_length_le (show Y.length<=n-X.length by omega),Nat.sub_sub]
theorem yk{P:Program}{ops:Array Oper}{rest:List Oper}{o:Oper}{a:Act}{w:World}{Q:Exit->Act->World->Prop}(hgd:o.guard=none)(ty:TypeId)(x y:Operand)(ho:o.op= .store ty x y)(sz base:Nat)(e:TypeId)(g n c j f:Nat)(xs ys:List Value)(hown:w.ownsRow base e sz (.slice (some ⟨g,0,none⟩) n c) n xs)(hj:j<n)(hf:f=j*sz)(hx:a.eval x= .pointer (some ⟨g,f,none⟩))(hy:a.eval y= .agg ys.toArray)(hl:ys.length=sz)(hi:(P.info? ty).map (·.size)=some sz)(h1:∀u∈ys,u.oneCell'=true)(h:∀w',w'.ownsRow base e sz (.slice (some ⟨g,0,none⟩) n c) n (xs.take (j*sz)++(ys++xs.drop (j*sz+sz)))->w.grownBy w' (some g)->wpList P ops Q rest (a.put o.dst undef) w'):wpList P ops Q (o::rest) a w:=by
 subst hf;have hjs:j*sz+sz<=n*sz:=by rw[<-Nat.succ_mul];exact Nat.mul_le_mul_right _ hj
 rcases hown.2with⟨h0,_⟩|⟨g',cap,cur,h0,hb,hg,hnc,hcm,hs,htk⟩
 ·cases h0
 ·injection h0 with h0 _ h0c;injection h0 with h0;injection h0 with h0;subst h0 h0c;have hcs:n*sz<=c*sz:=Nat.mul_le_mul_right _ hnc;have hsz:cur.toList.length=c*sz:=by rw[Array.length_toList,hs]
  have hcur:(cur.toList.take (j*sz)++((cur.toList.drop (j*sz)).take sz++cur.toList.drop (j*sz+sz))).toArray=cur:=by
   rw[<-List.drop_drop,List.take_append_drop,List.take_append_drop]
  refine aq (g:=g) (t:=e) hgd ty x y ho (j*sz) (cur.toList.take (j*sz)) ((cur.toList.drop (j*sz)).take sz) ys (cur.toList.drop (j*sz+sz)) hx hy ?_ ?_ ?_ (by rw[hi,hl]) h1 ?_
  ·show w.heap[g]?=_;rw[hcur];exact hg
  ·rw[List.length_take];omega
  ·rw[List.length_take,List.length_drop];omega
  ·intro w' hb' hg';refine h w' ⟨?_, .inr ⟨g,c,_,rfl,hb,hb',hnc,hcm,?_,?_⟩⟩ hg'
   ·simp only[List.length_append,List.length_take,List.length_drop,hown.1,hl];omega
   ·simp only[List.size_toArray,List.length_append,List.length_take,List.length_drop,hsz,hl];omega
   ·rw[<-htk,List.take_take,Nat.min_eq_left (by omega),List.drop_take,tF (a:=j*sz) (s:=sz) (by rw[List.length_take];omega) hl (by omega)]
section
variable{w w1 y w4:World}{gb base N n n2:Nat}{S:Nat->Prop}{v v':Nat->Value}{xl yl:List Value}{ms ns:List Nat}
theorem Fv{l:List Value}:upd (kB xl ms yl ns) 2 l.length=kB xl ms l ns/\upd (xB xl ms yl ns) 2 l=xB xl ms l ns:=by
 refine⟨?_,?_⟩<;>(funext j;by_cases e:j=2<;>simp[upd,kB,xB,e])
theorem Fu{l:List Nat}:upd (kB xl ms yl ns) 3 l.length=kB xl ms yl l/\upd (xB xl ms yl ns) 3 (l.map fun a=>bvs (eX a)).flatten=xB xl ms yl l:=by
 refine⟨?_,?_⟩<;>(funext j;by_cases e:j=3<;>simp[upd,kB,xB,e])
theorem dv.putK(h:dv w gb base n n2 v (kB xl ms yl ns) (xB xl ms yl ns)){v':Value}{l:List Value}{k:Nat}(hk:k=l.length)(hg:w.grownBy w1 (v 2).ownBlock)(hr:aO w1 27 1 v' k l)(hl:iT w (v 2) v'):dv (w1.setCell ⟨gb,4,none⟩ v') gb base n n2 (upd v 2 v') (kB xl ms l ns) (xB xl ms l ns)/\ae (bP gb v) w (w1.setCell ⟨gb,4,none⟩ v')/\(∀B,bP gb (upd v 2 v') B->bP gb v B∨w.heap.size<=B):=by
 subst hk;have h1:=h.step (j:=2) (by omega) hg hr hl;rw[Fv.1,Fv.2]at h1;exact h1
theorem dv.putW(h:dv w gb base n n2 v (kB xl ms yl ns) (xB xl ms yl ns)){v':Value}{l:List Nat}{k:Nat}(hk:k=l.length)(hg:w.grownBy w1 (v 3).ownBlock)(hr:aO w1 34 32 v' k (l.map fun a=>bvs (eX a)).flatten)(hl:iT w (v 3) v'):dv (w1.setCell ⟨gb,5,none⟩ v') gb base n n2 (upd v 3 v') (kB xl ms yl l) (xB xl ms yl l)/\ae (bP gb v) w (w1.setCell ⟨gb,5,none⟩ v')/\(∀B,bP gb (upd v 3 v') B->bP gb v B∨w.heap.size<=B):=by
 subst hk;have h1:=h.step (j:=3) (by omega) hg hr hl;rw[Fu.1,Fu.2]at h1;exact h1
theorem qG{lb:Option Nat}{m a:Nat}{u:Value}(hb:BkI w gb base S n n2 v xl ms yl ns)(hf:∀B,lb=some B->¬S B/\base<=B/\B<w.heap.size)(h:y.ownsRow 0 34 32 u m (pat (Pd a) (m*32)))(hu:∀B,u.ownBlock=some B->lb=some B∨w.heap.size<=B)(hm:m<=1073741824)(ht:ae (fun B=>bP gb v B∨y.heap.size<=B) y w4)(hsp:∀B,bP gb v' B->bP gb v B∨y.heap.size<=B):Du w4 u a/\∀B,u.ownBlock=some B->(lb=some B∨w.heap.size<=B)/\¬bP gb v' B/\B<w4.heap.size:=by
 have hno:∀B,u.ownBlock=some B->¬(bP gb v B∨y.heap.size<=B):=fun B hB hs=>by
  have h1:=(h.lt B hB).2;rcases hs with hs|hs
  ·rcases hu B hB with h2|h2
   ·exact(hf B h2).1 (hb.spn B hs)
   ·have:=hb.heads.lt hs;omega
  ·omega
 exact⟨⟨m,hm,ht.row h hno⟩,fun B hB=>⟨hu B hB,fun hs=>hno B hB (hsp B hs),Nat.lt_of_lt_of_le (h.lt B hB).2 ht.size⟩⟩
theorem oJ{d:Nat}{lb:Option Nat}{l g:Value}{m:Nat}(hb:BkI w gb base S n n2 v xl ms yl ns)(hnN:n<=N)(hnN2:n2<=N)(hf:∀B,lb=some B->¬S B/\base<=B/\B<w.heap.size)(hbase:base<=w.heap.size)(hm:m+301<=1073741824)(hty:ae (fun B=>B=gb∨lb=some B) w y)(rl:y.ownsRow 0 34 32 l m (pat (Pd n2) (m*32)))(rg:y.ownsRow 0 34 32 g (m+301) (pat (Pd n2) ((m+301)*32)))(ul:∀B,l.ownBlock=some B->lb=some B∨w.heap.size<=B)(ug:∀B,g.ownBlock=some B->lb=some B∨w.heap.size<=B)(hn:dv w4 gb base n (n2+1) v' (kB xl ms ((yl++[l,g]).drop d) ((ns++[n2,n2]).drop d)) (xB xl ms ((yl++[l,g]).drop d) ((ns++[n2,n2]).drop d)))(hd:yl.length+2-d<=200)(hsp:∀B,bP gb v' B->bP gb v B∨y.heap.size<=B)(ht:ae (fun B=>bP gb v B∨y.heap.size<=B) y w4):pZ gb base N S lb w (.returned (.tuple #[])) w4:=by
 have hy:=hty.size;refine⟨rfl,y5 hb hnN hnN2 hf hbase hn hd (fun B hB=>(hsp B hB).imp id fun h=>Nat.le_trans hy h) (fun u hu=>?_) ?_⟩
 ·rcases List.mem_cons.1 hu with rfl|hu
  ·exact qG hb hf rl ul (by omega) ht hsp
  ·rw[List.mem_singleton.1 hu];exact qG hb hf rg ug (by omega) ht hsp
 ·refine bO (hty.mono fun B _ hB=>?_) ht fun B _ hB=>?_
  ·rcases hB with rfl|hB
   ·exact .inl (.inl rfl)
   ·exact .inr hB
  ·rcases hB with hB|hB
   ·exact .inl (.inl hB)
   ·exact .inr (by omega)
end
end Go.Proofs.YtfnlhfaihoojfaaGreatDoor
