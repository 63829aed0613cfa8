/- Texts of the proof of ledgerlaw13.ClientPlays, part 0; no condition of its own. -/
import Derived.Lib.Hide
import Derived.Deep.RegionHeld3
import Derived.Deep.MidRow
import Derived.Test.YtfnlhfaihoojfaaGreatDoorChecked
import Init
import Derived.WalkKit
import Derived.Laws.AppendOwnNone
import Derived.Deep.Draws
set_option maxRecDepth 100000
set_option maxHeartbeats 4000000
namespace Go.Proofs.YtfnlhfaihoojfaaGreatDoor
open Go.RowKit
def Hd(p:Prop):Prop:=p
theorem Hd.o{p:Prop}(h:Hd p):p:=h
section
variable{P:Program}{ops:Array Oper}{Q:Exit->Act->World->Prop}{md:Region.Mode}{S:World->Prop}{v:Value}{fuel:Nat}{listed:Array Bool}{a a':Act}{w:World}{D:Option Nat}{o:Op}{t:TypeId}{p:String}{e:Array Edge}{g:Option (Nat×Bool)}{rest:List Oper}
theorem atS(d:Nat)(h:Hd (wpList P ops Q (⟨some d,o,t,p,e,g⟩::rest) a w)):wpList P ops Q (⟨some d,o,t,p,e,g⟩::rest) a w:=h
theorem atT(d:Nat){T:TypeId}{x:Operand}(h:Hd (wpList P ops Q (⟨none, .store T (.tmp d) x,t,p,e,g⟩::rest) a w)):wpList P ops Q (⟨none, .store T (.tmp d) x,t,p,e,g⟩::rest) a w:=h
theorem atU{T:TypeId}{x y:Operand}(h:Hd (wpList P ops Q (⟨none, .store T y x,t,p,e,g⟩::rest) a w)):wpList P ops Q (⟨none, .store T y x,t,p,e,g⟩::rest) a w:=h
theorem aa{p:Prop}(h:p):Hd p:=h
theorem aQ{w w1 w2:World}(h:Hd (Below w.heap.size w w1))(h2:Below w1.heap.size w1 w2):Hd (Below w.heap.size w w2):=h.o.trans (h2.mono h.o.size)
theorem LS:(∀(l:List Value)(i:Nat)(v:Value),l.toArray.setIfInBounds i v=(l.set i v).toArray)/\(∀(x y:Value)(l:List Value),(x::l).set 0 y=y::l)/\∀(x y:Value)(l:List Value)(n:Nat),(x::l).set (n+1) y=x::l.set n y:=⟨fun l i v=>List.setIfInBounds_toArray l i v,fun _ _ _=>rfl,fun _ _ _ _=>rfl⟩
theorem bN{fuel:Nat}(h:Q .normal a w)(hr:Region.ready md ops listed=[]:=by kernel_rfl):wpAnyH P md ops Q S fuel listed a w:=wpAnyH_done hr h fuel
theorem tk0(i:Nat)(hi:ops[i]?=some ⟨D,o,t,p,e,g⟩)(hy:YieldsIf P ops S ⟨D,o,t,p,e,g⟩ v a)(h:wpAnyH P md ops Q S fuel (listed.setIfInBounds i true) a' w)(hs:Region.noSelect ops=true:=by kernel_rfl)(hf:Region.free md ops listed i=true:=by kernel_rfl)(hr:(Region.ready md ops listed).contains i=true:=by kernel_rfl)(hQ:∀c a w,Q (.panic c) (a.put D v) w->Q (.panic c) a w:=by exact fun _ _ _ h=>h)(hS:S w:=by assumption)(hp:a.put D v=a':=by(try simp only[Act.put,LS]);(try with_reducible rfl)):wpAnyH P md ops Q S (fuel+1) listed a w:=wpAnyH_take hi hs hf hr hQ hy hS (hp▸h)
theorem tk(i:Nat)(h:wpAnyH P md ops Q S fuel (listed.setIfInBounds i true) a' w)(hi:ops[i]?=some ⟨D,o,t,p,e,g⟩:=by exact rfl)(hs:Region.noSelect ops=true:=by kernel_rfl)(hf:Region.free md ops listed i=true:=by kernel_rfl)(hr:(Region.ready md ops listed).contains i=true:=by kernel_rfl)(hy:YieldsIf P ops S ⟨D,o,t,p,e,g⟩ v a:=by exact(Or.inl ⟨by rfl,fun w hw=>by(try dsimp only at hw);go_simp;with_reducible rfl⟩))(hQ:∀c a w,Q (.panic c) (a.put D v) w->Q (.panic c) a w:=by exact fun _ _ _ h=>h)(hS:S w:=by assumption)(hp:a.put D v=a':=by(try simp only[Act.put,LS]);(try with_reducible rfl)):wpAnyH P md ops Q S (fuel+1) listed a w:=wpAnyH_take hi hs hf hr hQ hy hS (hp▸h)
theorem tka(i:Nat)(h:wpAnyH P md ops Q S fuel (listed.setIfInBounds i true) a' w)(hi:ops[i]?=some ⟨D,o,t,p,e,g⟩:=by exact rfl)(hs:Region.noSelect ops=true:=by kernel_rfl)(hf:Region.free md ops listed i=true:=by kernel_rfl)(hr:(Region.ready md ops listed).contains i=true:=by kernel_rfl)(hy:YieldsIf P ops S ⟨D,o,t,p,e,g⟩ v a:=by exact(Or.inl ⟨by rfl,fun w hw=>by((try dsimp only at hw);go_split_ands;go_simp;with_reducible rfl)⟩))(hQ:∀c a w,Q (.panic c) (a.put D v) w->Q (.panic c) a w:=by exact fun _ _ _ h=>h)(hS:S w:=by assumption)(hp:a.put D v=a':=by(try simp only[Act.put,LS]);(try with_reducible rfl)):wpAnyH P md ops Q S (fuel+1) listed a w:=wpAnyH_take hi hs hf hr hQ hy hS (hp▸h)
theorem tkb(i:Nat)(h:wpAnyH P md ops Q S fuel (listed.setIfInBounds i true) a' w)(hi:ops[i]?=some ⟨D,o,t,p,e,g⟩:=by exact rfl)(hs:Region.noSelect ops=true:=by kernel_rfl)(hf:Region.free md ops listed i=true:=by kernel_rfl)(hr:(Region.ready md ops listed).contains i=true:=by kernel_rfl)(hy:YieldsIf P ops S ⟨D,o,t,p,e,g⟩ v a:=by exact(Or.inl ⟨by rfl,fun w hw=>by((try dsimp only at hw);go_split_ands;go_simp;(try go_bits);with_reducible rfl)⟩))(hQ:∀c a w,Q (.panic c) (a.put D v) w->Q (.panic c) a w:=by exact fun _ _ _ h=>h)(hS:S w:=by assumption)(hp:a.put D v=a':=by(try simp only[Act.put,LS]);(try with_reducible rfl)):wpAnyH P md ops Q S (fuel+1) listed a w:=wpAnyH_take hi hs hf hr hQ hy hS (hp▸h)
theorem tkl(i:Nat)(h:wpAnyH P md ops Q S fuel (listed.setIfInBounds i true) a' w)(hi:ops[i]?=some ⟨D,o,t,p,e,g⟩:=by exact rfl)(hs:Region.noSelect ops=true:=by kernel_rfl)(hf:Region.free md ops listed i=true:=by kernel_rfl)(hr:(Region.ready md ops listed).contains i=true:=by kernel_rfl)(hy:YieldsIf P ops S ⟨D,o,t,p,e,g⟩ v a:=by exact(yieldsIf_load_mid (by rfl) _ _ rfl _ _ rfl _ _ (fun w hw=>by(try dsimp only at hw);go_split_ands;assumption) (by assumption) rfl (by assumption)))(hQ:∀c a w,Q (.panic c) (a.put D v) w->Q (.panic c) a w:=by exact fun _ _ _ h=>h)(hS:S w:=by assumption)(hp:a.put D v=a':=by(try simp only[Act.put,LS]);(try with_reducible rfl)):wpAnyH P md ops Q S (fuel+1) listed a w:=wpAnyH_take hi hs hf hr hQ hy hS (hp▸h)
theorem tks(i:Nat)(h:wpAnyH P md ops Q S fuel (listed.setIfInBounds i true) a' w)(hi:ops[i]?=some ⟨D,o,t,p,e,g⟩:=by exact rfl)(hs:Region.noSelect ops=true:=by kernel_rfl)(hf:Region.free md ops listed i=true:=by kernel_rfl)(hr:(Region.ready md ops listed).contains i=true:=by kernel_rfl)(hy:YieldsIf P ops S ⟨D,o,t,p,e,g⟩ v a:=by exact(Or.inr ⟨by rfl,rfl⟩))(hQ:∀c a w,Q (.panic c) (a.put D v) w->Q (.panic c) a w:=by exact fun _ _ _ h=>h)(hS:S w:=by assumption)(hp:a.put D v=a':=by(try simp only[Act.put,LS]);(try with_reducible rfl)):wpAnyH P md ops Q S (fuel+1) listed a w:=wpAnyH_take hi hs hf hr hQ hy hS (hp▸h)
theorem rdy(i:Nat){o:Oper}(h:∀K':Act->World->Prop,Shut (∀a w,S w->(S w->wpAnyH P md ops Q S fuel (listed.setIfInBounds i true) a w)->K' a w)->if Region.wanted o (yielded ops a.tmps)=true then Oper.wp P o a w K' Q else K' (a.put o.dst undef) w)(ho:ops[i]?=some o:=by exact rfl)(hr:Region.ready md ops listed=[i]:=by kernel_rfl):wpAnyH P md ops Q S (fuel+1) listed a w:=wpAnyH_ready hr (by simp) (AllReadyH.cons ho h AllReadyH.nil)
end
def comp(a:Nat):Nat:=4294967295-a
def bv(x:Nat):Value:= .int .u8 (x:Int)
def bvs(xs:List Nat):List Value:=xs.map bv
def IsB(xs:List Nat):Prop:=∀x∈xs,x<256
theorem IsB.nil:IsB []:=fun _ h=>by cases h
theorem IsB.app{xs ys:List Nat}(h:IsB xs)(k:IsB ys):IsB (xs++ys):=fun x hx=>by
 rcases List.mem_append.1 hx with h1|h1
 ·exact h x h1
 ·exact k x h1
theorem IsB.one{x:Nat}(h:x<256):IsB [x]:=fun y hy=>by simp at hy;omega
theorem IsB.take{xs:List Nat}(h:IsB xs)(k:Nat):IsB (xs.take k):=fun x hx=>h x (List.mem_of_mem_take hx)
theorem IsB.drop{xs:List Nat}(h:IsB xs)(k:Nat):IsB (xs.drop k):=fun x hx=>h x (List.mem_of_mem_drop hx)
def RB(w:World)(A:Option Addr)(n:Nat)(xs:List Nat):Prop:=xs.length=n/\IsB xs/\(0<n->∃ad,A=some ad/\ad.block<w.heap.size/\∀(j x:Nat),xs[j]?=some x->w.cell? (ad.add j)=some (.int .u8 (x:Int)))
theorem bX(a:Addr)(k:Nat):(a.add k).block=a.block:=by
 unfold Addr.add;split<;>rfl
theorem x4(a:Addr)(k j:Nat):(a.add k).add j=a.add (k+j):=by
 unfold Addr.add;rcases Nat.eq_zero_or_pos k with hk|hk<;>rcases Nat.eq_zero_or_pos j with hj|hj
 ·simp[hk,hj]
 ·simp[hk,show¬j=0 by omega]
 ·simp[hj,show¬k=0 by omega]
 ·simp[show¬j=0 by omega,show¬k=0 by omega,Nat.add_assoc]
theorem add_lit(b o k:Nat):(⟨b,o,none⟩:Addr).add k=⟨b,o+k,none⟩:=by
 unfold Addr.add;split
 ·simp[*]
 ·rfl
theorem bK{xs:List Nat}{k:Nat}(h:k<xs.length):xs[k]?=some (xs.getD k 0):=by
 simp[List.getD,h]
theorem bL{xs:List Nat}{k:Nat}(h:k<xs.length):xs.getD k 0∈xs:=List.mem_of_getElem? (bK h)
theorem aJ{xs:List Nat}{k:Nat}(h:k<xs.length):xs.take (k+1)=xs.take k++[xs.getD k 0]:=by
 rw[List.take_succ_eq_append_getElem h];simp[List.getD,h]
theorem RB.isB{w:World}{A:Option Addr}{n:Nat}{xs:List Nat}(h:RB w A n xs):IsB xs:=h.2.1
theorem RB.lt{w:World}{A:Option Addr}{n:Nat}{xs:List Nat}(h:RB w A n xs){k:Nat}(hk:k<n):xs.getD k 0<256:=h.2.1 _ (bL (by rw[h.1];exact hk))
theorem RB.nil(w:World)(A:Option Addr):RB w A 0 []:=⟨rfl,IsB.nil,fun h=>by omega⟩
theorem RB.keep{w w':World}{A:Option Addr}{n:Nat}{xs:List Nat}(h:RB w A n xs)(hs:w.heap.size<=w'.heap.size)(hk:∀p:Addr,(∀ad,A=some ad->p.block=ad.block)->p.block<w.heap.size->w'.cell? p=w.cell? p):RB w' A n xs:=by
 refine⟨h.1,h.2.1,fun hn=>?_⟩;obtain⟨ad,e,hb,hc⟩:=h.2.2 hn;exact⟨ad,e,by omega,fun j x hj=>(hk _ (fun ad' e'=>by rw[bX];rw[e]at e';injection e' with e';rw[e']) (by rw[bX];exact hb)).trans (hc j x hj)⟩
theorem RB.below{w w':World}{A:Option Addr}{n:Nat}{xs:List Nat}(h:RB w A n xs)(hb:Below w.heap.size w w'):RB w' A n xs:=h.keep hb.size fun _ _ hp=>hb.cell hp
theorem RB.at_{w:World}{A:Option Addr}{n:Nat}{xs:List Nat}(h:RB w A n xs){k:Nat}(hk:k<n):∃ad,A=some ad/\ad.block<w.heap.size/\w.cell? (ad.add k)=some (.int .u8 (xs.getD k 0:Nat)):=by
 obtain⟨ad,e,hb,hc⟩:=h.2.2 (by omega);exact⟨ad,e,hb,hc k _ (bK (by rw[h.1];exact hk))⟩
theorem fL{w w':World}{ad:Addr}{k:Nat}{v:Option Value}(hb:ad.block<w.heap.size)(h:Below w.heap.size w w')(hc:w.cell? (ad.add k)=v):w'.cell? (ad.add k)=v:=(h.cell (p:=ad.add k) (by rw[bX];exact hb)).trans hc
theorem iA{w:World}{ad:Addr}{k:Nat}{v:Option Value}(h:k≠0)(hc:w.cell? (ad.add k)=v):w.cell? ⟨ad.block,ad.off+k,none⟩=v:=by
 unfold Addr.add at hc;rwa[if_neg h]at hc
theorem RB.take{w:World}{A:Option Addr}{n:Nat}{xs:List Nat}(h:RB w A n xs){k:Nat}(hk:k<=n):RB w A k (xs.take k):=by
 refine⟨by rw[List.length_take,h.1];omega,h.2.1.take k,fun hn=>?_⟩;obtain⟨ad,e,hb,hc⟩:=h.2.2 (by omega);exact⟨ad,e,hb,fun j x hj=>hc j x (by rw[List.getElem?_take]at hj;split at hj<;>simp_all)⟩
theorem RB.drop{w:World}{A:Option Addr}{n:Nat}{xs:List Nat}(h:RB w A n xs){k:Nat}{B:Option Addr}(hk:k<=n)(hB:k<n->B=A.map (·.add k)):RB w B (n-k) (xs.drop k):=by
 refine⟨by rw[List.length_drop,h.1],h.2.1.drop k,fun hn=>?_⟩;obtain⟨ad,e,hb,hc⟩:=h.2.2 (by omega);refine⟨ad.add k,by rw[hB (by omega),e];rfl,by rw[bX];exact hb,fun j x hj=>?_⟩;rw[x4];exact hc _ x (by rw[<-hj,List.getElem?_drop])
theorem DQ{k:IntKind}{a b:Int}(h:a=b):Ending.returned (.int k a)= .returned (.int k b):=by rw[h]
def Own(e:TypeId)(w:World)(base:Nat)(v:Value)(xs:List Nat):Prop:=w.ownsRow base e 1 v xs.length (bvs xs)/\IsB xs
theorem Own.nil(e:TypeId)(w:World)(base:Nat):Own e w base (.slice none 0 0) []:=⟨World.ownsRow_nil _ _ _ _,IsB.nil⟩
theorem Own.isB{e:TypeId}{w:World}{base:Nat}{v:Value}{xs:List Nat}(h:Own e w base v xs):IsB xs:=h.2
theorem Own.form{e:TypeId}{w:World}{base:Nat}{v:Value}{xs:List Nat}(h:Own e w base v xs):∃A c,v= .slice A xs.length c/\RB w A xs.length xs/\(∀ad,A=some ad->base<=ad.block/\ad.block<w.heap.size)/\(A=none->c=0)/\xs.length<=c:=by
 obtain⟨⟨hl,hv⟩,hB⟩:=h;rcases hv with⟨rfl,h0⟩|⟨g,cap,cur,rfl,hg,hh,hnc,hcm,hs,ht⟩
 ·have:xs=[]:=List.eq_nil_of_length_eq_zero h0;subst this;exact⟨none,0,rfl,RB.nil _ _,fun _ h=>(by cases h),fun _=>rfl,Nat.le_refl _⟩
 ·have hlt:g<w.heap.size:=by
   rcases Nat.lt_or_ge g w.heap.size with h|h
   ·exact h
   ·rw[Array.getElem?_eq_none h]at hh;cases hh
  refine⟨_,cap,rfl,⟨rfl,hB,fun _=>⟨_,rfl,hlt,fun j x hj=>?_⟩⟩,fun ad h=>(by injection h with h;subst h;exact⟨hg,hlt⟩),fun h=>(by cases h),hnc⟩;rw[add_lit,cell_of_row w g _ cur e (0,0) hh,Nat.zero_add];have h1:(bvs xs)[j]?=some (.int .u8 (x:Int)):=by simp[bvs,hj,bv]
  rw[<-ht,List.getElem?_take]at h1;split at h1
  ·simpa using h1
  ·cases h1
theorem Own.shape{e:TypeId}{w:World}{base:Nat}{v:Value}{xs:List Nat}(h:Own e w base v xs)(hn:0<xs.length):∃g c,v= .slice (some ⟨g,0,none⟩) xs.length c/\base<=g/\g<w.heap.size/\(∀j,w.frozen? ⟨g,j,none⟩=false)/\∀j,j<xs.length->w.cell? ⟨g,j,none⟩=some (.int .u8 (xs.getD j 0:Nat)):=by
 obtain⟨A,c,rfl,hr,hg,_⟩:=h.form;obtain⟨ad,rfl,hb,hc⟩:=hr.2.2 hn;rcases h.1.2with⟨e1,_⟩|⟨g,cap,cur,e1,r⟩
 ·cases e1
 ·injection e1 with e1 _ _;injection e1 with e1;subst e1;refine⟨g,c,rfl,(hg _ rfl).1,(hg _ rfl).2,fun j=>World.ownsRow.frozenAt h.1 j,fun j hj=>?_⟩;have:=hc j _ (bK hj);rwa[add_lit,Nat.zero_add]at this
theorem Own.set{e:TypeId}{w:World}{base g c:Nat}{xs:List Nat}(h:Own e w base (.slice (some ⟨g,0,none⟩) xs.length c) xs)(j x:Nat)(hx:x<256):Own e (w.setCell ⟨g,j,none⟩ (.int .u8 (x:Int))) base (.slice (some ⟨g,0,none⟩) xs.length c) (xs.set j x):=by
 refine⟨?_,fun y hy=>?_⟩
 ·have:=(World.ownsRow.stored h.1 j (.int .u8 (x:Int))).1;simpa[bvs,List.map_set,bv]using this
 ·rcases List.mem_or_eq_of_mem_set hy with h1|h1
  ·exact h.2 y h1
  ·omega
theorem ai(w:World){g:Nat}(j:Nat)(u:Value):w.grownBy (w.setCell ⟨g,j,none⟩ u) (some g):=⟨rfl,rfl,rfl,by simp[World.setCell],fun k _ hne=>Below.heap_setCell w _ u k (fun e=>hne (by rw[e]))⟩
theorem Own.below{e:TypeId}{w w':World}{base:Nat}{v:Value}{xs:List Nat}(h:Own e w base v xs)(hb:Below w.heap.size w w'):Own e w' base v xs:=by
 obtain⟨⟨hl,hv⟩,hB⟩:=h;refine⟨⟨hl,?_⟩,hB⟩;rcases hv with h0|⟨g,cap,cur,rfl,hg,hh,r⟩
 ·exact .inl h0
 ·have hlt:g<w.heap.size:=by
   rcases Nat.lt_or_ge g w.heap.size with h|h
   ·exact h
   ·rw[Array.getElem?_eq_none h]at hh;cases hh
  exact .inr ⟨g,cap,cur,rfl,hg,(hb.block g hlt).trans hh,r⟩
theorem Own.mono{e:TypeId}{w:World}{base base':Nat}{v:Value}{xs:List Nat}(h:Own e w base v xs)(hb:base'<=base):Own e w base' v xs:=by
 obtain⟨⟨hl,hv⟩,hB⟩:=h;refine⟨⟨hl,?_⟩,hB⟩;rcases hv with h0|⟨g,cap,cur,rfl,hg,r⟩
 ·exact .inl h0
 ·exact .inr ⟨g,cap,cur,rfl,by omega,r⟩
theorem Own.lt{e:TypeId}{w:World}{base:Nat}{v:Value}{xs:List Nat}(h:Own e w base v xs):∀k,v.ownBlock=some k->base<=k/\k<w.heap.size:=h.1.lt
theorem Own.ge{e:TypeId}{w:World}{base:Nat}{v:Value}{xs:List Nat}(h:Own e w base v xs):∀k,v.ownBlock=some k->base<=k:=fun k hk=>(h.1.lt k hk).1
theorem jO{w w':World}(h:Below w.heap.size w w')(row:Option Nat):w.grownBy w' row:=⟨h.os,h.tape,h.output,h.size,fun k hk _=>h.block k hk⟩
theorem aE{a b c:World}{row:Option Nat}(h:a.grownBy b row)(k:b.grownBy c row):a.grownBy c row:=⟨k.os.trans h.os,k.tape.trans h.tape,k.output.trans h.output,Nat.le_trans h.size k.size,fun i hi hn=>(k.block i (Nat.lt_of_lt_of_le hi h.size) hn).trans (h.block i hi hn)⟩
section
variable{P:Program}
theorem iu{t e:TypeId}(ht:P.underlying t=some (.slice e))(hinfo:(P.info? e).map (fun i=>(i.zero,i.size,i.bytes))=some (some (.int .u8 0),1,1)){ops:Array Oper}{rest:List Oper}{o:Oper}{a:Act}{Q:Exit->Act->World->Prop}(w:World)(hgd:o.guard=none)(s x:Operand)(ho:o.op= .call {callee:= .builtin .append,args:=#[s,x],argTypes:=#[t,t]})(base:Nat)(v:Value)(xs:List Nat)(hown:Own e w base v xs)(b:Nat)(hb:b<256)(hs:a.eval s=v)(hx:a.eval x= .slice (some ⟨w.heap.size,0,none⟩) 1 1)(hlen:xs.length+1<=140737488355328)(hbase:base<=w.heap.size)(h:∀v' w',Own e w' base v' (xs++[b])->w.grownBy w' v.ownBlock->wpList P ops Q rest (a.put o.dst v') w'):wpList P ops Q (o::rest) a (w.alloc (.cells #[.int .u8 (b:Int)] e)):=by
 obtain⟨i,hi,hz0,hz1,hz2⟩:=info_parts hinfo;refine wpList_append_own (w.alloc (.cells #[.int .u8 (b:Int)] e)) hgd s x t ho base e i (.int .u8 0) 1 1 ht hi hz0 hz1 hz2 rfl (by decide) v xs.length (bvs xs) hs (hown.1.alloc _) ⟨w.heap.size,0,none⟩ 1 1 (bvs [b]) hx rfl ?_ ?_ (by unfold maxLen;omega) (by omega) (by simp;omega) ?_
 ·intro j u hj;rw[add_lit,cell_of_row _ _ _ _ _ _ (heap_alloc_new w _)];rcases j with _|j
  ·simpa[bvs,bv]using hj
  ·simp[bvs]at hj
 ·intro u hu;simp[bvs,bv]at hu;subst hu;rfl
 ·intro v' w' h1 h2 _;refine h v' w' ⟨by simpa[bvs]using h1,hown.2.app (IsB.one hb)⟩ (aE ?_ h2);exact World.grownBy_alloc _ _ _
theorem ah(xs:List Nat):∀u∈bvs xs,u.oneCell'=true:=by
 intro u hu;simp only[bvs,List.mem_map]at hu;obtain⟨x,_,rfl⟩:=hu;rfl
theorem dc{t e:TypeId}(ht:P.underlying t=some (.slice e))(hinfo:(P.info? e).map (fun i=>(i.zero,i.size,i.bytes))=some (some (.int .u8 0),1,1)){ops:Array Oper}{rest:List Oper}{o:Oper}{a:Act}{Q:Exit->Act->World->Prop}(w:World)(hgd:o.guard=none)(s x:Operand)(ho:o.op= .call {callee:= .builtin .append,args:=#[s,x],argTypes:=#[t,t]})(base:Nat)(v:Value)(xs:List Nat)(hown:Own e w base v xs)(A:Option Addr)(m c:Nat)(ys:List Nat)(hr:RB w A m ys)(hA:A=none->c=0)(hs:a.eval s=v)(hx:a.eval x= .slice A m c)(hlen:xs.length+m<=140737488355328)(hbase:base<=w.heap.size)(h:∀v' w',Own e w' base v' (xs++ys)->w.grownBy w' v.ownBlock->wpList P ops Q rest (a.put o.dst v') w'):wpList P ops Q (o::rest) a w:=by
 obtain⟨i,hi,hz0,hz1,hz2⟩:=info_parts hinfo;rcases A with _|ad
 ·obtain rfl:=hA rfl;have hm:m=0:=by
   rcases Nat.eq_zero_or_pos m with h0|h0
   ·exact h0
   ·obtain⟨ad,e',_⟩:=hr.2.2 h0;cases e'
  subst hm;have hys:ys=[]:=List.eq_nil_of_length_eq_zero hr.1;subst hys;refine wpList_append_own_none hgd s x t ho base e i 1 ht hi v xs.length (bvs xs) hs hown.1 hx ?_;exact h v w (by simpa using hown) (World.grownBy.refl w _)
 ·refine wpList_append_own w hgd s x t ho base e i (.int .u8 0) 1 1 ht hi hz0 hz1 hz2 rfl (by decide) v xs.length (bvs xs) hs hown.1 ad m c (bvs ys) hx (by simp[bvs,hr.1]) ?_ (ah ys) (by unfold maxLen;omega) (by omega) hbase ?_
  ·intro j u hj;simp only[bvs,List.getElem?_map,Option.map_eq_some_iff]at hj;obtain⟨x,hx,rfl⟩:=hj;have hjm:j<ys.length:=by
    rcases Nat.lt_or_ge j ys.length with h|h
    ·exact h
    ·rw[List.getElem?_eq_none h]at hx;cases hx
   obtain⟨ad',e',_,hc⟩:=hr.2.2 (by have:=hr.1;omega);injection e' with e';subst e';exact hc j x hx
  ·intro v' w' h1 h2 _;exact h v' w' ⟨by rw[List.length_append,hr.1];simpa[bvs]using h1,hown.2.app hr.2.1⟩ h2
theorem Dk(w:World)(e:TypeId)(cs:Array Value)(fr:Nat×Nat)(ys:List Nat)(hB:IsB ys)(hcs:cs=(bvs ys).toArray):RB (w.alloc (.cells cs e fr)) (some ⟨w.heap.size,0,none⟩) ys.length ys:=by
 subst hcs;refine⟨rfl,hB,fun _=>⟨_,rfl,by simp,fun j x hj=>?_⟩⟩;rw[add_lit,cell_of_row _ _ _ _ _ _ (heap_alloc_new w _),Nat.zero_add];simp[bvs,hj,bv]
end
theorem wX(a b:Nat)(ha:a<4294967296)(hb:b<4294967296):bits .xor .u32 (a:Int) (b:Int)=((a^^^b:Nat):Int):=u32_xor_nat a b ha hb
theorem tw{a b:Nat}(ha:a<4294967296)(hb:b<4294967296):a^^^b<4294967296:=Nat.xor_lt_two_pow (n:=32) ha hb
theorem rO{a b:Nat}(ha:a<256)(hb:b<256):a^^^b<256:=Nat.xor_lt_two_pow (n:=8) ha hb
theorem Ff(a b:Nat)(ha:a<256)(hb:b<256):bits .xor .u8 (a:Int) (b:Int)=((a^^^b:Nat):Int):=u8_xor_nat a b ha hb
theorem Fj(a:Nat)(ha:a<4294967296):bits .xor .u32 4294967295 (a:Int)=((4294967295-a:Nat):Int):=by
 have h:=u32_xor_nat 4294967295 a (by omega) ha;rw[show((4294967295:Nat):Int)=4294967295from rfl]at h;rw[h];congr 1;apply Nat.eq_of_testBit_eq;intro i;rw[Nat.testBit_xor,show 4294967295=2^32-1from rfl,Nat.testBit_two_pow_sub_one,show 2^32-1-a=2^32-(a+1)by omega,Nat.testBit_two_pow_sub_succ (by omega:a<2^32)];by_cases h:i<32
 ·simp[h]
 ·have h2:2^32<=2^i:=Nat.pow_le_pow_right (by decide) (by omega);have:a.testBit i=false:=Nat.testBit_lt_two_pow (Nat.lt_of_lt_of_le ha h2);simp[h,this]
theorem lw(a:Nat)(ha:a<9223372036854775808):(BitVec.ofInt 64 (a:Int)).toNat=a:=by
 rw[BitVec.ofInt_natCast,BitVec.toNat_ofNat];exact Nat.mod_eq_of_lt (by omega)
theorem Er(a:Nat)(ha:a<9223372036854775808):bits .and .i64 (a:Int) 1=((a%2:Nat):Int):=by
 show IntKind.i64.wrap ((BitVec.ofInt 64 (a:Int)&&&BitVec.ofInt 64 ((1:Nat):Int)).toNat:Int)=_;rw[BitVec.toNat_and,lw a ha,lw 1 (by omega),IntKind.wrap_i64,Nat.and_two_pow_sub_one_eq_mod a 1];omega
theorem af{B:Nat}{a w:World}(h:Below B a w)(n:Nat):Below B a (w.drewN n):=⟨h.os,h.tape,h.output,h.size,h.block⟩
theorem Own.reads'{e:TypeId}{w:World}{base c:Nat}{A:Option Addr}{n:Nat}{xs:List Nat}(h:Own e w base (.slice A n c) xs):n=xs.length/\RB w A xs.length xs/\xs.length<=c/\(A=none->c=0):=by
 obtain⟨A',c',e',hr,_,hA,hc⟩:=h.form;injection e' with e1 e2 e3;subst e1 e3;exact⟨e2,hr,hc,hA⟩
theorem Own.reads{e:TypeId}{w:World}{base c:Nat}{A:Option Addr}{n:Nat}{xs:List Nat}(h:Own e w base (.slice A n c) xs):RB w A xs.length xs:=h.reads'.2.1
theorem Own.room{e:TypeId}{w:World}{base c:Nat}{A:Option Addr}{n:Nat}{xs:List Nat}(h:Own e w base (.slice A n c) xs):xs.length<=c:=h.reads'.2.2.1
def ab(w:World)(g:Nat)(t:TypeId)(cs:Array Value):Prop:=w.heap[g]?=some (.cells cs t (0,0))
section
variable{w w':World}{g:Nat}{t:TypeId}{cs:Array Value}
theorem ab.lt(h:ab w g t cs):g<w.heap.size:=by
 rcases Nat.lt_or_ge g w.heap.size with h'|h'
 ·exact h'
 ·unfold ab at h;rw[Array.getElem?_eq_none h']at h;cases h
theorem ab.cell(h:ab w g t cs)(i:Nat):w.cell? ⟨g,i,none⟩=cs[i]?:=cell_of_row w g i cs t (0,0) h
theorem ab.frozen(h:ab w g t cs)(i:Nat):w.frozen? ⟨g,i,none⟩=false:=frozen_of_row w g i cs t h
theorem ab.new(w:World)(t:TypeId)(cs:Array Value):ab (w.alloc (.cells cs t)) w.heap.size t cs:=heap_alloc_new w _
theorem ab.drew(h:ab w g t cs):ab w.drew g t cs:=h
theorem ab.alloc(h:ab w g t cs)(o:Obj):ab (w.alloc o) g t cs:=(Below.heap_alloc w o g h.lt).trans h
theorem ab.below(h:ab w g t cs)(hb:Below w.heap.size w w'):ab w' g t cs:=(hb.block g h.lt).trans h
theorem ab.belowB{B:Nat}(h:ab w g t cs)(hb:Below B w w')(hg:g<B):ab w' g t cs:=(hb.block g hg).trans h
theorem ab.grown{row:Option Nat}(h:ab w g t cs)(hb:w.grownBy w' row)(hg:some g≠row):ab w' g t cs:=(hb.block g h.lt hg).trans h
theorem ab.stored(h:ab w g t cs)(i:Nat)(u:Value):ab (w.setCell ⟨g,i,none⟩ u) g t (cs.setIfInBounds i u):=heap_setCell_same w g i cs t u h
theorem ab.far(h:ab w g t cs){p:Addr}(hp:g≠p.block)(u:Value):ab (w.setCell p u) g t cs:=(Below.heap_setCell w p u g hp).trans h
end
def kL:List Nat:=[0x428a2f98,0x71374491,0xb5c0fbcf,0xe9b5dba5,0x3956c25b,0x59f111f1,0x923f82a4,0xab1c5ed5,0xd807aa98,0x12835b01,0x243185be,0x550c7dc3,0x72be5d74,0x80deb1fe,0x9bdc06a7,0xc19bf174,0xe49b69c1,0xefbe4786,0x0fc19dc6,0x240ca1cc,0x2de92c6f,0x4a7484aa,0x5cb0a9dc,0x76f988da,0x983e5152,0xa831c66d,0xb00327c8,0xbf597fc7,0xc6e00bf3,0xd5a79147,0x06ca6351,0x14292967,0x27b70a85,0x2e1b2138,0x4d2c6dfc,0x53380d13,0x650a7354,0x766a0abb,0x81c2c92e,0x92722c85,0xa2bfe8a1,0xa81a664b,0xc24b8b70,0xc76c51a3,0xd192e819,0xd6990624,0xf40e3585,0x106aa070,0x19a4c116,0x1e376c08,0x2748774c,0x34b0bcb5,0x391c0cb3,0x4ed8aa4a,0x5b9cca4f,0x682e6ff3,0x748f82ee,0x78a5636f,0x84c87814,0x8cc70208,0x90befffa,0xa4506ceb,0xbef9a3f7,0xc67178f2]
def hL:List Nat:=[0x6a09e667,0xbb67ae85,0x3c6ef372,0xa54ff53a,0x510e527f,0x9b05688c,0x1f83d9ab,0x5be0cd19]
def IsW(xs:List Nat):Prop:=∀x∈xs,x<4294967296
theorem IsW.nil:IsW []:=fun _ h=>by cases h
theorem IsW.app{xs ys:List Nat}(h:IsW xs)(k:IsW ys):IsW (xs++ys):=fun x hx=>by
 rcases List.mem_append.1 hx with hx|hx
 ·exact h x hx
 ·exact k x hx
theorem IsW.one{x:Nat}(h:x<4294967296):IsW [x]:=fun y hy=>by simp at hy;omega
theorem IsW.getD{xs:List Nat}(h:IsW xs)(i:Nat):xs.getD i 0<4294967296:=by
 rcases Nat.lt_or_ge i xs.length with hi|hi
 ·exact h _ (bL hi)
 ·simp[List.getD,List.getElem?_eq_none hi]
def rot(x n:Nat):Nat:=(x*2^(32-n)%4294967296)|||(x/2^n)
theorem xF{a b:Nat}(ha:a<4294967296)(hb:b<4294967296):a|||b<4294967296:=Nat.or_lt_two_pow (n:=32) ha hb
theorem gJ{a b:Nat}(ha:a<4294967296):a&&&b<4294967296:=Nat.lt_of_le_of_lt Nat.and_le_left ha
theorem gA{x:Nat}(h:x<4294967296)(n:Nat):rot x n<4294967296:=xF (Nat.mod_lt _ (by decide)) (Nat.lt_of_le_of_lt (Nat.div_le_self _ _) h)
theorem Be(x n:Nat):(x/2^n)|||(x*2^(32-n)%4294967296)=rot x n:=Nat.or_comm _ _
def Aj(x:Nat):Nat:=rot x 7^^^rot x 18^^^(x/2^3)
def Af(x:Nat):Nat:=rot x 17^^^rot x 19^^^(x/2^10)
def Aw(x:Nat):Nat:=rot x 2^^^rot x 13^^^rot x 22
def wY(x:Nat):Nat:=rot x 6^^^rot x 11^^^rot x 25
def CZ(e f g:Nat):Nat:=g^^^(e&&&(f^^^g))
def hO(a b c:Nat):Nat:=(a&&&b)|||(c&&&(a|||b))
theorem jy{x:Nat}(h:x<4294967296)(n:Nat):x/2^n<4294967296:=Nat.lt_of_le_of_lt (Nat.div_le_self _ _) h
theorem rG(e i:Nat)(he:e<4294967296):(4294967295-e).testBit i=(decide (i<32)&&!e.testBit i):=by
 rw[show 4294967295-e=2^32-(e+1)by omega,Nat.testBit_two_pow_sub_succ (by omega:e<2^32)]
theorem Bz{e f g:Nat}(he:e<4294967296)(hg:g<4294967296):(e&&&f)^^^((4294967295-e)&&&g)=CZ e f g:=by
 apply Nat.eq_of_testBit_eq;intro i;unfold CZ;simp only[Nat.testBit_xor,Nat.testBit_and,rG e i he];by_cases h:i<32
 ·simp only[h,decide_true,Bool.true_and];cases e.testBit i<;>cases f.testBit i<;>cases g.testBit i<;>rfl
 ·have h2:2^32<=2^i:=Nat.pow_le_pow_right (by decide) (by omega);have e1:e.testBit i=false:=Nat.testBit_lt_two_pow (Nat.lt_of_lt_of_le he h2);have e2:g.testBit i=false:=Nat.testBit_lt_two_pow (Nat.lt_of_lt_of_le hg h2);simp[h,e1,e2]
theorem BG(a b c:Nat):(a&&&b)^^^(a&&&c)^^^(b&&&c)=hO a b c:=by
 apply Nat.eq_of_testBit_eq;intro i;unfold hO;simp only[Nat.testBit_xor,Nat.testBit_and,Nat.testBit_or];cases a.testBit i<;>cases b.testBit i<;>cases c.testBit i<;>rfl
def beW(a b c d:Nat):Nat:=a*16777216+b*65536+c*256+d
def nN(bl:List Nat)(t:Nat):Nat:=beW (bl.getD (4*t) 0) (bl.getD (4*t+1) 0) (bl.getD (4*t+2) 0) (bl.getD (4*t+3) 0)
def Am(l:List Nat)(t:Nat):Nat:=(Af (l.getD (t-2) 0)+l.getD (t-7) 0+Aj (l.getD (t-15) 0)+l.getD (t-16) 0)%4294967296
def dr(bl:List Nat):Nat->List Nat
 |0=>[]
 |t+1=>dr bl t++[if t<16then nN bl t else Am (dr bl t) t]
theorem dg(bl:List Nat)(t:Nat):(dr bl t).length=t:=by
 induction t with
 |zero=>rfl
 |succ t ih=>simp[dr,ih]
theorem E7{a b c d:Nat}(ha:a<256)(hb:b<256)(hc:c<256)(hd:d<256):beW a b c d<4294967296:=by unfold beW;omega
theorem iL{ks:List Nat}(hB:IsB ks)(b:Nat):ks.getD b 0<256:=by
 rcases Nat.lt_or_ge b ks.length with h2|h2
 ·exact hB _ (bL h2)
 ·simp[List.getD,List.getElem?_eq_none h2]
theorem yf{bl:List Nat}(hB:IsB bl)(t:Nat):nN bl t<4294967296:=E7 (iL hB _) (iL hB _) (iL hB _) (iL hB _)
theorem tB{bl:List Nat}(hB:IsB bl)(t:Nat):IsW (dr bl t):=by
 induction t with
 |zero=>exact IsW.nil
 |succ t ih=>
  unfold dr;refine ih.app (IsW.one ?_);split
  ·exact yf hB t
  ·exact Nat.mod_lt _ (by decide)
structure St where(a b c d e f g h:Nat)
def St.Ok(s:St):Prop:=s.a<4294967296/\s.b<4294967296/\s.c<4294967296/\s.d<4294967296/\s.e<4294967296/\s.f<4294967296/\s.g<4294967296/\s.h<4294967296
def C0(s:St)(k w:Nat):Nat:=(s.h+wY s.e+CZ s.e s.f s.g+k+w)%4294967296
def EF(s:St):Nat:=(Aw s.a+hO s.a s.b s.c)%4294967296
def th(s:St)(k w:Nat):St:=⟨(C0 s k w+EF s)%4294967296,s.a,s.b,s.c,(s.d+C0 s k w)%4294967296,s.e,s.f,s.g⟩
theorem yA{s:St}(h:s.Ok)(k w:Nat):(th s k w).Ok:=by
 obtain⟨h1,h2,h3,h4,h5,h6,h7,h8⟩:=h;exact⟨Nat.mod_lt _ (by decide),h1,h2,h3,Nat.mod_lt _ (by decide),h5,h6,h7⟩
def ff(s:St)(ws:List Nat):Nat->St
 |0=>s
 |t+1=>th (ff s ws t) (kL.getD t 0) (ws.getD t 0)
theorem oo{s:St}(h:s.Ok)(ws:List Nat)(t:Nat):(ff s ws t).Ok:=by
 induction t with
 |zero=>exact h
 |succ t ih=>exact yA ih _ _
def my(s v:St):St:=⟨(s.a+v.a)%4294967296,(s.b+v.b)%4294967296,(s.c+v.c)%4294967296,(s.d+v.d)%4294967296,(s.e+v.e)%4294967296,(s.f+v.f)%4294967296,(s.g+v.g)%4294967296,(s.h+v.h)%4294967296⟩
def tp(s:St)(bl:List Nat):St:=my s (ff s (dr bl 64) 64)
theorem CW(s v:St):(my s v).Ok:=⟨Nat.mod_lt _ (by decide),Nat.mod_lt _ (by decide),Nat.mod_lt _ (by decide),Nat.mod_lt _ (by decide),Nat.mod_lt _ (by decide),Nat.mod_lt _ (by decide),Nat.mod_lt _ (by decide),Nat.mod_lt _ (by decide)⟩
theorem zP(s:St)(bl:List Nat):(tp s bl).Ok:=CW _ _
def St.begin:St:=⟨0x6a09e667,0xbb67ae85,0x3c6ef372,0xa54ff53a,0x510e527f,0x9b05688c,0x1f83d9ab,0x5be0cd19⟩
theorem CJ:St.begin.Ok:=by refine⟨?_,?_,?_,?_,?_,?_,?_,?_⟩<;>decide
def St.list(s:St):List Nat:=[s.a,s.b,s.c,s.d,s.e,s.f,s.g,s.h]
def fw(xs:List Nat):Nat->St
 |0=>St.begin
 |n+1=>tp (fw xs n) ((xs.drop (64*n)).take 64)
theorem rQ(xs:List Nat)(n:Nat):(fw xs n).Ok:=by
 cases n with
 |zero=>exact CJ
 |succ n=>exact zP _ _
def pU(n:Nat):List Nat:=(List.range 8).map fun i=>n/2^(56-8*i)%256
def rI(n:Nat):List Nat:=128::List.replicate ((119-n%64)%64) 0++pU (8*n%18446744073709551616)
def li(xs:List Nat):List Nat:=xs++rI xs.length
theorem cT(n:Nat):(pU n).length=8:=by simp[pU]
theorem nh(n:Nat):(rI n).length=(119-n%64)%64+9:=by simp[rI,cT]
theorem rA(xs:List Nat):(li xs).length%64=0:=by
 unfold li;rw[List.length_append,nh];omega
def beB(x:Nat):List Nat:=[x/16777216%256,x/65536%256,x/256%256,x%256]
def kY(xs:List Nat):List Nat:=(fw (li xs) ((li xs).length/64)).list.flatMap beB
theorem pk(xs ys:List Nat)(n:Nat)(h:64*n<=xs.length):fw (xs++ys) n=fw xs n:=by
 induction n with
 |zero=>rfl
 |succ n ih=>
  unfold fw;rw[ih (by omega),List.drop_append_of_le_length (by omega),List.take_append_of_le_length (by rw[List.length_drop];omega)]
theorem Dp(a b:Nat)(ha:a<4294967296)(hb:b<4294967296):bits .or .u32 (a:Int) (b:Int)=((a|||b:Nat):Int):=u32_or_nat a b ha hb
theorem pX(a b:Nat)(ha:a<4294967296)(hb:b<4294967296):bits .and .u32 (a:Int) (b:Int)=((a&&&b:Nat):Int):=u32_and_nat a b ha hb
theorem EZ:∀n:Fin 32,n.val≠0->bits .and .u64 (IntKind.u64.wrap (-(n.val:Int))) 31=((32-n.val:Nat):Int):=by decide+kernel
theorem Bf(x n m:Nat)(hx:x<4294967296)(hm:32-n=m):bits .or .u32 ((x:Int)*2^m%4294967296) ((x:Int)/2^n)=((rot x n:Nat):Int):=by
 have e1:((x:Int)*2^m%4294967296)=((x*2^m%4294967296:Nat):Int):=by simp
 have e2:((x:Int)/2^n)=((x/2^n:Nat):Int):=by simp
 rw[e1,e2,Dp _ _ (Nat.mod_lt _ (by decide)) (jy hx n),<-hm];rfl
theorem yC(x n m:Nat)(hx:x<4294967296)(hm:32-n=m):bits .or .u32 ((x:Int)/2^n) ((x:Int)*2^m%4294967296)=((rot x n:Nat):Int):=by
 have e1:((x:Int)*2^m%4294967296)=((x*2^m%4294967296:Nat):Int):=by simp
 have e2:((x:Int)/2^n)=((x/2^n:Nat):Int):=by simp
 rw[e1,e2,Dp _ _ (jy hx n) (Nat.mod_lt _ (by decide)),<-hm,Be]
theorem Bd(x n:Nat)(w:World)(hx:x<4294967296)(h0:1<=n)(h1:n<=31):Calls Tryz.prog 126 #[.int .u32 x, .int .i64 (-(n:Int))] w fun e w'=>e= .returned (.int .u32 (rot x n:Nat))/\w'=w:=by
 have hd:=EZ ⟨n,by omega⟩ (by show n≠0;omega);simp only at hd;obtain⟨m,hm⟩:∃m:Nat,32-n=m:=⟨_,rfl⟩;rw[hm]at hd;have hm31:m<=31:=by omega
 have hm1:1<=m:=by omega
 have A:Hd (bits .or .u32 ((x:Int)*2^m%4294967296) ((x:Int)/2^(32-m))=((rot x n:Nat):Int)):=by
  show _=_;rw[show 32-m=n by omega];exact Bf x n m hx hm
 clear hm h0 h1;go_enter Tryz.func126,Tryz.ntmps126;go_wp2_with fail;go_ret;exact⟨by rw[<-A.o];rfl,rfl⟩
theorem AP(x n:Nat)(w:World)(hx:x<4294967296)(h0:1<=n)(h1:n<=31):Calls Tryz.prog 101 #[.int .u32 x, .int .u64 n] w fun e w'=>e= .returned (.int .u32 (rot x n:Nat))/\w'=w:=by
 have A:Hd (bits .or .u32 ((x:Int)/2^n) ((x:Int)*2^(32-n)%4294967296)=((rot x n:Nat):Int)):=yC x n _ hx rfl;go_enter Tryz.func101,Tryz.ntmps101;go_wp2_with fail;go_ret;exact⟨by rw[<-A.o];rfl,rfl⟩
end Go.Proofs.YtfnlhfaihoojfaaGreatDoor
