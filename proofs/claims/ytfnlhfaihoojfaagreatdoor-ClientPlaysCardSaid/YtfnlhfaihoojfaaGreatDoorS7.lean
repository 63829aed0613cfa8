/- Texts of the proof of ledgerlaw13.ClientPlays, part 7; no condition of its own. -/
import Derived.Maps.AppendAt
import Derived.LoopN
import Derived.Test.YtfnlhfaihoojfaaGreatDoorS6
set_option maxRecDepth 100000
set_option maxHeartbeats 4000000
namespace Go.Proofs.YtfnlhfaihoojfaaGreatDoor
open Go.RowKit
def cM(v u:Value):Prop:=∀k,v.ownBlock=some k->u.ownBlock≠some k
theorem cM.symm'{v u:Value}(h:cM v u):cM u v:=fun k hk hv=>h k hv hk
theorem kR(c n:Nat)(u:Value):cM (.slice none n c) u:=fun k hk=>by cases hk
def iT(w:World)(v v':Value):Prop:=∀k,v'.ownBlock=some k->v.ownBlock=some k∨w.heap.size<=k
theorem da{w:World}{v v' u:Value}(h:cM v u)(hl:iT w v v')(hu:∀k,u.ownBlock=some k->k<w.heap.size):cM v' u:=by
 intro k hk hu';rcases hl k hk with h1|h1
 ·exact h k h1 hu'
 ·have:=hu k hu';omega
section
variable{P:Program}
theorem re{t e:TypeId}(ht:P.underlying t=some (.slice e))(hinfo:(P.info? e).map (fun i=>(i.zero,i.size,i.bytes))=some (some (.int .u8 0),1,1)){ops:Array Oper}{rest:List Oper}{o:Oper}{a:Act}{Q:Exit->Act->World->Prop}(w:World)(hgd:o.guard=none)(s x:Operand)(ho:o.op= .call {callee:= .builtin .append,args:=#[s,x],argTypes:=#[t,t]})(base:Nat)(v:Value)(xs:List Nat)(hown:Own e w base v xs)(b:Nat)(hb:b<256)(hs:a.eval s=v)(hx:a.eval x= .slice (some ⟨w.heap.size,0,none⟩) 1 1)(hlen:xs.length+1<=140737488355328)(hbase:base<=w.heap.size)(h:∀v' w',Own e w' base v' (xs++[b])->w.grownBy w' v.ownBlock->iT w v v'->wpList P ops Q rest (a.put o.dst v') w'):wpList P ops Q (o::rest) a (w.alloc (.cells #[.int .u8 (b:Int)] e)):=by
 obtain⟨i,hi,hz0,hz1,hz2⟩:=info_parts hinfo;refine wpList_append_own_at (w.alloc (.cells #[.int .u8 (b:Int)] e)) hgd s x t ho base e i (.int .u8 0) 1 1 ht hi hz0 hz1 hz2 rfl (by decide) v xs.length (bvs xs) hs (hown.1.alloc _) ⟨w.heap.size,0,none⟩ 1 1 (bvs [b]) hx rfl (cell_one_new w (.int .u8 (b:Int)) e) ?_ (by unfold maxLen;omega) (by omega) (by simp;omega) ?_
 ·intro u hu;simp[bvs,bv]at hu;subst hu;rfl
 ·intro v' w' h1 h2 _ h4;refine h v' w' ⟨by simpa[bvs]using h1,hown.2.app (IsB.one hb)⟩ (aE (World.grownBy_alloc _ _ _) h2) ?_;intro k hk;rcases h4 with h4|h4
  ·rw[h4]at hk;exact .inl hk
  ·rw[h4]at hk;injection hk with hk;simp at hk;exact .inr (by omega)
end
section
variable{P:Program}
theorem iT.refl(w:World)(v:Value):iT w v v:=fun _ h=> .inl h
theorem wH{t e:TypeId}(ht:P.underlying t=some (.slice e))(hinfo:(P.info? e).map (fun i=>(i.zero,i.size,i.bytes))=some (some (.int .u8 0),1,1)){ops:Array Oper}{rest:List Oper}{o:Oper}{a:Act}{Q:Exit->Act->World->Prop}(w:World)(hgd:o.guard=none)(s x:Operand)(ho:o.op= .call {callee:= .builtin .append,args:=#[s,x],argTypes:=#[t,t]})(base:Nat)(v:Value)(xs:List Nat)(hown:Own e w base v xs)(A:Option Addr)(m c:Nat)(ys:List Nat)(hr:RB w A m ys)(hA:A=none->c=0)(hs:a.eval s=v)(hx:a.eval x= .slice A m c)(hlen:xs.length+m<=140737488355328)(hbase:base<=w.heap.size)(h:∀v' w',Own e w' base v' (xs++ys)->w.grownBy w' v.ownBlock->iT w v v'->wpList P ops Q rest (a.put o.dst v') w'):wpList P ops Q (o::rest) a w:=by
 obtain⟨i,hi,hz0,hz1,hz2⟩:=info_parts hinfo;rcases A with _|ad
 ·obtain rfl:=hA rfl;have hm:m=0:=by
   rcases Nat.eq_zero_or_pos m with h0|h0
   ·exact h0
   ·obtain⟨ad,e',_⟩:=hr.2.2 h0;cases e'
  subst hm;have hys:ys=[]:=List.eq_nil_of_length_eq_zero hr.1;subst hys;refine wpList_append_own_none hgd s x t ho base e i 1 ht hi v xs.length (bvs xs) hs hown.1 hx ?_;exact h v w (by simpa using hown) (World.grownBy.refl w _) (iT.refl w v)
 ·refine wpList_append_own_at w hgd s x t ho base e i (.int .u8 0) 1 1 ht hi hz0 hz1 hz2 rfl (by decide) v xs.length (bvs xs) hs hown.1 ad m c (bvs ys) hx (by simp[bvs,hr.1]) ?_ (ah ys) (by unfold maxLen;omega) (by omega) hbase ?_
  ·intro j u hj;simp only[bvs,List.getElem?_map,Option.map_eq_some_iff]at hj;obtain⟨x,hx,rfl⟩:=hj;have hjm:j<ys.length:=by
    rcases Nat.lt_or_ge j ys.length with h|h
    ·exact h
    ·rw[List.getElem?_eq_none h]at hx;cases hx
   obtain⟨ad',e',_,hc⟩:=hr.2.2 (by have:=hr.1;omega);injection e' with e';subst e';exact hc j x hx
  ·intro v' w' h1 h2 _ h4;refine h v' w' ⟨by rw[List.length_append,hr.1];simpa[bvs]using h1,hown.2.app hr.2.1⟩ h2 ?_;intro k hk;rcases h4 with h4|h4
   ·rw[h4]at hk;exact .inl hk
   ·rw[h4]at hk;injection hk with hk;exact .inr (by omega)
end
def en(k v:List Nat):List Nat:=0::(k++v)
def aU(w:Int)(l r:List Nat):List Nat:=1::(l.take (gj w)++r.take (gj w))
def aZ(w:Int)(t:List Nat):List Nat:=jp (kY t) w
def ay(w:Int):Nat->List Nat
 |0=>aZ w [2]
 |h+1=>aZ w (aU w (ay w h) (ay w h))
structure Pr where
 found:Bool
 val:List Nat
 bits:List Nat
 sums:List (List Nat)
def gM(bits:List Nat)(h:Nat):Bool:=decide (bits.getD (h/8) 0/2^(h%8)%2=1)
def ek(bits:List Nat):Nat->Nat
 |0=>0
 |h+1=>ek bits h+if gM bits h then 1 else 0
def av(w:Int)(p:Pr)(h:Nat):List Nat:=if gM p.bits h then p.sums.getD (ek p.bits h) (zs 32)else ay w h
def eZ(w:Int)(d:List Nat):Bool:=decide (∀b∈d.drop (gj w),b=0)
def nz(w:Int)(p:Pr)(h:Nat):Nat:=if gM p.bits h then(if eZ w (av w p h)then(if av w p h=ay w h then 130 else 0)else 120)else 0
def bM(w:Int)(p:Pr):Nat->Nat
 |0=>0
 |n+1=>if bM w p n=0then nz w p n else bM w p n
def aI(k:List Nat)(h:Nat)(d n:List Nat):List Nat×List Nat:=if cU k (255-h)=0then(d,n)else(n,d)
def upT(w:Int)(k:List Nat)(h:Nat)(d n:List Nat):List Nat:=aU w (aI k h d n).1 (aI k h d n).2
def bd(w:Int)(k d0:List Nat)(near:Nat->List Nat):Nat->List Nat
 |0=>d0
 |h+1=>aZ w (upT w k h (bd w k d0 near h) (near h))
def bQ(k:List Nat)(found:Bool)(val:List Nat):List Nat:=if found then en k val else[2]
def bT(w:Int)(k:List Nat)(p:Pr)(h:Nat):List Nat:=bd w k (aZ w (bQ k p.found p.val)) (av w p) h
def cY(w:Int)(k:List Nat)(p:Pr):Nat->List Nat
 |0=>bQ k p.found p.val
 |h+1=>upT w k h (bT w k p h) (av w p h)
theorem fJ(w:Int)(k:List Nat)(p:Pr)(h:Nat):bT w k p h=aZ w (cY w k p h):=by
 cases h with
 |zero=>rfl
 |succ h=>rfl
def jT(x:Nat):Nat:=x%2+x/2%2+x/4%2+x/8%2+x/16%2+x/32%2+x/64%2+x/128%2
def cW(bits:List Nat):Nat:=(bits.map jT).sum
def d9:Nat->List Nat->List (List Nat)
 |0,_=>[]
 |n+1,xs=>xs.take 32::d9 n (xs.drop 32)
def dQ(raw:List Nat):Option (Bool×List Nat×List Nat):=if raw.length=0then none else if raw.getD 0 0=0then some (false,[],raw.drop 1)else if raw.getD 0 0=1/\3<=raw.length/\raw.getD 1 0+256*raw.getD 2 0<=128/\3+(raw.getD 1 0+256*raw.getD 2 0)<=raw.length then some (true,(raw.drop 3).take (raw.getD 1 0+256*raw.getD 2 0),raw.drop (3+(raw.getD 1 0+256*raw.getD 2 0)))else none
def oV(f:Bool)(v r:List Nat):Option Pr:=if 32<=r.length/\r.length=32+32*cW (r.take 32)then some ⟨f,v,r.take 32,d9 (cW (r.take 32)) (r.drop 32)⟩else none
def dF(raw:List Nat):Option Pr:=match dQ raw with
 |none=>none
 |some (f,v,r)=>oV f v r
def pS(p:Pr):List Nat:=(if p.found then 1::p.val.length%256::p.val.length/256::p.val else[0])++(p.bits++p.sums.flatten)
structure Pr.Ok(p:Pr):Prop where
 vB:IsB p.val
 vl:p.val.length<=128
 vn:p.found=false->p.val=[]
 bB:IsB p.bits
 bl:p.bits.length=32
 sB:∀s∈p.sums,IsB s/\s.length=32
 sl:p.sums.length=cW p.bits
theorem gY(n:Nat)(xs:List Nat):(d9 n xs).length=n:=by
 induction n generalizing xs with
 |zero=>rfl
 |succ n ih=>simp[d9,ih]
theorem jh{n:Nat}{xs:List Nat}(h:xs.length=32*n):(d9 n xs).flatten=xs:=by
 induction n generalizing xs with
 |zero=>simp[d9,List.eq_nil_of_length_eq_zero (show xs.length=0 by omega)]
 |succ n ih=>
  rw[d9,List.flatten_cons,ih (by rw[List.length_drop];omega),List.take_append_drop]
theorem sR{n:Nat}{xs:List Nat}(h:xs.length=32*n)(hB:IsB xs):∀s∈d9 n xs,IsB s/\s.length=32:=by
 induction n generalizing xs with
 |zero=>intro s hs;cases hs
 |succ n ih=>
  intro s hs;rw[d9]at hs;rcases List.mem_cons.1 hs with rfl|hs
  ·exact⟨hB.take _,by rw[List.length_take];omega⟩
  ·exact ih (by rw[List.length_drop];omega) (hB.drop _) s hs
theorem vS{raw:List Nat}{f:Bool}{v r:List Nat}(hB:IsB raw)(h:dQ raw=some (f,v,r)):IsB v/\v.length<=128/\(f=false->v=[])/\IsB r/\raw=(if f then 1::v.length%256::v.length/256::v else[0])++r:=by
 unfold dQ at h;by_cases h0:raw.length=0
 ·rw[if_pos h0]at h;cases h
 ·rw[if_neg h0]at h;by_cases h1:raw.getD 0 0=0
  ·rw[if_pos h1]at h;injection h with h;injection h with e1 h;injection h with e2 e3;subst e1 e2 e3;refine⟨IsB.nil,by simp,fun _=>rfl,hB.drop _,?_⟩;cases raw with
   |nil=>simp at h0
   |cons x t=>
    simp at h1;simp[h1]
  ·rw[if_neg h1]at h;by_cases h2:raw.getD 0 0=1/\3<=raw.length/\raw.getD 1 0+256*raw.getD 2 0<=128/\3+(raw.getD 1 0+256*raw.getD 2 0)<=raw.length
   ·rw[if_pos h2]at h;injection h with h;injection h with e1 h;injection h with e2 e3;obtain⟨a0,a1,a2,a3⟩:=h2;have hl:v.length=raw.getD 1 0+256*raw.getD 2 0:=by
     rw[<-e2,List.length_take,List.length_drop];omega
    have hb1:raw.getD 1 0<256:=hB _ (bL (by omega));have hb2:raw.getD 2 0<256:=hB _ (bL (by omega));subst e1;refine⟨by rw[<-e2];exact(hB.drop _).take _,by omega,fun e=>(by cases e),by rw[<-e3];exact hB.drop _,?_⟩;rw[if_pos rfl];have q1:v.length%256=raw.getD 1 0:=by omega
    have q2:v.length/256=raw.getD 2 0:=by omega
    rw[q1,q2,<-e3,<-e2];cases raw with
    |nil=>simp at h0
    |cons x t=>
     cases t with
     |nil=>simp at a1
     |cons y t=>
      cases t with
      |nil=>simp at a1
      |cons z t=>
       simp at a0;simp only[List.getD_cons_zero,List.getD_cons_succ,List.drop_succ_cons,List.drop_zero,List.cons_append,a0];rw[show 3+(y+256*z)=(y+256*z)+3by omega];simp only[List.drop_succ_cons,List.take_append_drop]
   ·rw[if_neg h2]at h;cases h
theorem df{raw:List Nat}{p:Pr}(hB:IsB raw)(h:dF raw=some p):p.Ok/\raw=pS p:=by
 unfold dF at h;cases hh:dQ raw with
 |none=>rw[hh]at h;cases h
 |some x=>
  obtain⟨f,v,r⟩:=x;rw[hh]at h;obtain⟨h1,h2,h3,h4,h5⟩:=vS hB hh;change oV f v r=some p at h;unfold oV at h;by_cases hc:32<=r.length/\r.length=32+32*cW (r.take 32)
  ·rw[if_pos hc]at h;injection h with h;subst h;have hl:(r.drop 32).length=32*cW (r.take 32):=by rw[List.length_drop];omega
   refine⟨⟨h1,h2,h3,h4.take _,by rw[List.length_take];omega,sR hl (h4.drop _),gY _ _⟩,?_⟩;show raw=_++(r.take 32++(d9 (cW (r.take 32)) (r.drop 32)).flatten);rw[jh hl,List.take_append_drop];exact h5
  ·rw[if_neg hc]at h;cases h
theorem aw(w:Int)(t:List Nat):(aZ w t).length=32:=bI (cS t) w
theorem aY(w:Int)(t:List Nat):IsB (aZ w t):=gI (iw t) w
theorem jE(w:Int)(t:List Nat):eZ w (aZ w t)=true:=by
 unfold eZ aZ jp;rw[decide_eq_true_eq];intro b hb;have hc:=lH w;have hl:((kY t).take (gj w)).length=gj w:=by rw[List.length_take,cS];omega
 have e:((kY t).take (gj w)++zs (32-gj w)).drop (gj w)=zs (32-gj w):=by
  have h1:=List.drop_left (l₁:=(kY t).take (gj w)) (l₂:=zs (32-gj w));rwa[hl]at h1
 rw[e]at hb;exact xb _ b hb
theorem al(w:Int)(h:Nat):(ay w h).length=32:=by cases h<;>exact aw _ _
theorem bu(w:Int)(h:Nat):IsB (ay w h):=by cases h<;>exact aY _ _
theorem sL(w:Int)(h:Nat):eZ w (ay w h)=true:=by cases h<;>exact jE _ _
theorem mj{w:Int}{d e:List Nat}(hd:d.length=32)(he:e.length=32)(h1:eZ w d=true)(h2:eZ w e=true)(h:d.take (gj w)=e.take (gj w)):d=e:=by
 unfold eZ at h1 h2;rw[decide_eq_true_eq]at h1 h2;have q1:=Ds h1;have q2:=Ds h2;rw[List.length_drop,hd]at q1;rw[List.length_drop,he]at q2;rw[<-List.take_append_drop (gj w) d,<-List.take_append_drop (gj w) e,q1,q2,h]
theorem np{w:Int}{l r l' r':List Nat}(h1:l.length=32)(h2:l'.length=32)(h:aU w l r=aU w l' r'):l.take (gj w)=l'.take (gj w)/\r.take (gj w)=r'.take (gj w):=by
 unfold aU at h;injection h with _ h;exact List.append_inj h (by rw[List.length_take,List.length_take,h1,h2])
theorem Dy{w:Int}{k:List Nat}{h:Nat}{d n d' n':List Nat}(hd:d.length=32)(hn:n.length=32)(hd':d'.length=32)(hn':n'.length=32)(td:eZ w d=true)(tn:eZ w n=true)(td':eZ w d'=true)(tn':eZ w n'=true)(e:upT w k h d n=upT w k h d' n'):d=d'/\n=n':=by
 unfold upT aI at e;by_cases hb:cU k (255-h)=0
 ·rw[if_pos hb,if_pos hb]at e;obtain⟨a,b⟩:=np hd hd' e;exact⟨mj hd hd' td td' a,mj hn hn' tn tn' b⟩
 ·rw[if_neg hb,if_neg hb]at e;obtain⟨a,b⟩:=np hn hn' e;exact⟨mj hd hd' td td' b,mj hn hn' tn tn' a⟩
theorem oP{w:Int}{p:Pr}{n:Nat}(h:bM w p n=0):∀j,j<n->nz w p j=0:=by
 induction n with
 |zero=>intro j hj;omega
 |succ n ih=>
  unfold bM at h;by_cases h0:bM w p n=0
  ·rw[if_pos h0]at h;intro j hj;rcases Nat.lt_or_ge j n with h1|h1
   ·exact ih h0 j h1
   ·obtain rfl:j=n:=by omega
    exact h
  ·rw[if_neg h0]at h;exact absurd h h0
theorem B8{w:Int}{p:Pr}{n:Nat}(h:∀j,j<n->nz w p j=0):bM w p n=0:=by
 induction n with
 |zero=>rfl
 |succ n ih=>
  unfold bM;rw[if_pos (ih fun j hj=>h j (by omega))];exact h n (by omega)
theorem oQ{w:Int}{p:Pr}{n m:Nat}(h:bM w p n≠0)(hm:n<=m):bM w p m=bM w p n:=by
 induction m with
 |zero=>
  obtain rfl:n=0:=by omega
  rfl
 |succ m ih=>
  rcases Nat.lt_or_ge m n with h1|h1
  ·obtain rfl:n=m+1:=by omega
   rfl
  ·have e:=ih h1;rw[bM,if_neg (by rw[e];exact h),e]
theorem xP(bits:List Nat){a b:Nat}(h:a<=b):ek bits a<=ek bits b:=by
 induction b with
 |zero=>
  obtain rfl:a=0:=by omega
  exact Nat.le_refl _
 |succ b ih=>
  rcases Nat.lt_or_ge b a with h1|h1
  ·obtain rfl:a=b+1:=by omega
   exact Nat.le_refl _
  ·have:=ih h1;rw[ek];omega
theorem pe{bits:List Nat}{h n:Nat}(hb:gM bits h=true)(hn:h<n):ek bits h<ek bits n:=by
 have h1:=xP bits (show h+1<=n by omega);rw[ek,if_pos hb]at h1;omega
theorem Ej(x q:Nat):(if decide (x/q%2=1)=true then 1 else 0)=x/q%2:=by
 by_cases h:x/q%2=1
 ·rw[if_pos (by simpa using h),h]
 ·rw[if_neg (by simpa using h)];omega
theorem wC(bits:List Nat)(m:Nat):ek bits (8*m+8)=ek bits (8*m)+jT (bits.getD m 0):=by
 have e:∀j,j<8->gM bits (8*m+j)=decide (bits.getD m 0/2^j%2=1):=fun j hj=>by
  unfold gM;rw[show(8*m+j)/8=m by omega,show(8*m+j)%8=j by omega]
 have f:∀j,j<8->ek bits (8*m+j+1)=ek bits (8*m+j)+bits.getD m 0/2^j%2:=fun j hj=>by
  rw[ek,e j hj,Ej]
 rw[show 8*m+8=8*m+7+1by omega,f 7 (by omega),f 6 (by omega),f 5 (by omega),f 4 (by omega),f 3 (by omega),f 2 (by omega),f 1 (by omega)];rw[show ek bits (8*m+1)=ek bits (8*m+0+1)from rfl,f 0 (by omega)];unfold jT;generalize bits.getD m 0=x;rw[show 8*m+0=8*m by omega,show x/2^0=x by simp,show 2^1=2from rfl,show 2^2=4from rfl,show 2^3=8from rfl,show 2^4=16from rfl,show 2^5=32from rfl,show 2^6=64from rfl,show 2^7=128from rfl];omega
theorem zA(bits:List Nat){m:Nat}(h:m<=bits.length):ek bits (8*m)=cW (bits.take m):=by
 induction m with
 |zero=>rfl
 |succ m ih=>
  rw[show 8*(m+1)=8*m+8by omega,wC,ih (by omega),aJ (by omega)];unfold cW;rw[List.map_append,List.sum_append];simp
theorem fV{bits:List Nat}(h:bits.length=32):cW bits=ek bits 256:=by
 have h1:=zA bits (m:=32) (by omega);rw[show 8*32=256from rfl,List.take_of_length_le (by omega)]at h1;exact h1.symm
theorem jx{α:Type}(l:List α)(d:α){i:Nat}(h:i<l.length):l.getD i d=l[i]:=by simp[List.getD,h]
theorem aG{w:Int}{p:Pr}(hp:p.Ok){h:Nat}(hh:h<256):(av w p h).length=32/\IsB (av w p h):=by
 unfold av;by_cases hb:gM p.bits h=true
 ·rw[if_pos hb];have hlt:ek p.bits h<p.sums.length:=by
   rw[hp.sl,fV hp.bl];exact pe hb hh
  have hm:p.sums.getD (ek p.bits h) (zs 32)∈p.sums:=by
   rw[jx _ _ hlt];exact List.getElem_mem hlt
  exact⟨(hp.sB _ hm).2,(hp.sB _ hm).1⟩
 ·rw[if_neg hb];exact⟨al _ _,bu _ _⟩
theorem ov{w:Int}{p:Pr}(hf:bM w p 256=0){h:Nat}(hh:h<256):eZ w (av w p h)=true:=by
 have h1:=oP hf h hh;unfold nz at h1;by_cases hb:gM p.bits h=true
 ·rw[if_pos hb]at h1;by_cases ht:eZ w (av w p h)=true
  ·exact ht
  ·rw[if_neg ht]at h1;cases h1
 ·unfold av;rw[if_neg hb];exact sL _ _
theorem qC{w:Int}{p:Pr}(hf:bM w p 256=0){h:Nat}(hh:h<256):gM p.bits h=decide (av w p h≠ay w h):=by
 have h1:=oP hf h hh;unfold nz at h1;by_cases hb:gM p.bits h=true
 ·rw[if_pos hb]at h1;by_cases ht:eZ w (av w p h)=true
  ·rw[if_pos ht]at h1;by_cases he:av w p h=ay w h
   ·rw[if_pos he]at h1;cases h1
   ·rw[hb];exact(decide_eq_true he).symm
  ·rw[if_neg ht]at h1;cases h1
 ·have e:av w p h=ay w h:=by unfold av;rw[if_neg hb]
  rw[Bool.eq_false_iff.2 hb];simp[e]
theorem zB{bits:List Nat}{n i:Nat}(h:i<ek bits n):∃k,k<n/\gM bits k=true/\ek bits k=i:=by
 induction n with
 |zero=>simp[ek]at h
 |succ n ih=>
  rw[ek]at h;by_cases h1:i<ek bits n
  ·obtain⟨k,a,b,c⟩:=ih h1;exact⟨k,by omega,b,c⟩
  ·by_cases hb:gM bits n=true
   ·rw[if_pos hb]at h;exact⟨n,by omega,hb,by omega⟩
   ·rw[if_neg hb]at h;omega
theorem CI{xs ys:List Nat}(h1:xs.length=32)(h2:ys.length=32)(b1:IsB xs)(b2:IsB ys)(h:∀j,j<256->gM xs j=gM ys j):xs=ys:=by
 apply List.ext_getElem (by omega);intro i hi1 hi2;have x1:xs.getD i 0=xs[i]:=by simp[List.getD,hi1]
 have y1:ys.getD i 0=ys[i]:=by simp[List.getD,hi2]
 rw[<-x1,<-y1];have bx:=b1 _ (bL hi1);have by':=b2 _ (bL hi2);apply Nat.eq_of_testBit_eq;intro j;rcases Nat.lt_or_ge j 8with hj|hj
 ·have hk:=h (8*i+j) (by omega);unfold gM at hk;rw[show(8*i+j)/8=i by omega,show(8*i+j)%8=j by omega]at hk;rw[Nat.testBit_eq_decide_div_mod_eq,Nat.testBit_eq_decide_div_mod_eq];exact hk
 ·have hp:2^8<=2^j:=Nat.pow_le_pow_right (by decide) hj;rw[Nat.testBit_lt_two_pow (by omega),Nat.testBit_lt_two_pow (by omega)]
theorem wD{xs ys:List Nat}{n:Nat}(h:∀j,j<n->gM xs j=gM ys j):ek xs n=ek ys n:=by
 induction n with
 |zero=>rfl
 |succ n ih=>rw[ek,ek,ih fun j hj=>h j (by omega),h n (by omega)]
theorem ET{w:Int}{p q:Pr}(hp:p.Ok)(hq:q.Ok)(fp:bM w p 256=0)(fq:bM w q 256=0)(h1:p.found=q.found)(h2:p.val=q.val)(h3:∀h,h<256->av w p h=av w q h):p=q:=by
 have hb:∀h,h<256->gM p.bits h=gM q.bits h:=fun h hh=>by rw[qC fp hh,qC fq hh,h3 h hh]
 have e1:p.bits=q.bits:=CI hp.bl hq.bl hp.bB hq.bB hb;have e2:p.sums=q.sums:=by
  apply List.ext_getElem
  ·rw[hp.sl,hq.sl,e1]
  ·intro i hi1 hi2;have hi:i<ek p.bits 256:=by rw[<-fV hp.bl,<-hp.sl];exact hi1
   obtain⟨k,a,b,c⟩:=zB hi;have h:=h3 k a;unfold av at h;rw[if_pos b,if_pos (by rw[<-hb k a];exact b),wD (xs:=q.bits) (ys:=p.bits) (fun j hj=>(hb j (by omega)).symm),c,jx _ _ hi1,jx _ _ hi2]at h;exact h
 obtain⟨pf,pv,pb,ps⟩:=p;obtain⟨qf,qv,qb,qs⟩:=q;simp only at h1 h2 e1 e2;subst h1 h2 e1 e2;rfl
theorem dL(w:Int)(k:List Nat)(p:Pr)(h:Nat):(bT w k p h).length=32/\eZ w (bT w k p h)=true:=by
 rw[fJ];exact⟨aw _ _,jE _ _⟩
theorem qi{w:Int}{k:List Nat}{p q:Pr}(hp:p.Ok)(hq:q.Ok)(fp:bM w p 256=0)(fq:bM w q 256=0)(hu:∀j,j<=256->cY w k p j=cY w k q j):p=q:=by
 have h0:=hu 0 (by omega);have hfv:p.found=q.found/\p.val=q.val:=by
  change bQ k p.found p.val=bQ k q.found q.val at h0;unfold bQ en at h0;cases h1:p.found with
  |false=>
   cases h2:q.found with
   |false=>exact⟨rfl,by rw[hp.vn h1,hq.vn h2]⟩
   |true=>rw[h1,h2]at h0;simp at h0
  |true=>
   cases h2:q.found with
   |false=>rw[h1,h2]at h0;simp at h0
   |true=>
    rw[h1,h2]at h0;simp at h0;exact⟨rfl,h0⟩
 refine ET hp hq fp fq hfv.1 hfv.2 fun h hh=>?_;have e:=hu (h+1) (by omega);exact(Dy (dL w k p h).1 (aG hp hh).1 (dL w k q h).1 (aG hq hh).1 (dL w k p h).2 (ov fp hh) (dL w k q h).2 (ov fq hh) e).2
def dj(w:Int)(root k raw:List Nat):Nat:=if w<1∨32<w then 1 else match dF raw with
 |none=>120
 |some p=>if bM w p 256=0then(if bT w k p 256=root then 0 else 131)else bM w p 256
theorem D8{w:Int}{root k raw:List Nat}(h:dj w root k raw=0):1<=w/\w<=32/\∃p,dF raw=some p/\bM w p 256=0/\bT w k p 256=root:=by
 unfold dj at h;by_cases hw:w<1∨32<w
 ·rw[if_pos hw]at h;cases h
 ·rw[if_neg hw]at h;cases hd:dF raw with
  |none=>rw[hd]at h;cases h
  |some p=>
   rw[hd]at h;dsimp only at h;by_cases hf:bM w p 256=0
   ·rw[if_pos hf]at h;by_cases hr:bT w k p 256=root
    ·exact⟨by omega,by omega,p,rfl,hf,hr⟩
    ·rw[if_neg hr]at h;cases h
   ·rw[if_neg hf]at h;exact absurd h hf
section
variable{P:Program}
theorem kS{t e:TypeId}(ht:P.underlying t=some (.slice e))(hinfo:(P.info? e).map (fun i=>(i.zero,i.size,i.bytes))=some (some (.int .u8 0),1,1)){ops:Array Oper}{Q:Exit->Act->World->Prop}{K:Act->World->Prop}{o:Oper}{a:Act}(hw:Region.wanted o (yielded ops a.tmps)=true)(w:World)(s x:Operand)(ho:o.op= .call {callee:= .builtin .append,args:=#[s,x],argTypes:=#[t,t]})(base:Nat)(v:Value)(xs:List Nat)(hown:Own e w base v xs)(ad:Addr)(m c:Nat)(ys:List Nat)(hr:RB w (some ad) m ys)(hs:a.eval s=v)(hx:a.eval x= .slice (some ad) m c)(hlen:xs.length+m<=140737488355328)(hbase:base<=w.heap.size)(h:∀v' w',Own e w' base v' (xs++ys)->w.grownBy w' v.ownBlock->K (a.put o.dst v') w'):if Region.wanted o (yielded ops a.tmps)=true then o.wp P a w K Q else K (a.put o.dst undef) w:=by
 obtain⟨i,hi,hz0,hz1,hz2⟩:=info_parts hinfo;have hnews:∀(q:Nat)(u:Value),(bvs ys)[q]?=some u->w.cell? (ad.add q)=some u:=fun j u hj=>by
  simp only[bvs,List.getElem?_map,Option.map_eq_some_iff]at hj;obtain⟨x,hx,rfl⟩:=hj;have hjm:j<ys.length:=by
   rcases Nat.lt_or_ge j ys.length with h|h
   ·exact h
   ·rw[List.getElem?_eq_none h]at hx;cases hx
  obtain⟨ad',e',_,hc⟩:=hr.2.2 (by have:=hr.1;omega);injection e' with e';subst e';exact hc j x hx
 obtain⟨v',w',hrun,q1,q2,_,_⟩:=run_append_own_at (P:=P) w base t o.type e i (.int .u8 0) 1 1 ht hi hz0 hz1 hz2 rfl (by decide) v xs.length _ hown.1 ad m c _ (by simp[bvs,hr.1]) hnews (ah ys) (by unfold maxLen;omega) (by omega) hbase;rw[if_pos hw];unfold Oper.wp execOp;simp only[ho,resolve,invoke,builtin,Sem.run_bind,Sem.run_pure,Result.andThen_ok,List.map_toArray,List.map_cons,List.map_nil,hs,hx,hrun];refine h v' w' ⟨?_,hown.2.app hr.2.1⟩ q2;rw[List.length_append,hr.1];simpa[bvs]using q1
end
theorem AM(n:Int)(w:World):Calls Tryz.prog 86 #[.int .i64 n, .int .i64 0, .int .i64 32] w fun e w'=>e= .returned (.int .i64 (gj n:Nat))/\w'=w:=by
 have A:Hd (((gj n:Nat):Int)=min (max n 0) 32):=by
  show((gj n:Nat):Int)=_;unfold gj;omega
 go_enter Tryz.func86,Tryz.ntmps86;go_wp2_with fail;all_goals
  go_ret;exact⟨DQ (by rw[A.o];first|omega|(simp;omega)),rfl⟩
theorem l9(ks:List Nat)(A:Option Addr)(n c:Nat)(xs:List Nat)(w:World)(hk:IsB ks)(hkl:ks.length=32)(hx:RB w A n xs)(hA:A=none->c=0)(hn:n<=1073741824):Calls Tryz.prog 87 #[.agg (bvs ks).toArray, .slice A n c] w fun e w'=>∃v,e= .returned v/\bn w' w.heap.size v (en ks xs)/\Below w.heap.size w w':=by
 obtain⟨i0,hi,hz0,hz1,hz2⟩:=info_parts aH;have B:=aa (And.intro hi (And.intro hz0 (And.intro hz1 hz2)));obtain⟨w1,hw1⟩:∃w1,w1=w.alloc (.cells (bvs ks).toArray 37):=⟨_,rfl⟩;have G:=aa hw1;have C:Hd (Below w.heap.size w w1):=by
  rw[hw1];exact(Below.refl _ _).alloc (Nat.le_refl _) _
 have L:Hd (ar w1 w.heap.size 37 ks):=by
  rw[hw1];exact ab.new w _ _
 have M:=aa (hx.below C.o);have N:=aa hk;have H:=aa hkl;have O:=aa hA;have hn2:(n:Int)<=1073741824:=by omega
 clear hw1 hk hkl hx hA hi hz0 hz1 hz2 hn;go_enter Tryz.func87,Tryz.ntmps87;go_wp2_with(with_reducible refine atS 9 ?_);rw[<-G.o];refine aa ?_;refine wpList_make_own w1 (o:=⟨some 9,_,_,_,_,_⟩) rfl _ _ _ rfl w1.heap.size 5 i0 (.int .u8 0) 1 ax B.o.1 B.o.2.1 B.o.2.2.1 .i64 .i64 _ (33+n) rfl rfl (by simp) (by rw[B.o.2.2.2];omega) (by unfold maxLen;omega) (Nat.le_refl _) ?_;intro w2 hown2 hg2;have I:Hd (bn w2 w1.heap.size (.slice (some ⟨w1.heap.size,0,none⟩) 0 (33+n)) []):=⟨hown2,IsB.nil⟩;have D:=aa ((Below.refl w1.heap.size w1).grown hg2 (Nat.le_refl _) (fun k hk=>by cases hk));clear hown2 hg2 G;go_wp2_with(first|(at_builtin;refine dc (o:=⟨some 11,_,_,_,_,_⟩) ax aH (w2.alloc _) rfl (.tmp 9) (.tmp 10) rfl w1.heap.size _ [] (I.o.below ((Below.refl _ _).alloc (Nat.le_refl _) _)) _ _ _ [0] (Dk w2 5 #[.int .u8 0] (0,0) [0] (IsB.one (by decide)) rfl) (fun h=>by cases h) rfl rfl (by simp) (by have:=D.o.size;simp;omega) ?_;intro v3 w3 hown3 hg3;have J:Hd (bn w3 w1.heap.size v3 [0]):=hown3;have E:=aa ((D.o.alloc D.o.size _).grown hg3 (by have:=D.o.size;simp;omega) I.o.ge);clear hown3 hg3)|(at_builtin;refine dc (o:=⟨some 14,_,_,_,_,_⟩) ax aH w3 rfl (.tmp 12) (.tmp 13) rfl w1.heap.size _ [0] J.o _ 32 32 ks (ar.whole (ab.below L.o E.o) N.o H.o) (fun h=>by cases h) rfl rfl (by simp) E.o.size ?_;intro v4 w4 hown4 hg4;have K:Hd (bn w4 w1.heap.size v4 ([0]++ks)):=hown4;have F:=aa (E.o.grown hg4 E.o.size J.o.ge);clear hown4 hg4)|(at_builtin;refine dc (o:=⟨some 16,_,_,_,_,_⟩) ax aH w4 rfl (.tmp 14) (.tmp 15) rfl w1.heap.size _ ([0]++ks) K.o A n c xs (M.o.below F.o) O.o rfl rfl (by have:=H.o;simp;omega) F.o.size ?_;intro v5 w5 hown5 hg5;have P:Hd (bn w5 w1.heap.size v5 ([0]++ks++xs)):=hown5;have Q:=aa (F.o.grown hg5 F.o.size K.o.ge);clear hown5 hg5));go_ret;refine⟨_,rfl,?_,C.o.trans (Q.o.mono C.o.size)⟩;have h:=P.o.mono C.o.size;rwa[show[0]++ks++xs=en ks xs by simp[en]]at h
theorem jQ(wd:Int)(ls rs:List Nat)(w:World)(hl:IsB ls)(hll:ls.length=32)(hr:IsB rs)(hrl:rs.length=32):Calls Tryz.prog 85 #[.int .i64 wd, .agg (bvs ls).toArray, .agg (bvs rs).toArray] w fun e w'=>∃v,e= .returned v/\bn w' w.heap.size v (aU wd ls rs)/\Below w.heap.size w w':=by
 obtain⟨i0,hi,hz0,hz1,hz2⟩:=info_parts aH;have B:=aa (And.intro hi (And.intro hz0 (And.intro hz1 hz2)));obtain⟨w1,hw1⟩:∃w1,w1=(w.alloc (.cells (bvs ls).toArray 34)).alloc (.cells (bvs rs).toArray 34):=⟨_,rfl⟩;have G:=aa hw1;have F:Hd (Below w.heap.size w w1):=by
  rw[hw1];exact((Below.refl _ _).alloc (Nat.le_refl _) _).alloc (by simp) _
 have N:Hd (ar w1 w.heap.size 34 ls):=by
  rw[hw1];exact(ab.new w _ _).alloc _
 have O:Hd (ar w1 (w.heap.size+1) 34 rs):=by
  rw[hw1];have h:=ab.new (w.alloc (.cells (bvs ls).toArray 34)) 34 (bvs rs).toArray;rwa[show(w.alloc (.cells (bvs ls).toArray 34)).heap.size=w.heap.size+1by simp]at h
 have H:=aa (And.intro hl hll);have I:=aa (And.intro hr hrl);have P:Hd (aU wd ls rs=[1]++ls.take (gj wd)++rs.take (gj wd)):=by
  show aU wd ls rs=_;simp[aU]
 have hc:=lH wd;have J:=aa (fun W=>AM wd W);clear hw1 hl hll hr hrl hi hz0 hz1 hz2;generalize gj wd=c at*;have hc2:(c:Int)<=32:=by omega
 go_enter Tryz.func85,Tryz.ntmps85;go_wp2_with fail;rw[<-G.o];refine(J.o w1).mono ?_;rintro e w'⟨rfl,rfl⟩;clear J G;go_wp2_with(first|(at_make;refine wpList_make_own w' (o:=⟨some 14,_,_,_,_,_⟩) rfl _ _ _ rfl w'.heap.size 5 i0 (.int .u8 0) 1 ax B.o.1 B.o.2.1 B.o.2.2.1 .i64 .i64 _ (1+2*c) rfl rfl (by simp) (by rw[B.o.2.2.2];omega) (by unfold maxLen;omega) (Nat.le_refl _) ?_;intro w2 hown2 hg2;have L:Hd (bn w2 w'.heap.size (.slice (some ⟨w'.heap.size,0,none⟩) 0 (1+2*c)) []):=⟨hown2,IsB.nil⟩;have C:=aa ((Below.refl w'.heap.size w').grown hg2 (Nat.le_refl _) (fun k hk=>by cases hk));clear hown2 hg2)|(at_builtin;refine dc (o:=⟨some 16,_,_,_,_,_⟩) ax aH (w2.alloc _) rfl (.tmp 14) (.tmp 15) rfl w'.heap.size _ [] (L.o.below ((Below.refl _ _).alloc (Nat.le_refl _) _)) _ _ _ [1] (Dk w2 5 #[.int .u8 1] (0,0) [1] (IsB.one (by decide)) rfl) (fun h=>by cases h) rfl rfl (by simp) (by have:=C.o.size;simp;omega) ?_;intro v3 w3 hown3 hg3;have D:Hd (bn w3 w'.heap.size v3 [1]):=hown3;have A:=aa ((C.o.alloc C.o.size _).grown hg3 (by have:=C.o.size;simp;omega) L.o.ge);clear hown3 hg3));rename_i KK hKK;have Q:=aa hKK;clear hKK;refine wp_region_held_drew (S:=fun _=>True) (by kernel_rfl) trivial fun hH=>?_;replace D:Hd (bn w3.drew w'.heap.size v3 [1]):=D.o.below (af (Below.refl _ _) 1);replace A:Hd (Below w'.heap.size w' w3.drew):=af A.o 1;generalize w3.drew=w3 at*;refine tk 0 ?_;refine tk 1 ?_;refine tk 2 ?_;refine tk 4 ?_;refine tk 5 ?_;refine rdy 3 (o:=⟨some 20,_,_,_,_,_⟩) fun K hK=>?_;refine kS (o:=⟨some 20,_,_,_,_,_⟩) ax aH (by kernel_rfl) w3 (.tmp 17) (.tmp 19) rfl w'.heap.size _ [1] D.o _ c 32 (ls.take c) ((ar.whole (ab.below N.o A.o) H.o.1 H.o.2).take (by omega)) rfl rfl (by simp;omega) A.o.size ?_;intro v4 w4 hown4 hg4;have M:Hd (bn w4 w'.heap.size v4 ([1]++ls.take c)):=hown4;have E:=aa (A.o.grown hg4 A.o.size D.o.ge);refine hK.out _ _ trivial (fun hH4=>?_);clear hK hown4 hg4 hH;refine rdy 6 (o:=⟨some 23,_,_,_,_,_⟩) fun K hK=>?_;refine kS (o:=⟨some 23,_,_,_,_,_⟩) ax aH (by kernel_rfl) w4 (.tmp 20) (.tmp 22) rfl w'.heap.size _ ([1]++ls.take c) M.o _ c 32 (rs.take c) ((ar.whole (ab.below O.o E.o) I.o.1 I.o.2).take (by omega)) rfl rfl (by simp;omega) E.o.size ?_;intro v5 w5 hown5 hg5;have R:Hd (bn w5 w'.heap.size v5 ([1]++ls.take c++rs.take c)):=hown5;have T:=aa (E.o.grown hg5 E.o.size M.o.ge);refine hK.out _ _ trivial (fun hH5=>?_);clear hK hown5 hg5 hH4;refine tk 7 ?_;refine bN ?_;change KK _ _;refine Q.o _ _ ?_;go_wp2_with fail;go_ret;refine⟨_,rfl,?_,F.o.trans (T.o.mono F.o.size)⟩;rw[P.o];exact R.o.mono F.o.size
theorem jI(wd:Int)(ls rs:List Nat)(w:World)(hl:IsB ls)(hll:ls.length=32)(hr:IsB rs)(hrl:rs.length=32)(ht:eY w):Calls Tryz.prog 49 #[.int .i64 wd, .agg (bvs ls).toArray, .agg (bvs rs).toArray] w fun e w'=>e= .returned (.agg (bvs (aZ wd (aU wd ls rs))).toArray)/\Below w.heap.size w w':=by
 have H:=aa (And.intro hl hll);have I:=aa (And.intro hr hrl);have J:=aa ht;have K:=aa (fun W=>jQ wd ls rs W hl hll hr hrl);have L:Hd ((aU wd ls rs).length<=65):=by
  have:=lH wd;show(aU wd ls rs).length<=65;simp[aU];omega
 obtain⟨tx,C⟩:∃tx,Hd (aU wd ls rs=tx):=⟨_,rfl⟩;rw[C.o]at K L;have D:Hd (aZ wd (aU wd ls rs)=jp (kY tx) wd):=by
  show aZ wd _=_;rw[C.o];rfl
 have B:=aa (And.intro (iw tx) (cS tx));obtain⟨sx,M⟩:∃sx,Hd (kY tx=sx):=⟨_,rfl⟩;rw[M.o]at D B;have E:=aa (And.intro (gI B.o.1 wd) (bI B.o.2 wd));have N:=aa (fun W=>sd sx wd W B.o.1 B.o.2);obtain⟨cx,O⟩:∃cx,Hd (jp sx wd=cx):=⟨_,rfl⟩;rw[O.o]at D E N;clear hl hll hr hrl ht C O;go_enter Tryz.func49,Tryz.ntmps49;go_wp2_with(with_reducible refine atS 8 ?_);refine fC (G:=fun w2=>Hd (wpList _ _ _ _ _ w2)) fun w2 P Q R F U=>?_;have V:Hd (ar w2 w.heap.size 34 ls):=P;have X:Hd (ar w2 (w.heap.size+1) 34 rs):=Q;have Y:Hd (ar w2 (w.heap.size+1+1) 34 (zs 32)):=R;have Z:=aa (J.o.below F.o);clear P Q R U J;refine aa ?_;go_wp2_with(first|(refine ac (o:=⟨some 8,_,_,_,_,_⟩) (by rfl) 34 (.tmp 4) rfl ⟨w.heap.size,0,none⟩ 32 ls rfl (V.o.whole H.o.1 H.o.2) (by omega) aF ag ?_)|(refine ac (o:=⟨some 9,_,_,_,_,_⟩) (by rfl) 34 (.tmp 5) rfl ⟨w.heap.size+1,0,none⟩ 32 rs rfl (X.o.whole I.o.1 I.o.2) (by omega) aF ag ?_)|(go_at_call 85;((refine(K.o w2).mono ?_);rintro e w3⟨v,rfl,ho,hb⟩;obtain⟨A,c,rfl,hrd,_,_,hcap⟩:=ho.form;have a:=aa hrd;have S:=aa (F.o.trans (hb.mono F.o.size));have b:=aa (ab.below Y.o hb);have d:=aa (Z.o.below hb);have f:=aa hcap;clear ho hb hrd hcap))|(go_at_call 84;((refine(pD A _ c tx w3 a.o f.o (by have:=L.o;omega) d.o).mono ?_);rintro e w4⟨rfl,hb⟩;rw[M.o];have T:=aa (S.o.trans (hb.mono S.o.size));have h:=aa (ab.below b.o hb);clear hb))|(go_at_call 83;((refine(N.o w4).mono ?_);rintro e w5⟨rfl,hb⟩;have i:=aa (T.o.trans (hb.mono T.o.size));have j:Hd (ar w5 (w.heap.size+1+1) 34 (zs 32)):=(ab.below h.o hb);clear hb))|(refine iW (o:=⟨none,_,_,_,_,_⟩) (by rfl) 34 (.tmp 6) (.tmp 13) rfl (w.heap.size+1+1) 32 cx (zs 32) 34 rfl rfl j.o ag E.o.2 (ak 32) w.heap.size w i.o (by omega) ?_;intro wf k l));exact bH (g:=w.heap.size+1+1) (n:=32) rfl rfl k.o E.o.2 aF ag rfl ⟨by rw[D.o],l⟩
theorem tU(wd:Int)(ks:List Nat)(A:Option Addr)(n c:Nat)(xs:List Nat)(w:World)(hk:IsB ks)(hkl:ks.length=32)(hx:RB w A n xs)(hA:A=none->c=0)(hn:n<=1073741824)(ht:eY w):Calls Tryz.prog 51 #[.int .i64 wd, .agg (bvs ks).toArray, .slice A n c] w fun e w'=>e= .returned (.agg (bvs (aZ wd (en ks xs))).toArray)/\Below w.heap.size w w':=by
 have H:=aa (And.intro hk hkl);have I:=aa ht;have J:=aa hx;have K:=aa (fun W h=>l9 ks A n c xs W hk hkl h hA hn);have L:Hd ((en ks xs).length<=1073741900):=by
  show(en ks xs).length<=_;simp[en,hkl,hx.1];omega
 obtain⟨tx,D⟩:∃tx,Hd (en ks xs=tx):=⟨_,rfl⟩;rw[D.o]at K L;have E:Hd (aZ wd (en ks xs)=jp (kY tx) wd):=by
  show aZ wd _=_;rw[D.o];rfl
 have B:=aa (And.intro (iw tx) (cS tx));obtain⟨sx,M⟩:∃sx,Hd (kY tx=sx):=⟨_,rfl⟩;rw[M.o]at E B;have F:=aa (And.intro (gI B.o.1 wd) (bI B.o.2 wd));have N:=aa (fun W=>sd sx wd W B.o.1 B.o.2);obtain⟨cx,O⟩:∃cx,Hd (jp sx wd=cx):=⟨_,rfl⟩;rw[O.o]at E F N;clear hk hkl ht D O hx hA hn;go_enter Tryz.func51,Tryz.ntmps51;go_wp2_with(with_reducible refine atS 7 ?_);refine bV (G:=fun w2=>Hd (wpList _ _ _ _ _ w2)) fun w2 P Q C T=>?_;have U:Hd (ar w2 w.heap.size 37 ks):=P;have V:Hd (ar w2 (w.heap.size+1) 34 (zs 32)):=Q;have X:=aa (I.o.below C.o);have Y:=aa (J.o.below C.o);clear P Q T I J;refine aa ?_;go_wp2_with(first|(refine ac (o:=⟨some 7,_,_,_,_,_⟩) (by rfl) 37 (.tmp 4) rfl ⟨w.heap.size,0,none⟩ 32 ks rfl (U.o.whole H.o.1 H.o.2) (by omega) fz aB ?_)|(go_at_call 87;((refine(K.o w2 Y.o).mono ?_);rintro e w3⟨v,rfl,ho,hb⟩;obtain⟨A2,c2,rfl,hrd,_,_,hcap⟩:=ho.form;have Z:=aa hrd;have R:=aa (C.o.trans (hb.mono C.o.size));have a:=aa (ab.below V.o hb);have b:=aa (X.o.below hb);have d:=aa hcap;clear ho hb hrd hcap))|(go_at_call 84;((refine(pD A2 _ c2 tx w3 Z.o d.o (by have:=L.o;omega) b.o).mono ?_);rintro e w4⟨rfl,hb⟩;rw[M.o];have S:=aa (R.o.trans (hb.mono R.o.size));have f:=aa (ab.below a.o hb);clear hb))|(go_at_call 83;((refine(N.o w4).mono ?_);rintro e w5⟨rfl,hb⟩;have i:=aa (S.o.trans (hb.mono S.o.size));have j:Hd (ar w5 (w.heap.size+1) 34 (zs 32)):=(ab.below f.o hb);clear hb))|(refine iW (o:=⟨none,_,_,_,_,_⟩) (by rfl) 34 (.tmp 6) (.tmp 12) rfl (w.heap.size+1) 32 cx (zs 32) 34 rfl rfl j.o ag F.o.2 (ak 32) w.heap.size w i.o (by omega) ?_;intro wf k l));exact bH (g:=w.heap.size+1) (n:=32) rfl rfl k.o F.o.2 aF ag rfl ⟨by rw[E.o],l⟩
theorem yg(w:World):Calls Tryz.prog 86 #[.int .i64 0, .int .i64 0, .int .i64 256] w fun e w'=>e= .returned (.int .i64 0)/\w'=w:=by
 go_enter Tryz.func86,Tryz.ntmps86;go_wp2_with fail;go_ret;exact⟨rfl,rfl⟩
theorem mY(wd:Int)(w:World)(ht:eY w):Calls Tryz.prog 50 #[.int .i64 wd, .int .i64 0] w fun e w'=>e= .returned (.agg (bvs (ay wd 0)).toArray)/\Below w.heap.size w w':=by
 have H:=aa ht;have C:Hd (ay wd 0=jp (kY [2]) wd):=rfl;have B:=aa (And.intro (iw [2]) (cS [2]));have D:Hd (∀W,RB W (some ⟨w.heap.size+1,0,none⟩) 1 [2]->eY W->Calls Tryz.prog 84 #[.slice (some ⟨w.heap.size+1,0,none⟩) 1 1] W fun e w'=>e= .returned (.agg (bvs (kY [2])).toArray)/\Below W.heap.size W w'):=fun W h h2=>pD _ 1 1 [2] W h (by omega) (by omega) h2;obtain⟨sx,I⟩:∃sx,Hd (kY [2]=sx):=⟨_,rfl⟩;rw[I.o]at C B D;have A:=aa (And.intro (gI B.o.1 wd) (bI B.o.2 wd));have J:=aa (fun W=>sd sx wd W B.o.1 B.o.2);obtain⟨cx,K⟩:∃cx,Hd (jp sx wd=cx):=⟨_,rfl⟩;rw[K.o]at C A J;clear ht K;go_enter Tryz.func50,Tryz.ntmps50;go_wp2_with fail;refine bV (G:=fun w2=>Calls _ _ _ w2 _) fun w2 L M E R=>?_;have F:Hd (ar w2 w.heap.size 34 (zs 32)):=L;have N:Hd (ar w2 (w.heap.size+1) 5 [2]):=M;have O:=aa (N.o.whole (IsB.one (by decide)) rfl);refine(D.o w2 O.o (H.o.below E.o)).mono ?_;rintro e w3⟨rfl,hb⟩;have P:=aa (E.o.trans (hb.mono E.o.size));have S:=aa (ab.below F.o hb);have c:Hd (w.heap.size<w2.heap.size):=F.o.lt;clear hb L M N O F D R H I;go_wp2_with(first|(go_at_call 83;((refine(J.o w3).mono ?_);rintro e w4⟨rfl,hb⟩;have Q:=aa (P.o.trans (hb.mono P.o.size));have T:Hd (ab w4 w.heap.size 34 (gZ 32)):=(ab.below S.o hb);clear hb))|((with_reducible refine atS 5 ?_);refine aC (by rfl) 34 rfl _ _ aD ?_;intro w5 U V d)|((with_reducible refine atS 10 ?_);fail)|(refine iW (o:=⟨none,_,_,_,_,_⟩) (by rfl) 34 (.tmp 5) (.tmp 9) rfl w4.heap.size 32 cx (zs 32) 34 rfl rfl U.o ag A.o.2 (ak 32) w4.heap.size w4 V.o (Nat.le_refl _) ?_;intro w6 X hb6;have Y:=aa (Q.o.trans (hb6.mono Q.o.size));have Z:Hd (ar w6 w.heap.size 34 (zs 32)):=(ab.below T.o hb6);clear hb6));refine(yg w6).mono ?_;rintro e w7⟨rfl,rfl⟩;go_wp2_with fail;refine wp_loop_rounds 1 ?_;rw[rounds_succ];go_wp2_with(first|(refine ac (o:=⟨some 19,_,_,_,_,_⟩) (by rfl) 34 (.tmp 5) rfl ⟨w4.heap.size,0,none⟩ 32 cx rfl (ar.whole X.o A.o.1 A.o.2) (by omega) aF ag ?_)|(refine iW (o:=⟨none,_,_,_,_,_⟩) (by rfl) 34 (.tmp 4) (.tmp 19) rfl w.heap.size 32 cx (zs 32) 34 rfl rfl Z.o ag A.o.2 (ak 32) w.heap.size w Y.o (Nat.le_refl _) ?_;intro wf a b));exact bH (g:=w.heap.size) (n:=32) rfl rfl a.o A.o.2 aF ag rfl ⟨by rw[C.o],b⟩
end Go.Proofs.YtfnlhfaihoojfaaGreatDoor
