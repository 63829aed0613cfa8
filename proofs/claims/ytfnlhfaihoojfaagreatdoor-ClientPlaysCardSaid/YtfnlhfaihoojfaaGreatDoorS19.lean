/- Texts of the proof of ledgerlaw13.ClientPlays, part 19; no condition of its own. -/
import Derived.Test.YtfnlhfaihoojfaaGreatDoorS18
set_option maxRecDepth 100000
set_option maxHeartbeats 4000000
namespace Go.Proofs.YtfnlhfaihoojfaaGreatDoor
def lst(X:Nat->Chg)(n:Nat):List Chg:=(List.range n).map X
def Dr(l:List Chg):Nat->Chg:=fun i=>l.getD i default
theorem ez(X:Nat->Chg)(n:Nat):(lst X n).length=n:=by simp[lst]
theorem eN{X:Nat->Chg}{n i:Nat}(h:i<n):(lst X n).getD i default=X i:=by
 simp[lst,List.getD,List.getElem?_map,List.getElem?_range h]
theorem BN(l:List Chg):lst (Dr l) l.length=l:=by
 apply List.ext_getElem?;intro i;rcases Nat.lt_or_ge i l.length with h|h
 ·simp[lst,Dr,List.getElem?_map,List.getElem?_range h,List.getD,List.getElem?_eq_getElem h]
 ·rw[List.getElem?_eq_none (by rw[ez];exact h),List.getElem?_eq_none h]
theorem jv(X:Nat->Chg)(n:Nat):lst X (n+1)=lst X n++[X n]:=by simp[lst,List.range_succ]
theorem yX{X Y:Nat->Chg}{n:Nat}(h:∀i,i<n->X i=Y i):lst X n=lst Y n:=by
 unfold lst;exact List.map_congr_left fun i hi=>h i (List.mem_range.1 hi)
theorem i5{X:Nat->Chg}{n:Nat}{x:Chg}:x∈lst X n↔∃i,i<n/\X i=x:=by simp[lst]
theorem xI(X:Nat->Chg)(h n:Nat):lst X (h+n)=lst X h++lst (fun i=>X (h+i)) n:=by
 induction n with
 |zero=>simp[lst]
 |succ n ih=>rw[<-Nat.add_assoc,jv,ih,jv,List.append_assoc]
def bR(x:Chg):Chg:=if x.del then⟨x.key,true,[]⟩else x
theorem ew(x:Chg):(bR x).key=x.key:=by
 unfold bR;split<;>rfl
def Ez(a b:Chg):Prop:=eJ a.key<=eJ b.key
def leC(a b:Chg):Bool:=decide (eJ a.key<=eJ b.key)
theorem rV(a b:Chg):leC a b=true↔Ez a b:=by simp[leC,Ez]
def dG(l:List Chg):Prop:=l.Pairwise Ez
theorem ro{a b:List Chg}(ha:dG a)(hb:dG b):dG (a.merge b leC):=by
 have h:=List.pairwise_merge (le:=leC) (fun x y z h1 h2=>by simp[leC]at*;omega) (fun x y=>by simp[leC];omega) a b (ha.imp fun h=>(rV _ _).2 h) (hb.imp fun h=>(rV _ _).2 h);exact h.imp fun h=>(rV _ _).1 h
theorem im{l:List Chg}:List.merge [] l leC=l/\List.merge l [] leC=l:=by simp
theorem oB{a b:List Chg}{x y:Chg}:List.merge (x::a) (y::b) leC=if eJ x.key<=eJ y.key then x::List.merge a (y::b) leC else y::List.merge (x::a) b leC:=by
 rw[List.cons_merge_cons];simp[leC]
def uH(x:Chg):Prop:=IsB x.key/\x.key.length=32
theorem mR{l:List Chg}(h:dG l){i j:Nat}(hij:i<j)(hj:j<l.length):eJ (l.getD i default).key<=eJ (l.getD j default).key:=by
 have:=List.pairwise_iff_getElem.1 h i j (by omega) hj hij;simpa[List.getD,List.getElem?_eq_getElem hj,List.getElem?_eq_getElem (show i<l.length by omega),Ez]using this
def nM(l:List Chg):Nat->Bool
 |0=>false
 |n+1=>nM l n||(decide (0<n)&&decide ((l.getD n default).key=(l.getD (n-1) default).key))
theorem si{l:List Chg}{n i:Nat}(h:i<n)(h0:0<i)(he:(l.getD i default).key=(l.getD (i-1) default).key):nM l n=true:=by
 induction n with
 |zero=>omega
 |succ n ih=>
  rw[nM];by_cases e:i=n
  ·subst e;rw[decide_eq_true h0,decide_eq_true he];simp
  ·rw[ih (by omega),Bool.true_or]
theorem Ew{l:List Chg}{n:Nat}(h:nM l n=true):∃i,0<i/\i<n/\(l.getD i default).key=(l.getD (i-1) default).key:=by
 induction n with
 |zero=>simp[nM]at h
 |succ n ih=>
  rw[nM,Bool.or_eq_true,Bool.and_eq_true]at h;rcases h with h|⟨h1,h2⟩
  ·obtain⟨i,a,b,c⟩:=ih h;exact⟨i,a,by omega,c⟩
  ·exact⟨n,of_decide_eq_true h1,by omega,of_decide_eq_true h2⟩
def br(l:List Chg):List (List Nat):=l.map (·.key)
theorem kJ{X:Nat->Chg}{n:Nat}:0<=pQ X n↔¬(br (lst X n)).Nodup:=by
 induction n with
 |zero=>simp[pQ,lst,br]
 |succ n ih=>
  have hk:∀m,mE X (X n).key m=true↔∃i,i<m/\(X n).key=(X i).key:=fun m=>by
   induction m with
   |zero=>simp[mE]
   |succ m ihm=>
    rw[mE,Bool.or_eq_true,ihm];constructor
    ·rintro(⟨i,h1,h2⟩|h)
     ·exact⟨i,by omega,h2⟩
     ·exact⟨m,by omega,of_decide_eq_true h⟩
    ·rintro⟨i,h1,h2⟩;by_cases e:i=m
     ·subst e;exact .inr (decide_eq_true h2)
     ·exact .inl ⟨i,by omega,h2⟩
  have hs:br (lst X (n+1))=br (lst X n)++[(X n).key]:=by simp[br,jv]
  have hm:(X n).key∈br (lst X n)↔mE X (X n).key n=true:=by
   rw[hk];simp[br,lst,eq_comm]
  rw[hs,List.nodup_append,pQ];by_cases h1:0<=pQ X n
  ·rw[if_pos h1];exact⟨fun _ h=>(ih.1 h1) h.1,fun _=>h1⟩
  ·rw[if_neg h1];have h2:(br (lst X n)).Nodup:=Classical.byContradiction fun h=>h1 (ih.2 h);by_cases h3:mE X (X n).key n=true
   ·rw[if_pos h3];refine⟨fun _ h=>h.2.2 _ (hm.2 h3) _ (by simp) rfl,fun _=>by omega⟩
   ·rw[if_neg h3];refine⟨fun h=>absurd h (by decide),fun h=>absurd ⟨h2,by simp,fun a ha b hb=>?_⟩ h⟩;simp at hb;subst hb;exact fun e=>h3 (hm.1 (e▸ha))
theorem vK{a b:List Chg}(h:a.Perm b):(br a).Nodup↔(br b).Nodup:=(h.map _).nodup_iff
theorem zU{l:List Chg}(h:dG l)(hg:∀x,x∈l->uH x):nM l l.length=true↔¬(br l).Nodup:=by
 have hmem:∀i,i<l.length->l.getD i default∈l:=fun i hi=>by
  rw[List.getD,List.getElem?_eq_getElem hi];exact List.getElem_mem hi
 have hkey:∀i(hi:i<l.length),(br l)[i]'(by simpa[br]using hi)=(l.getD i default).key:=fun i hi=>by
  simp[br,List.getD,List.getElem?_eq_getElem hi]
 constructor
 ·intro ha hn;obtain⟨i,h0,hi,he⟩:=Ew ha;have:=List.pairwise_iff_getElem.1 hn (i-1) i (by simp[br];omega) (by simpa[br]using hi) (by omega);rw[hkey _ (by omega),hkey _ hi]at this;exact this he.symm
 ·intro hn;cases hc:nM l l.length with
  |true=>rfl
  |false=>
   exfalso;apply hn;refine List.pairwise_iff_getElem.2 fun i j hi hj hij e=>?_;have hi':i<l.length:=by simpa[br]using hi
   have hj':j<l.length:=by simpa[br]using hj
   rw[hkey _ hi',hkey _ hj']at e;have h1:eJ (l.getD (j-1) default).key<=eJ (l.getD j default).key:=mR h (by omega) hj';have h2:eJ (l.getD i default).key<=eJ (l.getD (j-1) default).key:=by
    by_cases e2:i=j-1
    ·rw[<-e2];exact Nat.le_refl _
    ·exact mR h (by omega) (by omega)
   have g1:=hg _ (hmem _ hj');have g2:=hg _ (hmem (j-1) (by omega));have e3:(l.getD j default).key=(l.getD (j-1) default).key:=tQ g1.1 g2.1 g1.2 g2.2 (by rw[e]at h2;omega);rw[si hj' (by omega) e3]at hc;cases hc
theorem kV:∀{a b:List Chg},a.Perm b->dG a->dG b->(∀x,x∈a->uH x)->(br a).Nodup->a=b
 |[],b,hp,_,_,_,_=>by rw[List.nil_perm.1 hp]
 |x::a,b,hp,ha,hb,hg,hn=>by
  cases b with
  |nil=>exact absurd hp.length_eq (by simp)
  |cons y b=>
   have hxy:x=y:=by
    have hx:x∈y::b:=hp.subset List.mem_cons_self;have hy:y∈x::a:=hp.symm.subset List.mem_cons_self;rcases List.mem_cons.1 hx with h|h
    ·exact h
    ·rcases List.mem_cons.1 hy with h'|h'
     ·exact h'.symm
     ·have h1:=(List.pairwise_cons.1 hb).1 x h;have h2:=(List.pairwise_cons.1 ha).1 y h';have g1:=hg x List.mem_cons_self;have g2:=hg y (List.mem_cons_of_mem _ h');have e:=tQ g1.1 g2.1 g1.2 g2.2 (by unfold Ez at h1 h2;omega);have h3:=(List.pairwise_cons.1 hn).1 y.key (List.mem_map_of_mem (f:=(·.key)) h');exact absurd e h3
   subst hxy;have:=kV ((List.perm_cons _).1 hp) (List.pairwise_cons.1 ha).2 (List.pairwise_cons.1 hb).2 (fun z hz=>hg z (List.mem_cons_of_mem _ hz)) (List.pairwise_cons.1 hn).2;rw[this]
def jK(m:List Chg)(h b:Nat):List Chg:=m.filter fun x=>decide (cU x.key (255-h)=b)
def nJ(w:Int):Nat->List Chg->List Nat
 |0,m=>aZ w (match m with|[]=>[2]|x::_=>en x.key x.val)
 |h+1,m=>aZ w (aU w (nJ w h (jK m h 0)) (nJ w h (jK m h 1)))
theorem mO(w:Int)(h:Nat)(m:List Chg):nJ w (h+1) m=aZ w (aU w (nJ w h (jK m h 0)) (nJ w h (jK m h 1))):=rfl
theorem fh(w:Int)(h:Nat)(m:List Chg):(nJ w h m).length=32/\IsB (nJ w h m)/\eZ w (nJ w h m)=true:=by
 cases h<;>exact⟨aw _ _,aY _ _,jE _ _⟩
theorem pj(w:Int)(h:Nat):nJ w h []=ay w h:=by
 induction h with
 |zero=>rfl
 |succ h ih=>
  rw[mO,show jK [] h 0=[]from rfl,show jK [] h 1=[]from rfl,ih];rfl
theorem lJ(k:List Nat)(i:Nat):cU k i<2:=Ek _ _
theorem qo(x:Chg)(h b:Nat):jK [x] h b=if cU x.key (255-h)=b then[x]else[]:=by
 unfold jK;by_cases e:cU x.key (255-h)=b<;>simp[e]
theorem tH(w:Int)(x:Chg)(h:Nat):nJ w h [x]=bd w x.key (aZ w (en x.key x.val)) (ay w) h:=by
 induction h with
 |zero=>rfl
 |succ h ih=>
  rw[mO,qo,qo,bd];unfold upT aI;have:=lJ x.key (255-h);by_cases e:cU x.key (255-h)=0
  ·simp[e,ih,pj]
  ·have e1:cU x.key (255-h)=1:=by omega
   simp[e1,ih,pj]
def rL(a b:List Nat):Nat->Nat
 |0=>0
 |n+1=>if rL a b n=n/\cU a n=cU b n then n+1 else rL a b n
def eS(a b:List Nat):Nat:=rL a b 256
theorem kA(a b:List Nat)(n:Nat):rL a b n<=n:=by
 induction n with
 |zero=>exact Nat.le_refl _
 |succ n ih=>rw[rL];split<;>omega
theorem mt{a b:List Nat}{n m:Nat}(hm:m<=n):m<=rL a b n↔∀j,j<m->cU a j=cU b j:=by
 induction n generalizing m with
 |zero=>
  obtain rfl:m=0:=by omega
  simp
 |succ n ih=>
  have hle:=kA a b n;rw[rL];by_cases hs:m<=n
  ·rw[<-ih hs];split<;>omega
  ·obtain rfl:m=n+1:=by omega
   have h1:=ih (Nat.le_refl n);constructor
   ·intro h;split at h
    ·rename_i hc;intro j hj;rcases Nat.lt_or_ge j n with hj'|hj'
     ·exact h1.1 (by omega) j hj'
     ·obtain rfl:j=n:=by omega
      exact hc.2
    ·omega
   ·intro h;rw[if_pos ⟨by have:=h1.2 fun j hj=>h j (by omega);omega,h n (by omega)⟩];exact Nat.le_refl _
theorem jZ(a b:List Nat):eS a b<=256:=kA a b 256
theorem dH{a b:List Nat}{n:Nat}(hn:n<=256):n<=eS a b↔∀j,j<n->cU a j=cU b j:=mt hn
theorem qQ{a b:List Nat}{n:Nat}(hn:n<256):n+1<=eS a b↔n<=eS a b/\cU a n=cU b n:=by
 rw[dH (show n+1<=256by omega),dH (show n<=256by omega)];constructor
 ·exact fun h=>⟨fun j hj=>h j (by omega),h n (by omega)⟩
 ·rintro⟨h,h2⟩j hj;rcases Nat.lt_or_ge j n with hj'|hj'
  ·exact h j hj'
  ·obtain rfl:j=n:=by omega
   exact h2
theorem xN{a b:List Nat}{n:Nat}(hn:n<256):eS a b=n↔n<=eS a b/\cU a n≠cU b n:=by
 have h1:=qQ (a:=a) (b:=b) hn;constructor
 ·intro h;exact⟨by omega,fun e=>by have:=h1.2 ⟨by omega,e⟩;omega⟩
 ·rintro⟨h,h2⟩;have:¬n+1<=eS a b:=fun h3=>h2 (h1.1 h3).2;omega
theorem kC{a b:List Nat}(ha:IsB a)(hal:a.length=32)(hb:IsB b)(hbl:b.length=32):eS a b=256↔a=b:=by
 constructor
 ·intro h;by_cases e:a=b
  ·exact e
  ·exfalso;obtain⟨i,hi⟩:=lG hal hbl e;obtain⟨h1,_,h3⟩:=pE ha hb hi;have h4:=(dH (a:=a) (b:=b) (Nat.le_refl 256)).1 (by omega) _ h1;omega
 ·rintro rfl;have:=(dH (a:=a) (b:=a) (Nat.le_refl 256)).2 fun _ _=>rfl;have:=jZ a a;omega
def dm(f:Nat->Bool):Nat->List Nat
 |0=>zs 32
 |n+1=>if f n then(dm f n).set (n/8) ((dm f n).getD (n/8) 0+2^(n%8))else dm f n
def dt(f:Nat->Bool)(g:Nat->List Nat):Nat->List (List Nat)
 |0=>[]
 |n+1=>if f n then dt f g n++[g n]else dt f g n
def kj(f:Nat->Bool)(i:Nat):Nat->Nat
 |0=>0
 |c+1=>kj f i c+if f (8*i+c)then 2^c else 0
theorem kD(f:Nat->Bool)(i c:Nat):kj f i c<2^c:=by
 induction c with
 |zero=>simp[kj]
 |succ c ih=>
  rw[kj,Nat.pow_succ];split<;>omega
theorem zJ(f:Nat->Bool)(i c j:Nat):decide (kj f i c/2^j%2=1)=(decide (j<c)&&f (8*i+j)):=by
 induction c with
 |zero=>simp[kj]
 |succ c ih=>
  have hlt:=kD f i c;rw[kj];rcases Nat.lt_trichotomy j c with hj|hj|hj
  ·have e:(kj f i c+if f (8*i+c)then 2^c else 0)/2^j%2=kj f i c/2^j%2:=by
    split
    ·rw[show c=j+(c-j-1+1)by omega,Nat.pow_add,Nat.pow_succ,Nat.add_mul_div_left _ _ (Nat.two_pow_pos j),show j+(c-j-1+1)=c by omega];omega
    ·rw[Nat.add_zero]
   rw[e,ih];simp[hj,show j<c+1by omega]
  ·subst hj;have e:(kj f i j+if f (8*i+j)then 2^j else 0)/2^j=if f (8*i+j)then 1 else 0:=by
    split
    ·rw[Nat.add_div_right _ (Nat.two_pow_pos j),Nat.div_eq_of_lt hlt]
    ·rw[Nat.add_zero,Nat.div_eq_of_lt hlt]
   rw[e];cases f (8*i+j)<;>simp
  ·have h2:(kj f i c+if f (8*i+c)then 2^c else 0)<2^(c+1):=kD f i (c+1);rw[Nat.div_eq_of_lt (Nat.lt_of_lt_of_le h2 (Nat.pow_le_pow_right (by decide) (show c+1<=j by omega)))];simp[show¬j<c+1by omega]
theorem cK(f:Nat->Bool)(n:Nat):(dm f n).length=32:=by
 induction n with
 |zero=>exact ak _
 |succ n ih=>
  rw[dm];split
  ·rw[List.length_set,ih]
  ·exact ih
theorem mv(f:Nat->Bool){n i:Nat}(hn:n<=256)(hi:i<32):(dm f n).getD i 0=kj f i (min 8 (n-8*i)):=by
 induction n with
 |zero=>
  rw[Nat.zero_sub,Nat.min_zero];exact xb 32 _ (bL (by rw[ak];exact hi))
 |succ n ih=>
  have ih:=ih (by omega);rw[dm];by_cases hf:f n=true
  ·rw[if_pos hf];by_cases e:n/8=i
   ·subst e;rw[List.getD_eq_getElem?_getD,List.getElem?_set_self (by rw[cK];exact hi),Option.getD_some,ih,show min 8 (n-8*(n/8))=n%8by omega,show min 8 (n+1-8*(n/8))=n%8+1by omega,kj,show 8*(n/8)+n%8=n by omega,if_pos hf]
   ·rw[List.getD_eq_getElem?_getD,List.getElem?_set_ne e,<-List.getD_eq_getElem?_getD,ih];rcases Nat.lt_or_ge n (8*i)with h|h
    ·rw[show n-8*i=0 by omega,show n+1-8*i=0 by omega]
    ·rw[show min 8 (n-8*i)=8by omega,show min 8 (n+1-8*i)=8by omega]
  ·rw[if_neg hf,ih];by_cases e:n/8=i
   ·subst e;rw[show min 8 (n-8*(n/8))=n%8by omega,show min 8 (n+1-8*(n/8))=n%8+1by omega,kj,show 8*(n/8)+n%8=n by omega,if_neg hf,Nat.add_zero]
   ·rcases Nat.lt_or_ge n (8*i)with h|h
    ·rw[show n-8*i=0 by omega,show n+1-8*i=0 by omega]
    ·rw[show min 8 (n-8*i)=8by omega,show min 8 (n+1-8*i)=8by omega]
theorem zQ(f:Nat->Bool){n j:Nat}(hn:n<=256)(hj:j<256):gM (dm f n) j=(decide (j<n)&&f j):=by
 unfold gM;rw[mv f hn (by omega),zJ,show 8*(j/8)+j%8=j by omega];congr 1;rw[decide_eq_decide];omega
theorem qY(f:Nat->Bool){n:Nat}(hn:n<=256):IsB (dm f n):=fun x hx=>by
 obtain⟨i,hi,rfl⟩:=List.getElem_of_mem hx;rw[cK]at hi;have h1:=mv f hn hi;rw[List.getD_eq_getElem?_getD,List.getElem?_eq_getElem (by rw[cK];exact hi),Option.getD_some]at h1;rw[h1];exact Nat.lt_of_lt_of_le (kD _ _ _) (Nat.pow_le_pow_right (by decide) (Nat.min_le_left 8 _))
def EG(f:Nat->Bool):Nat->Nat
 |0=>0
 |n+1=>EG f n+if f n then 1 else 0
theorem zC(f:Nat->Bool){n:Nat}(hn:n<=256):ek (dm f 256) n=EG f n:=by
 induction n with
 |zero=>rfl
 |succ n ih=>
  rw[ek,EG,ih (by omega),zQ f (Nat.le_refl _) (by omega),decide_eq_true (show n<256by omega),Bool.true_and]
theorem rm(f:Nat->Bool)(g:Nat->List Nat)(n:Nat):(dt f g n).length=EG f n:=by
 induction n with
 |zero=>rfl
 |succ n ih=>
  rw[dt,EG];split
  ·rw[List.length_append,ih];rfl
  ·exact ih
theorem qn(f:Nat->Bool)(g:Nat->List Nat){n:Nat}{s:List Nat}(h:s∈dt f g n):∃i,i<n/\s=g i:=by
 induction n with
 |zero=>cases h
 |succ n ih=>
  rw[dt]at h;split at h
  ·rcases List.mem_append.1 h with h|h
   ·obtain⟨i,a,b⟩:=ih h;exact⟨i,by omega,b⟩
   ·exact⟨n,by omega,by simpa using h⟩
  ·obtain⟨i,a,b⟩:=ih h;exact⟨i,by omega,b⟩
def prU(w:Int)(found:Bool)(val:List Nat)(g:Nat->List Nat)(n:Nat):Pr:=⟨found,val,dm (fun h=>decide (g h≠ay w h)) n,dt (fun h=>decide (g h≠ay w h)) g n⟩
section
variable{w:Int}{found:Bool}{val:List Nat}{g:Nat->List Nat}
theorem EU(hv:IsB val)(hl:val.length<=128)(hn:found=false->val=[])(hg:∀h,h<256->IsB (g h)/\(g h).length=32):(prU w found val g 256).Ok where
 vB:=hv
 vl:=hl
 vn:=hn
 bB:=qY _ (Nat.le_refl _)
 bl:=cK _ _
 sB:=fun s hs=>by
  obtain⟨i,hi,rfl⟩:=qn _ _ hs;exact hg i hi
 sl:=by
  show(dt (fun h=>decide (g h≠ay w h)) g 256).length=cW (dm (fun h=>decide (g h≠ay w h)) 256);rw[fV (cK _ _),rm];exact(zC _ (Nat.le_refl _)).symm
end
section
variable{w:Int}{m:List Chg}{k:List Nat}
end
open Go.RowKit
theorem xD{e:TypeId}{w:World}{base n c:Nat}{A:Option Addr}{xs:List Nat}(h:Own e w base (.slice A n c) xs):c<=maxLen:=by
 rcases h.1.2with⟨e1,_⟩|⟨g,cap,cur,e1,_,_,_,hm,_⟩
 ·injection e1 with _ _ e3;rw[e3];exact Nat.zero_le _
 ·injection e1 with _ _ e3;rw[e3];exact hm
def Dl(N:Nat)(X:Nat->Chg)(w:World)(e:Ending)(w':World):Prop:=∃v Ad Cp,e= .returned v/\bJ w' w.heap.size v N X Ad Cp/\Below w.heap.size w w'
theorem bJ.congr{w:World}{base n:Nat}{v:Value}{X X':Nat->Chg}{Ad:Nat->Option Addr}{Cp:Nat->Nat}(h:bJ w base v n X Ad Cp)(he:∀i,i<n->X i=X' i):bJ w base v n X' Ad Cp:={
  own:=by rw[<-eo (X:=X) (Ad:=Ad) (Cp:=Cp) fun i hi=>⟨he i hi,rfl,rfl⟩];exact h.own
  key:=fun i hi=>by rw[<-he i hi];exact h.key i hi
  val:=fun i hi=>by rw[<-he i hi];exact h.val i hi
  apart:=fun i hi=>by rw[<-he i hi];exact h.apart i hi}
theorem oY(Z:Nat->Chg)(n:Nat)(x:Chg):lst (upd Z n x) (n+1)=lst Z n++[x]:=by
 rw[jv,az,yX (Y:=Z) fun i hi=>au _ _ (by omega)]
theorem mn{X:Nat->Chg}{n i:Nat}(h:i<n):(lst X n).drop i=X i::(lst X n).drop (i+1):=by
 rw[List.drop_eq_getElem_cons (by rw[ez];exact h)];congr 1;simp[lst]
theorem oZ{X:Nat->Chg}{n i:Nat}(h:n<=i):(lst X n).drop i=[]:=List.drop_of_length_le (by rw[ez];exact h)
theorem rx(a b:List Chg):(a.merge b leC).length=a.length+b.length:=by simp
def jM(X Y Z:Nat->Chg)(N M i j:Nat):Prop:=(lst X N).merge (lst Y M) leC=lst Z (i+j)++((lst X N).drop i).merge ((lst Y M).drop j) leC
theorem jM.left{X Y Z:Nat->Chg}{N M i j:Nat}(h:jM X Y Z N M i j)(hi:i<N)(hj:j<M->eJ (X i).key<=eJ (Y j).key):jM X Y (upd Z (i+j) (X i)) N M (i+1) j:=by
 unfold jM at*;rw[show i+1+j=(i+j)+1by omega,oY,h,List.append_assoc];congr 1;rw[mn hi];by_cases hj':j<M
 ·rw[mn hj',oB,if_pos (hj hj')];rfl
 ·rw[oZ (X:=Y) (by omega),im.2,im.2];rfl
theorem jM.right{X Y Z:Nat->Chg}{N M i j:Nat}(h:jM X Y Z N M i j)(hj:j<M)(hi:i<N->¬eJ (X i).key<=eJ (Y j).key):jM X Y (upd Z (i+j) (Y j)) N M i (j+1):=by
 unfold jM at*;rw[show i+(j+1)=(i+j)+1by omega,oY,h,List.append_assoc];congr 1;rw[mn hj];by_cases hi':i<N
 ·rw[mn hi',oB,if_neg (hi hi')];rfl
 ·rw[oZ (X:=X) (by omega),im.1,im.1];rfl
theorem jM.done{X Y Z:Nat->Chg}{N M:Nat}(h:jM X Y Z N M N M):∀k,k<N+M->Z k=Dr ((lst X N).merge (lst Y M) leC) k:=fun k hk=>by
 unfold jM at h;rw[oZ (Nat.le_refl _),oZ (Nat.le_refl _),im.1,List.append_nil]at h;rw[h,Dr,eN hk]
theorem xQ(a b:Nat):pT a b<=0↔a<=b:=by
 unfold pT;split
 ·simp;omega
 ·split
  ·simp;omega
  ·simp;omega
theorem vN(A B:Option Addr)(N M c d:Nat)(X Y:Nat->Chg)(w:World)(hx:fa w A N X)(hy:fa w B M Y)(hn:(N+M)*64<=140737488355328):Calls Tryz.prog 123 #[.slice A N c, .slice B M d] w (Dl (N+M) (Dr ((lst X N).merge (lst Y M) leC)) w):=by
 have l:=aa hx;have f:=aa hy;have hu:=bW;clear hx hy;go_enter Tryz.func123,Tryz.ntmps123;go_wp2_with fail;go_loopw[5,6,7](fun v p q wr=>∃i j:Nat,i<=N/\j<=M/\p= .int .i64 i/\q= .int .i64 j/\(∃Z Ad Cp,Hd (bJ wr w.heap.size v (i+j) Z Ad Cp)/\Hd (jM X Y Z N M i j))/\Hd (Below w.heap.size w wr))(fun _ p q _=>(N-(intOf p).toNat)+(M-(intOf q).toNat))
 case atStart=>exact⟨0,0,by omega,by omega,rfl,rfl,⟨fun _=>default,fun _=>none,fun _=>0,bJ.nil _ _ _ _ _,(by show _=_;simp[lst])⟩,Below.refl _ _⟩
 case round=>
  obtain⟨i,j,hi,hj,rfl,rfl,⟨Z,Ad,Cp,G,O⟩,L⟩:=hrel;obtain⟨w1,rfl⟩:∃w1,w1=wr:=⟨_,rfl⟩;by_cases hi1:i<N
  ·have hi2:(i:Int)<N:=by omega
   obtain⟨bbx,ox,Ax,Cx,rfl,hbx,hrx,hkBx,hklx,hvrx,hvCx,hCmx,hnilx⟩:=l.o.2 i hi1;have F:=aa (show IsB (X i).key/\(X i).key.length=32from⟨hkBx,hklx⟩);have hszx:(Tryz.prog.info? 37).map (·.size)=some (bvs (X i).key).length:=by rw[aB];simp[bvs,hklx]
   have Q:Hd (∀W,Below w.heap.size w W->W.rangeAt bbx (ox+i*34) (chC (X i) Ax Cx)):=fun W hW=>aV hW hbx hrx;have g:Hd (∀W,Below w.heap.size w W->RB W Ax (X i).val.length (X i).val/\(X i).val.length<=Cx/\Cx<=maxLen/\(Ax=none->Cx=0)):=fun W hW=>⟨hvrx.below hW,hvCx,hCmx,hnilx⟩;have k:Hd (0<(X i).val.length->∀ad,Ax=some ad->some ad.block≠u5.ownBlock):=fun h0 ad e he=>by
    obtain⟨ad',e',q1,_⟩:=hvrx.2.2 h0;rw[e]at e';injection e' with e';rw[<-e']at q1;have q2:=G.o.ge _ he.symm;omega
   clear hbx hrx hkBx hklx hvrx hvCx hCmx hnilx;by_cases hj1:j<M
   ·have hj2:(j:Int)<M:=by omega
    have hj3:¬(M:Int)<=j:=by omega
    have hj4:decide ((M:Int)<=j)=false:=decide_eq_false hj3;obtain⟨bby,oy,Ay,Cy,rfl,hby,hry,hkBy,hkly,hvry,hvCy,hCmy,hnily⟩:=f.o.2 j hj1;have E:=aa (show IsB (Y j).key/\(Y j).key.length=32from⟨hkBy,hkly⟩);have hszy:(Tryz.prog.info? 37).map (·.size)=some (bvs (Y j).key).length:=by rw[aB];simp[bvs,hkly]
    have P:Hd (∀W,Below w.heap.size w W->W.rangeAt bby (oy+j*34) (chC (Y j) Ay Cy)):=fun W hW=>aV hW hby hry;have R:Hd (∀W,Below w.heap.size w W->RB W Ay (Y j).val.length (Y j).val/\(Y j).val.length<=Cy/\Cy<=maxLen/\(Ay=none->Cy=0)):=fun W hW=>⟨hvry.below hW,hvCy,hCmy,hnily⟩;have T:Hd (0<(Y j).val.length->∀ad,Ay=some ad->some ad.block≠u5.ownBlock):=fun h0 ad e he=>by
     obtain⟨ad',e',q1,_⟩:=hvry.2.2 h0;rw[e]at e';injection e' with e';rw[<-e']at q1;have q2:=G.o.ge _ he.symm;omega
    clear hby hry hkBy hkly hvry hvCy hCmy hnily;have m:Hd (eJ (X i).key<=eJ (Y j).key->jM X Y (upd Z (i+j) (X i)) N M (i+1) j):=fun h=>O.o.left hi1 (fun _=>h);have n:Hd (¬eJ (X i).key<=eJ (Y j).key->jM X Y (upd Z (i+j) (Y j)) N M i (j+1)):=fun h=>O.o.right hj1 (fun _=>h);have KS:Hd (∀W,Below w.heap.size w W->W.rangeAt bbx (ox+i*34) (bvs (X i).key)/\W.rangeAt bby (oy+j*34) (bvs (Y j).key)):=fun W hW=>⟨er (Q.o W hW),er (P.o W hW)⟩;generalize X i=x at*;generalize Y j=y at*;go_wp2_with fail;rename_i KK hKK;have r:=aa hKK;clear hKK;refine wp_region_held_drew (S:=fun w'=>w'.rangeAt bbx (ox+i*34) (bvs x.key)/\w'.rangeAt bby (oy+j*34) (bvs y.key)) (by kernel_rfl) (KS.o _ (af L.o 1)) fun hH=>?_;refine tka 0 ?_;refine tka 1 ?_;refine tka 2 ?_;refine tka 3 ?_;refine tkl 4 ?_;refine tka 5 ?_;refine tka 6 ?_;refine tka 7 ?_;refine tka 8 ?_;refine tkl 9 ?_;refine rdy 10 fun K hK=>?_;go_simp;refine(nI x.key y.key _ F.o.1 F.o.2 E.o.1 E.o.2).mono ?_;rintro e w2⟨rfl,hb2⟩;have C:Hd (Below w.heap.size w w2):=(af L.o 1).trans (hb2.mono (af L.o 1).size);have D:=aa ((G.o.later (af (Below.refl _ _) 1)).later hb2);refine hK.out _ _ (KS.o _ C.o) (fun hH2=>?_);clear hK hH hb2;refine tka 11 ?_;refine bN ?_;change KK _ _;refine r.o _ _ ?_;clear hH2 hu hszx hszy;by_cases hle:eJ x.key<=eJ y.key
    ·have hz:pT (eJ x.key) (eJ y.key)<=0:=(xQ _ _).2 hle;have H:=aa (m.o hle);have U:=aa (Q.o _ C.o);have V:=aa (g.o _ C.o);generalize pT (eJ x.key) (eJ y.key)=z at*;have hzd:decide (z<=0)=true:=decide_eq_true hz;go_wp2_with(first|((with_reducible refine atS 52 ?_);refine aj (by rfl) 39 (.tmp 51) rfl bbx (ox+i*34) (chC x Ax Cx) rfl U.o be (by rw[aK,am F.o.2]) ?_)|((with_reducible refine atS 53 ?_);refine aR rfl w2 40 39 _ 34 (.tmp 52) rfl dh dW (by decide) (by decide) (chC x Ax Cx).toArray rfl (by rw[List.size_toArray,am F.o.2]) ?_)|((with_reducible refine atS 54 ?_);refine jz dh ej rfl w2 rfl (.tmp 48) (.tmp 53) rfl w.heap.size u5 (i+j) _ D.o.own (chC x Ax Cx) (am F.o.2) cZ rfl rfl (by omega) (by omega) C.o.size ?_;intro v3 w3 ho3 hg3 hl3;have I:=aa (D.o.more F.o V.o k.o ho3 hg3 hl3);have J:Hd (Below w.heap.size w w3):=C.o.grown hg3 C.o.size D.o.ge;clear ho3 hg3 hl3));go_roundw
     case rel=>exact⟨i+1,j,by omega,by omega,by go_num,by go_num,⟨_,_,_,by show bJ _ _ _ _ _ _ _;have h:=I.o;rwa[show i+j+1=i+1+j by omega]at h,H.o⟩,J.o⟩
     case measure=>simp[intOf];omega
    ·have hz:¬pT (eJ x.key) (eJ y.key)<=0:=fun h=>hle ((xQ _ _).1 h);have H:=aa (n.o hle);have a:=aa (P.o _ C.o);have b:=aa (R.o _ C.o);generalize pT (eJ x.key) (eJ y.key)=z at*;have hzd:decide (z<=0)=false:=decide_eq_false hz;go_wp2_with(first|((with_reducible refine atS 61 ?_);refine aj (by rfl) 39 (.tmp 60) rfl bby (oy+j*34) (chC y Ay Cy) rfl a.o be (by rw[aK,am E.o.2]) ?_)|((with_reducible refine atS 62 ?_);refine aR rfl w2 40 39 _ 34 (.tmp 61) rfl dh dW (by decide) (by decide) (chC y Ay Cy).toArray rfl (by rw[List.size_toArray,am E.o.2]) ?_)|((with_reducible refine atS 63 ?_);refine jz dh ej rfl w2 rfl (.tmp 57) (.tmp 62) rfl w.heap.size u5 (i+j) _ D.o.own (chC y Ay Cy) (am E.o.2) cZ rfl rfl (by omega) (by omega) C.o.size ?_;intro v3 w3 ho3 hg3 hl3;have I:=aa (D.o.more E.o b.o T.o ho3 hg3 hl3);have J:Hd (Below w.heap.size w w3):=C.o.grown hg3 C.o.size D.o.ge;clear ho3 hg3 hl3));go_roundw
     case rel=>exact⟨i,j+1,by omega,by omega,by go_num,by go_num,⟨_,_,_,by show bJ _ _ _ _ _ _ _;have h:=I.o;rwa[show i+j+1=i+j+1by omega]at h,H.o⟩,J.o⟩
     case measure=>simp[intOf];omega
   ·have hj2:¬(j:Int)<M:=by omega
    have hj3:(M:Int)<=j:=by omega
    have hj4:decide ((M:Int)<=j)=true:=decide_eq_true hj3;have H:Hd (jM X Y (upd Z (i+j) (X i)) N M (i+1) j):=O.o.left hi1 (fun h=>absurd h hj1);have C:=L;have D:=G;have U:=aa (Q.o _ C.o);have V:=aa (g.o _ C.o);generalize X i=x at*;go_wp2_with(first|((with_reducible refine atS 52 ?_);refine aj (by rfl) 39 (.tmp 51) rfl bbx (ox+i*34) (chC x Ax Cx) rfl U.o be (by rw[aK,am F.o.2]) ?_)|((with_reducible refine atS 53 ?_);refine aR rfl w1 40 39 _ 34 (.tmp 52) rfl dh dW (by decide) (by decide) (chC x Ax Cx).toArray rfl (by rw[List.size_toArray,am F.o.2]) ?_)|((with_reducible refine atS 54 ?_);refine jz dh ej rfl w1 rfl (.tmp 48) (.tmp 53) rfl w.heap.size u5 (i+j) _ D.o.own (chC x Ax Cx) (am F.o.2) cZ rfl rfl (by omega) (by omega) C.o.size ?_;intro v3 w3 ho3 hg3 hl3;have I:=aa (D.o.more F.o V.o k.o ho3 hg3 hl3);have J:Hd (Below w.heap.size w w3):=C.o.grown hg3 C.o.size D.o.ge;clear ho3 hg3 hl3));go_roundw
    case rel=>exact⟨i+1,j,by omega,by omega,by go_num,by go_num,⟨_,_,_,by show bJ _ _ _ _ _ _ _;have h:=I.o;rwa[show i+j+1=i+1+j by omega]at h,H.o⟩,J.o⟩
    case measure=>simp[intOf];omega
  ·have hi2:¬(i:Int)<N:=by omega
   by_cases hj1:j<M
   ·have hj2:(j:Int)<M:=by omega
    have hj3:¬(M:Int)<=j:=by omega
    have hj4:decide ((M:Int)<=j)=false:=decide_eq_false hj3;obtain⟨bby,oy,Ay,Cy,rfl,hby,hry,hkBy,hkly,hvry,hvCy,hCmy,hnily⟩:=f.o.2 j hj1;have E:=aa (show IsB (Y j).key/\(Y j).key.length=32from⟨hkBy,hkly⟩);have hszy:(Tryz.prog.info? 37).map (·.size)=some (bvs (Y j).key).length:=by rw[aB];simp[bvs,hkly]
    have P:Hd (∀W,Below w.heap.size w W->W.rangeAt bby (oy+j*34) (chC (Y j) Ay Cy)):=fun W hW=>aV hW hby hry;have R:Hd (∀W,Below w.heap.size w W->RB W Ay (Y j).val.length (Y j).val/\(Y j).val.length<=Cy/\Cy<=maxLen/\(Ay=none->Cy=0)):=fun W hW=>⟨hvry.below hW,hvCy,hCmy,hnily⟩;have T:Hd (0<(Y j).val.length->∀ad,Ay=some ad->some ad.block≠u5.ownBlock):=fun h0 ad e he=>by
     obtain⟨ad',e',q1,_⟩:=hvry.2.2 h0;rw[e]at e';injection e' with e';rw[<-e']at q1;have q2:=G.o.ge _ he.symm;omega
    clear hby hry hkBy hkly hvry hvCy hCmy hnily;have H:Hd (jM X Y (upd Z (i+j) (Y j)) N M i (j+1)):=O.o.right hj1 (fun h=>absurd h hi1);have C:=L;have D:=G;have a:=aa (P.o _ C.o);have b:=aa (R.o _ C.o);generalize Y j=y at*;go_wp2_with(first|((with_reducible refine atS 61 ?_);refine aj (by rfl) 39 (.tmp 60) rfl bby (oy+j*34) (chC y Ay Cy) rfl a.o be (by rw[aK,am E.o.2]) ?_)|((with_reducible refine atS 62 ?_);refine aR rfl w1 40 39 _ 34 (.tmp 61) rfl dh dW (by decide) (by decide) (chC y Ay Cy).toArray rfl (by rw[List.size_toArray,am E.o.2]) ?_)|((with_reducible refine atS 63 ?_);refine jz dh ej rfl w1 rfl (.tmp 57) (.tmp 62) rfl w.heap.size u5 (i+j) _ D.o.own (chC y Ay Cy) (am E.o.2) cZ rfl rfl (by omega) (by omega) C.o.size ?_;intro v3 w3 ho3 hg3 hl3;have I:=aa (D.o.more E.o b.o T.o ho3 hg3 hl3);have J:Hd (Below w.heap.size w w3):=C.o.grown hg3 C.o.size D.o.ge;clear ho3 hg3 hl3));go_roundw
    case rel=>exact⟨i,j+1,by omega,by omega,by go_num,by go_num,⟨_,_,_,by show bJ _ _ _ _ _ _ _;have h:=I.o;rwa[show i+j+1=i+j+1by omega]at h,H.o⟩,J.o⟩
    case measure=>simp[intOf];omega
   ·have hj2:¬(j:Int)<M:=by omega
    obtain rfl:i=N:=by omega
    obtain rfl:j=M:=by omega
    go_wp2_with fail;go_ret;exact⟨_,_,_,rfl,G.o.congr O.o.done,L.o⟩
theorem zH(A:Option Addr)(n c:Nat)(xs:List Nat)(w:World)(hx:RB w A n xs)(hn:n<=140737488355328):Calls Tryz.prog 138 #[.slice A n c] w (qc w xs):=by
 have C:=aa hx;clear hx;go_enter Tryz.func138,Tryz.ntmps138;go_wp2_with fail;go_loopw[3,4](fun v i wr=>∃k:Nat,k<=n/\i= .int .i64 k/\bn wr w.heap.size v (xs.take k)/\Below w.heap.size w wr)(fun _ i _=>n-(intOf i).toNat)
 case atStart=>exact⟨0,by omega,rfl,by simpa using Own.nil _ _ _,Below.refl _ _⟩
 case round=>
  obtain⟨k,hk,rfl,hown,hbel⟩:=hrel;have hlen:=C.o.1;have D:=aa hown;have B:=aa hbel;clear hown hbel;by_cases hlt:k<n
  ·obtain⟨ad,rfl,hb,hcell⟩:=C.o.at_ hlt;have hc:=fL hb B.o hcell;have hlt8:xs.getD k 0<256:=C.o.lt hlt;have E:=aa (aJ (show k<xs.length by omega));have hl2:(xs.take k).length+1<=140737488355328:=by rw[List.length_take];omega
   have hlt':(k:Int)<n:=by omega
   clear hcell hlen;generalize xs.getD k 0=b at*;go_wp2_with(at_builtin;refine iu ax aH wr rfl (.tmp 11) (.tmp 16) rfl w.heap.size _ (xs.take k) D.o b hlt8 rfl rfl hl2 B.o.size ?_;intro v' w1 hown1 hgrow1);have hb1:=B.o.grown hgrow1 B.o.size D.o.ge;go_roundw
   case rel=>exact⟨k+1,by omega,by go_num,by rw[E.o];exact hown1,hb1⟩
   case measure=>simp[intOf];omega
  ·have E:Hd (xs.take k=xs):=by
    show xs.take k=xs;exact List.take_of_length_le (by omega)
   have hnlt:¬(k:Int)<n:=by omega
   clear hlen;go_wp2_with fail;go_ret;exact⟨_,rfl,by rw[<-E.o];exact D.o,B.o⟩
def chS(key:List Nat)(d:Bool)(v:Value):List Value:=bvs key++[.bool d,v]
theorem aL{key:List Nat}(d:Bool)(v:Value)(h:key.length=32):(chS key d v).length=34:=by simp[chS,bvs,h]
theorem Ed{key:List Nat}{d:Bool}{v:Value}(v':Value)(h:key.length=32):(chS key d v).set 33 v'=chS key d v':=by
 unfold chS;rw[List.set_append_right _ _ (by simp[bvs,h])];simp[bvs,h]
theorem lI{key:List Nat}{d:Bool}{v:Value}(hv:v.oneCell'=true):∀u∈chS key d v,u.oneCell'=true:=fun u hu=>by
 simp only[chS,bvs,List.mem_append,List.mem_map,List.mem_cons,List.not_mem_nil,or_false]at hu;rcases hu with⟨y,_,rfl⟩|rfl|rfl
 ·rfl
 ·rfl
 ·exact hv
theorem oU{w:World}{g:Nat}{t:TypeId}{key:List Nat}{d:Bool}{v:Value}(h:ab w g t (chS key d v).toArray)(hk:key.length=32)(v':Value):ab (w.setCell ⟨g,33,none⟩ v') g t (chS key d v').toArray:=by
 have h1:=ab.stored h 33 v';rwa[List.setIfInBounds_toArray,Ed v' hk]at h1
theorem CA:(gZ 32)++#[(.bool false:Value), .slice none 0 0]=(chS (zs 32) false (.slice none 0 0)).toArray:=by simp[chS,gZ]
theorem fk:(Tryz.prog.info? 39).map (fun i=>(i.zero,i.size))=some (some (.agg (chS (zs 32) false (.slice none 0 0)).toArray),34):=by rw[<-CA];exact dW
end Go.Proofs.YtfnlhfaihoojfaaGreatDoor
