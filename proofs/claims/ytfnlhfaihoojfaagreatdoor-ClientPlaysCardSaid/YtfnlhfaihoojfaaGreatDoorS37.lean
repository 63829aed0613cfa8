/- Texts of the proof of ledgerlaw13.ClientPlays, part 37; no condition of its own. -/
import Derived.Test.YtfnlhfaihoojfaaGreatDoorS36
set_option maxRecDepth 100000
set_option maxHeartbeats 4000000
namespace Go.Proofs.YtfnlhfaihoojfaaGreatDoor
open Go.RowKit
def EH(q:Nat)(xs:List Nat):Bool:=if q=0then(match dF xs with|none=>false|some p=>p.found)else false
def Ak(q:Nat)(xs:List Nat):List Nat:=if q=0then(match dF xs with|none=>[]|some p=>p.val)else[]
def so(q:Nat)(xs:List Nat)(w:World)(e:Ending)(w':World):Prop:=Below w.heap.size w w'/\∃A c,e= .returned (.tuple #[.agg #[.bool (EH q xs), .slice A (Ak q xs).length c], .int .i64 (q:Nat)])/\bn w' w.heap.size (.slice A (Ak q xs).length c) (Ak q xs)
theorem l6{w:Int}{k:List Nat}{p:Pr}(hk:k.length=32)(hp:p.Ok)(h:Nat):(cY w k p h).length<=200:=by
 cases h with
 |zero=>
  show(bQ k p.found p.val).length<=200;unfold bQ en;have:=hp.vl;split
  ·simp[hk];omega
  ·simp
 |succ h=>
  have:=jR w (aI k h (bT w k p h) (av w p h)).1 (aI k h (bT w k p h) (av w p h)).2;show(upT w k h (bT w k p h) (av w p h)).length<=200;unfold upT;omega
theorem kF.ans{wd:Int}{rs ks xs:List Nat}{w w':World}{e:Ending}(h:kF wd rs ks xs w e w'):so (dj wd rs ks xs) xs w e w':=by
 obtain⟨hb,h1,h2⟩:=h;refine⟨hb,?_⟩;by_cases h:dj wd rs ks xs=0
 ·obtain⟨p,V,hp,_,_,rfl,ho⟩:=h2 h;have e1:EH (dj wd rs ks xs) xs=p.found:=by unfold EH;rw[if_pos h,hp]
  have e2:Ak (dj wd rs ks xs) xs=p.val:=by unfold Ak;rw[if_pos h,hp]
  rw[e1,e2];obtain⟨A2,c2,rfl,_⟩:=ho.form;exact⟨A2,c2,by rw[h];rfl,ho⟩
 ·have e1:EH (dj wd rs ks xs) xs=false:=if_neg h;have e2:Ak (dj wd rs ks xs) xs=[]:=if_neg h;rw[e1,e2];exact⟨none,0,h1 h,Own.nil _ _ _⟩
theorem Eo{q:Nat}{xs:List Nat}(hB:IsB xs):(Ak q xs).length<=128:=by
 unfold Ak;split
 ·cases h:dF xs with
  |none=>simp
  |some p=>exact(df hB h).1.vl
 ·simp
def uI(wd:Int)(rs ks xs ys:List Nat)(ok:Bool)(l1 l2:List Nat):Prop:=((dj wd rs ks xs≠0∨dj wd rs ks ys≠0∨xs=ys)->ok=false/\l1=[]/\l2=[])/\(dj wd rs ks xs=0->dj wd rs ks ys=0->xs≠ys->ok=true/\∃h p q,dF xs=some p/\dF ys=some q/\h<=256/\l1=cY wd ks p h/\l2=cY wd ks q h/\cY wd ks p h≠cY wd ks q h/\∀j,h<j->j<=256->cY wd ks p j=cY wd ks q j)
theorem uI.unique{wd:Int}{rs ks xs ys:List Nat}{ok ok':Bool}{l1 l2 l1' l2':List Nat}(h:uI wd rs ks xs ys ok l1 l2)(h':uI wd rs ks xs ys ok' l1' l2'):ok=ok'/\l1=l1'/\l2=l2':=by
 by_cases hc:dj wd rs ks xs≠0∨dj wd rs ks ys≠0∨xs=ys
 ·obtain⟨a,b,c⟩:=h.1 hc;obtain⟨a',b',c'⟩:=h'.1 hc;rw[a,b,c,a',b',c'];exact⟨rfl,rfl,rfl⟩
 ·have h1:dj wd rs ks xs=0:=by omega
  have h2:dj wd rs ks ys=0:=by omega
  have h3:xs≠ys:=fun e=>hc (.inr (.inr e));obtain⟨a,h,p,q,b1,b2,b3,b4,b5,b6,b7⟩:=h.2 h1 h2 h3;obtain⟨a',h',p',q',b1',b2',b3',b4',b5',b6',b7'⟩:=h'.2 h1 h2 h3;rw[b1]at b1';rw[b2]at b2';obtain rfl:=Option.some.inj b1';obtain rfl:=Option.some.inj b2';have hh:h=h':=by
   rcases Nat.lt_trichotomy h h' with k|k|k
   ·exact absurd (b7 h' k b3') b6'
   ·exact k
   ·exact absurd (b7' h k b3) b6
  subst hh;exact⟨by rw[a,a'],by rw[b4,b4'],by rw[b5,b5']⟩
theorem je.uni{wd:Int}{rs ks xs ys:List Nat}{w w':World}{e:Ending}(hk:ks.length=32)(hx:IsB xs)(hy:IsB ys)(h:je wd rs ks xs ys w e w'):Below w.heap.size w w'/\∃V1 V2 ok l1 l2,e= .returned (.tuple #[V1,V2, .bool ok])/\bn w' w.heap.size V1 l1/\bn w' w.heap.size V2 l2/\cM V1 V2/\l1.length<=200/\l2.length<=200/\uI wd rs ks xs ys ok l1 l2:=by
 obtain⟨hb,h1,h2⟩:=h;refine⟨hb,?_⟩;by_cases hc:dj wd rs ks xs≠0∨dj wd rs ks ys≠0∨xs=ys
 ·refine⟨_,_,_,[],[],h1 hc,Own.nil _ _ _,Own.nil _ _ _,kR _ _ _,by simp,by simp,fun _=>⟨rfl,rfl,rfl⟩,fun a b c=>?_⟩;rcases hc with hc|hc|hc
  ·exact absurd a hc
  ·exact absurd b hc
  ·exact absurd hc c
 ·have e1:dj wd rs ks xs=0:=by omega
  have e2:dj wd rs ks ys=0:=by omega
  have e3:xs≠ys:=fun e=>hc (.inr (.inr e));obtain⟨V1,V2,h,p,q,he,hp,hq,hh,o1,o2,ha,hne,hj⟩:=h2 e1 e2 e3;exact⟨V1,V2,true,_,_,he,o1,o2,ha,l6 hk (df hx hp).1 h,l6 hk (df hy hq).1 h,fun hc'=>absurd hc' hc,fun _ _ _=>⟨rfl,h,p,q,hp,hq,hh,rfl,rfl,hne,hj⟩⟩
def rM(E:Nat)(wd:Int)(x:Chg)(xs:List Nat):List Nat:=if E=0then(match dF xs with|some p=>wV wd x p|none=>zs 32)else zs 32
theorem wM(wd:Int)(x:Chg)(p:Pr):(wV wd x p).length=32/\IsB (wV wd x p):=by
 unfold wV;refine dy wd x.key (av wd p) ?_ ?_ 256
 ·unfold eK;exact aw _ _
 ·unfold eK;exact aY _ _
theorem sY(E:Nat)(wd:Int)(x:Chg)(xs:List Nat):(rM E wd x xs).length=32/\IsB (rM E wd x xs):=by
 unfold rM;split
 ·cases dF xs with
  |none=>exact⟨ak 32,dY 32⟩
  |some p=>exact wM wd x p
 ·exact⟨ak 32,dY 32⟩
theorem EE.uni{E:Nat}{wd:Int}{root xs:List Nat}{x:Chg}{w w':World}{e:Ending}(h:EE E wd root xs x w e w'):Below w.heap.size w w'/\e= .returned (.tuple #[.agg (bvs (rM E wd x xs)).toArray, .int .i64 (E:Nat)]):=by
 obtain⟨hb,h1,h2⟩:=h;refine⟨hb,?_⟩;by_cases hE:E=0
 ·obtain⟨p,hp,_,_,_,he⟩:=h2 hE;subst hE;unfold rM;rw[if_pos rfl,hp];exact he
 ·unfold rM;rw[if_neg hE];exact h1 hE
def uF(E:Nat)(wd:Int)(ks:List Nat)(x:Chg)(xs ys:List Nat):List Nat:=if E=0then(match dF xs,dF ys with|some p,some q=>pS (wQ wd ks x p q)|_,_=>[])else[]
theorem vY{L:List (List Nat)}(h:∀s,s∈L->s.length=32):L.flatten.length=32*L.length:=by
 induction L with
 |nil=>rfl
 |cons a r ih=>
  rw[List.flatten_cons,List.length_append,ih fun s hs=>h s (List.mem_cons_of_mem _ hs),h a List.mem_cons_self,List.length_cons];omega
theorem uj{wd:Int}{f:Bool}{v:List Nat}{g:Nat->List Nat}(hv:f=true->v.length<=128)(hg:∀i,i<256->(g i).length=32):(pS (prU wd f v g 256)).length<=9000:=by
 have h1:(dt (fun h=>decide (g h≠ay wd h)) g 256).flatten.length=32*(dt (fun h=>decide (g h≠ay wd h)) g 256).length:=vY fun s hs=>by
  obtain⟨i,hi,rfl⟩:=qn _ _ hs;exact hg i hi
 have h2:=tG (fun h=>decide (g h≠ay wd h)) g 256;have h3:(pS (prU wd f v g 256)).length<=131+(32+(dt (fun h=>decide (g h≠ay wd h)) g 256).flatten.length):=by
  unfold pS prU;dsimp only;rw[List.length_append,List.length_append,cK];cases f with
  |false=>simp only[Bool.false_eq_true,if_false,List.length_cons,List.length_nil];omega
  |true=>simp only[if_true,List.length_cons];have:=hv rfl;omega
 omega
theorem Bi{wd:Int}{ks:List Nat}{x:Chg}{p q:Pr}(hp:p.Ok)(hx:x.del=false->x.val.length<=128):(pS (wQ wd ks x p q)).length<=9000:=by
 unfold wQ;split
 ·exact uj (fun h=>hx (by simpa using h)) fun i hi=>(aG hp hi).1
 ·refine uj (fun _=>hp.vl) fun i hi=>?_;by_cases e:i=255-eS ks x.key
  ·rw[e,az];refine(dy wd x.key (av wd q) ?_ ?_ _).1
   ·unfold eK;exact aw _ _
   ·unfold eK;exact aY _ _
  ·rw[au _ _ e];exact(aG hp hi).1
theorem EA.uni{E:Nat}{wd:Int}{root ks xs ys:List Nat}{x:Chg}{w w':World}{e:Ending}(hx:IsB xs)(h:EA E wd root ks xs ys x w e w'):Below w.heap.size w w'/\∃V,e= .returned (.tuple #[V, .int .i64 (E:Nat)])/\bn w' w.heap.size V (uF E wd ks x xs ys)/\(uF E wd ks x xs ys).length<=9000:=by
 obtain⟨hb,h1,h2⟩:=h;refine⟨hb,?_⟩;by_cases hE:E=0
 ·obtain⟨p,q,V,hp,_,_,hq,_,_,hl,he,ho⟩:=h2 hE;subst hE;have e1:uF 0 wd ks x xs ys=pS (wQ wd ks x p q):=by unfold uF;rw[if_pos rfl,hp,hq]
  rw[e1];refine⟨V,he,ho,Bi (df hx hp).1 fun hd=>?_⟩;unfold dD at hl;rw[hd]at hl;simp at hl;omega
 ·have e1:uF E wd ks x xs ys=[]:=if_neg hE;rw[e1];exact⟨_,h1 hE,Own.nil _ _ _,by simp⟩
theorem jw(gb base N b0:Nat)(S:Nat->Prop)(u:Value)(xs:List Nat)(w:World)(hb:Bk w gb base N S)(hu:bn w b0 u xs)(hf:∀B,u.ownBlock=some B->¬S B/\base<=B)(hbase:base<=w.heap.size)(hn:xs.length+302<=140737488355328)(hN:N<=2305843009213693952):Calls Tryz.prog 15 #[.pointer (some ⟨gb,0,none⟩),u] w (pZ gb base N S u.ownBlock w):=by
 obtain⟨n,n2,v,xl,ms,yl,ns,hnN,hnN2,hb⟩:=hb;have s:=aa hb;have I:=aa (And.intro hnN hnN2);have t:Hd (∀B,u.ownBlock=some B->¬S B/\base<=B/\B<w.heap.size):=fun B hB=>⟨(hf B hB).1,(hf B hB).2,(hu.lt B hB).2⟩;have HA:=aa hbase;have hn63:n<=2305843009213693952:=by omega
 have hadd:IntKind.i64.wrap ((n:Int)+1)=(n:Int)+1:=IntWalk.i64_in _ (by omega);obtain⟨k0,hk0⟩:∃k0,k0=xl.length:=⟨_,rfl⟩;have hk6:k0<=600:=by have:=hb.maxL;omega
 have J:=aa hk0;have R:Hd (k0=ms.length):=by show _=_;have:=hb.lenL;omega
 obtain⟨A0,c0,e0,_⟩:=(hb.heads.row 0 (by omega)).form;obtain⟨A1,c1,e1,_⟩:=(hb.heads.row 1 (by omega)).form;rw[show kB xl ms yl ns 0=k0 from hk0.symm]at e0;rw[show kB xl ms yl ns 1=k0 from R.o.symm]at e1;have HC:=aa e0;have T:=aa e1;have hat:=hb.heads.at_;obtain⟨⟨q0,q1,q2,_,_,_⟩,qf⟩:=hat;have qf0:=qf 0;have hu0:=FD hu;obtain⟨Au,cu,eu,_⟩:=hu.form;obtain⟨m,hm⟩:∃m,xs.length=m:=⟨_,rfl⟩;rw[hm]at eu hn;have K:=aa hm;have hH1:=hb.heads.bump;have hgu:∀B,u.ownBlock=some B->B≠gb:=fun B hB e=>(hf B hB).1 (e▸hb.spn gb (.inl rfl));have ht1:=ae.grown (ai w (g:=gb) 0 (.int .i64 ((n+1:Nat):Int)));have U:=aa (ht1.own hu0 fun k hk e=>hgu k hk (by injection e));have V:=aa hH1;have L:Hd (ae (fun B=>B=gb∨u.ownBlock=some B) w (w.setCell ⟨gb,0,none⟩ (.int .i64 ((n+1:Nat):Int)))):=ht1.mono fun k _(h:some k=some gb)=> .inl (by injection h);have HU:Hd (∀B,u.ownBlock=some B->¬bP gb v B):=fun B hB hs=>(hf B hB).1 (hb.spn B hs);have hcast:((n+1:Nat):Int)=(n:Int)+1:=by push_cast;rfl
 rw[hcast]at U V L;subst eu;clear hb hu hf hbase hnN hnN2 e0 e1 qf hu0 hm hH1 hgu ht1 hcast hk0;go_enter Tryz.func15,Tryz.ntmps15;go_wp2_with fail;generalize hw1:w.setCell ⟨gb,0,none⟩ (.int .i64 ((n:Int)+1))=w1 at*;clear hw1 q0 q1 q2 qf0;go_loopw[5](fun i wr=>∃j:Nat,j<=m/\i= .int .i64 (j:Int)/\Hd (bn wr 0 (.slice Au m cu) (mkL xs n j))/\Hd (ae (fun B=>(Value.slice Au m cu).ownBlock=some B) w1 wr))(fun i _=>m-(intOf i).toNat)
 case atStart=>exact⟨0,by omega,rfl,by rw[BH];exact U.o,ae.refl _ _⟩
 case round=>
  clear U;obtain⟨j,hj,rfl,M,A⟩:=hrel;by_cases hlt:j<m
  ·have hlt':(j:Int)<m:=by omega
   have hll:(mkL xs n j).length=m:=oA K.o hj;obtain⟨g,c2,e2,hbg,hgs,hfr,hcell⟩:=M.o.shape (by rw[hll];omega);injection e2 with e2 e2m e3;clear e2m;subst e2 e3;have hc:=hcell j (by rw[hll];omega);have hfz:=hfr j;have hown:=M.o;unfold bn at hown;rw[<-hll]at hown;have hset:=hown.set j (mkN n j) (EW n j);rw[hll,BI K.o hlt]at hset;have HS:=aa hset;have HV:=aa (A.o.trans ((ae.grown (ai wr (g:=g) j (.int .u8 (mkN n j:Nat)))).mono fun k _(hk:some k=some g)=>(show some g=some k from hk.symm)));have HW:=aa (fun W=>ku n j W (by omega) (by omega));clear hcell hfr hown hset hll;generalize(mkL xs n j).getD j 0=z at*;generalize mkN n j=y at*;go_wp2_with fail;refine(HW.o _).mono ?_;rintro e wq⟨rfl,hwq⟩;rw[hwq];clear hwq wq;go_wp2_with fail;go_roundw
   case rel=>exact⟨j+1,by omega,by go_num,HS.o,HV.o⟩
   case measure=>simp[intOf];omega
  ·have hjm:j=m:=by omega
   have hnlt:¬(j:Int)<m:=by omega
   have X:Hd (wr.ownsRow 0 5 1 (.slice Au m cu) m (pat (Pb n) m)):=by
    have h:=M.o.1;rwa[hjm,DW K.o,oA K.o (Nat.le_refl m)]at h
   have Y:Hd (ae (UT (.slice Au m cu) w1) w1 wr):=A.o.mono fun k _ hk=> .inl hk;have Z:=aa (fun W=>ku n m W (by omega) (by omega));have a:=aa (fun W=>ku n (m+1) W (by omega) (by omega));have hc1:((m+1:Nat):Int)=(m:Int)+1:=by push_cast;rfl
   rw[hc1]at a;have hw2:IntKind.i64.wrap ((m:Int)+1)=(m:Int)+1:=IntWalk.i64_in _ (by omega);clear M A hc1 hj hlt;go_wp2_with fail;refine(Z.o _).mono ?_;rintro e wq⟨rfl,hwq⟩;rw[hwq];clear hwq wq;go_wp2_with((with_reducible refine atS 38 ?_);refine pF ax aH wr (by rfl) (.tmp 32) (.tmp 37) (by rfl) (Pb n) _ m 1 X.o (xr n) #[.int .u8 (mkN n m:Nat)] (by rfl) (by rfl) (by rfl) (by omega) (by omega) ?_;intro vg w3 hg3 hr3 hl3 hf3;have C:=aa (hf3.one X.o);have HD:=aa hg3;have b:=aa (mG Y.o hr3 (gN _ _));have HX:=aa (mH Y.o hl3 (gN _ _));clear hg3 hr3 hl3 hf3);refine(Z.o _).mono ?_;rintro e wq⟨rfl,hwq⟩;rw[hwq];clear hwq wq;go_wp2_with fail;refine(a.o _).mono ?_;rintro e wq⟨rfl,hwq⟩;rw[hwq];clear hwq wq;go_wp2_with((with_reducible refine atS 50 ?_);refine pF ax aH w3 (by rfl) (.tmp 39) (.tmp 49) (by rfl) (Pb n) _ m 2 C.o (xr n) #[.int .u8 (mkN n m:Nat), .int .u8 (mkN n (m+1):Nat)] (by rfl) (by rfl) (by rfl) (by omega) (by omega) ?_;intro vh w4 hg4 hr4 hl4 hf4;have HE:=aa (hf4.one C.o);have HI:=aa (hf4.one HD.o);have c:=aa hg4;have HJ:=aa (mG b.o hr4 (gN _ _));have HK:=aa (mH b.o hl4 (gN _ _));clear hg4 hr4 hl4 hf4 C HD);clear X Y b Z a hw2;obtain⟨Ah,ch,eh,_⟩:=aP c.o;subst eh;go_loopw[7,8](fun h i y=>∃(q z cq:Nat)(Aq:Option Addr),h= .slice Aq z cq/\i= .int .i64 (q:Int)/\Hd (q<=300/\z=m+2+q)/\Hd (y.ownsRow 0 5 1 (.slice Aq z cq) z (pat (Pb n) z))/\Hd (y.ownsRow 0 5 1 (.slice Au m cu) m (pat (Pb n) m))/\Hd (y.ownsRow 0 5 1 vg (m+1) (pat (Pb n) (m+1)))/\Hd (ae (UT (.slice Au m cu) w1) w1 y)/\Hd (∀B,(Value.slice Aq z cq).ownBlock=some B->UT (.slice Au m cu) w1 B))(fun _ i _=>300-(intOf i).toNat)
   case atStart=>exact⟨0,m+2,ch,Ah,rfl,rfl,⟨by omega,rfl⟩,c.o,HE.o,HI.o,HJ.o,HK.o⟩
   case round=>
    clear c HE HI HJ HK;obtain⟨q,z,cq,Aq,rfl,rfl,G,f,p,O,A,P⟩:=hrel;by_cases hq:q<300
    ·have hq':(q:Int)<300:=by omega
     have hz:z+1<=140737488355328:=by have:=G.o;omega
     have HY:=aa (fun W=>ku n z W (by omega) (by omega));go_wp2_with fail;refine(HY.o _).mono ?_;rintro e wq⟨rfl,hwq⟩;rw[hwq];clear hwq wq;go_wp2_with((with_reducible refine atS 61 ?_);refine pF ax aH wr (by rfl) (.tmp 55) (.tmp 60) (by rfl) (Pb n) _ z 1 f.o (xr n) #[.int .u8 (mkN n z:Nat)] (by rfl) (by rfl) (by rfl) (by omega) (by omega) ?_;intro vx y1 hg6 hr6 hl6 hf6;obtain⟨Ax,cx,ex,_⟩:=aP hg6;have HZ:=aa (hf6.one p.o);have Ha:=aa (hf6.one O.o);have Hb:=aa hg6;have Hc:=aa (mG A.o hr6 P.o);have He:=aa (mH A.o hl6 P.o);subst ex;clear hg6 hr6 hl6 hf6);go_roundw
     case rel=>exact⟨q+1,z+1,cx,Ax,rfl,by go_num,⟨by omega,by have:=G.o;omega⟩,Hb.o,HZ.o,Ha.o,Hc.o,He.o⟩
     case measure=>simp[intOf];omega
    ·have hzz:z=m+302:=by have:=G.o;omega
     have hq':¬(q:Int)<300:=by have:=G.o;omega
     subst hzz;have hh:=V.o.touch A.o fun B hB hU=>by
      rcases hU with hU|hU
      ·exact HU.o B hU hB
      ·have:=V.o.lt hB;omega
     have HN:=aa hh;have Hf:Hd (aO wr 36 1 (v 0) k0 xl):=by
      have h:=hh.row 0 (by omega);rw[J.o];exact h
     obtain⟨⟨_,p1,p2,_,_,_⟩,_⟩:=hh.at_;rw[HC.o]at p1;rw[T.o]at p2;have HP:Hd (∀B,vg.ownBlock=some B->UT (.slice Au m cu) w1 B):=HX.o;obtain⟨Ag,cg,eg,_⟩:=aP O.o;subst eg;have hmx:k0+3<=140737488355328:=by omega
     clear hh G hq;have C:Hd (k0+3=(xl++[Value.slice Au m cu, .slice Ag (m+1) cg, .slice Aq (m+302) cq]).length):=by
      show _=_;rw[List.length_append,<-J.o];rfl
     have r:Hd (k0+3=(ms++[n,n,n]).length):=by
      show _=_;rw[List.length_append,<-R.o];rfl
     go_wp2_with((with_reducible refine atS 71 ?_);skip);refine aa ?_;refine sh (o:=⟨some 71,_,_,_,_,_⟩) wr fT fj rfl (by rfl) (.tmp 66) (.tmp 70) (by rfl) (v 0) k0 xl Hf.o 3 [.slice Au m cu, .slice Ag (m+1) cg, .slice Aq (m+302) cq] #[.slice Au m cu, .slice Ag (m+1) cg, .slice Aq (m+302) cq] (by rfl) (by rfl) (fun u hu=>by simp at hu;rcases hu with rfl|rfl|rfl<;>rfl) (by exact HC.o.symm) wr.heap.size rfl (by rfl) (by omega) (by omega) (by omega) ?_;intro v6 w6 hr6 hg6 hl6;obtain⟨A6,c6,e6,hc6,_⟩:=hr6.form;have Hg:=aa hc6;have hb6:=HN.o.mid (j:=0) (by omega) hg6;have r6:=hb6.cell 1;have f6:=hb6.frozen 1;have r62:w6.cell? ⟨gb,2,none⟩=some (.slice A1 k0 c1):=(hb6.cell 2).trans (by show some (v 1)=_;rw[T.o]);have D:=aa (HN.o.putL C.o hg6 hr6 hl6);subst e6;clear hr6 hg6 hl6 hb6 hc6;(try simp only[Act.put,LS]);have Hh:Hd (aO (w6.setCell ⟨gb,1,none⟩ (.slice A6 (k0+3) c6)) 3 1 (v 1) k0 (ms.map inV)):=by
      have h:aO (w6.setCell ⟨gb,1,none⟩ (.slice A6 (k0+3) c6)) 3 1 (v 1) ms.length (ms.map inV):=D.o.1.row 1 (by omega);rw[<-R.o]at h;exact h
     go_wp2_with((with_reducible refine atS 83 ?_);skip);refine aa ?_;refine sh (o:=⟨some 83,_,_,_,_,_⟩) (w6.setCell ⟨gb,1,none⟩ (.slice A6 (k0+3) c6)) tC y6 rfl (by rfl) (.tmp 78) (.tmp 82) (by rfl) (v 1) k0 (ms.map inV) Hh.o 3 [inV n,inV n,inV n] #[.int .i64 (n:Nat), .int .i64 (n:Nat), .int .i64 (n:Nat)] (by rfl) (by rfl) (fun u hu=>by simp at hu;rw[hu];rfl) (by exact T.o.symm) w6.heap.size (by simp[World.setCell]) (by rfl) (by omega) (by omega) (by omega) ?_;intro v7 w7 hr7 hg7 hl7;rw[show ms.map inV++[inV n,inV n,inV n]=(ms++[n,n,n]).map inV by simp]at hr7;obtain⟨A7,c7,e7,hc7,_⟩:=hr7.form;have Hi:=aa hc7;have hb7:=D.o.1.mid (j:=1) (by omega) hg7;have r7:=hb7.cell 2;have f7:=hb7.frozen 2;have f71:=hb7.frozen 1;have E:=aa (D.o.1.putM r.o hg7 hr7 hl7);have r71:w7.cell? ⟨gb,1,none⟩=some (.slice A6 (k0+3) c6):=hb7.cell 1;subst e7;clear hr7 hg7 hl7 hb7 hc7;(try simp only[Act.put,LS]);have Q:Hd (∀B,bP gb (upd (upd v 0 (.slice A6 (k0+3) c6)) 1 (.slice A7 (k0+3) c7)) B->bP gb v B∨wr.heap.size<=B):=fun B hB=>by
      rcases E.o.2.2 B hB with h|h
      ·exact D.o.2.2 B h
      ·have:=D.o.2.1.size;exact .inr (by omega)
     have H:Hd (ae (fun B=>bP gb v B∨wr.heap.size<=B) wr (w7.setCell ⟨gb,2,none⟩ (.slice A7 (k0+3) c7))):=bO (D.o.2.1.mono fun B _ h=> .inl h) E.o.2.1 fun B _ h=> .inl (D.o.2.2 B h);have HR:Hd (ae (fun B=>B=gb∨(Value.slice Au m cu).ownBlock=some B) w wr):=bO L.o A.o fun B _ h=>by
      rcases h with h|h
      ·exact .inl (.inr h)
      ·have:=L.o.size;exact .inr (by omega)
     have F:Hd (∀{x:Value},(∀B,x.ownBlock=some B->UT (.slice Au m cu) w1 B)->∀B,x.ownBlock=some B->(Value.slice Au m cu).ownBlock=some B∨w.heap.size<=B):=fun h B hB=>(h B hB).imp id fun h=>Nat.le_trans L.o.size h;by_cases hgt:600<k0+3
     ·have hgt':(600:Int)<(k0:Int)+3:=by omega
      have hd0:aO (w7.setCell ⟨gb,2,none⟩ (.slice A7 (k0+3) c7)) 36 1 (.slice A6 (k0+3) c6) (k0+3) (xl++[Value.slice Au m cu, .slice Ag (m+1) cg, .slice Aq (m+302) cq]):=by
       have h:aO (w7.setCell ⟨gb,2,none⟩ (.slice A7 (k0+3) c7)) 36 1 (.slice A6 (k0+3) c6) (xl++[Value.slice Au m cu, .slice Ag (m+1) cg, .slice Aq (m+302) cq]).length (xl++[Value.slice Au m cu, .slice Ag (m+1) cg, .slice Aq (m+302) cq]):=E.o.1.row 0 (by omega);rw[<-C.o]at h;exact h
      have hd1:aO (w7.setCell ⟨gb,2,none⟩ (.slice A7 (k0+3) c7)) 3 1 (.slice A7 (k0+3) c7) (k0+3) ((ms++[n,n,n]).map inV):=by
       have h:aO (w7.setCell ⟨gb,2,none⟩ (.slice A7 (k0+3) c7)) 3 1 (.slice A7 (k0+3) c7) (ms++[n,n,n]).length ((ms++[n,n,n]).map inV):=E.o.1.row 1 (by omega);rw[<-r.o]at h;exact h
      obtain⟨g6,o6,eA6,hq0⟩:=hd0.drop (k:=3) (by omega) (by omega);obtain⟨g7,o7,eA7,hq1⟩:=hd1.drop (k:=3) (by omega) (by omega);subst eA6 eA7;rw[show(3*1:Nat)=3from rfl,<-List.map_drop]at hq1;have Hj:=aa hq0;have Hk:=aa hq1;clear hd0 hd1 hq0 hq1;have S8:=aa (E.o.1.putL (l:=(xl++[Value.slice Au m cu, .slice Ag (m+1) cg, .slice Aq (m+302) cq]).drop 3) (by rw[List.length_drop,<-C.o]) (jF _ _) Hj.o fun B hB=> .inl hB);have hd2:=Hk.o.touch (ae.grown (ai (w7.setCell ⟨gb,2,none⟩ (.slice (some ⟨g7,o7,none⟩) (k0+3) c7)) (g:=gb) 1 (.slice (some ⟨g6,o6+3*1,none⟩) (k0+3-3) (c6-3)))) fun B hB e=>E.o.1.ne 1 (by omega) (by
       have e2:(some B:Option Nat)=some gb:=e;rw[<-e2];exact hB);have S9:=aa (S8.o.1.putM (l:=(ms++[n,n,n]).drop 3) (by rw[List.length_drop,<-r.o]) (jF _ _) hd2 fun B hB=> .inl hB);clear hd2;go_wp2_with(first|((with_reducible refine atS 97 ?_);refine kG (by rfl) 24 36 (.tmp 96) (.const (.int .i64 3)) rfl fT ww 1 uX g6 o6 (k0+3) c6 3 (by rfl) (by rfl) (by omega) Hg.o ?_;(try simp only[Act.put,LS]))|((with_reducible refine atS 105 ?_);refine kG (by rfl) 25 3 (.tmp 104) (.const (.int .i64 3)) rfl tC zu 1 DD g7 o7 (k0+3) c7 3 (by rfl) (by rfl) (by omega) Hi.o ?_;(try simp only[Act.put,LS])));refine bodyPost_end (results_none rfl _ _ _) rfl ?_;refine oI (d:=3) (m:=m) s.o I.o.1 I.o.2 t.o HA.o (by omega) HR.o p.o O.o f.o (F.o (gN _ _)) (F.o HP.o) (F.o P.o) S9.o.1 (by rw[<-J.o];omega) (fun B hB=>?_) ?_
      ·rcases S9.o.2.2 B hB with h|h
       ·rcases S8.o.2.2 B h with h|h
        ·exact Q.o B h
        ·have:=H.o.size;exact .inr (by omega)
       ·have h1:=H.o.size;have h2:=S8.o.2.1.size;exact .inr (by omega)
      ·refine bO (bO H.o S8.o.2.1 fun B _ h=>?_) S9.o.2.1 fun B _ h=>?_
       ·exact .inl (Q.o B h)
       ·rcases S8.o.2.2 B h with h|h
        ·exact .inl (Q.o B h)
        ·have:=H.o.size;exact .inr (by omega)
     ·have hgt':¬(600:Int)<(k0:Int)+3:=by omega
      go_wp2_with fail;refine bodyPost_end (results_none rfl _ _ _) rfl ?_;exact oI (d:=0) (m:=m) s.o I.o.1 I.o.2 t.o HA.o (by omega) HR.o p.o O.o f.o (F.o (gN _ _)) (F.o HP.o) (F.o P.o) (by rw[List.drop_zero,List.drop_zero];exact E.o.1) (by rw[<-J.o];omega) Q.o H.o
structure mA(w:World)(gb base N:Nat)(S:Nat->Prop)(o:OpV)(xs ys:List Nat)(Ao:Option Addr)(ao:Nat)(Bo:Option Addr)(bo:Nat)(Ax:Option Addr)(cx:Nat)(Ay:Option Addr)(cy:Nat)(Bc:Option Addr)(Cc:Nat):Prop where
 bk:Bk w gb base N S
 ok:o.Ok
 hA:o.A= .slice Ao xs.length ao
 hB:o.B= .slice Bo ys.length bo
 lA:Lay w Ao xs ao
 lB:Lay w Bo ys bo
 lX:Lay w Ax xs cx
 lY:Lay w Ay ys cy
 lV:Lay w o.Av o.x.val o.Cv
 lC:Lay w Bc o.x.val Cc
 ht:eY w
 ht1:du w
 base:base<=w.heap.size
 nB:N<=1152921504606846976
 px:0<cx
 py:0<cy
section
variable{w w':World}{gb base N:Nat}{S:Nat->Prop}{o:OpV}{xs ys:List Nat}{Ao Bo Ax Ay Bc:Option Addr}{ao bo cx cy Cc:Nat}
theorem mA.below(h:mA w gb base N S o xs ys Ao ao Bo bo Ax cx Ay cy Bc Cc)(hb:Below w.heap.size w w'):mA w' gb base N S o xs ys Ao ao Bo bo Ax cx Ay cy Bc Cc:=⟨h.bk.below hb,h.ok,h.hA,h.hB,h.lA.below hb,h.lB.below hb,h.lX.below hb,h.lY.below hb,h.lV.below hb,h.lC.below hb,h.ht.below hb,h.ht1.below hb,Nat.le_trans h.base hb.size,h.nB,h.px,h.py⟩
end
theorem tY{gb base N M:Nat}{S:Nat->Prop}{u:Value}{l:List Nat}{w w1:World}(hb:Bk w gb base N S)(hW:Below w.heap.size w w1)(hu:bn w1 M u l)(hM:w.heap.size<=M)(hbase:base<=w.heap.size)(hl:l.length<=10000)(hN:N<=1152921504606846976):Calls Tryz.prog 15 #[.pointer (some ⟨gb,0,none⟩),u] w1 fun e w2=>e= .returned (.tuple #[])/\k9 gb base (N+1) S w w2:=by
 have hge:∀B,u.ownBlock=some B->w.heap.size<=B:=fun B hB=>Nat.le_trans hM (hu.lt B hB).1;refine(jw gb base N M S u l w1 (hb.below hW) hu (fun B hB=>⟨fun hs=>?_,Nat.le_trans hbase (hge B hB)⟩) (Nat.le_trans hbase hW.size) (by omega) (by omega)).mono fun e w2 h=>⟨h.1,h.to hW hge⟩;have h1:=(hb.bnd B hs).2;have h2:=hge B hB;omega
theorem qJ:(Tryz.prog.info? 75).map (fun i=>(i.zero,i.size))=some (some (.agg [.bool false, .slice none 0 0].toArray),2):=by kernel_rfl
theorem CS(gb base N:Nat)(S:Nat->Prop)(o:OpV)(xs ys:List Nat)(Ao Bo Ax Ay Bc:Option Addr)(ao bo cx cy Cc:Nat)(w:World)(h:mA w gb base N S o xs ys Ao ao Bo bo Ax cx Ay cy Bc Cc)(hkd:o.kd=1):Calls Tryz.prog 12 #[.pointer (some ⟨gb,0,none⟩), .agg o.cs.toArray, .slice Ax xs.length cx, .slice Ay ys.length cy, .agg (chC o.x Bc Cc).toArray] w (lk gb base (N+2) S w):=by
 have A:=aa h;have W:=aa hkd;clear h hkd;obtain⟨n,hn⟩:∃n,xs.length=n:=⟨_,rfl⟩;obtain⟨m,hm⟩:∃m,ys.length=m:=⟨_,rfl⟩;have C:=aa hn;have I:=aa A.o.hA;rw[hn]at I⊢;rw[hm];clear hn hm;obtain⟨q,M⟩:∃q,Hd (dj o.wd o.root o.key xs=q):=⟨_,rfl⟩;have D:Hd (∀{w e w'},kF o.wd o.root o.key xs w e w'->so q xs w e w'):=fun h=>by
  have h1:=h.ans;rwa[M.o]at h1
 have hle:=Eo (q:=q) A.o.lX.isB;clear M;unfold so at D;obtain⟨f,hf⟩:∃f,EH q xs=f:=⟨_,rfl⟩;obtain⟨vs,hvs⟩:∃vs,Ak q xs=vs:=⟨_,rfl⟩;rw[hf,hvs]at D;rw[hvs]at hle;have X:=aa hle;clear hf hvs hle;go_enter Tryz.func12,Tryz.ntmps12;go_upto_region 1with fail;refine bV (G:=fun w2=>Code.wp _ _ _ _ w2) fun w2 O Y H l=>?_;have B:Hd (bp w2 w.heap.size o):=O;clear O Y;have q0:=B.o.kd;rw[W.o]at q0;have q1:=B.o.wd;have q2:=B.o.a A.o.ok;rw[I.o]at q2;go_wp2_with(first|((with_reducible refine atS 38 ?_);refine aj (by rfl) 34 (.tmp 37) rfl w.heap.size 2 (bvs o.root) rfl B.o.root (by kernel_rfl) (by rw[ag];simp[bvs,A.o.ok.root.1]) ?_)|((with_reducible refine atS 40 ?_);refine aj (by rfl) 37 (.tmp 39) rfl w.heap.size 34 (bvs o.key) rfl (B.o.key A.o.ok) (by kernel_rfl) (by rw[aB];simp[bvs,A.o.ok.key.1]) ?_));have hL2:=A.o.lX.below H.o;refine(uN o.wd o.root o.key xs Ax n cx w2 A.o.ok.root.1 A.o.ok.root.2 A.o.ok.key.1 A.o.ok.key.2 (C.o▸hL2.rb) (hL2.lt A.o.px) (C.o▸hL2.le) hL2.non hL2.cm (C.o▸hL2.sz) (A.o.ht.below H.o)).mono ?_;intro e w3 hq3;obtain⟨hb3,A1,c1,rfl,ho3⟩:=D.o hq3;have p:=aa hb3;have P:Hd (bp w3 w.heap.size o):=ab.below B.o hb3;have Z:=aQ H hb3;have J:=aa ho3;clear hq3 hb3 ho3 hL2 q0 q1 q2 B;obtain⟨k,hk⟩:∃k,vs.length=k:=⟨_,rfl⟩;have b:=aa hk;rw[hk]at J D⊢;clear hk;go_wp2_with(first|((with_reducible refine atS 12 ?_);refine dU (s:=⟨none,_,_,_,_,_⟩) (by rfl) (by rfl) 75 rfl (.tmp 12) (.tmp 43) rfl [.bool false, .slice none 0 0] [.bool f, .slice A1 k c1] 2 qJ rfl rfl rfl rfl (by intro u hu;simp at hu;rcases hu with rfl|rfl<;>rfl) ?_;intro w4 Q K r;(try simp only[Act.put,LS]);have E:Hd (bp w4 w.heap.size o):=ab.below P.o K.o;have q1:=E.o.wd;have q2:=E.o.a A.o.ok;rw[I.o]at q2)|((with_reducible refine atS 49 ?_);refine aj (by rfl) 34 (.tmp 48) rfl w.heap.size 2 (bvs o.root) rfl E.o.root (by kernel_rfl) (by rw[ag];simp[bvs,A.o.ok.root.1]) ?_)|((with_reducible refine atS 51 ?_);refine aj (by rfl) 37 (.tmp 50) rfl w.heap.size 34 (bvs o.key) rfl (E.o.key A.o.ok) (by kernel_rfl) (by rw[aB];simp[bvs,A.o.ok.key.1]) ?_));have L:=aQ Z K.o;have R:=aa (J.o.below K.o);have hL4:=A.o.lA.below L.o;refine(sw o.wd o.root o.key Ao n ao xs w4 A.o.ok.root.2 A.o.ok.root.1 A.o.ok.key.2 A.o.ok.key.1 (C.o▸hL4.rb) (C.o▸hL4.le) (C.o▸hL4.sz) (A.o.ht1.below L.o)).mono ?_;intro e w5 hq5;obtain⟨hb5,A2,c2,rfl,ho5⟩:=D.o hq5;have c:=aQ L hb5;have d:Hd (ab w5 w3.heap.size 75 [.bool f, .slice A1 k c1].toArray):=ab.below Q.o hb5;have T:=aa (R.o.below hb5);have g:=aa ho5;clear hq5 hb5 ho5 hL4 q1 q2 J R Q E P;go_wp2_with((with_reducible refine atS 14 ?_);refine dU (s:=⟨none,_,_,_,_,_⟩) (by rfl) (by rfl) 75 rfl (.tmp 14) (.tmp 55) rfl [.bool false, .slice none 0 0] [.bool f, .slice A2 k c2] 2 qJ rfl rfl rfl rfl (by intro u hu;simp at hu;rcases hu with rfl|rfl<;>rfl) ?_;intro w6 U F t;(try simp only[Act.put,LS]);have V:Hd (ab w6 w3.heap.size 75 [.bool f, .slice A1 k c1].toArray):=ab.below d.o F.o;have a0:=V.o.cell 0;have a1:=V.o.cell 1;have b0:=U.o.cell 0;have b1:=U.o.cell 1;have hv1:=dn 36 9 5 ax (by kernel_rfl) (by kernel_rfl) (T.o.below F.o).reads;have hv2:=dn 36 9 5 ax (by kernel_rfl) (by kernel_rfl) (g.o.below F.o).reads;rw[b.o]at hv1 hv2);have i:=aQ c F.o;refine(tY A.o.bk i.o (T.o.below F.o) H.o.size A.o.base (by have:=X.o;omega) A.o.nB).mono ?_;rintro e w7⟨rfl,hto⟩;have j:=aa (hto.mono (Nat.le_succ _));clear hto hv1 hv2 a0 a1 b0 b1;go_wp2_with fail;go_ret;exact⟨rfl,j.o⟩
theorem CR(gb base N:Nat)(S:Nat->Prop)(o:OpV)(xs ys:List Nat)(Ao Bo Ax Ay Bc:Option Addr)(ao bo cx cy Cc:Nat)(w:World)(h:mA w gb base N S o xs ys Ao ao Bo bo Ax cx Ay cy Bc Cc)(hkd:o.kd=2):Calls Tryz.prog 12 #[.pointer (some ⟨gb,0,none⟩), .agg o.cs.toArray, .slice Ax xs.length cx, .slice Ay ys.length cy, .agg (chC o.x Bc Cc).toArray] w (lk gb base (N+2) S w):=by
 have A:=aa h;have E:=aa hkd;clear h hkd;have F:Hd (∀w2,Below w.heap.size w w2->Calls Tryz.prog 31 #[.pointer (some ⟨gb,0,none⟩), .agg o.cs.toArray, .slice Ax xs.length cx] w2 (lk gb base (N+1) S w2)):=fun w2 hb=>have h:=A.o.below hb
  yM gb base N S o xs Ao Ax ao cx w2 h.bk h.ok h.hA h.lA h.lX h.px h.ht h.ht1 h.base (by have:=h.nB;omega);generalize xs.length=n at*;generalize ys.length=m at*;go_enter Tryz.func12,Tryz.ntmps12;go_upto_region 1with fail;refine bV (G:=fun w2=>Code.wp _ _ _ _ w2) fun w2 B H C J=>?_;have D:Hd (bp w2 w.heap.size o):=B;clear B H;have q0:=D.o.kd;rw[E.o]at q0;go_wp2_with((with_reducible refine atS 83 ?_);refine aj (by rfl) 42 (.tmp 6) rfl w.heap.size 0 o.cs rfl D.o.all ic (by rw[fe,OpV.len A.o.ok]) ?_);refine(F.o w2 C.o).mono ?_;rintro e w3⟨rfl,hto⟩;have I:Hd (k9 gb base (N+2) S w w3):=(k9.pre C.o hto).mono (Nat.le_succ _);clear hto q0;go_wp2_with fail;go_ret;exact⟨rfl,I.o⟩
theorem CT(gb base N:Nat)(S:Nat->Prop)(o:OpV)(xs ys:List Nat)(Ao Bo Ax Ay Bc:Option Addr)(ao bo cx cy Cc:Nat)(w:World)(h:mA w gb base N S o xs ys Ao ao Bo bo Ax cx Ay cy Bc Cc)(h1:o.kd≠1)(h2:o.kd≠2)(h3:o.kd≠3)(h4:o.kd≠4)(h5:o.kd≠5):Calls Tryz.prog 12 #[.pointer (some ⟨gb,0,none⟩), .agg o.cs.toArray, .slice Ax xs.length cx, .slice Ay ys.length cy, .agg (chC o.x Bc Cc).toArray] w (lk gb base (N+2) S w):=by
 have B:=aa h;clear h;generalize xs.length=n at*;generalize ys.length=m at*;obtain⟨kd,hkd⟩:∃kd,o.kd=kd:=⟨_,rfl⟩;have C:=aa hkd;rw[hkd]at h1 h2 h3 h4 h5;clear hkd;have d1:(kd==1)=false:=by simpa using h1
 have d2:(kd==2)=false:=by simpa using h2
 have d3:(kd==3)=false:=by simpa using h3
 have d4:(kd==4)=false:=by simpa using h4
 have d5:(kd==5)=false:=by simpa using h5
 go_enter Tryz.func12,Tryz.ntmps12;go_upto_region 1with fail;refine bV (G:=fun w2=>Code.wp _ _ _ _ w2) fun w2 A D E H=>?_;have F:Hd (bp w2 w.heap.size o):=A;clear A D;have q0:=F.o.kd;rw[C.o]at q0;go_wp2_with fail;go_ret;exact⟨rfl,(k9.none B.o.bk E.o).mono (by omega)⟩
end Go.Proofs.YtfnlhfaihoojfaaGreatDoor
