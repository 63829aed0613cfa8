/- Texts of the proof of ledgerlaw13.ClientPlays, part 10; no condition of its own. -/
import Derived.Laws.Cover3
import Derived.Test.YtfnlhfaihoojfaaGreatDoorS9
set_option maxRecDepth 100000
set_option maxHeartbeats 4000000
namespace Go.Proofs.YtfnlhfaihoojfaaGreatDoor
open Go.RowKit
theorem fF:Tryz.prog.built 94 []=some (prC false (.slice none 0 0) (zs 32) (.slice none 0 0)).toArray:=by kernel_rfl
theorem fc{ops:Array Oper}{rest:List Oper}{o:Oper}{a:Act}{w:World}{Q:Exit->Act->World->Prop}(hgd:o.guard=none)(x y:Operand)(ho:o.op= .store 94 x y)(g:Nat)(f:Bool)(v:Value)(bits:List Nat)(s:Value)(hx:a.eval x= .pointer (some ⟨g,0,none⟩))(hy:a.eval y= .agg (prC f v bits s).toArray){f0:Bool}{v0 s0:Value}(h0:cG w g f0 v0 (zs 32) s0)(hb:bits.length=32)(hv:v.oneCell'=true)(hs:s.oneCell'=true)(h:∀w',cG w' g f v bits s->w.grownBy w' (some g)->wpList Tryz.prog ops Q rest (a.put o.dst undef) w'):wpList Tryz.prog ops Q (o::rest) a w:=by
 refine wpList_store_row hgd 94 x y ho g _ hx hy 94 _ h0 (by rw[lq,List.size_toArray,a7 hb]) (by rw[List.size_toArray,List.size_toArray,a7 hb,a7 (ak 32)]) (by
  rw[Array.all_eq_true_iff_forall_mem];intro u hu;exact oX hv hs u (by simpa using hu)) (h _ ?_ (fv _));show _=_;exact setRow_heap w g _ _ 94 (0,0) h0
theorem xm{ops:Array Oper}{rest:List Oper}{o:Oper}{a:Act}{w:World}{Q:Exit->Act->World->Prop}(hgd:o.guard=none)(x:Operand)(ho:o.op= .load 94 x)(g:Nat)(f:Bool)(v:Value)(bits:List Nat)(s:Value)(hx:a.eval x= .pointer (some ⟨g,0,none⟩))(h0:cG w g f v bits s)(hb:bits.length=32)(h:wpList Tryz.prog ops Q rest (a.put o.dst (.agg (prC f v bits s).toArray)) w):wpList Tryz.prog ops Q (o::rest) a w:=by
 obtain⟨d,hu,hd⟩:=gq Da;exact wpList_load_mid hgd _ x ho g 0 hx (prC f v bits s) d (ab.range h0) hu hd (by rw[lq,a7 hb]) h
theorem iX{fn:Func}{p u:Tmp}{R:Ending->World->Prop}{x:Act}{w:World}{g:Nat}{f:Bool}{v s z:Value}{bits:List Nat}(h:fn.results=#[.cell p 94, .tmp u])(hp:x.tmps.getD p undef= .pointer (some ⟨g,0,none⟩))(hb:cG w g f v bits s)(hl:bits.length=32)(hu:x.tmps.getD u undef=z)(hd:x.defers=[])(hR:R (.returned (.tuple #[.agg (prC f v bits s).toArray,z])) w):bodyPost Tryz.prog fn R .ret x w:=by
 refine bodyPost_ret (v:= .tuple #[.agg (prC f v bits s).toArray,z]) ?_ hd hR;obtain⟨d,hu2,hd2⟩:=gq Da;have hl:=run_loadVar_mid (P:=Tryz.prog) w g 0 94 (prC f v bits s) d (ab.range hb) hu2 hd2 (by rw[lq,a7 hl]);rw[results_cell_tmp h,hp,hu];simp[asAddr,Result.andThen,hl]
abbrev ko(w:World)(base:Nat)(v:Value)(ds:List (List Nat)):Prop:=w.ownsRow base 34 32 v ds.length (bvs ds.flatten)
theorem uU{X Y Z cs:List Value}{o:Nat}(h:X.length=o)(hY:Y.length=cs.length):splice (X++(Y++Z)) o cs=X++(cs++Z):=by
 unfold splice;rw[List.take_left' h,<-List.append_assoc X Y Z,List.drop_left' (by simp;omega)]
theorem vv{f:Bool}{v s:Value}{bits:List Nat}(h:bits.length=32):splice (prC f v (zs 32) s) 2 (bvs bits)=prC f v bits s:=by
 have e:prC f v (zs 32) s=[.bool f,v]++(bvs (zs 32)++[s]):=rfl;rw[e,uU (by rfl) (by simp[bvs,h,zs])];rfl
theorem cG.rb{w:World}{g:Nat}{f:Bool}{v s:Value}{bits:List Nat}(h:cG w g f v bits s)(hl:bits.length=32)(hB:IsB bits):RB w (some ⟨g,2,none⟩) 32 bits:=by
 refine⟨hl,hB,fun _=>⟨_,rfl,h.lt,fun j x hj=>?_⟩⟩;have h1:=h.cell (2+j);have hlt:j<(bvs bits).length:=by
  rcases Nat.lt_or_ge j bits.length with h'|h'
  ·simpa[bvs]using h'
  ·rw[List.getElem?_eq_none h']at hj;cases hj
 have h2:(prC f v bits s).toArray[2+j]?=some (.int .u8 x):=by
  rw[List.getElem?_toArray];show(Value.bool f::v::(bvs bits++[s]))[2+j]?=_;rw[show 2+j=j+1+1by omega,List.getElem?_cons_succ,List.getElem?_cons_succ,List.getElem?_append_left hlt,bvs,List.getElem?_map,hj];rfl
 rw[h2]at h1;rw[add_lit];exact h1
theorem cG.sums{w:World}{g:Nat}{f:Bool}{v s:Value}{bits:List Nat}(h:cG w g f v bits s)(hl:bits.length=32)(s':Value):cG (w.setCell ⟨g,34,none⟩ s') g f v bits s':=by
 have h1:=ab.stored h 34 s';have e:(prC f v bits s).toArray.setIfInBounds 34 s'=(prC f v bits s').toArray:=by
  rw[List.setIfInBounds_toArray];congr 1;show(Value.bool f::v::(bvs bits++[s])).set 34 s'=_;rw[List.set_cons_succ,List.set_cons_succ,List.set_append_right _ _ (by simp[bvs,hl])];simp[bvs,hl,prC]
 rw[e]at h1;exact h1
theorem cG.sumsCell{w:World}{g:Nat}{f:Bool}{v s:Value}{bits:List Nat}(h:cG w g f v bits s)(hl:bits.length=32):w.cell? ⟨g,34,none⟩=some s:=by
 have h1:=h.cell 34;rw[h1,List.getElem?_toArray];show(Value.bool f::v::(bvs bits++[s]))[34]?=_;rw[List.getElem?_cons_succ,List.getElem?_cons_succ,List.getElem?_append_right (by simp[bvs,hl])];simp[bvs,hl]
theorem pH{P:Program}{ops:Array Oper}{Q:Exit->Act->World->Prop}{K:Act->World->Prop}{E:Prop}{o:Oper}{a:Act}{w:World}(hw:Region.wanted o (yielded ops a.tmps)=true)(ty:TypeId)(x:Operand)(ho:o.op= .load ty x)(ad:Addr)(n:Nat)(ys:List Nat)(hx:a.eval x= .pointer (some ad))(hr:RB w (some ad) n ys)(hn:0<n)(hrow:(P.underlying ty).map (·.isRow)=some true)(hi:(P.info? ty).map (·.size)=some n)(h:K (a.put o.dst (.agg (bvs ys).toArray)) w):if Region.wanted o (yielded ops a.tmps)=true then Oper.wp P o a w K Q else E:=by
 rw[if_pos hw];obtain⟨d,hu,hd⟩:=gq hrow;obtain⟨ad',e,_,hc⟩:=hr.2.2 hn;injection e with e;subst e;have hl:(loadCells ad (bvs ys).length).run P w= .ok (bvs ys).toArray w:=run_loadCells_list (P:=P) w ad (bvs ys) (fun j v hv=>by
  simp only[bvs,List.getElem?_map,Option.map_eq_some_iff]at hv;obtain⟨y,hy,rfl⟩:=hv;exact hc j y hy);have hlv:(loadVar ty ad).run P w= .ok (.agg (bvs ys).toArray) w:=by
  cases hq:P.info? ty with
  |none=>simp[hq]at hi
  |some i=>
   have hs:i.size=(bvs ys).length:=by
    have:i.size=n:=by simpa[hq]using hi
    simp[bvs,this,hr.1]
   have hagg:(isAgg ty).run P w= .ok true w:=by
    unfold isAgg;rw[Sem.run_bind,run_underlying hu w];cases d<;>simp_all
   simp[loadVar,Sem.run_bind,hagg,sizeOf,typeInfo,hq,hs,hl]
 unfold Oper.wp execOp;simp only[ho,hx,Instr.loadAt,Instr.sureAddr,Sem.run_bind,Sem.run_pure,Result.andThen_ok,hlv];exact h
theorem j8{w:World}{base:Nat}{e:TypeId}{size n:Nat}{v:Value}{xs:List Value}(h:w.ownsRow base e size v n xs):v.oneCell'=true:=by
 rcases h.2with h1|⟨g,cap,cur,rfl,_⟩
 ·obtain⟨rfl,_⟩:=h1;rfl
 ·rfl
theorem di{w:World}{base:Nat}{e:TypeId}{size n:Nat}{v:Value}{xs:List Value}(h:w.ownsRow base e size v n xs){B:Nat}(hB:v.ownBlock=some B):base<=B/\B<w.heap.size:=by
 rcases h.2with h1|⟨g,cap,cur,rfl,h1,h2,h3⟩
 ·obtain⟨rfl,_⟩:=h1;cases hB
 ·injection hB with hB;subst hB;refine⟨h1,?_⟩;rcases Nat.lt_or_ge g w.heap.size with h'|h'
  ·exact h'
  ·rw[Array.getElem?_eq_none h']at h2;cases h2
theorem ae.andThen{U V:Nat->Prop}{w w' w'':World}(h:ae U w w')(k:ae V w' w'')(hv:∀B,B<w.heap.size->V B->U B):ae U w w'':=⟨k.os.trans h.os,k.tape.trans h.tape,k.output.trans h.output,Nat.le_trans h.size k.size,fun i hi hn=>(k.block i (Nat.lt_of_lt_of_le hi h.size) (fun hV=>hn (hv i hi hV))).trans (h.block i hi hn)⟩
theorem db{w:World}{base:Nat}{e:TypeId}{size n:Nat}{v:Value}{xs:List Value}(h:w.ownsRow base e size v n xs):∃a l c,v= .slice a l c:=by
 rcases h.2with h1|⟨g,cap,cur,rfl,_⟩
 ·exact⟨_,_,_,h1.1⟩
 ·exact⟨_,_,_,rfl⟩
theorem gG{w:World}{base base':Nat}{e:TypeId}{size n:Nat}{v:Value}{xs:List Value}(h:w.ownsRow base e size v n xs)(hb:base'<=base):w.ownsRow base' e size v n xs:=by
 refine⟨h.1,?_⟩;rcases h.2with h1|⟨g,cap,cur,rfl,h1,h2⟩
 ·exact .inl h1
 ·exact .inr ⟨g,cap,cur,rfl,Nat.le_trans hb h1,h2⟩
theorem za{xs:List Nat}{f:Bool}{v r:List Nat}(h:dQ xs=some (f,v,r)):r.length<=xs.length:=by
 unfold dQ at h;by_cases h0:xs.length=0
 ·rw[if_pos h0]at h;cases h
 ·rw[if_neg h0]at h;by_cases h1:xs.getD 0 0=0
  ·rw[if_pos h1]at h;injection h with h;injection h with e1 h;injection h with e2 e3;rw[<-e3,List.length_drop];omega
  ·rw[if_neg h1]at h;split at h
   ·injection h with h;injection h with e1 h;injection h with e2 e3;rw[<-e3,List.length_drop];omega
   ·cases h
def ya(base:Nat)(xs:List Nat)(e:Ending)(w':World):Prop:=(dF xs=none->e= .returned (.tuple #[.agg (prC false (.slice none 0 0) (zs 32) (.slice none 0 0)).toArray, .int .i64 120]))/\∀p,dF xs=some p->∃V S,e= .returned (.tuple #[.agg (prC p.found V p.bits S).toArray, .int .i64 0])/\bn w' base V p.val/\ko w' base S p.sums
theorem jd{xs:List Nat}(h:dQ xs=none):dF xs=none:=by unfold dF;rw[h]
theorem mZ{xs:List Nat}{f:Bool}{v r:List Nat}(h:dQ xs=some (f,v,r)):dF xs=oV f v r:=by unfold dF;rw[h]
theorem wB(A:Option Addr)(n c:Nat)(xs:List Nat)(w:World)(hx:RB w A n xs)(hlt:∀ad,A=some ad->ad.block<w.heap.size)(hnc:n<=c)(hA:A=none->c=0)(hc:c<=maxLen)(hn:n<=140737488355328):Calls Tryz.prog 80 #[.slice A n c] w fun e w'=>ya w.heap.size xs e w'/\Below w.heap.size w w':=by
 have HX:=aa hx;have Hc:=aa hlt;have He:=aa hnc;have HA:=aa hA;have HC:=aa hc;have Hf:Hd (xs.length<=140737488355328):=by have:=hx.1;show _<=_;omega
 clear hx hlt hnc hA hc;go_enter Tryz.func80,Tryz.ntmps80;go_wp2_with fail;refine fC (G:=fun w2=>Calls _ _ _ w2 _) fun w2 H1 H2 H3 HW HS=>?_;have Hg:Hd (cG w2 w.heap.size false (.slice none 0 0) (zs 32) (.slice none 0 0)):=H1;have Hh:Hd (cG w2 (w.heap.size+1) false (.slice none 0 0) (zs 32) (.slice none 0 0)):=H2;have Hi:Hd (jS w2 (w.heap.size+1+1) A n c false):=H3;clear H1 H2 H3;refine(wL (w.heap.size+1+1) (w.heap.size+1) A n c xs w2 Hi.o Hh.o (by omega) (HX.o.below HW.o) (fun ad e=>by have:=Hc.o ad e;omega) He.o HA.o HC.o).mono ?_;rintro e w3⟨ht,hno,hyes⟩;have Hj:=aa ht;have E:Hd (Below w.heap.size w w3):=ht.toBelow HW.o HW.o.size fun B hB=>by rcases hB with hB|hB<;>omega
 have O:=aa (ht.blk Hg.o fun hB=>by rcases hB with hB|hB<;>omega);cases hh:dQ xs with
 |none=>
  rw[hno hh];have T:=aa (jd hh);clear hno hyes hh ht;go_wp2_with(first|(refine aM (o:=⟨some 13,_,_,_,_,_⟩) (by rfl) 94 #[] rfl [] (by simp[go_sem]) _ fF ?_)|(refine fc (o:=⟨none,_,_,_,_,_⟩) (by rfl) (.tmp 2) (.tmp 13) rfl w.heap.size false (.slice none 0 0) (zs 32) (.slice none 0 0) rfl rfl O.o (ak 32) rfl rfl ?_;intro wf L hgf));have U:Below w.heap.size w wf:=E.o.grown hgf E.o.size fun k hk=>by injection hk with hk;omega
  exact iX rfl rfl L (ak 32) rfl rfl ⟨⟨fun _=>rfl,fun p h=>by rw[T.o]at h;cases h⟩,U⟩
 |some y=>
  obtain⟨f,v,r⟩:=y;obtain⟨rfl,V,A3,c3,hp3,ho3,hr3,hx3,hc3,hm3,hn3,hb3⟩:=hyes f v r hh;have HH:=aa hm3;have HI:=aa (mZ hh);have Hk:Hd (r.length<=140737488355328):=Nat.le_trans (za hh) Hf.o;have X:=aa hp3;have Y:Hd (bn w3 w2.heap.size V v):=ho3;have Z:=aa hr3;have H:=aa hx3;have HJ:=aa hc3;have HP:=aa hn3;have x:=aa hb3;have HD:=aa ht.size;obtain⟨VA,Vc,rfl,_⟩:=ho3.form;clear hno hyes hh ht hp3 ho3 hr3 hx3 hc3 hm3 hn3 hb3;go_wp2_with fail;rename_i KK hKK;have a:=aa hKK;clear hKK;have I:Hd (w2.heap.size=w.heap.size+1+1+1):=HS.o;refine wp_region_held_drew (S:=fun _=>True) (by kernel_rfl) trivial fun hH=>?_;replace X:Hd (cG w3.drew (w.heap.size+1) f (.slice VA v.length Vc) (zs 32) (.slice none 0 0)):=X.o;replace Z:Hd (jS w3.drew (w.heap.size+1+1) A3 r.length c3 false):=Z.o;replace O:Hd (cG w3.drew w.heap.size false (.slice none 0 0) (zs 32) (.slice none 0 0)):=O.o;replace H:Hd (RB w3.drew A3 r.length r):=H.o.below (af (Below.refl _ _) 1);replace Y:Hd (bn w3.drew w2.heap.size (.slice VA v.length Vc) v):=Y.o.below (af (Below.refl _ _) 1);replace E:Hd (Below w.heap.size w w3.drew):=af E.o 1;replace HD:Hd (w2.heap.size<=w3.drew.heap.size):=HD.o;clear Hj;generalize w3.drew=w3 at*;refine tk 0 ?_;refine tk 1 ?_;refine tk 2 ?_;refine rdy 3 fun K hK=>?_;go_simp;go_at_call 103;by_cases h32:32<=r.length
  ·refine(jV (w.heap.size+1+1) A3 r.length c3 32 false w3 Z.o h32 HJ.o HP.o HH.o).mono ?_;rintro e w4⟨rfl,h1,hg4⟩;have HR:Hd (RB w4 A3 32 (r.take 32)):=((ae.one hg4).rb H.o fun ad e e2=>by have:=(x.o ad e).1;omega).take h32;have b:=aa ((ae.one hg4).blk X.o (by omega));have M4:Hd (∃A',jS w4 (w.heap.size+1+1) A' (r.length-32) (c3-32) false/\(32<r.length->A'=A3.map (·.add 32))/\(A'=none->c3-32=0)/\∀ad',A'=some ad'->∃ad,A3=some ad/\ad'.block=ad.block):=h1;have d:=aa hg4;refine hK.out _ _ trivial (fun hH4=>?_);clear hK h1 hg4;refine rdy 4 (o:=⟨some 18,_,_,_,_,_⟩) fun K hK=>?_;refine tI (o:=⟨some 18,_,_,_,_,_⟩) rfl (.tmp 15) (.tmp 17) 36 36 rfl 5 ax dB A3 (w.heap.size+1) 2 32 32 32 32 rfl rfl (prC f (.slice VA v.length Vc) (zs 32) (.slice none 0 0)) 94 b.o (r.take 32) HR.o (Nat.le_refl _) (by rw[a7 (ak 32)];omega) ?_;intro w5 hp5 hg5;have hbl:(r.take 32).length=32:=by rw[List.length_take];omega
   rw[vv hbl]at hp5;have P:Hd (cG w5 (w.heap.size+1) f (.slice VA v.length Vc) (r.take 32) (.slice none 0 0)):=hp5;have g:Hd (ae (UT2 (w.heap.size+1+1) (w.heap.size+1)) w3 w5):=((ae.one d.o).mono fun _ _ h=>Or.inl h).trans ((ae.one hg5).mono fun _ _ h=>Or.inr h);refine hK.out _ _ trivial (fun hH5=>?_);refine bN ?_;change KK _ _;refine a.o _ _ ?_;go_wp2_with(refine ac (o:=⟨some 20,_,_,_,_,_⟩) (by rfl) 33 (.tmp 19) rfl ⟨w.heap.size+1,2,none⟩ 32 (r.take 32) rfl (P.o.rb hbl (H.o.2.1.take 32)) (by omega) (by kernel_rfl) (by kernel_rfl) ?_);refine(mm (r.take 32) w5 (H.o.2.1.take 32) hbl).mono ?_;rintro e w6⟨rfl,hb6⟩;have Hl:=aa hb6;have C:=aa (g.o.trans ((ae.ofBelow hb6).mono fun _ _ h=>h.elim));have Hm:=aa (ab.below P.o hb6);obtain⟨A4,hr4,ha4,hn4,hb4⟩:=M4.o;have Q:=aa (ab.below ((ae.one hg5).blk hr4 (by omega)) hb6);have HK:Hd (RB w6 A4 (r.length-32) (r.drop 32)):=(C.o.rb H.o fun ad e h=>by have:=(x.o ad e);rcases h with h|h<;>omega).drop h32 ha4;have HT:Hd (r.length-32<=c3-32/\c3-32<=maxLen/\(A4=none->c3-32=0)/\∀ad,A4=some ad->ad.block≠w.heap.size+1+1/\ad.block≠w.heap.size+1/\ad.block<w2.heap.size):=⟨by have:=HJ.o;omega,by have:=HH.o;omega,hn4,fun ad e=>by obtain⟨ad3,e3,eb⟩:=hb4 ad e;rw[eb];exact x.o ad3 e3⟩;have HE:=aa (C.o.blk O.o fun h=>by rcases h with h|h<;>omega);have HU:Hd (bn w6 w2.heap.size (.slice VA v.length Vc) v):=C.o.own Y.o fun B hB h=>by have:=(Y.o.lt B hB).1;have:=I.o;rcases h with h|h<;>omega
   have M:Hd (Below w.heap.size w w6):=C.o.toBelow E.o E.o.size fun B h=>by rcases h with h|h<;>omega
   have j:Hd (w2.heap.size<=w6.heap.size):=Nat.le_trans HD.o C.o.size;have H4:Hd (IsB r):=H.o.2.1;have hones:cW (r.take 32)<=256:=by have:=iy (ds:=r.take 32);omega
   clear hb6 hr4 ha4 hn4 hb4 hp5 hg5 g C P HR b M4 d Hl X Z H HJ HP HH x O Y E HD hH4 hH5;have N:=aa hbl;have HL:=aa h32;clear hbl h32;have cH:=fE Q.o;by_cases hm:r.length-32=32*cW (r.take 32)
   ·have Hn:Hd (r.length=32+32*cW (r.take 32)):=by have:=HL.o;show _=_;omega
    have hm1:((r.length-32:Nat):Int)=(cW (r.take 32):Int)*32:=by omega
    have hm0:r.length-32=cW (r.take 32)*32:=by omega
    rw[hm0]at Q HK HT;clear cH hm;have cH:=fE Q.o;clear hm1 hm0;generalize hq:cW (r.take 32)=q at*;have HQ:=aa hq;clear hq;have HV:Hd ((r.drop 32).length=q*32):=HK.o.1;generalize hc4:c3-32=c4 at*;clear hc4;go_wp2_with fail;have HY:Hd (∀B,(Value.slice VA v.length Vc).ownBlock=some B->w2.heap.size<=B/\B<w6.heap.size):=fun B hB=>HU.o.lt B hB;have H5:Hd (r.length<=140737488355328):=Hk.o;have hq256:(q:Int)<=256:=by omega
    clear cH hones;generalize hrs:r.drop 32=rs at*;have Ho:=aa hrs;clear hrs;go_loopw[38](fun i wr=>∃k:Nat,k<=q/\i= .int .i64 k/\∃(s:Value)(A':Option Addr)(c':Nat),Hd (cG wr (w.heap.size+1) f (.slice VA v.length Vc) (r.take 32) s)/\Hd (wr.ownsRow w6.heap.size 34 32 s k (bvs (rs.take (k*32))))/\Hd (jS wr (w.heap.size+1+1) A' (q*32-k*32) c' false)/\Hd (RB wr A' (q*32-k*32) (rs.drop (k*32)))/\Hd (q*32-k*32<=c'/\c'<=maxLen/\(A'=none->c'=0)/\∀ad,A'=some ad->ad.block≠w.heap.size+1+1/\ad.block≠w.heap.size+1/\ad.block<w2.heap.size)/\Hd (ae (UT2 (w.heap.size+1+1) (w.heap.size+1)) w6 wr))(fun i _=>q-(intOf i).toNat)
    case atStart=>exact⟨0,Nat.zero_le _,rfl,_,A4,c4,Hm.o,World.ownsRow_nil _ _ _ _,Q.o,HK.o,HT.o,ae.refl _ _⟩
    case round=>
     obtain⟨k,hk,rfl,s,A',c',R,F,HF,l,D,J⟩:=hrel;by_cases hlt:(k:Int)<q
     ·go_wp2_with fail;rename_i KK hKK;have a:=aa hKK;clear hKK;have HM:Hd (32<=q*32-k*32):=by show _<=_;omega
      have HN:Hd (w6.heap.size<=wr.heap.size):=J.o.size;have HG:Hd (∀B,s.ownBlock=some B->w6.heap.size<=B/\B<wr.heap.size):=fun B hB=>di F.o hB;refine bA (S:=fun w'=>w'.cell? ⟨w.heap.size+1,34,none⟩=some s) 9 (by kernel_rfl) (R.o.sumsCell N.o) fun hH=>?_;replace R:Hd (cG wr.drew (w.heap.size+1) f (.slice VA v.length Vc) (r.take 32) s):=R.o;replace F:Hd (wr.drew.ownsRow w6.heap.size 34 32 s k (bvs (rs.take (k*32)))):=F.o;replace HF:Hd (jS wr.drew (w.heap.size+1+1) A' (q*32-k*32) c' false):=HF.o;replace l:Hd (RB wr.drew A' (q*32-k*32) (rs.drop (k*32))):=l.o.below (af (Below.refl _ _) 1);replace J:Hd (ae (UT2 (w.heap.size+1+1) (w.heap.size+1)) w6 wr.drew):=J.o.drewN 1;replace HN:Hd (w6.heap.size<=wr.drew.heap.size):=HN.o;replace HG:Hd (∀B,s.ownBlock=some B->w6.heap.size<=B/\B<wr.drew.heap.size):=HG.o;generalize wr.drew=w7 at*;refine tua 0 [1,7,9] ?_;refine tua 1 [7,9] ?_;refine tua 2 [3,4,5,6,7,9] ?_;refine rdu 3 fun K hK=>?_;go_simp;go_at_call 103;refine(jV (w.heap.size+1+1) A' (q*32-k*32) c' 32 false w7 HF.o HM.o D.o.1 D.o.2.2.1 D.o.2.1).mono ?_;rintro e w8⟨rfl,h1,hg8⟩;have HO:Hd (RB w8 A' 32 ((rs.drop (k*32)).take 32)):=((ae.one hg8).rb l.o fun ad e=>(D.o.2.2.2 ad e).1).take HM.o;have Hp:Hd (∃A'',jS w8 (w.heap.size+1+1) A'' (q*32-k*32-32) (c'-32) false/\(32<q*32-k*32->A''=A'.map (·.add 32))/\(A''=none->c'-32=0)/\∀ad',A''=some ad'->∃ad,A'=some ad/\ad'.block=ad.block):=h1;have HZ:Hd (cG w8 (w.heap.size+1) f (.slice VA v.length Vc) (r.take 32) s):=(ae.one hg8).blk R.o (by omega);have Hq:=aa ((ae.one hg8).row F.o fun B hB e=>by have:=(HG.o B hB).1;have:=j.o;have:=I.o;omega);have Hr:Hd (ae (UT2 (w.heap.size+1+1) (w.heap.size+1)) w6 w8):=J.o.trans ((ae.one hg8).mono fun _ _ h=>Or.inl h);have Hs:Hd (RB w8 A' (q*32-k*32) (rs.drop (k*32))):=(ae.one hg8).rb l.o fun ad e=>(D.o.2.2.2 ad e).1;have Ht:Hd (w7.heap.size<=w8.heap.size):=hg8.size;have hH8:w8.cell? ⟨w.heap.size+1,34,none⟩=some s:=HZ.o.sumsCell N.o;refine hK.out _ _ (fun _=>hH8) ?_;clear hK h1 hg8 hH R F HF l J;obtain⟨ad,hA,_⟩:=HO.o.at_ (show 0<32by omega);subst hA;have hat:∀W,(Instr.arrayAt 34 (.slice (some ad) 32 32)).run Tryz.prog W= .ok (.pointer (some ad)) W:=fun W=>run_arrayAt W 34 _ 32 (some ad) 32 32 bE (Nat.le_refl _);refine tua 4 [5,6,7,9] ?_;clear hat;have hdl:((rs.drop (k*32)).take 32).length=32:=HO.o.1;refine b9 (i:=5) (o:=⟨some 45,_,_,_,_,_⟩) (by kernel_rfl) rfl (fun K hK=>?_);refine pH (o:=⟨some 45,_,_,_,_,_⟩) (by rfl) 34 (.tmp 44) rfl ad 32 ((rs.drop (k*32)).take 32) rfl HO.o (by omega) (by kernel_rfl) (by kernel_rfl) ?_;refine hK.out _ _ (fun _=>hH8) ?_;clear hK;refine b9 (i:=6) (o:=⟨some 46,_,_,_,_,_⟩) (by kernel_rfl) rfl (fun K hK=>?_);refine el (o:=⟨some 46,_,_,_,_,_⟩) (by rfl) w8 27 34 (.agg (gZ 32)) 32 (.tmp 45) rfl (by kernel_rfl) (by kernel_rfl) (by omega) (by omega) (bvs ((rs.drop (k*32)).take 32)).toArray rfl (by rw[List.size_toArray,bvs,List.length_map];exact hdl) ?_;refine hK.out _ _ (fun _=>(World.cell?_alloc_some w8 _ _ (by rw[hH8];rfl)).trans hH8) ?_;clear hK;refine b9 (i:=7) (o:=⟨some 47,_,_,_,_,_⟩) (by kernel_rfl) rfl (fun K hK=>?_);refine pI (t:=27) (e:=34) (z:= .agg (gZ 32)) (by_:=32) (o:=⟨some 47,_,_,_,_,_⟩) (by kernel_rfl) (by kernel_rfl) (by rfl) (by rfl) w8 (.tmp 41) (.tmp 46) rfl w6.heap.size s k (bvs (rs.take (k*32))) Hq.o (bvs ((rs.drop (k*32)).take 32)) (by rw[bvs,List.length_map];exact hdl) (fun u hu=>ah _ u hu) rfl rfl (by omega) (by omega) (by have:=HN.o;have:=Ht.o;omega) ?_;intro s9 w9 hs9 hg9 hl9;obtain⟨s9a,s9n,s9c,e9⟩:=db hs9;subst e9;have hne:∀B,B<w6.heap.size->¬some B=s.ownBlock:=fun B h e=>by have:=(HG.o B e.symm).1;omega
      have hgl:w.heap.size+1<w6.heap.size:=by have:=j.o;have:=I.o;omega
      have hgl2:w.heap.size+1+1<w6.heap.size:=by have:=j.o;have:=I.o;omega
      have hp9:cG w9 (w.heap.size+1) f (.slice VA v.length Vc) (r.take 32) s:=(ae.grown hg9).blk HZ.o (hne _ hgl);have ht9:ae (UT2 (w.heap.size+1+1) (w.heap.size+1)) w6 w9:=Hr.o.andThen (ae.grown hg9) fun B h e=>absurd e (hne B h);have hx9:RB w9 (some ad) (q*32-k*32) (rs.drop (k*32)):=(ae.grown hg9).rb Hs.o fun ad' e h=>hne _ (by have:=(D.o.2.2.2 ad' e).2.2;have:=j.o;omega) h;obtain⟨A9,hd8,ha9,hn9,hb9⟩:=Hp.o;have hd9:=(ae.grown hg9).blk hd8 (hne _ hgl2);have hc9:=hp9.sumsCell N.o;have hf9:=ab.frozen hp9 34;have Hu:Hd (cG (w9.setCell ⟨w.heap.size+1,34,none⟩ (.slice s9a s9n s9c)) (w.heap.size+1) f (.slice VA v.length Vc) (r.take 32) (.slice s9a s9n s9c)):=hp9.sums N.o (.slice s9a s9n s9c);have t10:ae (fun B=>B=w.heap.size+1) w9 (w9.setCell ⟨w.heap.size+1,34,none⟩ (.slice s9a s9n s9c)):=ae.one (ai _ _ _);have Hv:Hd (ae (UT2 (w.heap.size+1+1) (w.heap.size+1)) w6 (w9.setCell ⟨w.heap.size+1,34,none⟩ (.slice s9a s9n s9c))):=ht9.trans (t10.mono fun _ _ h=>Or.inr h);have Hw:Hd (jS (w9.setCell ⟨w.heap.size+1,34,none⟩ (.slice s9a s9n s9c)) (w.heap.size+1+1) A9 (q*32-(k+1)*32) (c'-32) false):=by
       have:=t10.blk hd9 (by omega);rwa[show q*32-k*32-32=q*32-(k+1)*32by omega]at this
      have Hx:Hd (RB (w9.setCell ⟨w.heap.size+1,34,none⟩ (.slice s9a s9n s9c)) A9 (q*32-(k+1)*32) (rs.drop ((k+1)*32))):=by
       have:=(t10.rb hx9 fun ad' e=>(D.o.2.2.2 ad' e).2.1).drop HM.o ha9;rw[List.drop_drop]at this;rwa[show q*32-k*32-32=q*32-(k+1)*32by omega,show k*32+32=(k+1)*32by omega]at this
      have Hy:Hd ((w9.setCell ⟨w.heap.size+1,34,none⟩ (.slice s9a s9n s9c)).ownsRow w6.heap.size 34 32 (.slice s9a s9n s9c) (k+1) (bvs (rs.take ((k+1)*32)))):=by
       have h:=t10.row hs9 fun B hB e=>by have:=(di hs9 hB).1;omega
       rw[bvs,bvs,<-List.map_append]at h;rw[show(k+1)*32=k*32+32by omega,List.take_add];exact h
      have Hz:Hd (q*32-(k+1)*32<=c'-32/\c'-32<=maxLen/\(A9=none->c'-32=0)/\∀ad,A9=some ad->ad.block≠w.heap.size+1+1/\ad.block≠w.heap.size+1/\ad.block<w2.heap.size):=⟨by have:=D.o.1;omega,by have:=D.o.2.1;omega,hn9,fun ad' e=>by obtain⟨ad3,e3,eb⟩:=hb9 ad' e;rw[eb];exact D.o.2.2.2 ad3 e3⟩;refine hK.out _ _ (fun _=>hc9) ?_;clear hK hne hgl hgl2 hp9 ht9 hx9 hd8 ha9 hn9 hb9 hd9 hs9 hg9 hl9 t10 hdl;refine tua 8 [9] ?_;refine rdu 9 fun K hK=>?_;go_simp;refine hK.out _ _ (fun h=>by cases h) ?_;refine co (by kernel_rfl) ?_ _;change KK _ _;refine a.o _ _ ?_;clear hK hc9 hf9 a;generalize w9.setCell ⟨w.heap.size+1,34,none⟩ (.slice s9a s9n s9c)=w10 at*;go_wp2_with fail;go_roundw
      case rel=>exact⟨k+1,by omega,by go_num, .slice s9a s9n s9c,A9,c'-32,Hu,Hy,Hw,Hx,Hz,Hv⟩
      case measure=>simp[intOf];omega
     ·have hkq:k=q:=by omega
      rw[hkq]at F;clear hkq;have hs1:=j8 F.o;have H0:=aa (J.o.blk HE.o fun h=>by rcases h with h|h<;>omega);clear hk;go_wp2_with(first|(refine xm (o:=⟨some 50,_,_,_,_,_⟩) (by rfl) (.tmp 4) rfl (w.heap.size+1) f (.slice VA v.length Vc) (r.take 32) s rfl R.o N.o ?_)|(refine fc (o:=⟨none,_,_,_,_,_⟩) (by rfl) (.tmp 2) (.tmp 50) rfl w.heap.size f (.slice VA v.length Vc) (r.take 32) s rfl rfl H0.o N.o rfl hs1 ?_;intro wf L hgf));have hD:dF xs=some ⟨f,v,r.take 32,d9 q rs⟩:=by
       rw[HI.o];unfold oV;rw[if_pos ⟨HL.o,by rw[HQ.o];exact Hn.o⟩,HQ.o,Ho.o]
      have hg2:w.heap.size<=w2.heap.size:=by have:=I.o;omega
      have hsz:w.heap.size+1<w6.heap.size:=by have:=j.o;have:=I.o;omega
      refine iX rfl rfl L N.o rfl rfl ⟨⟨fun h=>?_,fun p h=>?_⟩,?_⟩
      ·rw[hD]at h;cases h
      ·rw[hD]at h;injection h with h;subst h;refine⟨_,_,rfl,(ae.one hgf).own (J.o.own (HU.o.mono hg2) fun B hB e=>?_) fun B hB e=>?_,?_⟩
       ·have:=(HY.o B hB).1;have:=I.o;rcases e with e|e<;>omega
       ·have:=(HY.o B hB).1;have:=I.o;omega
       ·show World.ownsRow _ _ _ _ _ (d9 q rs).length (bvs (d9 q rs).flatten);have hl:rs.length=32*q:=by have:=HV.o;omega
        rw[gY,jh hl];have h1:=(ae.one hgf).row F.o fun B hB e=>by have:=(di F.o hB).1;omega
        rw[List.take_of_length_le (by have:=HV.o;omega)]at h1;exact gG h1 (by omega)
      ·have hb:Below w.heap.size w wr:=J.o.toBelow M.o M.o.size fun B h=>by rcases h with h|h<;>omega
       exact hb.grown hgf hb.size fun k hk=>by injection hk with hk;omega
   ·have hm1:¬((r.length-32:Nat):Int)=(cW (r.take 32):Int)*32:=by omega
    have T:Hd (dF xs=none):=by
     show dF xs=none;rw[HI.o];unfold oV;rw[if_neg (by have:=HL.o;omega)]
    clear hm;generalize cW (r.take 32)=q at*;generalize r.length-32=m at*;generalize c3-32=c4 at*;go_wp2_with(first|(refine aM (o:=⟨some 36,_,_,_,_,_⟩) (by rfl) 94 #[] rfl [] (by simp[go_sem]) _ fF ?_)|(refine fc (o:=⟨none,_,_,_,_,_⟩) (by rfl) (.tmp 2) (.tmp 36) rfl w.heap.size false (.slice none 0 0) (zs 32) (.slice none 0 0) rfl rfl HE.o (ak 32) rfl rfl ?_;intro wf L hgf));have U:Below w.heap.size w wf:=M.o.grown hgf M.o.size fun k hk=>by injection hk with hk;omega
    exact iX rfl rfl L (ak 32) rfl rfl ⟨⟨fun _=>rfl,fun p h=>by rw[T.o]at h;cases h⟩,U⟩
  ·refine(jC (w.heap.size+1+1) A3 r.length c3 32 false w3 Z.o (by omega)).mono ?_;rintro e w4⟨rfl,h1,hg4⟩;have b:=aa ((ae.one hg4).blk X.o (by omega));have Ha:Hd (jS w4 (w.heap.size+1+1) none 0 0 true):=h1;have d:=aa hg4;refine hK.out _ _ trivial (fun hH4=>?_);clear hK h1 hg4;refine rdy 4 (o:=⟨some 18,_,_,_,_,_⟩) fun K hK=>?_;refine tI (o:=⟨some 18,_,_,_,_,_⟩) rfl (.tmp 15) (.tmp 17) 36 36 rfl 5 ax dB none (w.heap.size+1) 2 32 32 0 0 rfl rfl (prC f (.slice VA v.length Vc) (zs 32) (.slice none 0 0)) 94 b.o [] (RB.nil w4 none) (by omega) (by rw[a7 (ak 32)];omega) ?_;intro w5 hp5 hg5;have hsp:splice (prC f (.slice VA v.length Vc) (zs 32) (.slice none 0 0)) 2 (bvs [])=prC f (.slice VA v.length Vc) (zs 32) (.slice none 0 0):=by simp[splice,bvs]
   rw[hsp]at hp5;have P:Hd (cG w5 (w.heap.size+1) f (.slice VA v.length Vc) (zs 32) (.slice none 0 0)):=hp5;have g:Hd (ae (UT2 (w.heap.size+1+1) (w.heap.size+1)) w3 w5):=((ae.one d.o).mono fun _ _ h=>Or.inl h).trans ((ae.one hg5).mono fun _ _ h=>Or.inr h);have Hb:Hd (jS w5 (w.heap.size+1+1) none 0 0 true):=(ae.one hg5).blk Ha.o (by omega);refine hK.out _ _ trivial (fun hH5=>?_);refine bN ?_;change KK _ _;refine a.o _ _ ?_;go_wp2_with(refine ac (o:=⟨some 20,_,_,_,_,_⟩) (by rfl) 33 (.tmp 19) rfl ⟨w.heap.size+1,2,none⟩ 32 (zs 32) rfl (P.o.rb (ak 32) (dY 32)) (by omega) (by kernel_rfl) (by kernel_rfl) ?_);refine(mm (zs 32) w5 (dY 32) (ak 32)).mono ?_;rintro e w6⟨rfl,hb6⟩;have C:=aa (g.o.trans ((ae.ofBelow hb6).mono fun _ _ h=>h.elim));have Q:=aa (ab.below Hb.o hb6);have HE:=aa (C.o.blk O.o fun h=>by rcases h with h|h<;>omega);have M:Hd (Below w.heap.size w w6):=C.o.toBelow E.o E.o.size fun B h=>by rcases h with h|h<;>omega
   have T:Hd (dF xs=none):=by
    show dF xs=none;rw[HI.o];unfold oV;rw[if_neg (by omega)]
   have cH:=fE Q.o;clear hb6 g P Hb Ha d b C hp5 hg5 hsp hH4 hH5 hK;generalize cW (zs 32)=q at*;go_wp2_with(first|(refine aM (o:=⟨some 36,_,_,_,_,_⟩) (by rfl) 94 #[] rfl [] (by simp[go_sem]) _ fF ?_)|(refine fc (o:=⟨none,_,_,_,_,_⟩) (by rfl) (.tmp 2) (.tmp 36) rfl w.heap.size false (.slice none 0 0) (zs 32) (.slice none 0 0) rfl rfl HE.o (ak 32) rfl rfl ?_;intro wf L hgf));have U:Below w.heap.size w wf:=M.o.grown hgf M.o.size fun k hk=>by injection hk with hk;omega
   exact iX rfl rfl L (ak 32) rfl rfl ⟨⟨fun _=>rfl,fun p h=>by rw[T.o]at h;cases h⟩,U⟩
end Go.Proofs.YtfnlhfaihoojfaaGreatDoor
