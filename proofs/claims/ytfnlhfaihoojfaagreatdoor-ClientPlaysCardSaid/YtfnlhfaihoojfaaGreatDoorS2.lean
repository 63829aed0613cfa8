/- Texts of the proof of ledgerlaw13.ClientPlays, part 2; no condition of its own. -/
import Derived.Laws.CopyOwn
import Derived.Deep.WholeRow
import Derived.Stop.BytesEq
import Derived.Laws.ResultCell
import Derived.Test.YtfnlhfaihoojfaaGreatDoorS1
set_option maxRecDepth 100000
set_option maxHeartbeats 4000000
namespace Go.Proofs.YtfnlhfaihoojfaaGreatDoor
open Go.RowKit
def zs(n:Nat):List Nat:=List.replicate n 0
theorem ak(n:Nat):(zs n).length=n:=by simp[zs]
theorem dY(n:Nat):IsB (zs n):=by
 intro x hx;simp only[zs,List.mem_replicate]at hx;omega
theorem Ds{xs:List Nat}(h:∀x∈xs,x=0):xs=zs xs.length:=List.eq_replicate_of_mem h
theorem xb(n:Nat):∀x∈zs n,x=0:=fun x hx=>by
 simp only[zs,List.mem_replicate]at hx;exact hx.2
def ar(w:World)(g:Nat)(t:TypeId)(xs:List Nat):Prop:=ab w g t (bvs xs).toArray
section
variable{w:World}{g:Nat}{t:TypeId}{xs:List Nat}
theorem ar.cell(h:ar w g t xs){i:Nat}(hi:i<xs.length):w.cell? ⟨g,i,none⟩=some (.int .u8 (xs.getD i 0:Nat)):=by
 rw[ab.cell h i];simp[bvs,bv,List.getD,hi]
theorem ar.set(h:ar w g t xs)(i x:Nat):ar (w.setCell ⟨g,i,none⟩ (.int .u8 (x:Int))) g t (xs.set i x):=by
 have:=ab.stored h i (.int .u8 (x:Int));unfold ar;rw[show(bvs (xs.set i x)).toArray=(bvs xs).toArray.setIfInBounds i (.int .u8 (x:Int))by simp[bvs,bv,List.map_set]];exact this
theorem ar.reads(h:ar w g t xs)(hB:IsB xs){o n:Nat}(hn:o+n<=xs.length):RB w (some ⟨g,o,none⟩) n ((xs.drop o).take n):=by
 refine⟨by rw[List.length_take,List.length_drop];omega,(hB.drop _).take _,fun _=>⟨_,rfl,ab.lt h,fun j x hj=>?_⟩⟩;rw[add_lit,ab.cell h];rw[List.getElem?_take]at hj;split at hj
 ·rw[List.getElem?_drop]at hj;simp[bvs,bv,hj]
 ·cases hj
end
theorem uS(L:List Nat)(o:Nat):splice L o []=L:=by
 unfold splice;simp
def gZ(n:Nat):Array Value:=(bvs (zs n)).toArray
theorem tv(n:Nat)(w:World)(t:TypeId):ar (w.alloc (.cells (gZ n) t)) w.heap.size t (zs n):=ab.new w t (gZ n)
theorem xu{n i:Nat}(h:i<n):(gZ n)[i]?=some (.int .u8 0):=by
 simp[gZ,bvs,bv,zs,h]
theorem uT(L:List Nat)(o:Nat)(cs:List Nat):splice (bvs L) o (bvs cs)=bvs (splice L o cs):=by
 simp[splice,bvs]
theorem AH(a b:Nat):zs (a+b)=zs a++zs b:=by simp[zs,List.replicate_append_replicate]
theorem dB:(Tryz.prog.info? 5).map (·.size)=some 1:=by kernel_rfl
theorem AC{P:Program}{w:World}{ops:Array Oper}{rest:List Oper}{o:Oper}{a:Act}{Q:Exit->Act->World->Prop}(hgd:o.guard=none)(d s:Operand)(dT sT:TypeId)(ho:o.op= .call {callee:= .builtin .copy,args:=#[d,s],argTypes:=#[dT,sT]})(elem:TypeId)(hu:P.underlying dT=some (.slice elem))(hsz:(P.info? elem).map (·.size)=some 1)(sp:Option Addr)(g off dLen dCap sLen sCap:Nat)(hd:a.eval d= .slice (some ⟨g,off,none⟩) dLen dCap)(hs:a.eval s= .slice sp sLen sCap)(L:List Nat)(t:TypeId)(hL:ar w g t L)(xs:List Nat)(hx:RB w sp sLen xs)(hle:sLen<=dLen)(hfit:off+sLen<=L.length)(B:Nat)(w0:World)(hb:Below B w0 w)(hBg:B<=g)(h:∀w',Hd (ar w' g t (splice L off xs))->Below B w0 w'->wpList P ops Q rest (a.put o.dst (goInt sLen)) w'):wpList P ops Q (o::rest) a w:=by
 have hl:(bvs xs).length=sLen:=by simp[bvs,hx.1]
 rw[<-hl]at h;refine wpList_copy_splice hgd d s dT sT ho elem hu hsz _ sp dLen dCap sLen sCap hd hs g off (bvs L) t hL (bvs xs) (by rw[hl];exact(Nat.min_eq_left hle).symm) (fun hp=>⟨rfl,?_⟩) (by rw[hl];simpa[bvs]using hfit) (ah xs) B w0 hb hBg ?_
 ·obtain⟨ad,e,_,hc⟩:=hx.2.2 (by omega);refine⟨ad,e,fun j v hj=>?_⟩;simp only[bvs,List.getElem?_map,Option.map_eq_some_iff]at hj;obtain⟨y,hy,rfl⟩:=hj;exact hc j y hy
 ·intro w' hK hb';refine h w' ?_ hb';have:=hK.out;rw[uT]at this;exact this
theorem ar.whole{w:World}{g n:Nat}{t:TypeId}{xs:List Nat}(h:ar w g t xs)(hB:IsB xs)(hn:xs.length=n):RB w (some ⟨g,0,none⟩) n xs:=by
 have:=h.reads hB (o:=0) (n:=n) (by omega);rwa[List.drop_zero,List.take_of_length_le (by omega)]at this
theorem gq{P:Program}{t:TypeId}(h:(P.underlying t).map (·.isRow)=some true):∃d,P.underlying t=some d/\d.isRow=true:=by
 cases hq:P.underlying t with
 |none=>simp[hq]at h
 |some d=>exact⟨d,rfl,by simpa[hq]using h⟩
theorem ac{P:Program}{ops:Array Oper}{rest:List Oper}{o:Oper}{a:Act}{w:World}{Q:Exit->Act->World->Prop}(hgd:o.guard=none)(ty:TypeId)(x:Operand)(ho:o.op= .load ty x)(ad:Addr)(n:Nat)(ys:List Nat)(hx:a.eval x= .pointer (some ad))(hr:RB w (some ad) n ys)(hn:0<n)(hrow:(P.underlying ty).map (·.isRow)=some true)(hi:(P.info? ty).map (·.size)=some n)(h:wpList P ops Q rest (a.put o.dst (.agg (bvs ys).toArray)) w):wpList P ops Q (o::rest) a w:=by
 refine wpList_plain hgd fun K hK=>?_;obtain⟨d,hu,hd⟩:=gq hrow;obtain⟨ad',e,_,hc⟩:=hr.2.2 hn;injection e with e;subst e;have hl:(loadCells ad (bvs ys).length).run P w= .ok (bvs ys).toArray w:=run_loadCells_list (P:=P) w ad (bvs ys) (fun j v hv=>by
  simp only[bvs,List.getElem?_map,Option.map_eq_some_iff]at hv;obtain⟨y,hy,rfl⟩:=hv;exact hc j y hy);have hlv:(loadVar ty ad).run P w= .ok (.agg (bvs ys).toArray) w:=by
  cases hq:P.info? ty with
  |none=>simp[hq]at hi
  |some i=>
   have hs:i.size=(bvs ys).length:=by
    have:i.size=n:=by simpa[hq]using hi
    simp[bvs,this,hr.1]
   have hagg:(isAgg ty).run P w= .ok true w:=by
    unfold isAgg;rw[Sem.run_bind,run_underlying hu w];cases d<;>simp_all
   simp[loadVar,Sem.run_bind,hagg,sizeOf,typeInfo,hq,hs,hl]
 unfold Oper.wp execOp;simp only[ho,hx,Instr.loadAt,Instr.sureAddr,Sem.run_bind,Sem.run_pure,Result.andThen_ok,hlv];exact hK _ _ h
theorem iM{P:Program}{ops:Array Oper}{rest:List Oper}{o:Oper}{a:Act}{w:World}{Q:Exit->Act->World->Prop}(hw:Region.wanted o (yielded ops a.tmps)=true)(ty:TypeId)(x:Operand)(ho:o.op= .load ty x)(ad:Addr)(n:Nat)(ys:List Nat)(hx:a.eval x= .pointer (some ad))(hr:RB w (some ad) n ys)(hn:0<n)(hrow:(P.underlying ty).map (·.isRow)=some true)(hi:(P.info? ty).map (·.size)=some n)(h:wpList P ops Q rest (a.put o.dst (.agg (bvs ys).toArray)) w):wpList P ops Q (o::rest) a w:=by
 refine wpList_step fun K hK=>?_;rw[if_pos hw];obtain⟨d,hu,hd⟩:=gq hrow;obtain⟨ad',e,_,hc⟩:=hr.2.2 hn;injection e with e;subst e;have hl:(loadCells ad (bvs ys).length).run P w= .ok (bvs ys).toArray w:=run_loadCells_list (P:=P) w ad (bvs ys) (fun j v hv=>by
  simp only[bvs,List.getElem?_map,Option.map_eq_some_iff]at hv;obtain⟨y,hy,rfl⟩:=hv;exact hc j y hy);have hlv:(loadVar ty ad).run P w= .ok (.agg (bvs ys).toArray) w:=by
  cases hq:P.info? ty with
  |none=>simp[hq]at hi
  |some i=>
   have hs:i.size=(bvs ys).length:=by
    have:i.size=n:=by simpa[hq]using hi
    simp[bvs,this,hr.1]
   have hagg:(isAgg ty).run P w= .ok true w:=by
    unfold isAgg;rw[Sem.run_bind,run_underlying hu w];cases d<;>simp_all
   simp[loadVar,Sem.run_bind,hagg,sizeOf,typeInfo,hq,hs,hl]
 unfold Oper.wp execOp;simp only[ho,hx,Instr.loadAt,Instr.sureAddr,Sem.run_bind,Sem.run_pure,Result.andThen_ok,hlv];exact hK _ _ h
theorem qS{xs:List Nat}(h:IsB xs):bvs xs=(xs.map UInt8.ofNat).map Extern.Stop.cell:=by
 rw[List.map_map];apply List.map_congr_left;intro x hx;have:=h x hx;show Value.int .u8 (x:Int)=Value.int .u8 ((UInt8.ofNat x).toNat:Int);rw[UInt8.toNat_ofNat',Nat.mod_eq_of_lt (show x<2^8from this)]
theorem pM{xs ys:List Nat}(hx:IsB xs)(hy:IsB ys)(h:xs.map UInt8.ofNat=ys.map UInt8.ofNat):xs=ys:=by
 have h2:=congrArg (List.map UInt8.toNat) h;rw[List.map_map,List.map_map]at h2;have f:∀zs:List Nat,IsB zs->zs.map (UInt8.toNat∘UInt8.ofNat)=zs:=fun zs hz=>by
  conv=>rhs;rw[<-List.map_id zs]
  apply List.map_congr_left;intro x hx;have:=hz x hx;simp only[Function.comp,UInt8.toNat_ofNat',id];omega
 rwa[f xs hx,f ys hy]at h2
theorem tl{P:Program}(w:World)(d:Nat)(t e:TypeId)(n:Nat)(ht:P.underlying t=some (.array n e))(he:P.underlying e=some (.int .u8))(hsz:∀w,(sizeOf e).run P w= .ok 1 w){xs ys:List Nat}(hx:IsB xs)(hy:IsB ys)(hxl:xs.length=n)(hyl:ys.length=n):(Op.equalIn (d+2) t (.agg (bvs xs).toArray) (.agg (bvs ys).toArray)).run P w= .ok (decide (xs=ys)) w:=by
 rw[qS hx,qS hy,run_equalIn_bytes w d t e n ht he hsz _ _ (by simpa using hxl) (by simpa using hyl)];congr 1;rw[Bool.eq_iff_iff];simp only[beq_iff_eq,decide_eq_true_eq];exact⟨pM hx hy,fun h=>by rw[h]⟩
theorem iI(w:World):(sizeOf 5).run Tryz.prog w= .ok 1 w:=by
 have h:=dB;cases hq:Tryz.prog.info? 5with
 |none=>simp[hq]at h
 |some i=>
  have hs:i.size=1:=by simpa[hq]using h
  simp[sizeOf,typeInfo,hq,hs]
theorem iW{P:Program}{ops:Array Oper}{rest:List Oper}{o:Oper}{a:Act}{w:World}{Q:Exit->Act->World->Prop}(hgd:o.guard=none)(ty:TypeId)(x y:Operand)(ho:o.op= .store ty x y)(g n:Nat)(ys L:List Nat)(t:TypeId)(hx:a.eval x= .pointer (some ⟨g,0,none⟩))(hy:a.eval y= .agg (bvs ys).toArray)(hL:ar w g t L)(hi:(P.info? ty).map (·.size)=some n)(hl:ys.length=n)(hl2:L.length=n)(B:Nat)(w0:World)(hb:Below B w0 w)(hBg:B<=g)(h:∀w',Hd (ar w' g t ys)->Below B w0 w'->wpList P ops Q rest (a.put o.dst undef) w'):wpList P ops Q (o::rest) a w:=by
 refine wpList_store_row hgd ty x y ho g _ hx hy t _ hL (by rw[hi];simp[bvs,hl]) (by simp[bvs,hl,hl2]) (by
  rw[Array.all_eq_true_iff_forall_mem];intro v hv;exact ah ys v (by simpa using hv)) (h _ ?_ (below_setRow hb hBg _));show _=_;exact setRow_heap w g _ _ t (0,0) hL
theorem jg{fn:Func}{p:Tmp}{ty:TypeId}(h:fn.results=#[.cell p ty])(tmps:Array Value)(P:Program)(w:World):(results fn tmps).run P w=((asAddr (tmps.getD p undef)).run P w).andThen fun a w1=>(loadVar ty a).run P w1:=by
 simp only[results,h];simp[Sem.run_bind,Result.andThen]
theorem pr{P:Program}{ty:TypeId}(w:World)(g n:Nat)(t:TypeId)(ys:List Nat)(hb:ar w g t ys)(hl:ys.length=n)(hrow:(P.underlying ty).map (·.isRow)=some true)(hi:(P.info? ty).map (·.size)=some n):(loadVar ty ⟨g,0,none⟩).run P w= .ok (.agg (bvs ys).toArray) w:=by
 obtain⟨d,hu,hd⟩:=gq hrow;have h:=run_loadVar_mid (P:=P) w g 0 ty (bvs ys) d (fun j v hv=>by
  rw[Nat.zero_add,ab.cell hb];simpa using hv) hu hd (by rw[hi];simp[bvs,hl]);simpa using h
theorem bH{P:Program}{fn:Func}{p:Tmp}{ty:TypeId}{R:Ending->World->Prop}{x:Act}{w:World}{g n:Nat}{t:TypeId}{ys:List Nat}(h:fn.results=#[.cell p ty])(hp:x.tmps.getD p undef= .pointer (some ⟨g,0,none⟩))(hb:ar w g t ys)(hl:ys.length=n)(hrow:(P.underlying ty).map (·.isRow)=some true)(hi:(P.info? ty).map (·.size)=some n)(hd:x.defers=[])(hR:R (.returned (.agg (bvs ys).toArray)) w):bodyPost P fn R .ret x w:=by
 refine bodyPost_ret (v:= .agg (bvs ys).toArray) ?_ hd hR;rw[jg h,hp];simp[asAddr,Result.andThen,pr w g n t ys hb hl hrow hi]
theorem mF(w w1:World)(k:Nat)(t:TypeId)(cs:Array Value)(h:w1.heap.size=w.heap.size+k):ab (w1.alloc (.cells cs t)) (w.heap.size+k) t cs:=h▸ab.new w1 t cs
theorem bh{w:World}{a:Array Value}{ta:TypeId}{G:World->Prop}(h:∀w',Hd (ab w' w.heap.size ta a)->Hd (Below w.heap.size w w')->Hd (w'.heap.size=w.heap.size+1)->G w'):G (w.alloc (.cells a ta)):=h _ (ab.new _ _ _) ((Below.refl _ _).alloc (Nat.le_refl _) _) (by show _=_;simp)
theorem bV{w:World}{a b:Array Value}{ta tb:TypeId}{G:World->Prop}(h:∀w',Hd (ab w' w.heap.size ta a)->Hd (ab w' (w.heap.size+1) tb b)->Hd (Below w.heap.size w w')->Hd (w'.heap.size=w.heap.size+1+1)->G w'):G ((w.alloc (.cells a ta)).alloc (.cells b tb)):=h _ (ab.alloc (ab.new _ _ _) _) (mF w _ 1 _ _ (by simp)) (((Below.refl _ _).alloc (Nat.le_refl _) _).alloc (by simp) _) (by show _=_;simp)
theorem fC{w:World}{a b c:Array Value}{ta tb tc:TypeId}{G:World->Prop}(h:∀w',Hd (ab w' w.heap.size ta a)->Hd (ab w' (w.heap.size+1) tb b)->Hd (ab w' (w.heap.size+1+1) tc c)->Hd (Below w.heap.size w w')->Hd (w'.heap.size=w.heap.size+1+1+1)->G w'):G (((w.alloc (.cells a ta)).alloc (.cells b tb)).alloc (.cells c tc)):=h _ (ab.alloc (ab.alloc (ab.new _ _ _) _) _) (ab.alloc (mF w _ 1 _ _ (by simp)) _) (mF w _ 2 _ _ (by simp)) ((((Below.refl _ _).alloc (Nat.le_refl _) _).alloc (by simp) _).alloc (by simp;omega) _) (by show _=_;simp)
theorem dA{w w':World}{g:Nat}{t:TypeId}{xs:List Nat}(h:Hd (ar w g t xs))(hb:Below w.heap.size w w'):Hd (ar w' g t xs):=ab.below h.o hb
def nT(w:World)(g:Nat)(xs:List Nat):Prop:=∃rest,IsB rest/\IsB xs/\rest.take (xs.length%64)=xs.drop (64*(xs.length/64))/\dP w g (fw xs (xs.length/64)).list rest (xs.length%64) (xs.length%18446744073709551616)
theorem RB.grownBy{w w':World}{A:Option Addr}{n:Nat}{xs:List Nat}{row:Option Nat}(h:RB w A n xs)(hg:w.grownBy w' row)(hA:0<n->∀ad,A=some ad->some ad.block≠row):RB w' A n xs:=by
 refine⟨h.1,h.2.1,fun hn=>?_⟩;obtain⟨ad,e,hb,hc⟩:=h.2.2 hn;refine⟨ad,e,Nat.lt_of_lt_of_le hb hg.size,fun j x hj=>?_⟩;rw[World.cell?_of_block (w:=w) (a:=ad.add j) (by rw[bX];exact hg.block _ hb (hA hn ad e))];exact hc j x hj
theorem fv{w:World}{g:Nat}(cs:Array Value):w.grownBy (w.setRow g cs) (some g):=⟨rfl,rfl,rfl,by simp[World.setRow],fun k _ hne=>setRow_other w g k cs (fun e=>hne (by rw[e]))⟩
theorem pN(L rest:List Nat)(h t o:Nat)(xs:List Nat)(hL:L.length=8)(hr:rest.length=64)(hfit:o+xs.length<=64):(cH L rest h t).take (8+o)++(bvs xs++(cH L rest h t).drop (8+o+xs.length))=cH L (splice rest o xs) h t:=by
 have hu:(uvs L).length=8:=by rw[bg,hL]
 have hb:(bvs rest).length=64:=by simp[bvs,hr]
 unfold cH splice;rw[show 8+o+xs.length=(uvs L).length+(o+xs.length)by omega,show 8+o=(uvs L).length+o by omega,List.take_length_add_append,List.drop_length_add_append,List.take_append_of_le_length (by omega),List.drop_append_of_le_length (by omega)];simp[bvs,List.map_take,List.map_drop,List.append_assoc]
theorem AB{P:Program}{w:World}{ops:Array Oper}{rst:List Oper}{op:Oper}{a:Act}{Q:Exit->Act->World->Prop}(hgd:op.guard=none)(d s:Operand)(dT sT:TypeId)(ho:op.op= .call {callee:= .builtin .copy,args:=#[d,s],argTypes:=#[dT,sT]})(elem:TypeId)(hu:P.underlying dT=some (.slice elem))(hsz:(P.info? elem).map (·.size)=some 1)(sp:Option Addr)(g o q dLen dCap sLen sCap:Nat)(hd:a.eval d= .slice (some ⟨g,q,none⟩) dLen dCap)(hs:a.eval s= .slice sp sLen sCap)(hq:q=8+o)(L rest:List Nat)(h t:Nat)(H:dP w g L rest h t)(m:Nat)(xs:List Nat)(hx:RB w sp m xs)(hm:m=Nat.min sLen dLen)(hfit:o+m<=64)(k:∀w',Hd (dP w' g L (splice rest o xs) h t)->w.grownBy w' (some g)->wpList P ops Q rst (a.put op.dst (goInt m)) w'):wpList P ops Q (op::rst) a w:=by
 subst hq;have hl:(bvs xs).length=m:=by simp[bvs,hx.1]
 have hsp:(splice rest o xs).length=64:=by rw[length_splice _ _ _ (by rw[hx.1,H.2.2];omega),H.2.2]
 by_cases h0:m=0
 ·subst h0;obtain rfl:xs=[]:=List.eq_nil_of_length_eq_zero hx.1;refine wpList_copy_nothing hgd d s dT sT ho elem hu hsz _ sp dLen dCap sLen sCap hd hs hm.symm ?_;refine k w ?_ (World.grownBy.refl w _);rw[uS];exact H
 ·obtain⟨ad,rfl,_,hc⟩:=hx.2.2 (by omega);refine wpList_copy_own hgd d s dT sT ho elem hu hsz g (8+o) dLen dCap ad sLen sCap hd hs _ _ H.1 (bvs xs) (by rw[hl];exact hm) ?_ ?_ (ah xs) ?_
  ·intro j v hj;simp only[bvs,List.getElem?_map,Option.map_eq_some_iff]at hj;obtain⟨y,hy,rfl⟩:=hj;exact hc j y hy
  ·rw[hl];simp only[cH,List.size_toArray,List.length_append,bg,H.2.1,bvs,List.length_map,H.2.2];simp;omega
  ·rw[hl];refine k _ ⟨?_,H.2.1,hsp⟩ (fv _);have e:=pN L rest h t o xs H.2.1 H.2.2 (by rw[hx.1];exact hfit);show(w.setRow g _).heap[g]?=_;rw[setRow_heap _ _ _ _ _ _ H.1,List.toList_toArray,<-hx.1,e]
theorem ss{B B':Option Addr}{m d k:Nat}(hB:B'=if d=k then B else B.map (·.add k))(hmd:m<=d):(k<m->B'=B.map (·.add k))/\∀ad,B'=some ad->∃ad',B=some ad'/\ad'.block=ad.block:=by
 subst hB;refine⟨fun h=>if_neg (by omega),fun ad h=>?_⟩;split at h
 ·exact⟨ad,h,rfl⟩
 ·rcases B with _|b
  ·cases h
  ·injection h with h;exact⟨b,rfl,by rw[<-h,bX]⟩
theorem tK{B B':Option Addr}{m d:Nat}(hB:B'=if d=64then B else B.map (fun x=>(⟨x.block,x.off+64,none⟩:Addr)))(hmd:m<=d):(64<m->B'=B.map (·.add 64))/\∀ad,B'=some ad->∃ad',B=some ad'/\ad'.block=ad.block:=ss (m:=m) (d:=d) (k:=64) (hB.trans (by congr 1)) hmd
theorem l7(rest xs:List Nat):(splice rest 0 xs).take xs.length=xs:=by
 unfold splice;rw[List.take_zero,List.nil_append,List.take_left' rfl]
theorem jD{rest xs:List Nat}(o:Nat)(h:IsB rest)(k:IsB xs):IsB (splice rest o xs):=(h.take _).app (k.app (h.drop _))
theorem ax:Tryz.prog.underlying 36=some (.slice 5):=by kernel_rfl
def lenOf:Value->Nat
 | .slice _ n _=>n
 |_=>0
def fY(g:Nat)(xs ys:List Nat)(w w':World):Prop:=nT w' g (xs++ys)/\w.grownBy w' (some g)
theorem mP(T:List Nat)(q g:Nat)(A:Option Addr)(c:Nat)(rest:List Nat)(h t:Nat)(w:World)(hx:RB w A 64 ((T.drop (64*q)).take 64))(hh:dP w g (fw T q).list rest h t)(hk:TabU w 3 kL)(hne:g≠3):Calls Tryz.prog 118 #[.pointer (some ⟨g,0,none⟩), .slice A 64 c] w fun e w'=>e= .returned (.tuple #[])/\dP w' g (fw T (q+1)).list rest h t/\w.grownBy w' (some g):=AW g A c _ rest (fw T q) h t w hx hh (rQ T q) hk hne
theorem uJ(g:Nat)(A:Option Addr)(n c:Nat)(xs ys rest:List Nat)(w:World)(hy:RB w A n ys)(hnc:n<=c)(hn:n<=140737488355328)(hA:0<n->∀ad,A=some ad->ad.block≠g)(hX:IsB xs)(hR:IsB rest)(h0:xs.length%64=0)(hh:dP w g (fw xs (xs.length/64)).list rest 0 (xs.length%18446744073709551616))(hk:TabU w 3 kL)(hne:g≠3):Calls Tryz.prog 104 #[.pointer (some ⟨g,0,none⟩), .slice A n c] w fun e w'=>e= .returned (.tuple #[])/\fY g xs ys w w':=by
 have C:=aa hy;have D:=aa hA;have E:=aa hh;have G:=aa hk;have M:=aa hne;have a:=aa h0;have N:=aa hX;have b:=aa hR;have kt:=hh.taken;have ft:=hh.frozen 73;have kh:=(hh.setTaken ((xs.length+n)%18446744073709551616)).have_;have f:=aa hy.isB;clear hy hA hh hk hne h0 hX hR;have hc:IntKind.u64.wrap (((xs.length%18446744073709551616:Nat):Int)+(n:Int))=(((xs.length+n)%18446744073709551616:Nat):Int):=by
  simp[IntKind.wrap,IntKind.bits,IntKind.signed]
 generalize xs.length%18446744073709551616=tk at*;have i:Hd ((xs.length+n)%18446744073709551616=(xs++ys).length%18446744073709551616):=by
  show _=_;rw[List.length_append,C.o.1]
 generalize(xs.length+n)%18446744073709551616=tn at*;go_enter Tryz.func104,Tryz.ntmps104;go_wp2_with fail;obtain⟨T,F⟩:∃T,Hd (T=xs++ys):=⟨_,rfl⟩;obtain⟨A1,rfl⟩:∃A1,A1=A:=⟨_,rfl⟩;obtain⟨n1,rfl⟩:∃n1,n1=n:=⟨_,rfl⟩;obtain⟨c1,rfl⟩:∃c1,c1=c:=⟨_,rfl⟩;obtain⟨q1,H⟩:∃q1,Hd (q1=xs.length/64):=⟨_,rfl⟩;obtain⟨rest1,rfl⟩:∃rest1,rest1=rest:=⟨_,rfl⟩;have j:=b;have O:Hd (64*q1=xs.length):=by
  have h1:=H.o;have h2:=a.o;show _=_;omega
 have P:Hd (64*q1+n1=T.length):=by
  show _=_;rw[F.o,List.length_append,O.o,C.o.1]
 have K:Hd (w.grownBy (w.setCell ⟨g,73,none⟩ (.int .u64 (tn:Int))) (some g)):=ai w (g:=g) 73 _;have Q:Hd (dP (w.setCell ⟨g,73,none⟩ (.int .u64 (tn:Int))) g (fw T q1).list rest1 0 tn):=by
  have h1:=E.o.setTaken tn;rw[F.o,pk _ _ _ (by rw[O.o];exact Nat.le_refl _),H.o];exact h1
 have R:=D;have l:Hd (T.length%18446744073709551616=tn):=by
  show _=_;rw[F.o];exact i.o.symm
 have S:Hd (RB (w.setCell ⟨g,73,none⟩ (.int .u64 (tn:Int))) A1 n1 (T.drop (64*q1))):=by
  have h1:=C.o.grownBy K.o (fun hp ad e h=>D.o hp ad e (by injection h));rw[F.o,O.o,List.drop_left];exact h1
 have U:Hd (TabU (w.setCell ⟨g,73,none⟩ (.int .u64 (tn:Int))) 3 kL):=G.o.grown K.o (fun h=>M.o (by injection h with h;exact h.symm));obtain⟨hn1c,hn1⟩:n1<=c1/\n1<=140737488355328:=⟨hnc,hn⟩;clear E D C G kt ft kh hc hnc hn;generalize w.setCell ⟨g,73,none⟩ (.int .u64 (tn:Int))=w1 at*;go_loopw[1](fun u wr=>∃(B:Option Addr)(m d q:Nat),u= .slice B m d/\m<=d/\m<=140737488355328/\Hd (64*q+m=T.length)/\Hd (RB wr B m (T.drop (64*q)))/\Hd (0<m->∀ad,B=some ad->ad.block≠g)/\Hd (dP wr g (fw T q).list rest1 0 tn)/\Hd (TabU wr 3 kL)/\Hd (w.grownBy wr (some g)))(fun u _=>lenOf u)
 case atStart=>exact⟨A1,n1,c1,q1,rfl,hn1c,hn1,P.o,S.o,R.o,Q.o,U.o,K.o⟩
 case round=>
  clear P S R Q U K;obtain⟨B,m,d,q,rfl,hmd,hm,H,C,D,E,G,V⟩:=hrel;obtain⟨w2,rfl⟩:∃w2,w2=wr:=⟨_,rfl⟩;by_cases hge:64<=m
  ·have N:=aa (C.o.take (k:=64) hge);have hQl:=H.o;obtain⟨B2,W⟩:∃B2,Hd (B2=if d=64then B else B.map (fun x=>(⟨x.block,x.off+64,none⟩:Addr))):=⟨_,rfl⟩;have X:=aa (tK W.o hmd);go_wp2_with(first|(go_at_call 118;((refine(mP T q g _ _ rest1 0 tn _ N.o E.o G.o M.o).mono ?_);rintro e w3⟨rfl,hh3,hg3⟩;have I:=aa hh3;have J:=aa hg3;clear hh3 hg3)));rw[<-W.o];have p:Hd (RB w3 B2 (m-64) (T.drop (64*(q+1)))):=by
    have h1:=(C.o.grownBy J.o (fun hp ad e h=>D.o hp ad e (by injection h))).drop (k:=64) (B:=B2) hge X.o.1;rw[List.drop_drop]at h1;exact h1
   have r:Hd (0<m-64->∀ad,B2=some ad->ad.block≠g):=fun hp ad e=>by
    obtain⟨ad',e',h'⟩:=X.o.2 ad e;rw[<-h'];exact D.o (by omega) ad' e'
   have s:Hd (TabU w3 3 kL):=G.o.grown J.o (fun h=>M.o (by injection h with h;exact h.symm));have t:Hd (w.grownBy w3 (some g)):=aE V.o J.o;go_roundw
   case rel=>exact⟨B2,m-64,d-64,q+1,rfl,by omega,by omega,by show _=_;omega,p.o,r.o,I.o,s.o,t.o⟩
   case measure=>simp[lenOf];omega
  ·have hQl:=H.o;have L:Hd (T.length/64=q/\T.length%64=m):=by
    show _/\_;omega
   have hf:=E.o.frozen 72;have hc72:∀(w3:World)(rr:List Nat),Hd (dP w3 g (fw T q).list rr 0 tn)->w3.cell? ⟨g,72,none⟩=some (.int .i64 0):=fun w3 rr h=>h.o.have_;have hf72:∀(w3:World)(rr:List Nat),Hd (dP w3 g (fw T q).list rr 0 tn)->w3.frozen? ⟨g,72,none⟩=false:=fun w3 rr h=>h.o.frozen 72;have Y:=aa hc72;have Z:=aa hf72;clear hc72 hf72 hQl hf;go_wp2_with(first|(refine AB (op:=⟨some 70,_,_,_,_,_⟩) (by rfl) (.tmp 68) (.tmp 69) 36 36 rfl 5 ax dB B g 0 8 64 64 m d rfl rfl rfl (fw T q).list rest1 0 tn E.o m (T.drop (64*q)) C.o (Nat.min_eq_left (by omega)).symm (by omega) ?_;intro w3 I hg3;have J:=aa hg3;have c72:=Y.o w3 _ I;have f72:=Z.o w3 _ I;clear hg3 Y Z));have v:Hd (fY g xs ys w (w3.setCell ⟨g,72,none⟩ (.int .i64 (m:Int)))):=by
    have hl:(T.drop (64*q)).length=m:=C.o.1;refine⟨⟨splice rest1 0 (T.drop (64*q)),jD 0 j.o C.o.2.1,?_,?_,?_⟩,aE (aE V.o J.o) (ai w3 (g:=g) 72 _)⟩
    ·exact N.o.app f.o
    ·rw[<-F.o,L.o.1,L.o.2,<-hl];exact l7 _ _
    ·rw[<-F.o,L.o.1,L.o.2,l.o];exact I.o.setHave m
   go_end0;exact⟨rfl,v.o⟩
end Go.Proofs.YtfnlhfaihoojfaaGreatDoor
