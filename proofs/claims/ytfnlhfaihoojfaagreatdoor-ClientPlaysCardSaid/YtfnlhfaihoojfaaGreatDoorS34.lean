/- Texts of the proof of ledgerlaw13.ClientPlays, part 34; no condition of its own. -/
import Derived.Great.BuildSlice
import Derived.Test.YtfnlhfaihoojfaaGreatDoorS25
import Derived.Test.YtfnlhfaihoojfaaGreatDoorS33
set_option maxRecDepth 100000
set_option maxHeartbeats 4000000
namespace Go.Proofs.YtfnlhfaihoojfaaGreatDoor
open Go.RowKit
structure OpV where
 kd:Int
 wd:Int
 root:List Nat
 key:List Nat
 A:Value
 B:Value
 x:Chg
 Av:Option Addr
 Cv:Nat
 D:Value
 E:Value
def OpV.cs(o:OpV):List Value:=[.int .i64 o.kd, .int .i64 o.wd]++(bvs o.root++(bvs o.key++([o.A,o.B]++(chC o.x o.Av o.Cv++[o.D,o.E]))))
structure OpV.Ok(o:OpV):Prop where
 root:o.root.length=32/\IsB o.root
 key:o.key.length=32/\IsB o.key
 xk:o.x.key.length=32/\IsB o.x.key
 one:o.A.oneCell'=true/\o.B.oneCell'=true/\o.D.oneCell'=true/\o.E.oneCell'=true
theorem fR(xs:List Nat):(bvs xs).length=xs.length:=by simp[bvs]
section
variable{o:OpV}{w:World}{g:Nat}{t:TypeId}
def OpV.p1(o:OpV):List Value:=[.int .i64 o.kd, .int .i64 o.wd]++bvs o.root
def OpV.p2(o:OpV):List Value:=o.p1++bvs o.key
def OpV.p3(o:OpV):List Value:=o.p2++[o.A,o.B]
def OpV.q3(o:OpV):List Value:=chC o.x o.Av o.Cv++[o.D,o.E]
theorem OpV.p1_len(h:o.Ok):o.p1.length=34:=by simp[OpV.p1,fR,h.root.1]
theorem OpV.p2_len(h:o.Ok):o.p2.length=66:=by simp[OpV.p2,OpV.p1_len h,fR,h.key.1]
theorem OpV.p3_len(h:o.Ok):o.p3.length=68:=by simp[OpV.p3,OpV.p2_len h]
theorem OpV.cs_r:o.cs=[.int .i64 o.kd, .int .i64 o.wd]++(bvs o.root++(bvs o.key++([o.A,o.B]++o.q3))):=rfl
theorem OpV.cs_k:o.cs=o.p1++(bvs o.key++([o.A,o.B]++o.q3)):=by simp[OpV.cs,OpV.p1,OpV.q3]
theorem OpV.cs_A:o.cs=o.p2++([o.A]++(o.B::o.q3)):=by simp[OpV.cs_k,OpV.p2]
theorem OpV.cs_B:o.cs=(o.p2++[o.A])++([o.B]++o.q3):=by simp[OpV.cs_A]
theorem OpV.cs_x:o.cs=o.p3++(chC o.x o.Av o.Cv++[o.D,o.E]):=by simp[OpV.cs_A,OpV.p3,OpV.q3]
theorem OpV.cs_D:o.cs=(o.p3++chC o.x o.Av o.Cv)++([o.D]++[o.E]):=by simp[OpV.cs_x]
theorem OpV.cs_E:o.cs=(o.p3++chC o.x o.Av o.Cv++[o.D])++([o.E]++[]):=by simp[OpV.cs_x]
theorem OpV.len(h:o.Ok):o.cs.length=104:=by rw[OpV.cs_x,List.length_append,List.length_append,OpV.p3_len h,am h.xk.1];rfl
theorem OpV.cells(h:o.Ok):∀u∈o.cs,u.oneCell'=true:=by
 intro u hu;rw[OpV.cs]at hu;simp only[List.mem_append,List.mem_cons,List.not_mem_nil,or_false]at hu;rcases hu with(rfl|rfl)|hu|hu|(rfl|rfl)|hu|rfl|rfl
 ·rfl
 ·rfl
 ·exact ah _ u hu
 ·exact ah _ u hu
 ·exact h.one.1
 ·exact h.one.2.1
 ·exact cZ u hu
 ·exact h.one.2.2.1
 ·exact h.one.2.2.2
abbrev bp(w:World)(g:Nat)(o:OpV):Prop:=ab w g 42 o.cs.toArray
theorem bp.all(h:bp w g o):w.rangeAt g 0 o.cs:=ab.range h
theorem bp.kd(h:bp w g o):w.cell? ⟨g,0,none⟩=some (.int .i64 o.kd):=h.cell 0
theorem bp.wd(h:bp w g o):w.cell? ⟨g,1,none⟩=some (.int .i64 o.wd):=h.cell 1
theorem bp.root(h:bp w g o):w.rangeAt g 2 (bvs o.root):=ab.rangeOf (X:=[.int .i64 o.kd, .int .i64 o.wd]) (by rw[<-OpV.cs_r];exact h) rfl
theorem bp.key(h:bp w g o)(ok:o.Ok):w.rangeAt g 34 (bvs o.key):=ab.rangeOf (by rw[<-OpV.cs_k];exact h) (OpV.p1_len ok)
theorem bp.a(h:bp w g o)(ok:o.Ok):w.cell? ⟨g,66,none⟩=some o.A:=(ab.rangeOf (Y:=[o.A]) (by rw[<-OpV.cs_A];exact h) (OpV.p2_len ok)) 0 _ rfl
theorem bp.b(h:bp w g o)(ok:o.Ok):w.cell? ⟨g,67,none⟩=some o.B:=(ab.rangeOf (Y:=[o.B]) (o:=67) (by rw[<-OpV.cs_B];exact h) (by rw[List.length_append,OpV.p2_len ok];rfl)) 0 _ rfl
theorem bp.x(h:bp w g o)(ok:o.Ok):w.rangeAt g 68 (chC o.x o.Av o.Cv):=ab.rangeOf (by rw[<-OpV.cs_x];exact h) (OpV.p3_len ok)
theorem bp.v(h:bp w g o)(ok:o.Ok):w.cell? ⟨g,101,none⟩=some (.slice o.Av o.x.val.length o.Cv):=eW (h.x ok) ok.xk.1
theorem bp.d(h:bp w g o)(ok:o.Ok):w.cell? ⟨g,102,none⟩=some o.D:=(ab.rangeOf (Y:=[o.D]) (o:=102) (by rw[<-OpV.cs_D];exact h) (by rw[List.length_append,OpV.p3_len ok,am ok.xk.1])) 0 _ rfl
theorem bp.e(h:bp w g o)(ok:o.Ok):w.cell? ⟨g,103,none⟩=some o.E:=(ab.rangeOf (Y:=[o.E]) (o:=103) (by rw[<-OpV.cs_E];exact h) (by rw[List.length_append,List.length_append,OpV.p3_len ok,am ok.xk.1];rfl)) 0 _ rfl
theorem lr(X Z:List Value)(u v:Value){k:Nat}(h:X.length=k):(X++([u]++Z)).set k v=X++([v]++Z):=by
 subst h;rw[List.set_append_right _ _ (Nat.le_refl _),Nat.sub_self];rfl
theorem bp.setA(h:bp w g o)(ok:o.Ok)(u:Value):bp (w.setCell ⟨g,66,none⟩ u) g {o with A:=u}:=by
 have h1:=ab.stored h 66 u;rw[List.setIfInBounds_toArray,OpV.cs_A,lr _ _ _ _ (OpV.p2_len ok)]at h1;have h2:({o with A:=u}:OpV).cs=o.p2++([u]++(o.B::o.q3)):=OpV.cs_A (o:={o with A:=u});show ab _ _ _ _;rw[h2];exact h1
theorem bp.setB(h:bp w g o)(ok:o.Ok)(u:Value):bp (w.setCell ⟨g,67,none⟩ u) g {o with B:=u}:=by
 have h1:=ab.stored h 67 u;rw[List.setIfInBounds_toArray,OpV.cs_B,lr _ _ _ _ (by rw[List.length_append,OpV.p2_len ok];rfl)]at h1;have h2:({o with B:=u}:OpV).cs=(o.p2++[o.A])++([u]++o.q3):=OpV.cs_B (o:={o with B:=u});show ab _ _ _ _;rw[h2];exact h1
def Chg.with(x:Chg)(ys:List Nat):Chg:={x with val:=ys}
theorem mu(x:Chg)(A:Option Addr)(C:Nat):chC x A C=(bvs x.key++[.bool x.del])++([.slice A x.val.length C]++[]):=by simp[chC]
theorem bp.setV(h:bp w g o)(ok:o.Ok)(A:Option Addr)(C:Nat)(ys:List Nat){n:Nat}(hn:ys.length=n):bp (w.setCell ⟨g,101,none⟩ (.slice A n C)) g {o with x:=o.x.with ys,Av:=A,Cv:=C}:=by
 subst hn;have h1:=ab.stored h 101 (.slice A ys.length C);have e1:o.cs=(o.p3++(bvs o.x.key++[.bool o.x.del]))++([.slice o.Av o.x.val.length o.Cv]++[o.D,o.E]):=by rw[OpV.cs_x,mu];simp
 have e2:({o with x:=o.x.with ys,Av:=A,Cv:=C}:OpV).cs=(o.p3++(bvs o.x.key++[.bool o.x.del]))++([.slice A ys.length C]++[o.D,o.E]):=by
  rw[OpV.cs_x,mu];show(o.p3++_)=_;simp[Chg.with]
 rw[List.setIfInBounds_toArray,e1,lr _ _ _ _ (by simp[OpV.p3_len ok,fR,ok.xk.1])]at h1;show ab _ _ _ _;rw[e2];exact h1
end
theorem ic:(Tryz.prog.underlying 42).map (·.isRow)=some true:=by kernel_rfl
theorem fe:(Tryz.prog.info? 42).map (·.size)=some 104:=by kernel_rfl
def k9(gb base N:Nat)(S:Nat->Prop)(w w':World):Prop:=∃S',Bk w' gb base N S'/\(∀B,S' B->S B∨w.heap.size<=B)/\ae S w w'
def lk(gb base N:Nat)(S:Nat->Prop)(w:World)(e:Ending)(w':World):Prop:=e= .returned (.bool true)/\k9 gb base N S w w'
section
variable{gb base N M:Nat}{S:Nat->Prop}{w w1 w2:World}
theorem k9.none(h:Bk w gb base N S)(hb:Below w.heap.size w w1):k9 gb base N S w w1:=⟨S,h.below hb,fun _ h=> .inl h,(ae.ofBelow hb).mono fun _ _ h=>h.elim⟩
theorem k9.mono(h:k9 gb base N S w w1)(hN:N<=M):k9 gb base M S w w1:=by
 obtain⟨S',h1,h2,h3⟩:=h;exact⟨S',h1.mono hN,h2,h3⟩
theorem k9.trans{S1:Nat->Prop}(h1:ae S w w1)(h2:∀B,S1 B->S B∨w.heap.size<=B)(h:k9 gb base N S1 w1 w2):k9 gb base N S w w2:=by
 obtain⟨S',a,b,c⟩:=h;refine⟨S',a,fun B hB=>?_,bO h1 c fun B _ hB=>h2 B hB⟩;rcases b B hB with k|k
 ·exact h2 B k
 ·have:=h1.size;exact .inr (by omega)
theorem k9.pre(hb:Below w.heap.size w w1)(h:k9 gb base N S w1 w2):k9 gb base N S w w2:=k9.trans ((ae.ofBelow hb).mono fun _ _ h=>h.elim) (fun _ h=> .inl h) h
theorem pZ.to{lb:Option Nat}{e:Ending}(hb:Below w.heap.size w w1)(h:pZ gb base N S lb w1 e w2)(hl:∀B,lb=some B->w.heap.size<=B):k9 gb base (N+1) S w w2:=by
 obtain⟨_,S',a,b,c⟩:=h;refine⟨S',a,fun B hB=>?_,bO ((ae.ofBelow hb).mono fun _ _ h=>h.elim) c fun B _ hB=>?_⟩
 ·rcases b B hB with k|k|k
  ·exact .inl k
  ·exact .inr (hl B k)
  ·have:=hb.size;exact .inr (by omega)
 ·rcases hB with k|k
  ·exact .inl k
  ·exact .inr (hl B k)
theorem k9.keep{S1:Nat->Prop}{lb:Option Nat}{e:Ending}(h1:ae S w w1)(h2:∀B,S1 B->S B∨w.heap.size<=B)(h:pZ gb base N S1 lb w1 e w2)(hl:∀B,lb=some B->w.heap.size<=B):k9 gb base (N+1) S w w2:=by
 obtain⟨_,S',a,b,c⟩:=h;have hs:=h1.size;refine⟨S',a,fun B hB=>?_,bO h1 c fun B _ hB=>?_⟩
 ·rcases b B hB with k|k|k
  ·exact h2 B k
  ·exact .inr (hl B k)
  ·exact .inr (by omega)
 ·rcases hB with k|k
  ·exact h2 B k
  ·exact .inr (hl B k)
end
theorem uy{P:Program}{t e:TypeId}{z:Value}(ht:P.underlying t=some (.slice e))(hinfo:(P.info? e).map (fun i=>(i.zero,i.size,i.bytes))=some (some z,32,32))(hzs:z.cells.size=32){ops:Array Oper}{rest:List Oper}{o:Oper}{a:Act}{Q:Exit->Act->World->Prop}(w:World)(hgd:o.guard=none)(s x:Operand)(ho:o.op= .call {callee:= .builtin .append,args:=#[s,x],argTypes:=#[t,t]})(b:Nat)(v:Value)(n:Nat)(hown:w.ownsRow 0 e 32 v n (pat (Pd b) (n*32)))(cs:Array Value)(hcs:cs=(bvs (eX b)).toArray)(hs:a.eval s=v)(hx:a.eval x= .slice (some ⟨w.heap.size,0,none⟩) 1 1)(hm:n+1<=1073741824)(h:∀v' w',w'.ownsRow 0 e 32 v' (n+1) (pat (Pd b) ((n+1)*32))->w.grownBy w' v.ownBlock->iT w v v'->iV (Pd b) e 32 w w'->wpList P ops Q rest (a.put o.dst v') w'):wpList P ops Q (o::rest) a (w.alloc (.cells cs e)):=xZ (sz:=32) ht hinfo hzs (by decide) w hgd s x ho (Pd b) 0 v n 1 hown (Fb b) cs (by rw[hcs,Nat.one_mul,rU]) hs hx (by decide) (by omega) (by omega) (Nat.zero_le _) h
theorem B9{n:Nat}(base:Array Value)(ca cb:List Value)(hb:base.size=n+n)(ha:ca.length=n)(hl:cb.length=n):Instr.fill (fun i=>some (i*n,n)) base [(0, .agg ca.toArray),(1, .agg cb.toArray)]=some (ca++cb).toArray:=by
 rw[de (off:=0*n) (size:=n) rfl (by simpa[Value.cells]using ha) (by omega),de (off:=1*n) (size:=n) rfl (by simpa[Value.cells]using hl) (by rw[dV];omega),Instr.fill];have hlb:base.toList.length=n+n:=by rw[Array.length_toList,hb]
 have hB:base=([]++(base.toList.take n++base.toList.drop n)).toArray:=by rw[List.nil_append,List.take_append_drop,Array.toArray_toList]
 have f1:=fy [] (base.toList.take n) ca (base.toList.drop n) (by rw[List.length_take];omega);have f2:=fy ca (base.toList.drop n) cb [] (by rw[List.length_drop];omega);rw[<-hB]at f1;have e1:Value.cells (.agg ca.toArray)=ca.toArray:=rfl;have e2:Value.cells (.agg cb.toArray)=cb.toArray:=rfl;rw[e1,e2,Nat.zero_mul,Nat.one_mul];change some (spl (spl base (List.length ([]:List Value)) ca.toArray) n cb.toArray)=_;rw[f1,show([]++(ca++base.toList.drop n):List Value)=ca++(base.toList.drop n++[])by simp,<-ha]at*;rw[f2,List.append_nil]
theorem mg{P:Program}{ops:Array Oper}{Q:Exit->Act->World->Prop}{K:Act->World->Prop}{E:Prop}{o:Oper}{a:Act}(hw:Region.wanted o (yielded ops a.tmps)=true)(w:World)(t e:TypeId)(z:Value)(n:Nat)(x y:Operand)(ho:o.op= .buildSlice t 2 #[(0,x),(1,y)])(ht:P.underlying t=some (.slice e))(hi:(P.info? e).map (fun i=>(i.zero,i.size))=some (some z,n))(h0:0<n)(h1:n<=1000)(ca cb:List Value)(hx:a.eval x= .agg ca.toArray)(hy:a.eval y= .agg cb.toArray)(ha:ca.length=n)(hl:cb.length=n)(h:K (a.put o.dst (.slice (some ⟨w.heap.size,0,none⟩) 2 2)) (w.alloc (.cells (ca++cb).toArray e))):if Region.wanted o (yielded ops a.tmps)=true then o.wp P a w K Q else E:=by
 obtain⟨i,hi1,hi2,hi3⟩:∃i,P.info? e=some i/\i.zero=some z/\i.size=n:=by
  cases hq:P.info? e with
  |none=>simp[hq]at hi
  |some i=>
   simp[hq]at hi;exact⟨i,rfl,hi.1,hi.2⟩
 rw[if_pos hw];refine wp_buildSlice t e 2 _ ho (ca++cb).toArray i z ht hi1 hi2 (by rw[hi3];omega) (by rw[hi3];omega) ?_ h;have hp:(#[(0,x),(1,y)].map fun((i,x):Nat×Operand)=>(i,a.eval x)).toList=[(0, .agg ca.toArray),(1, .agg cb.toArray)]:=by simp[hx,hy]
 rw[hp,hi3];exact B9 _ ca cb (by simp;omega) ha hl
theorem ri{P:Program}{t e:TypeId}{z:Value}{by_ sz:Nat}(ht:P.underlying t=some (.slice e))(hinfo:(P.info? e).map (fun i=>(i.zero,i.size,i.bytes))=some (some z,sz,by_))(hzs:z.cells.size=sz){ops:Array Oper}{Q:Exit->Act->World->Prop}{K:Act->World->Prop}{E:Prop}{o:Oper}{a:Act}(hw:Region.wanted o (yielded ops a.tmps)=true)(w:World)(s x:Operand)(ho:o.op= .call {callee:= .builtin .append,args:=#[s,x],argTypes:=#[t,t]})(v:Value)(n:Nat)(xs:List Value)(hown:aO w e sz v n xs)(m:Nat)(cs:List Value)(hcl:cs.length=m*sz)(hone:∀u∈cs,u.oneCell'=true)(hs:a.eval s=v)(hx:a.eval x= .slice (some ⟨w.heap.size,0,none⟩) m m)(h0:0<m)(hm:n+m<=140737488355328)(hlen:(n+m)*by_<=140737488355328)(h:∀v' w',aO w' e sz v' (n+m) (xs++cs)->w.grownBy w' v.ownBlock->iT w v v'->K (a.put o.dst v') w'):if Region.wanted o (yielded ops a.tmps)=true then o.wp P a (w.alloc (.cells cs.toArray e)) K Q else E:=by
 obtain⟨i,hi,hz,hs1,hby⟩:=info_parts hinfo;have hW:Below w.heap.size w (w.alloc (.cells cs.toArray e)):=(Below.refl _ _).alloc (Nat.le_refl _) _;obtain⟨v',w',hr,h2,h3,h4⟩:=jj (P:=P) (w.alloc (.cells cs.toArray e)) t o.type e i z sz by_ ht hi hz hs1 hby hzs v n xs (hown.touch (ae.ofBelow hW) fun _ _ h=>h) ⟨w.heap.size,0,none⟩ m m cs hcl pA hone h0 (by unfold maxLen;omega) hlen;rw[if_pos hw];unfold Oper.wp execOp;simp only[ho,resolve,invoke,builtin,Sem.run_bind,Sem.run_pure,Result.andThen_ok,List.map_toArray,List.map_cons,List.map_nil,hs,hx,hr];refine h v' w' h2 (aE (World.grownBy_alloc _ _ _) h3) fun k hk=>?_;rcases h4 with h4|h4
 ·rw[h4]at hk;exact .inl hk
 ·rw[h4]at hk;injection hk with hk;simp at hk;exact .inr (by omega)
theorem yF(gb base N:Nat)(S:Nat->Prop)(u:Value)(m:Nat)(cs:List Value)(w:World)(hb:Bk w gb base N S)(hu:w.ownsRow 0 34 32 u m cs)(hf:∀B,u.ownBlock=some B->¬S B/\base<=B)(hbase:base<=w.heap.size)(hm:m<=1000)(hN:N<=2305843009213693952):Calls Tryz.prog 63 #[.pointer (some ⟨gb,3,none⟩),u] w (pZ gb base N S u.ownBlock w):=by
 obtain⟨n,n2,v,xl,ms,yl,ns,hnN,hnN2,hb⟩:=hb;have J:=aa hb;have L:=aa (And.intro hnN hnN2);have HF:Hd (∀B,u.ownBlock=some B->¬S B/\base<=B/\B<w.heap.size):=fun B hB=>⟨(hf B hB).1,(hf B hB).2,(hu.lt B hB).2⟩;have HI:=aa hbase;have hn63:n2<=2305843009213693952:=by omega
 have hadd:IntKind.i64.wrap ((n2:Int)+1)=(n2:Int)+1:=IntWalk.i64_in _ (by omega);obtain⟨k0,hk0⟩:∃k0,k0=yl.length:=⟨_,rfl⟩;have hk6:k0<=200:=by have:=hb.maxK;omega
 have M:=aa hk0;have Z:Hd (k0=ns.length):=by show _=_;have:=hb.lenK;omega
 obtain⟨A0,c0,e0,_⟩:=(hb.heads.row 2 (by omega)).form;obtain⟨A1,c1,e1,_⟩:=(hb.heads.row 3 (by omega)).form;rw[show kB xl ms yl ns 2=k0 from hk0.symm]at e0;rw[show kB xl ms yl ns 3=k0 from Z.o.symm]at e1;have HJ:=aa e0;have O:=aa e1;have hat:=hb.heads.at_;obtain⟨⟨_,_,_,q0,q1,q2⟩,qf⟩:=hat;have qf0:=qf 3;obtain⟨Au,cu,eu,_⟩:=aP hu;have hH1:=hb.heads.bump2;have hgu:∀B,u.ownBlock=some B->B≠gb:=fun B hB e=>(hf B hB).1 (e▸hb.spn gb (.inl rfl));have ht1:=ae.grown (ai w (g:=gb) 3 (.int .i64 ((n2+1:Nat):Int)));have P:=aa (ht1.row hu fun k hk e=>hgu k hk (by injection e));have b:=aa hH1;have Q:Hd (ae (fun B=>B=gb∨u.ownBlock=some B) w (w.setCell ⟨gb,3,none⟩ (.int .i64 ((n2+1:Nat):Int)))):=ht1.mono fun k _(h:some k=some gb)=> .inl (by injection h);have He:Hd (∀B,u.ownBlock=some B->¬bP gb v B):=fun B hB hs=>(hf B hB).1 (hb.spn B hs);have HK:=aa hu.1;have hcast:((n2+1:Nat):Int)=(n2:Int)+1:=by push_cast;rfl
 rw[hcast]at P b Q;subst eu;clear hb hu hf hbase hnN hnN2 e0 e1 qf hH1 hgu ht1 hcast hk0;go_enter Tryz.func63,Tryz.ntmps63;go_wp2_with((with_reducible refine atS 28 ?_);skip);refine aa ?_;generalize hw1:w.setCell ⟨gb,3,none⟩ (.int .i64 ((n2:Int)+1))=w1 at*;clear hw1 q0 q1 q2 qf0;refine aM (o:=⟨some 28,_,_,_,_,_⟩) (by rfl) 34 #[(0, .const (.int .u8 211)),(1, .tmp 21),(2, .tmp 24),(3, .tmp 27)] rfl [(0, .int .u8 211),(1, .int .u8 ((n2%256:Nat):Int)),(2, .int .u8 ((n2/256%256:Nat):Int)),(3, .int .u8 ((n2/65536%256:Nat):Int))] (by simp[go_sem]) (bvs (eX n2)).toArray (zN _ _ _) ?_;(try simp only[Act.put,LS]);have hmd:(bvs (eX n2)).length=32:=by simp[bvs,dM]
 have A:=aa (And.intro (dM n2) (tS n2));have HM:Hd (∀(cs:List Value)(j:Nat),(mkK cs n2 j).take (j*32)++(bvs (eX n2)++(mkK cs n2 j).drop (j*32+32))=mkK cs n2 (j+1)):=fun cs j=>BK cs n2 j;go_wp2_with((with_reducible refine atS 5 ?_);refine dU (s:=⟨none,_,_,_,_,_⟩) (by rfl) (by rfl) 34 rfl (.tmp 5) (.tmp 28) rfl (bvs (zs 32)) (bvs (eX n2)) 32 aD rfl hmd rfl rfl (ah _) ?_;intro w2 c R HN;(try simp only[Act.put,LS]));clear hmd;have HP:=aa ((ae.ofBelow R.o).row P.o fun _ _ h=>h);have HR:=aa (b.o.below R.o);have f:Hd (ae (fun B=>B=gb∨(Value.slice Au m cu).ownBlock=some B) w w2):=bO Q.o (ae.ofBelow R.o) fun _ _ h=>h.elim;obtain⟨gm,hgm⟩:∃gm,gm=w1.heap.size:=⟨_,rfl⟩;have HS:Hd (∀B,(Value.slice Au m cu).ownBlock=some B->B≠gm):=fun B hB e=>by
  have h1:=(P.o.lt B hB).2;omega
 have r:Hd (gm<w2.heap.size/\w.heap.size<=gm):=⟨by rw[HN.o,hgm];omega,by rw[hgm];exact Q.o.size⟩;rw[<-hgm]at c⊢;clear hgm P b Q R HN;go_loopw[6](fun i wr=>∃j:Nat,j<=m/\i= .int .i64 (j:Int)/\Hd (wr.ownsRow 0 34 32 (.slice Au m cu) m (mkK cs n2 j))/\Hd (ae (fun B=>(Value.slice Au m cu).ownBlock=some B) w2 wr))(fun i _=>m-(intOf i).toNat)
 case atStart=>exact⟨0,by omega,rfl,by rw[BJ];exact HP.o,ae.refl _ _⟩
 case round=>
  clear HP;obtain⟨j,hj,rfl,T,C⟩:=hrel;have F:Hd (ar wr gm 34 (eX n2)):=C.o.blk c.o fun e=>HS.o gm e rfl;by_cases hlt:j<m
  ·have hlt':(j:Int)<m:=by omega
   obtain⟨g,eg⟩:∃g,Au=some ⟨g,0,none⟩:=by
    rcases T.o.2with⟨_,h0⟩|⟨g,_,_,h0,_⟩
    ·omega
    ·injection h0 with h0 _ _;exact⟨g,h0⟩
   subst eg;go_wp2_with(first|((with_reducible refine atS 37 ?_);refine ac (by rfl) 34 (.tmp 5) rfl ⟨gm,0,none⟩ 32 (eX n2) rfl (F.o.whole A.o.2 A.o.1) (by omega) (by kernel_rfl) (by kernel_rfl) ?_;(try simp only[Act.put,LS]))|((with_reducible refine atU ?_);refine yk (o:=⟨none,_,_,_,_,_⟩) (by rfl) 34 (.tmp 38) (.tmp 37) rfl 32 0 34 g m cu j (j*32) (mkK cs n2 j) (bvs (eX n2)) T.o hlt rfl rfl rfl (by simp[bvs,A.o.1]) C7 (ah _) ?_;intro w3 ho3 hg3;rw[HM.o]at ho3;have Hf:=aa ho3;have U:=aa (C.o.trans ((ae.grown hg3).mono fun k _(hk:some k=some g)=>(show some g=some k from hk.symm)));clear ho3 hg3;(try simp only[Act.put])));go_roundw
   case rel=>exact⟨j+1,by omega,by go_num,Hf.o,U.o⟩
   case measure=>simp[intOf];omega
  ·have hjm:j=m:=by omega
   have hnlt:¬(j:Int)<m:=by omega
   have t:Hd (wr.ownsRow 0 34 32 (.slice Au m cu) m (pat (Pd n2) (m*32))):=by
    have h:=T.o;rwa[hjm,DX HK.o]at h
   have HA:Hd (ae (UT (.slice Au m cu) w2) w2 wr):=C.o.mono fun k _ hk=> .inl hk;clear T C HK HM hj hlt;go_wp2_with(first|((with_reducible refine atS 40 ?_);refine ac (by rfl) 34 (.tmp 5) rfl ⟨gm,0,none⟩ 32 (eX n2) rfl (F.o.whole A.o.2 A.o.1) (by omega) (by kernel_rfl) (by kernel_rfl) ?_;(try simp only[Act.put,LS]))|((with_reducible refine atS 41 ?_);refine aR rfl wr 27 34 _ 32 (.tmp 40) rfl cN aD (by decide) (by decide) (bvs (eX n2)).toArray rfl (by simp[bvs,A.o.1]) ?_;(try simp only[Act.put,LS]))|((with_reducible refine atS 42 ?_);skip));refine aa ?_;refine uy (o:=⟨some 42,_,_,_,_,_⟩) iv mV rfl wr (by rfl) (.tmp 39) (.tmp 41) (by rfl) n2 _ m t.o _ rfl (by rfl) (by rfl) (by omega) ?_;intro vg w3 hg3 hr3 hl3 hf3;have G:=aa (hf3 _ _ _ t.o);have HU:=aa hg3;have U:=aa (mG HA.o hr3 (gN _ _));have HV:=aa (mH HA.o hl3 (gN _ _));obtain⟨Ag,cg,eg,_⟩:=aP hg3;subst eg;clear hg3 hr3 hl3 hf3 HA t F;(try simp only[Act.put,LS]);go_wp2_with fail;go_loopw[7,8](fun h i y=>∃(q z cq:Nat)(Aq:Option Addr),h= .slice Aq z cq/\i= .int .i64 (q:Int)/\Hd (q<=300/\z=m+1+q)/\Hd (y.ownsRow 0 34 32 (.slice Aq z cq) z (pat (Pd n2) (z*32)))/\Hd (y.ownsRow 0 34 32 (.slice Au m cu) m (pat (Pd n2) (m*32)))/\Hd (ae (UT (.slice Au m cu) w2) w2 y)/\Hd (∀B,(Value.slice Aq z cq).ownBlock=some B->UT (.slice Au m cu) w2 B))(fun _ i _=>300-(intOf i).toNat)
   case atStart=>exact⟨0,m+1,cg,Ag,rfl,rfl,⟨by omega,rfl⟩,HU.o,G.o,U.o,HV.o⟩
   case round=>
    clear HU G U HV;obtain⟨q,z,cq,Aq,rfl,rfl,H,HH,HL,C,V⟩:=hrel;have F:Hd (ar wr gm 34 (eX n2)):=C.o.blk c.o fun e=>by
     rcases e with e|e
     ·exact HS.o gm e rfl
     ·have:=r.o.1;omega
    by_cases hq:q<300
    ·have hq':(q:Int)<300:=by omega
     have hz:z+1<=1073741824:=by have:=H.o;omega
     go_wp2_with(first|((with_reducible refine atS 48 ?_);refine ac (by rfl) 34 (.tmp 5) rfl ⟨gm,0,none⟩ 32 (eX n2) rfl (F.o.whole A.o.2 A.o.1) (by omega) (by kernel_rfl) (by kernel_rfl) ?_;(try simp only[Act.put,LS]))|((with_reducible refine atS 49 ?_);refine aR rfl wr 27 34 _ 32 (.tmp 48) rfl cN aD (by decide) (by decide) (bvs (eX n2)).toArray rfl (by simp[bvs,A.o.1]) ?_;(try simp only[Act.put,LS]))|((with_reducible refine atS 50 ?_);refine uy iv mV rfl wr (by rfl) (.tmp 47) (.tmp 49) (by rfl) n2 _ z HH.o _ rfl (by rfl) (by rfl) hz ?_;intro vx y1 hg6 hr6 hl6 hf6;obtain⟨Ax,cx,ex,_⟩:=aP hg6;have Hg:=aa (hf6 _ _ _ HL.o);have Hh:=aa hg6;have W:=aa (mG C.o hr6 V.o);have Hi:=aa (mH C.o hl6 V.o);subst ex;clear hg6 hr6 hl6 hf6;(try simp only[Act.put,LS])));go_roundw
     case rel=>exact⟨q+1,z+1,cx,Ax,rfl,by go_num,⟨by omega,by have:=H.o;omega⟩,Hh.o,Hg.o,W.o,Hi.o⟩
     case measure=>simp[intOf];omega
    ·have hzz:z=m+301:=by have:=H.o;omega
     have hq':¬(q:Int)<300:=by have:=H.o;omega
     subst hzz;have hh:=HR.o.touch C.o fun B hB hU=>by
      rcases hU with hU|hU
      ·exact He.o B hU hB
      ·have:=HR.o.lt hB;omega
     have HW:=aa hh;have Hj:Hd (aO wr 27 1 (v 2) k0 yl):=by
      have h:=hh.row 2 (by omega);rw[M.o];exact h
     obtain⟨⟨_,_,_,_,p1,p2⟩,_⟩:=hh.at_;rw[HJ.o]at p1;rw[O.o]at p2;clear hh H hq;have G:Hd (k0+2=(yl++[Value.slice Au m cu, .slice Aq (m+301) cq]).length):=by
      show _=_;rw[List.length_append,<-M.o];rfl
     have HC:Hd (k0+2=(ns++[n2,n2]).length):=by
      show _=_;rw[List.length_append,<-Z.o];rfl
     go_wp2_with((with_reducible refine atS 59 ?_);skip);refine aa ?_;refine sh (o:=⟨some 59,_,_,_,_,_⟩) wr tD y8 rfl (by rfl) (.tmp 55) (.tmp 58) (by rfl) (v 2) k0 yl Hj.o 2 [.slice Au m cu, .slice Aq (m+301) cq] #[.slice Au m cu, .slice Aq (m+301) cq] (by rfl) (by rfl) (fun u hu=>by simp at hu;rcases hu with rfl|rfl<;>rfl) (by exact HJ.o.symm) wr.heap.size rfl (by rfl) (by omega) (by omega) (by omega) ?_;intro v6 w6 hr6 hg6 hl6;obtain⟨A6,c6,e6,hc6,_⟩:=hr6.form;have Hk:=aa hc6;have hb6:=HW.o.mid (j:=2) (by omega) hg6;have r6:=hb6.cell 4;have f6:=hb6.frozen 4;have D:=aa (HW.o.putK G.o hg6 hr6 hl6);have HD:Hd (ar (w6.setCell ⟨gb,4,none⟩ v6) gm 34 (eX n2)):=D.o.2.1.blk F.o fun e=>by
      have h1:=J.o.heads.lt e;have h2:=r.o.2;omega
     subst e6;clear hr6 hg6 hl6 hb6 hc6;(try simp only[Act.put,LS]);have p5:(w6.setCell ⟨gb,4,none⟩ (.slice A6 (k0+2) c6)).cell? ⟨gb,5,none⟩=some (.slice A1 k0 c1):=by
      have h:=D.o.1.at_.1.2.2.2.2.2;rw[show upd v 2 (Value.slice A6 (k0+2) c6) 3=v 3from rfl,O.o]at h;exact h
     have HX:Hd (aO (w6.setCell ⟨gb,4,none⟩ (.slice A6 (k0+2) c6)) 34 32 (v 3) k0 (ns.map fun a=>bvs (eX a)).flatten):=by
      have h:aO (w6.setCell ⟨gb,4,none⟩ (.slice A6 (k0+2) c6)) 34 32 (v 3) ns.length (ns.map fun a=>bvs (eX a)).flatten:=D.o.1.row 3 (by omega);rw[<-Z.o]at h;exact h
     go_wp2_with fail;generalize hw7:w6.setCell ⟨gb,4,none⟩ (.slice A6 (k0+2) c6)=w7 at*;clear hw7 r6 f6 p1 p2;rename_i KK hKK;have HY:=aa hKK;clear hKK;have hdu:=bE;have hds:(Tryz.prog.info? 34).map (·.size)=some (bvs (eX n2)).length:=by rw[ag];simp[bvs,A.o.1]
     refine bA (S:=fun w'=>w'.cell? ⟨gb,5,none⟩=some (.slice A1 k0 c1)/\w'.rangeAt gm 0 (bvs (eX n2))) 11 (by kernel_rfl) ⟨p5,ab.range HD.o⟩ fun hH=>?_;have Hl:Hd (aO w7.drew 34 32 (v 3) k0 (ns.map fun a=>bvs (eX a)).flatten):=HX.o.touch (ae.ofBelow (af (Below.refl _ _) 1)) fun _ _ h=>h;have HZ:Hd (ar w7.drew gm 34 (eX n2)):=ab.drew HD.o;have HE:Hd (dv w7.drew gb base n (n2+1) (upd v 2 (.slice A6 (k0+2) c6)) (kB xl ms (yl++[Value.slice Au m cu, .slice Aq (m+301) cq]) ns) (xB xl ms (yl++[Value.slice Au m cu, .slice Aq (m+301) cq]) ns)):=D.o.1.below (af (Below.refl _ _) 1);have W:Hd (ae (bP gb v) wr w7.drew):=D.o.2.1.trans (ae.ofBelow (af (Below.refl _ _) 1)|>.mono fun _ _ h=>h.elim);have Ha:=aa D.o.2.2;clear HX HD D p5;generalize w7.drew=w8 at*;refine tua 0 [9,10,11] ?_;refine tua 1 [2,3,4,8,9,10,11] ?_;refine tua 2 [3,4,8,9,10,11] ?_;refine tua 3 [4,8,9,10,11] ?_;refine tua 4 [8,9,10,11] ?_;refine tul 5 [7,8,9,10,11] ?_;refine tul 6 [7,8,9,10,11] ?_;have hS8:w8.cell? ⟨gb,5,none⟩=some (.slice A1 k0 c1)/\w8.rangeAt gm 0 (bvs (eX n2)):=by assumption
     have Hb:=aa hS8;clear hS8;refine b9 (i:=7) (by kernel_rfl) rfl (fun K hK=>?_);refine mg (o:=⟨some 69,_,_,_,_,_⟩) (by kernel_rfl) w8 27 34 _ 32 (.tmp 67) (.tmp 68) rfl cN aD (by decide) (by decide) (bvs (eX n2)) (bvs (eX n2)) rfl rfl (by simp[bvs,A.o.1]) (by simp[bvs,A.o.1]) ?_;(try simp only[Act.put,LS]);refine hK.out _ _ (fun _=>⟨(((Below.refl w8.heap.size w8).alloc (Nat.le_refl _) _).cell (p:=⟨gb,5,none⟩) HE.o.blk.lt).trans Hb.o.1,ab.range (ab.alloc HZ.o _)⟩) ?_;clear hK;refine b9 (i:=8) (by kernel_rfl) rfl (fun K hK=>?_);refine ri (o:=⟨some 70,_,_,_,_,_⟩) iv mV rfl ?hw w8 (.tmp 66) (.tmp 69) (by rfl) (v 3) k0 _ Hl.o 2 (bvs (eX n2)++bvs (eX n2)) (by simp[bvs,A.o.1]) (fun u hu=>by rcases List.mem_append.1 hu with h|h<;>exact ah _ u h) (by exact O.o.symm) (by rfl) (by omega) (by omega) (by omega) ?_
     case hw=>kernel_rfl
     intro v7 w9 hr7 hg7 hl7;rw[show(ns.map fun a=>bvs (eX a)).flatten++(bvs (eX n2)++bvs (eX n2))=((ns++[n2,n2]).map fun a=>bvs (eX a)).flatten by simp]at hr7;obtain⟨A7,c7,e7,hc7,_⟩:=hr7.form;have Hm:=aa hc7;have hb7:=HE.o.mid (j:=3) (by omega) hg7;have E:=aa (HE.o.putW HC.o hg7 hr7 hl7);have r7:w9.cell? ⟨gb,5,none⟩=some (.slice A1 k0 c1):=(hb7.cell 5).trans (by show some (v 3)=_;rw[O.o]);have f7:=hb7.frozen 5;have r71:w9.cell? ⟨gb,4,none⟩=some (.slice A6 (k0+2) c6):=hb7.cell 4;have f71:=hb7.frozen 4;have hgm9:ar w9 gm 34 (eX n2):=(ae.grown hg7).blk HZ.o fun e=>by
      have h1:=J.o.heads.lt (.inr ⟨3,by omega,e.symm⟩);have h2:=r.o.2;omega
     have HG:=aa (ab.range hgm9);subst e7;clear hgm9 hr7 hg7 hl7 hb7 hc7 hH;(try simp only[Act.put,LS]);refine hK.out _ _ (fun _=>⟨r7,HG.o⟩) ?_;clear hK;have hS9:w9.cell? ⟨gb,5,none⟩=some (.slice A1 k0 c1)/\w9.rangeAt gm 0 (bvs (eX n2)):=⟨r7,HG.o⟩;refine tua 9 [10,11] ?_;refine tua 10 [11] ?_;refine rdu 11 fun K hK=>?_;go_simp;refine hK.out _ _ (fun h=>by cases h) ?_;clear hK hS9;refine co (by kernel_rfl) ?_ _;change KK _ _;refine HY.o _ _ ?_;clear HY KK hdu hds HG Hb;have X:Hd (∀B,bP gb (upd (upd v 2 (.slice A6 (k0+2) c6)) 3 (.slice A7 (k0+2) c7)) B->bP gb v B∨wr.heap.size<=B):=fun B hB=>by
      rcases E.o.2.2 B hB with h|h
      ·exact Ha.o B h
      ·have:=W.o.size;exact .inr (by omega)
     have I:Hd (ae (fun B=>bP gb v B∨wr.heap.size<=B) wr (w9.setCell ⟨gb,5,none⟩ (.slice A7 (k0+2) c7))):=bO (W.o.mono fun B _ h=> .inl h) E.o.2.1 fun B _ h=> .inl (Ha.o B h);have Hc:Hd (ae (fun B=>B=gb∨(Value.slice Au m cu).ownBlock=some B) w wr):=bO f.o C.o fun B _ h=>by
      rcases h with h|h
      ·exact .inl (.inr h)
      ·have:=f.o.size;exact .inr (by omega)
     have Y:Hd (∀{x:Value},(∀B,x.ownBlock=some B->UT (.slice Au m cu) w2 B)->∀B,x.ownBlock=some B->(Value.slice Au m cu).ownBlock=some B∨w.heap.size<=B):=fun h B hB=>(h B hB).imp id fun h=>Nat.le_trans f.o.size h;by_cases hgt:200<k0+2
     ·have hgt':(200:Int)<(k0:Int)+2:=by omega
      have hd0:aO (w9.setCell ⟨gb,5,none⟩ (.slice A7 (k0+2) c7)) 27 1 (.slice A6 (k0+2) c6) (k0+2) (yl++[Value.slice Au m cu, .slice Aq (m+301) cq]):=by
       have h:aO (w9.setCell ⟨gb,5,none⟩ (.slice A7 (k0+2) c7)) 27 1 (.slice A6 (k0+2) c6) (yl++[Value.slice Au m cu, .slice Aq (m+301) cq]).length (yl++[Value.slice Au m cu, .slice Aq (m+301) cq]):=E.o.1.row 2 (by omega);rw[<-G.o]at h;exact h
      have hd1:aO (w9.setCell ⟨gb,5,none⟩ (.slice A7 (k0+2) c7)) 34 32 (.slice A7 (k0+2) c7) (k0+2) ((ns++[n2,n2]).map fun a=>bvs (eX a)).flatten:=by
       have h:aO (w9.setCell ⟨gb,5,none⟩ (.slice A7 (k0+2) c7)) 34 32 (.slice A7 (k0+2) c7) (ns++[n2,n2]).length ((ns++[n2,n2]).map fun a=>bvs (eX a)).flatten:=E.o.1.row 3 (by omega);rw[<-HC.o]at h;exact h
      obtain⟨g6,o6,eA6,hq0⟩:=hd0.drop (k:=2) (by omega) (by omega);obtain⟨g7,o7,eA7,hq1⟩:=hd1.drop (k:=2) (by omega) (by omega);subst eA6 eA7;rw[nw]at hq1;have Hn:=aa hq0;have Ho:=aa hq1;clear hd0 hd1 hq0 hq1;have S8:=aa (E.o.1.putK (l:=(yl++[Value.slice Au m cu, .slice Aq (m+301) cq]).drop 2) (by rw[List.length_drop,<-G.o]) (jF _ _) Hn.o fun B hB=> .inl hB);have hd2:=Ho.o.touch (ae.grown (ai (w9.setCell ⟨gb,5,none⟩ (.slice (some ⟨g7,o7,none⟩) (k0+2) c7)) (g:=gb) 4 (.slice (some ⟨g6,o6+2*1,none⟩) (k0+2-2) (c6-2)))) fun B hB e=>E.o.1.ne 3 (by omega) (by
       have e2:(some B:Option Nat)=some gb:=e;rw[<-e2];exact hB);have S9:=aa (S8.o.1.putW (l:=(ns++[n2,n2]).drop 2) (by rw[List.length_drop,<-HC.o]) (jF _ _) hd2 fun B hB=> .inl hB);clear hd2;go_wp2_with(first|((with_reducible refine atS 84 ?_);refine kG (by rfl) 26 27 (.tmp 83) (.const (.int .i64 2)) rfl tD zv 1 DE g6 o6 (k0+2) c6 2 (by rfl) (by rfl) (by omega) Hk.o ?_;(try simp only[Act.put,LS]))|((with_reducible refine atS 92 ?_);refine kG (by rfl) 27 34 (.tmp 91) (.const (.int .i64 2)) rfl iv Ci 32 C7 g7 o7 (k0+2) c7 2 (by rfl) (by rfl) (by omega) Hm.o ?_;(try simp only[Act.put,LS])));refine bodyPost_end (results_none rfl _ _ _) rfl ?_;refine oJ (d:=2) (m:=m) J.o L.o.1 L.o.2 HF.o HI.o (by omega) Hc.o HL.o HH.o (Y.o (gN _ _)) (Y.o V.o) S9.o.1 (by rw[<-M.o];omega) (fun B hB=>?_) ?_
      ·rcases S9.o.2.2 B hB with h|h
       ·rcases S8.o.2.2 B h with h|h
        ·exact X.o B h
        ·have:=I.o.size;exact .inr (by omega)
       ·have h1:=I.o.size;have h2:=S8.o.2.1.size;exact .inr (by omega)
      ·refine bO (bO I.o S8.o.2.1 fun B _ h=>?_) S9.o.2.1 fun B _ h=>?_
       ·exact .inl (X.o B h)
       ·rcases S8.o.2.2 B h with h|h
        ·exact .inl (X.o B h)
        ·have:=I.o.size;exact .inr (by omega)
     ·have hgt':¬(200:Int)<(k0:Int)+2:=by omega
      go_wp2_with fail;refine bodyPost_end (results_none rfl _ _ _) rfl ?_;exact oJ (d:=0) (m:=m) J.o L.o.1 L.o.2 HF.o HI.o (by omega) Hc.o HL.o HH.o (Y.o (gN _ _)) (Y.o V.o) (by rw[List.drop_zero,List.drop_zero];exact E.o.1) (by rw[<-M.o];omega) X.o I.o
end Go.Proofs.YtfnlhfaihoojfaaGreatDoor
