/- Texts of the proof of ledgerlaw13.ClientPlays, part 45; no condition of its own. -/
import Derived.Maps.Own
import Derived.Maps.Views
import Derived.DeepKeys4
import Derived.Deep.CutBlock
import Derived.Test.YtfnlhfaihoojfaaGreatDoorS27
set_option maxRecDepth 100000
set_option maxHeartbeats 4000000
namespace Go.Proofs.YtfnlhfaihoojfaaGreatDoor
open Go.RowKit
open Go.Maps(Keyed)
theorem D4:(37:TypeId)<Tryz.prog.types.size:=of_decide_eq_true (by kernel_rfl)
theorem BR:laidOutB Tryz.prog=true:=by kernel_rfl
theorem BS:Tryz.prog.keyTypeAt 2 37=true:=by kernel_rfl
theorem kM:Keyed Tryz.prog 37:=Maps.Keyed.of_law (deep_law_laid BR (m:=2) (by omega) D4 BS (by rw[bW]))
theorem xy:Tryz.prog.underlying 140=some (.map 37 27):=by kernel_rfl
theorem sG{α β:Type}(g:α->Option β)(l:List α)(h:∀a∈l,(g a).isSome=true):(l.mapM g).isSome=true:=by
 induction l with
 |nil=>rfl
 |cons a r ih=>
  obtain⟨b,hb⟩:=Option.isSome_iff_exists.1 (h a (by simp));obtain⟨c,hc⟩:=Option.isSome_iff_exists.1 (ih fun x hx=>h x (by simp[hx]));simp[List.mapM_cons,hb,hc]
theorem BT{ks:List Nat}(hB:IsB ks)(hl:ks.length=32):∃l,keyOf Tryz.prog 37 (.agg (bvs ks).toArray)=some l:=by
 have h1:Tryz.prog.keyType 37=true:=by kernel_rfl
 have h2:Tryz.prog.cellsOf 37=32:=by kernel_rfl
 have h3:Tryz.prog.cellsOf 5=1:=by kernel_rfl
 have h4:Tryz.prog.underlying 5=some (.int .u8):=by kernel_rfl
 obtain⟨d,hd⟩:∃d,Tryz.prog.types.size=d+1:=⟨Tryz.prog.types.size-1,by have:0<Tryz.prog.types.size:=of_decide_eq_true (by kernel_rfl);omega⟩;have h5:Value.formed Tryz.prog 37 (.agg (bvs ks).toArray)=true:=by
  unfold Value.formed;simp only[bW,h2];simp[bvs,hl]
 have h6:(Tryz.prog.keyLits (Tryz.prog.types.size+1) 37 (bvs ks)).isSome=true:=by
  rw[hd];unfold Program.keyLits;simp only[bW,h2];rw[if_pos (by simp[bvs,hl])];rw[Option.isSome_map];refine sG _ _ fun i hi=>?_;rw[List.mem_range]at hi;rw[h3,Nat.mul_one];have hx:((bvs ks).drop i).take 1=[.int .u8 (ks[i]'(by omega):Nat)]:=by
   rw[List.drop_eq_getElem_cons (by simp[bvs];omega)];simp[bvs];rfl
  rw[hx];have hlt:ks[i]'(by omega)<256:=hB _ (List.getElem_mem _);unfold Program.keyLits;simp only[h4];simp[Lit.wf];exact⟨by show(0:Int)<=_;omega,by show _<=(255:Int);omega⟩
 obtain⟨ls,hls⟩:=Option.isSome_iff_exists.1 h6;refine⟨.string (keyBytes ls),?_⟩;unfold keyOf;simp only[bW,h1,h5,Bool.and_self,if_true,Value.cells,hls,Option.map_some]
def RV(v:Value):Option (DataW Value×List MemPlace):=some (.held v,[])
theorem Dc(ks:List Nat):∃l,∀l',keyOf Tryz.prog 37 (.agg (bvs ks).toArray)=some l'->l'=l:=by
 cases h:keyOf Tryz.prog 37 (.agg (bvs ks).toArray)with
 |none=>exact⟨.bool false,fun l' e=>by cases e⟩
 |some l=>exact⟨l,fun l' e=>(Option.some.inj e).symm⟩
noncomputable def litK(ks:List Nat):Lit:=(Dc ks).choose
theorem mL{ks:List Nat}(hB:IsB ks)(hl:ks.length=32):keyOf Tryz.prog 37 (.agg (bvs ks).toArray)=some (litK ks):=by
 obtain⟨l,h⟩:=BT hB hl;rw[h,(Dc ks).choose_spec l h];rfl
theorem BO{ks:List Nat}(hB:IsB ks)(hl:ks.length=32):WideAt.IsKeyLit (litK ks):=Maps.Keyed.key (P:=Tryz.prog) (k:=37) kM (v:= .agg (bvs ks).toArray) (l:=litK ks) (mL hB hl)
theorem Ef{xs ys:List Nat}(h:bvs xs=bvs ys):xs=ys:=by
 induction xs generalizing ys with
 |nil=>cases ys with
  |nil=>rfl
  |cons b r=>cases h
 |cons a r ih=>cases ys with
  |nil=>cases h
  |cons b s=>
   simp only[bvs,List.map_cons,List.cons.injEq]at h;rw[ih h.2];have h1:=h.1;injection h1 with _ h2;rw[Int.ofNat.inj h2]
theorem D3{ks ls:List Nat}(hB:IsB ks)(hl:ks.length=32)(hB2:IsB ls)(hl2:ls.length=32)(h:ks≠ls):litK ks≠litK ls:=fun e=>by
 have h1:=mL hB hl;rw[e]at h1;have h2:=kM.inj h1 (mL hB2 hl2);injection h2 with h2;have h3:=congrArg Array.toList h2;exact h (Ef (by simpa using h3))
def nD(w:World)(b n:Nat)(f:List Nat->Value):Prop:=∃D,w.ownsMap Tryz.prog 37 RV b n D/\Maps.IsMap D/\∀ks,IsB ks->ks.length=32->D.atKey (litK ks) (.held (.slice none 0 0))= .held (f ks)
theorem nD.made(w:World):nD (w.alloc (.map #[] 0)) w.heap.size 0 (fun _=> .slice none 0 0):=⟨.map [],World.ownsMap_made _ _ _ _,Maps.isMap_empty,fun _ _ _=>rfl⟩
section
variable{w w':World}{b n:Nat}{f:List Nat->Value}{U:Nat->Prop}
theorem nD.lt(h:nD w b n f):b<w.heap.size:=by
 obtain⟨D,h1,_⟩:=h;exact h1.lt
theorem nD.touch(h:nD w b n f)(ht:ae U w w')(hn:¬U b):nD w' b n f:=by
 obtain⟨D,⟨es,clock,h1,h2⟩,h3⟩:=h;exact⟨D,⟨es,clock,(ht.block b (Array.getElem?_eq_some_iff.1 h1).1 hn).trans h1,h2⟩,h3⟩
theorem nD.below(h:nD w b n f)(hb:Below w.heap.size w w'):nD w' b n f:=h.touch (ae.ofBelow hb) fun h=>h
theorem AI:(Tryz.prog.info? 27).map (·.zero)=some (some (.slice none 0 0)):=by kernel_rfl
theorem yb(w:World):(zeroValue 27).run Tryz.prog w= .ok (.slice none 0 0) w:=by
 have h:=AI;cases hq:Tryz.prog.info? 27with
 |none=>rw[hq]at h;cases h
 |some i=>
  rw[hq]at h;simp only[Option.map_some,Option.some.injEq]at h;simp[zeroValue,typeInfo,hq,h]
theorem nD.look(h:nD w b n f){ks:List Nat}(hB:IsB ks)(hl:ks.length=32):(Instr.lookup 140 (.map (some b)) (.agg (bvs ks).toArray) false).run Tryz.prog w= .ok (f ks) w:=by
 obtain⟨D,h1,h2,h3⟩:=h;obtain⟨v,ps,hrun,hv⟩:=h1.lookup kM xy (z:= .slice none 0 0) (yb w) (zd:= .held (.slice none 0 0)) (zp:=[]) rfl (mL hB hl);rw[h3 ks hB hl]at hv;change some (DataW.held v,([]:List MemPlace))=some (DataW.held (f ks),ps)at hv;simp only[Option.some.injEq,Prod.mk.injEq,DataW.held.injEq]at hv;rw[hrun,hv.1]
end
theorem EX{ops:Array Oper}{rest:List Oper}{o:Oper}{a:Act}{Q:Exit->Act->World->Prop}(w:World)(hg:o.guard=none)(m x v:Operand)(hop:o.op=Op.mapUpdate 140 m x v)(b n:Nat)(f:List Nat->Value)(hm:a.eval m= .map (some b))(hown:nD w b n f)(hn:n<maxLen)(ks:List Nat)(hB:IsB ks)(hl:ks.length=32)(val:Value)(hx:a.eval x= .agg (bvs ks).toArray)(hv:a.eval v=val)(hK:∀w',nD w' b (n+1) (fun ls=>if ls=ks then val else f ls)->w.grownBy w' (some b)->wpList Tryz.prog ops Q rest (a.put o.dst undef) w'):wpList Tryz.prog ops Q (o::rest) a w:=by
 obtain⟨D,h1,h2,h3⟩:=hown;refine wpList_mapUpdate_own w hg m x v _ hop 37 27 kM xy RV b n D hm h1 hn _ val (litK ks) hx hv (mL hB hl) (.held val) [] rfl fun w' k1 k2=>hK w' ⟨_,k1,h2.put _ _,fun ls lB ll=>?_⟩ k2;show _=DataW.held (if ls=ks then val else f ls);by_cases e:ls=ks
 ·rw[if_pos e,e];exact Maps.atKey_put_same h2 (BO hB hl) _ _
 ·rw[if_neg e,Maps.atKey_put_other (D3 lB ll hB hl e)];exact h3 ls lB ll
theorem un:Tryz.prog.elem 26=27:=by kernel_rfl
theorem xx:Tryz.prog.underlying 26=some (.slice 27):=by kernel_rfl
theorem A8:(Tryz.prog.info? 27).map (·.size)=some 1:=by kernel_rfl
theorem vp(wd:Int)(h:Nat):∀(n c1 c2:Nat)(A B:Option Addr)(X:Nat->Chg)(NS:Nat->Nat->List Nat)(w:World),h<=256->1<=n->n<=4096->fa w A n X->n<=c1->fS w B n NS->n<=c2->(∀i,i<n->dD (X i)=false)->du w->Calls Tryz.prog 94 #[.int .i64 wd, .slice A n c1, .slice B n c2, .int .i64 (h:Nat)] w fun e w'=>e= .returned (.agg (bvs (iQ wd h n X NS)).toArray)/\Below w.heap.size w w':=by
 induction h with
 |zero=>
  intro n c1 c2 A B X NS w _ hn hn2 hX hc1 hN hc2 hlong hT;obtain⟨b,o,Av,Cv,rfl,hb,hr,hkB,hkl,hvr,hvC,hCm,hnil⟩:=hX.2 0 (by omega);rw[Nat.zero_mul,Nat.add_zero]at hr;have hvl:=hlong 0 (by omega);obtain⟨D,J⟩:∃D,Hd (eK wd (X 0)=D):=⟨_,rfl⟩;have C:Hd (D.length=32/\IsB D):=by rw[<-J.o];exact dN _ _
  have Ht:Hd (iQ wd 0 n X NS=D):=J;rw[Ht.o];generalize X 0=x at*;have hV:x.del=true∨x.val.length<=128:=by
   unfold dD at hvl;cases hdl:x.del with
   |true=>exact .inl rfl
   |false=>rw[hdl]at hvl;simp at hvl;exact .inr hvl
  have U:=aa (And.intro hkl hkB);have Hu:=aa hvr;have Hv:=aa hV;have Hi:=aa (And.intro hb hr);have H:=aa hT;clear hX hN hlong hT hb hr hkB hkl hvr hvC hCm hnil hV hvl hn2 hc2;have hnI:(0:Int)<(n:Int):=by omega
  have hn0:0<n:=by omega
  go_enter Tryz.func94,Tryz.ntmps94;go_upto_region 1with fail;refine bh (G:=fun w2=>Code.wp _ _ _ _ w2) fun w2 V a HS=>?_;have t:Hd (ar w2 w.heap.size 34 (zs 32)):=V;clear V;have y:Hd (∀W,Below w.heap.size w W->W.rangeAt b o (bvs x.key)/\W.cell? ⟨b,o+32,none⟩=some (.bool x.del)/\W.cell? ⟨b,o+33,none⟩=some (.slice Av x.val.length Cv)):=fun W hb=>have h:=aV hb Hi.o.1 Hi.o.2
   ⟨er h,ie h U.o.1,eW h U.o.1⟩;have huk:=bW;have hszk:(Tryz.prog.info? 37).map (·.size)=some (bvs x.key).length:=by rw[aB];simp[bvs,U.o.1]
  go_upto_region 2with fail;refine wp_region_held_drew (S:=fun w'=>w'.rangeAt b o (bvs x.key)/\w'.cell? ⟨b,o+32,none⟩=some (.bool x.del)/\w'.cell? ⟨b,o+33,none⟩=some (.slice Av x.val.length Cv)) (by kernel_rfl) (y.o _ (af a.o 1)) fun hH=>?_;have c:Hd (Below w.heap.size w w2.drew):=af a.o 1;have Hw:Hd (ar w2.drew w.heap.size 34 (zs 32)):=t;generalize w2.drew=w0 at*;refine tka 0 ?_;refine tka 1 ?_;refine tka 2 ?_;refine tka 3 ?_;refine tkl 4 ?_;refine tka 5 ?_;refine tka 6 ?_;refine tka 7 ?_;refine tka 8 ?_;refine tka 9 ?_;refine tka 10 ?_;refine tka 11 ?_;refine tka 12 ?_;refine tka 13 ?_;refine rdy 14 fun K hK=>?_;go_simp;go_at_call 68;clear hH huk hszk;refine(ik wd x.key (!x.del) Av x.val.length Cv x.val w0 U.o.2 U.o.1 (Hu.o.below c.o) (fun h=>by rcases Hv.o with e|e<;>simp_all<;>omega) ⟨H.o.1.below c.o,H.o.2.below c.o⟩).mono ?_;rintro e w5⟨rfl,hb5⟩;have Hx:Hd (aZ wd (bQ x.key (!x.del) x.val)=D):=J;rw[Hx.o];have z:=aQ c hb5;have d:=aa (Hw.o.later hb5);refine hK.out _ _ (y.o _ z.o) (fun hH=>?_);clear hK hb5;refine rdy 15 fun K hK=>?_;refine aA (o:=⟨none,_,_,_,_,_⟩) (by rfl) 34 (.tmp 8) (.tmp 28) rfl 0 [] (bvs (zs 32)) (bvs D) [] rfl rfl (bj d.o) rfl (by simp[bvs,zs,C.o.1]) (by rw[ag];simp[bvs,C.o.1]) (fun u hu=>ah _ u hu) ?_;intro w6 h6 g6;have O:Hd (Below w.heap.size w w6):=z.o.grown g6 z.o.size fun k hk=>by injection hk with hk;omega
  refine hK.out _ _ (y.o _ O.o) (fun hH=>?_);clear hK hH;refine bN ?_;go_wp2_with fail;exact bH rfl rfl (aN h6) C.o.1 aF ag rfl ⟨rfl,O.o⟩
 |succ h ih=>
  intro n c1 c2 A B X NS w hh hn hn2 hX hc1 hN hc2 hlong hT;have HI:=aa ih;have HX:=aa hX;have HN:=aa hN;have Hj:=aa hlong;have H:=aa hT;have I:=aa (And.intro hc1 hc2);have Hk:=aa (And.intro hn hn2);have hcast:(((h+1:Nat)):Int)=(h:Int)+1:=by omega
  have hwr:IntKind.i64.wrap ((h:Nat):Int)=(h:Int):=IntWalk.i64_in _ (by omega);have hh6:(h:Int)<256:=by omega
  have hgt:((h:Int)+1==0)=false:=beq_eq_false_iff_ne.2 (by omega);obtain⟨q,hq⟩:∃q,q=255-h:=⟨_,rfl⟩;have hsub:(256:Int)-((h:Int)+1)=(q:Int):=by omega
  have HQ:Hd (q<256):=by show _<_;omega
  obtain⟨R,f⟩:∃R,Hd (iQ wd (h+1) n X NS=R):=⟨_,rfl⟩;have HA:Hd (R.length=32/\IsB R):=by rw[<-f.o];exact fK _ _ _ _ _
  have Y:Hd (aZ wd (aU wd (if 0<dZ X q n then iQ wd h (dZ X q n) X NS else NS 0 h) (if dZ X q n<n then iQ wd h (n-dZ X q n) (fun j=>X (dZ X q n+j)) (fun j=>NS (dZ X q n+j))else NS 0 h))=R):=by
   rw[hq];exact f.o
  rw[f.o,hcast];clear ih hX hN hlong hT hc1 hc2 hcast hh f hq;have hnI:(0:Int)<(n:Int):=by omega
  have hn0:0<n:=by omega
  go_enter Tryz.func94,Tryz.ntmps94;go_upto_region 1with fail;refine bh (G:=fun w2=>Code.wp _ _ _ _ w2) fun w2 V a HS=>?_;have t:Hd (ar w2 w.heap.size 34 (zs 32)):=V;clear V;go_upto_region 3with fail;go_upto_block 0with fail;go_cut[9]from 13to 45(fun v wx=>v= .int .i64 (dZ X q n:Nat)/\Hd (Below w.heap.size w wx)/\Hd (ar wx w.heap.size 34 (zs 32)))
  case first=>
   go_wp2_with fail;go_loopw[9](fun i wr=>∃k:Nat,k<=n/\i= .int .i64 k/\Hd (Below w.heap.size w wr)/\Hd (ar wr w.heap.size 34 (zs 32))/\Hd (∀j,j<k->cU (X j).key q=0))(fun i _=>n-(intOf i).toNat)
   case atStart=>exact⟨0,by omega,rfl,a,t,fun j hj=>by omega⟩
   case round=>
    obtain⟨k,hk,rfl,HB,Hl,HE⟩:=hrel;by_cases hlt:k<n
    ·have hltI:(k:Int)<(n:Int):=by omega
     obtain⟨b,o,Av,Cv,rfl,hb,hr,hkB,hkl,_⟩:=(HX.o.below HB.o).2 k hlt;have Hy:Hd (wr.rangeAt b (o+k*34) (bvs (X k).key)):=er hr;have Hm:=aa (And.intro hkl hkB);have Hz:Hd (RB wr (some ⟨b,o+k*34,none⟩) 32 (X k).key):=pn Hy.o hkB hkl hb;clear hb hr hkB hkl;go_wp2_with((with_reducible refine atS 38 ?_);refine iM (by rfl) 37 (.tmp 37) rfl ⟨b,o+k*34,none⟩ 32 (X k).key rfl Hz.o (by omega) (by kernel_rfl) (by kernel_rfl) ?_);refine(i7 (X k).key q wr Hm.o.2 Hm.o.1 HQ.o).mono ?_;rintro e w3⟨rfl,hb3⟩;have Hn:=aQ HB hb3;have Ho:=aa (Hl.o.later hb3);clear hb3;by_cases hbit:cU (X k).key q=0
     ·rw[hbit];have H0:Hd (∀j,j<k+1->cU (X j).key q=0):=fun j hj=>by
       rcases Nat.lt_or_eq_of_le (Nat.le_of_lt_succ hj)with h|h
       ·exact HE.o j h
       ·rw[h];exact hbit
      clear hbit;go_wp2_with fail;go_roundw
      case rel=>exact⟨k+1,by omega,by go_num,Hn,Ho,H0⟩
      case measure=>simp[intOf];omega
     ·have HL:Hd (dZ X q n=k):=kw hk HE.o fun _=>hbit;have hbI:¬((cU (X k).key q:Nat):Int)=0:=by omega
      clear hbit;generalize cU (X k).key q=bt at*;go_wp2_with fail;go_meet
      case rel=>exact⟨by rw[HL.o],Hn,Ho⟩
    ·have hnlt:¬(k:Int)<(n:Int):=by omega
     have HL:Hd (dZ X q n=k):=kw hk HE.o fun h=>absurd h hlt;go_wp2_with fail;go_meet
     case rel=>exact⟨by rw[HL.o],HB,Hl⟩
  case rest=>
   obtain⟨rfl,g,HF⟩:=hcut;obtain⟨w4,rfl⟩:∃x,x=wc:=⟨_,rfl⟩;obtain⟨m0,HK⟩:∃m0,Hd (dZ X q n=m0):=⟨_,rfl⟩;have E:Hd (m0<=n):=by rw[<-HK.o];exact tV _ _ _
   rw[HK.o]at Y⊢;obtain⟨D,J⟩:∃D,Hd (NS 0 h=D):=⟨_,rfl⟩;rw[J.o]at Y;have hkl:=E.o;obtain⟨gb,o,gi,ci,hBe,hgb,hcell,hnear,hnf⟩:=(HN.o.below g.o) 0 (by omega);subst hBe;have C:Hd (D.length=32/\IsB D):=by rw[<-J.o];exact hnf h (by omega)
   have HG:Hd (w4.rangeAt gi (h*32) (bvs D)):=by rw[<-J.o];exact hnear.2 h (by omega)
   have Hp:Hd (gi<w4.heap.size/\gb<w4.heap.size):=⟨hnear.1,hgb⟩;have hc0:w4.cell? ⟨gb,o,none⟩=some (.slice (some ⟨gi,0,none⟩) 256 ci):=hcell;have hc1:∀W,Below w4.heap.size w4 W->W.cell? ⟨gb,o,none⟩=some (.slice (some ⟨gi,0,none⟩) 256 ci):=fun W hW=>(hW.cell (p:=⟨gb,o,none⟩) hgb).trans hc0;have Hq:=aa hc1;clear hcell hnear hnf hgb hc1 hkl;go_wp2_with(first|((with_reducible refine atS 52 ?_);refine aj (by rfl) 34 (.tmp 51) rfl gi (h*32) (bvs D) rfl HG.o (by kernel_rfl) (by rw[ag];simp[bvs,C.o.1]) ?_)|((with_reducible refine atS 10 ?_);refine dU (s:=⟨none,_,_,_,_,_⟩) (by rfl) (by rfl) 34 rfl (.tmp 10) (.tmp 52) rfl (bvs (zs 32)) (bvs D) 32 aD rfl (by simp[bvs,C.o.1]) rfl rfl (ah _) ?_;intro w5 Hr P d;(try simp only[Act.put,LS]);have hc5:=Hq.o w5 P.o)|((with_reducible refine atS 59 ?_);refine aj (by rfl) 34 (.tmp 58) rfl gi (h*32) (bvs D) rfl (aV P.o Hp.o.1 HG.o) (by kernel_rfl) (by rw[ag];simp[bvs,C.o.1]) ?_)|((with_reducible refine atS 11 ?_);refine dU (s:=⟨none,_,_,_,_,_⟩) (by rfl) (by rfl) 34 rfl (.tmp 11) (.tmp 59) rfl (bvs (zs 32)) (bvs D) 32 aD rfl (by simp[bvs,C.o.1]) rfl rfl (ah _) ?_;intro w6 Hs l H2;(try simp only[Act.put,LS]))|(with_reducible refine atS 61 ?_));have O:Hd (Below w.heap.size w w6):=g.o.trans ((P.o.trans (l.o.mono P.o.size)).mono g.o.size);have HH:Hd (ar w6 w4.heap.size 34 D):=ar.later Hr.o l.o;have HJ:Hd (ar w6 w5.heap.size 34 D):=Hs;have HM:=aa ((HF.o.later P.o).later l.o);have Q:Hd (w.heap.size<w4.heap.size/\w4.heap.size<w5.heap.size):=⟨HF.o.lt,by have:=d.o;omega⟩;clear hc0 hc5 Hr Hs HG Hq Hp P l d H2 g HF;refine aa ?_;go_upto_if 61with fail;obtain⟨DL,m⟩:∃DL,Hd ((if 0<m0 then iQ wd h m0 X NS else D)=DL):=⟨_,rfl⟩;have L:Hd (DL.length=32/\IsB DL):=by
    rw[<-m.o];split
    ·exact fK _ _ _ _ _
    ·exact C.o
   rw[m.o]at Y;go_cut[9]from 61to 71(fun v wx=>v= .int .i64 (m0:Nat)/\Hd (Below w.heap.size w wx)/\Hd (ar wx w4.heap.size 34 DL)/\Hd (ar wx w5.heap.size 34 D)/\Hd (ar wx w.heap.size 34 (zs 32)))
   case first=>
    by_cases hK0:0<m0
    ·have hK0I:(0:Int)<(m0:Int):=by omega
     have M:Hd (iQ wd h m0 X NS=DL):=by rw[<-m.o,if_pos hK0];rfl
     have hKc1:m0<=c1:=Nat.le_trans E.o I.o.1;have hKc2:m0<=c2:=Nat.le_trans E.o I.o.2;go_upto_region 9with fail;refine wp_region_held_drew (S:=fun _=>True) (by kernel_rfl) trivial fun hH=>?_;refine tk 0 ?_;refine tk 1 ?_;refine tk 2 ?_;refine tk 3 ?_;refine tk 4 ?_;refine tk 5 ?_;refine tk 6 ?_;refine tk 7 ?_;refine tk 8 ?_;refine rdy 9 fun K hK=>?_;go_simp;have F:Hd (Below w.heap.size w w6.drew):=af O.o 1;have HO:Hd (ar w6.drew w4.heap.size 34 D):=ab.drew HH.o;have HP:Hd (ar w6.drew w5.heap.size 34 D):=ab.drew HJ.o;have HU:Hd (ar w6.drew w.heap.size 34 (zs 32)):=ab.drew HM.o;generalize w6.drew=w7 at*;refine(HI.o m0 c1 c2 A _ X NS w7 (by omega) (by omega) (by have:=Hk.o.2;have:=E.o;omega) ((HX.o.below F.o).take E.o) hKc1 ((HN.o.below F.o).take E.o) hKc2 (fun i hi=>Hj.o i (by have:=E.o;omega)) ⟨H.o.1.below F.o,H.o.2.below F.o⟩).mono ?_;rintro e w8⟨rfl,hb8⟩;rw[M.o];have T:=aQ F hb8;have HV:=aa (HO.o.later hb8);have HY:=aa (HP.o.later hb8);have HZ:=aa (HU.o.later hb8);refine hK.out _ _ trivial (fun hH=>?_);clear hK hb8;refine rdy 10 fun K hK=>?_;refine aA (o:=⟨none,_,_,_,_,_⟩) (by rfl) 34 (.tmp 10) (.tmp 71) rfl 0 [] (bvs D) (bvs DL) [] rfl rfl (bj HV.o) rfl (by simp[bvs,C.o.1,L.o.1]) (by rw[ag];simp[bvs,L.o.1]) (fun u hu=>ah _ u hu) ?_;intro w9 h9 g9;refine hK.out _ _ trivial (fun hH=>?_);clear hK hH;refine bN ?_;have Ha:Hd (ae (fun B=>B=w4.heap.size) w8 w9):=ae.one g9;go_wp2_with fail;go_meet
     case rel=>exact⟨rfl,Ha.o.toBelow T.o T.o.size (fun B e=>by have:=Q.o;omega),aN h9,Ha.o.blk HY.o (by have:=Q.o;omega),Ha.o.blk HZ.o (by have:=Q.o;omega)⟩
    ·have hK0I:¬(0:Int)<(m0:Int):=by omega
     have M:Hd (DL=D):=by rw[<-m.o,if_neg hK0];rfl
     go_wp2_with fail;go_meet
     case rel=>exact⟨rfl,O,by rw[M.o];exact HH,HJ,HM⟩
   case rest=>
    obtain⟨rfl,Hb,Hc,He,Hf⟩:=hcut;obtain⟨w7,rfl⟩:∃x,x=wc:=⟨_,rfl⟩;clear HH HJ HM O;obtain⟨DR,r⟩:∃DR,Hd ((if m0<n then iQ wd h (n-m0) (fun j=>X (m0+j)) (fun j=>NS (m0+j))else D)=DR):=⟨_,rfl⟩;have N:Hd (DR.length=32/\IsB DR):=by
     rw[<-r.o];split
     ·exact fK _ _ _ _ _
     ·exact C.o
    rw[r.o]at Y;have H7:Hd (IsB DL/\IsB DR):=⟨L.o.2,N.o.2⟩;go_upto_if 75with fail;go_cut[9]from 75to 85(fun v wx=>v= .int .i64 (m0:Nat)/\Hd (Below w.heap.size w wx)/\Hd (ar wx w4.heap.size 34 DL)/\Hd (ar wx w5.heap.size 34 DR)/\Hd (ar wx w.heap.size 34 (zs 32)))
    case first=>
     by_cases hK0:m0<n
     ·have hK0I:(m0:Int)<(n:Int):=by omega
      have M:Hd (iQ wd h (n-m0) (fun j=>X (m0+j)) (fun j=>NS (m0+j))=DR):=by rw[<-r.o,if_pos hK0];rfl
      have hKc1:m0<=c1:=Nat.le_trans E.o I.o.1;have hKc2:m0<=c2:=Nat.le_trans E.o I.o.2;have hne1:¬c1=m0:=by have:=I.o.1;omega
      have hne2:¬c2=m0:=by have:=I.o.2;omega
      go_upto_region 11with fail;refine wp_region_held_drew (S:=fun _=>True) (by kernel_rfl) trivial fun hH=>?_;refine tk 0 ?_;refine tk 1 ?_;refine tk 2 ?_;refine wpAnyH_take (i:=3) (oi:=⟨some 79,_,_,_,_,_⟩) rfl (by kernel_rfl) (by kernel_rfl) (by kernel_rfl) (fun _ _ _ h=>h) (m3 34 (by rfl) 40 (.tmp 77) (.tmp 78) rfl (by rw[mp];exact dh) (by rw[mp];exact aK) A n c1 m0 rfl rfl E.o) (by assumption) ?_;simp only[Act.put,LS,if_neg hne1];refine tk 4 ?_;refine tk 5 ?_;refine wpAnyH_take (i:=6) (oi:=⟨some 82,_,_,_,_,_⟩) rfl (by kernel_rfl) (by kernel_rfl) (by kernel_rfl) (fun _ _ _ h=>h) (m3 1 (by rfl) 26 (.tmp 80) (.tmp 81) rfl (by rw[un];exact xx) (by rw[un];exact A8) _ n c2 m0 rfl rfl E.o) (by assumption) ?_;simp only[Act.put,LS,if_neg hne2];refine tk 7 ?_;refine tk 8 ?_;refine rdy 9 fun K hK=>?_;go_simp;have F:Hd (Below w.heap.size w w7.drew):=af Hb.o 1;have HO:Hd (ar w7.drew w4.heap.size 34 DL):=ab.drew Hc.o;have HP:Hd (ar w7.drew w5.heap.size 34 D):=ab.drew He.o;have HU:Hd (ar w7.drew w.heap.size 34 (zs 32)):=ab.drew Hf.o;generalize w7.drew=w8 at*;refine(HI.o (n-m0) (c1-m0) (c2-m0) _ _ (fun j=>X (m0+j)) (fun j=>NS (m0+j)) w8 (by omega) (by omega) (by have:=Hk.o.2;omega) ((HX.o.below F.o).drop E.o fun _=>rfl) (by have:=I.o.1;omega) ((HN.o.below F.o).drop fun _=>by simp[add_lit]) (by have:=I.o.2;omega) (fun i hi=>Hj.o (m0+i) (by omega)) ⟨H.o.1.below F.o,H.o.2.below F.o⟩).mono ?_;rintro e w9⟨rfl,hb9⟩;rw[M.o];have Z:=aQ F hb9;have H3:=aa (HO.o.later hb9);have H4:=aa (HP.o.later hb9);have Hg:=aa (HU.o.later hb9);refine hK.out _ _ trivial (fun hH=>?_);clear hK hb9;refine rdy 10 fun K hK=>?_;refine aA (o:=⟨none,_,_,_,_,_⟩) (by rfl) 34 (.tmp 11) (.tmp 85) rfl 0 [] (bvs D) (bvs DR) [] rfl rfl (bj H4.o) rfl (by simp[bvs,C.o.1,N.o.1]) (by rw[ag];simp[bvs,N.o.1]) (fun u hu=>ah _ u hu) ?_;intro wa ha ga;refine hK.out _ _ trivial (fun hH=>?_);clear hK hH;refine bN ?_;have Hh:Hd (ae (fun B=>B=w5.heap.size) w9 wa):=ae.one ga;go_wp2_with fail;go_meet
      case rel=>exact⟨rfl,Hh.o.toBelow Z.o Z.o.size (fun B e=>by have:=Q.o;omega),Hh.o.blk H3.o (by have:=Q.o;omega),aN ha,Hh.o.blk Hg.o (by have:=Q.o;omega)⟩
     ·have hK0I:¬(m0:Int)<(n:Int):=by omega
      have M:Hd (DR=D):=by rw[<-r.o,if_neg hK0];rfl
      go_wp2_with fail;go_meet
      case rel=>exact⟨rfl,Hb,Hc,by rw[M.o];exact He,Hf⟩
    case rest=>
     obtain⟨rfl,T,HV,HY,HZ⟩:=hcut;obtain⟨w8,rfl⟩:∃x,x=wc:=⟨_,rfl⟩;clear Hc He Hf Hb;go_wp2_with(first|((with_reducible refine atS 87 ?_);refine ac (by rfl) 34 (.tmp 10) rfl ⟨w4.heap.size,0,none⟩ 32 DL rfl (HV.o.whole L.o.2 L.o.1) (by omega) (by kernel_rfl) (by kernel_rfl) ?_)|((with_reducible refine atS 88 ?_);refine ac (by rfl) 34 (.tmp 11) rfl ⟨w5.heap.size,0,none⟩ 32 DR rfl (HY.o.whole N.o.2 N.o.1) (by omega) (by kernel_rfl) (by kernel_rfl) ?_));refine(dK wd DL DR w8 L.o.2 L.o.1 N.o.2 N.o.1 ⟨H.o.1.below T.o,H.o.2.below T.o⟩).mono ?_;rintro e w9⟨rfl,hb9⟩;rw[Y.o];have Z:=aQ T hb9;have Hg:=aa (HZ.o.later hb9);clear hb9;go_wp2_with((with_reducible refine atT 8 ?_);refine a8 (o:=⟨none,_,_,_,_,_⟩) rfl 34 (.tmp 8) (.tmp 89) rfl w.heap.size (bvs R) (bvs (zs 32)) 34 rfl rfl Hg.o (by rw[ag];simp[bvs,HA.o.1]) (by simp[bvs,zs,HA.o.1]) (ah _) ?_;intro wz H5 H6 H8);exact bH rfl rfl H5.o HA.o.1 aF ag rfl ⟨rfl,(ae.one H6.o).toBelow Z.o Z.o.size fun B h=>by omega⟩
end Go.Proofs.YtfnlhfaihoojfaaGreatDoor
