/- Texts of the proof of ledgerlaw13.ClientPlays, part 51; no condition of its own. -/
import Derived.Test.YtfnlhfaihoojfaaGreatDoorS50
set_option maxRecDepth 100000
set_option maxHeartbeats 4000000
namespace Go.Proofs.YtfnlhfaihoojfaaGreatDoor
open Go.RowKit
theorem Fc{w:World}{gb base N:Nat}{S:Nat->Prop}(h:Bk w gb base N S):gb<w.heap.size:=by
 obtain⟨n,n2,v,xl,ms,yl,ns,_,_,h⟩:=h;exact(h.bnd gb (h.spn gb (.inl rfl))).2
theorem CG:Tryz.prog.built 31 []=some #[.int .i64 0, .slice none 0 0, .slice none 0 0, .int .i64 0, .slice none 0 0, .slice none 0 0]:=by kernel_rfl
theorem clientPlays_walk(A:Option Addr)(N cap:Nat)(os:Nat->OpV)(w:World)(h:ScriptAt w A N os)(hN:N*240<=140737488355328)(ht:eY w/\du w):Calls Tryz.prog 3 #[.slice A N cap] w fun e w'=>e= .returned (.bool true)/\Below w.heap.size w w':=by
 have HI:=aa h;have H:=aa ht;obtain⟨cs,Y,hmk⟩:=vP 33 (by omega);rw[show((33:Nat):Int)=33from rfl]at hmk;have hNi:(N:Int)*240<=140737488355328:=by omega
 clear h ht hN;go_enter Tryz.func3,Tryz.ntmps3;go_wp2_with(first|((with_reducible refine atS 8 ?_);refine aM (by rfl) 31 #[] rfl [] (by simp) _ CG ?_;(try simp only[Act.put,LS]))|((with_reducible refine atS 9 ?_);refine iY (by rfl) 31 (.tmp 8) rfl _ rfl ?_;intro w1 Z a HP;(try simp only[Act.put,LS])));obtain⟨gb,hgb⟩:∃gb,gb=w.heap.size:=⟨_,rfl⟩;rw[<-hgb]at Z⊢;have HC:Hd (Bk w1 gb w.heap.size 0 (fun B=>B=gb)):=Bk.start Z.o (by omega);have HQ:Hd (w.heap.size<=gb):=by show _<=_;omega
 clear Z HP hgb;go_cut[4]from 10(fun s4 wx=>s4= .bool true/\∃S,Hd (Bk wx gb w.heap.size 9 S)/\Hd (Below w.heap.size w wx))
 case first=>
  obtain⟨R,hR⟩:∃R,∀_:Nat,R=ay 4 256:=⟨_,fun _=>rfl⟩;have L:=aa hR;have HD:Hd (R.length=32/\IsB R):=by rw[hR 0];exact⟨al _ _,bu _ _⟩
  clear hR;refine wp_region_held_drew (S:=fun _=>True) (by kernel_rfl) trivial fun _=>?_;refine pi [10,11,12,13,14,4] [0,1,2,3,4,5] (I2 R gb w) (fun b V f=>?_) (fun _ _ _ _=>trivial) (fun b V y A C hall hA=>?_) ?_
  ·have g:∀i,i∈[0,1,2,3,4,5]->¬b i=true:=fun i hi e=>by rw[f i hi]at e;cases e
   have hb:=af (Below.refl w1.heap.size w1) 1;exact⟨a.o.trans (hb.mono a.o.size),fun _=>HC.o.below hb,fun e=>absurd e (g _ (by simp)),fun e=>absurd e (g _ (by simp)),fun _ e=>absurd e (g _ (by simp)),fun _ e=>absurd e (g _ (by simp)),fun e=>absurd e (g _ (by simp)),fun e=>absurd e (g _ (by simp))⟩
  ·obtain⟨_,_,S,k⟩:=C.f4 (C.f5 (hall 5 (by simp))).1;have e4:=(C.f5 (hall 5 (by simp))).2;have HR:=aa k;have d:=aa C.lo;clear C hall k;simp only[fH,Act.put,LS]at hA;rw[e4]at hA;subst hA;go_wp2_with fail;go_meet
   case rel=>exact⟨rfl,S,HR,d⟩
  refine .cons 0 (fun b V wa A hJ hb hdep hA K hK=>?_) ?_
  ·have C:=aa hJ;clear hJ hb hdep;simp only[fH,Act.put,LS]at hA;subst hA;go_simp;exact hK.out _ _ {C.o with f0:=fun _=>rfl}
  refine .cons 1 (fun b V wa A hJ hb hdep hA K hK=>?_) ?_
  ·have C:=aa hJ;clear hJ hb hdep;simp only[fH,Act.put,LS]at hA;subst hA;go_simp;go_at_call 5;refine(Dh wa (H.o.2.below C.o.lo)).mono ?_;rintro e y⟨hb,R',rfl,hR⟩;obtain rfl:R'=R:=(hR 0).trans (L.o 0).symm;exact hK.out _ _ {C.o.below hb with f1:=fun _=>rfl}
  refine .cons 2 (fun b V wa A hJ hb hdep hA K hK=>?_) ?_
  ·have C:=aa hJ;have HS:Hd (b 4=false->wa.heap.size≠gb):=fun h4 e=>by have:=Fc (C.o.b0 h4);omega
   clear hJ hb hdep;simp only[fH,Act.put,LS]at hA;subst hA;go_simp;refine bh (G:=fun w'=>K _ w') fun y hz hb hs=>?_;have hz2:ar y wa.heap.size 5 (zs 33):=by have h:=hz.o;rw[Y.o]at h;exact h
   exact hK.out _ _ {C.o.below hb.o with f2:=fun h4 _=>⟨_,rfl,HS.o h4,hz2⟩}
  refine .cons 3 (fun b V wa A hJ hb hdep hA K hK=>?_) ?_
  ·have C:=aa hJ;have h4:b 4=false:=by
    cases hq:b 4with
    |false=>rfl
    |true=>rw[(C.o.f4 hq).1]at hb;cases hb
   have e1:=C.o.f1 (hdep 1 (by kernel_rfl));obtain⟨g,e2,n2,k2⟩:=C.o.f2 h4 (hdep 2 (by kernel_rfl));clear hJ hb hdep;simp only[fH,Act.put,LS]at hA;rw[e1,e2]at hA;subst hA;refine m4 (o:=⟨some 13,_,_,_,_,_⟩) (by rfl) wa 42 #[(0, .const (.int .i64 1)),(1, .const (.int .i64 4)),(2, .tmp 11),(4, .tmp 12)] rfl [(0, .int .i64 1),(1, .int .i64 4),(2, .agg (bvs R).toArray),(4, .slice (some ⟨g,0,none⟩) 33 33)] (by simp[go_sem]) _ (CD R HD.o.1 g) ?_;exact hK.out _ _ {C.o with f3:=fun _ _=>⟨g,rfl,n2,k2⟩,f4:=fun h=>absurd (h4.symm.trans h) (by decide)}
  refine .cons 4 (fun b V wa A hJ hb hdep hA K hK=>?_) ?_
  ·have C:=aa hJ;have e0:=C.o.f0 (hdep 0 (by kernel_rfl));have d3:=hdep 3 (by kernel_rfl);obtain⟨g,e3,n3,k3⟩:=C.o.f3 hb d3;have j:=aa (C.o.b0 hb);have M:=aa k3;clear hJ hb hdep k3;obtain⟨cb,HE⟩:∃c,Hd (c=(o1 R g).cs.toArray):=⟨_,rfl⟩;rw[<-HE.o]at e3;simp only[fH,Act.put,LS]at hA;rw[e0,e3]at hA;subst hA;clear e0 e3;go_simp;go_at_call 4;refine(Bx gb g 0 _ R w wa HD.o M.o j.o n3 H.o C.o.lo (by omega) cb HE.o).mono ?_;rintro e y⟨rfl,S,k1,k2,k3⟩;exact hK.out _ _ ⟨k3.toBelow C.o.lo C.o.lo.size fun B hB=>by have:=HQ.o;omega,fun h=>(by cases h),C.o.f0,C.o.f1,fun h=>(by cases h),fun h=>(by cases h),fun _=>⟨d3,rfl,S,k1⟩,fun h=>⟨rfl,(C.o.f5 h).2⟩⟩
  refine .cons 5 (fun b V wa A hJ hb hdep hA K hK=>?_) .nil
  ·have C:=aa hJ;have d4:=hdep 4 (by kernel_rfl);have e4:=(C.o.f4 d4).2.1;clear hJ hb hdep;simp only[fH,Act.put,LS]at hA;rw[e4]at hA;subst hA;go_simp;exact hK.out _ _ {C.o with f5:=fun _=>⟨d4,rfl⟩}
 case rest=>
  obtain⟨rfl,S,I,J⟩:=hcut;clear HC a;obtain⟨R,hR⟩:∃R,∀_:Nat,R=ay 4 256:=⟨_,fun _=>rfl⟩;obtain⟨D,hD⟩:∃D,∀_:Nat,D=nJ 4 256 [rK]:=⟨_,fun _=>rfl⟩;have L:=aa hR;have l:=aa hD;have E:Hd (D.length=32/\IsB D):=by rw[hD 0];exact⟨(fh _ _ _).1,(fh _ _ _).2.1⟩
  clear hR hD;go_upto_region 5with fail;go_cut[5,6]from 18(fun s5 s6 wx=>∃g,s5= .pointer (some ⟨g,0,none⟩)/\s6= .int .i64 0/\Hd (ar wx g 34 D)/\Hd (Bk wx gb w.heap.size 9 S)/\Hd (Below w.heap.size w wx))
  case first=>
   refine wp_region_held_drew (S:=fun _=>True) (by kernel_rfl) trivial fun _=>?_;refine pi [18,19,20,21,22,17,23,24,5,6] [0,1,2,3,4,5,6,7,8,9,10] (I5 R D gb S w) (fun b V f=>?_) (fun _ _ _ _=>trivial) (fun b V y A C hall hA=>?_) ?_
   ·have g:∀i,i∈[0,1,2,3,4,5,6,7,8,9,10]->¬b i=true:=fun i hi e=>by rw[f i hi]at e;cases e
    have hb:=af (Below.refl wc.heap.size wc) 1;refine⟨I.o.below hb,J.o.trans (hb.mono J.o.size),fun e=>absurd e (g _ ?_),fun _ e=>absurd e (g _ ?_),fun _ e=>absurd e (g _ ?_),fun _ e=>absurd e (g _ ?_),fun e=>absurd e (g _ ?_),fun e=>absurd e (g _ ?_),fun e=>absurd e (g _ ?_),fun e=>absurd e (g _ ?_),fun e=>absurd e (g _ ?_),fun e=>absurd e (g _ ?_),fun e=>absurd e (g _ ?_)⟩<;>simp
   ·obtain⟨g8,e5,l8,n8,_,k8⟩:=C.f8 (hall 8 (by simp));have e6:=C.f10 (hall 10 (by simp));have HU:=aa C.bk;have d:=aa C.lo;have p:=aa (k8 (hall 9 (by simp)));clear C k8 hall;simp only[fH,Act.put,LS]at hA;rw[e5,e6]at hA;subst hA;go_wp2_with fail;go_meet
    case rel=>exact⟨g8,rfl,rfl,p,HU,d⟩
   refine .cons 0 (fun b V wa A hJ hb hdep hA K hK=>?_) ?_
   ·have C:=aa hJ;clear hJ hb hdep;simp only[fH,Act.put,LS]at hA;subst hA;go_simp;go_at_call 5;refine(Dh wa (H.o.2.below C.o.lo)).mono ?_;rintro e y⟨hb,R',rfl,hR⟩;obtain rfl:R'=R:=(hR 0).trans (L.o 0).symm;exact hK.out _ _ {C.o.below hb with f0:=fun _=>rfl}
   refine .cons 1 (fun b V wa A hJ hb hdep hA K hK=>?_) ?_
   ·have C:=aa hJ;clear hJ hb hdep;simp only[fH,Act.put,LS]at hA;subst hA;go_simp;refine bh (G:=fun w'=>K _ w') fun y hz hb hs=>?_;have hz2:ar y wa.heap.size 5 (zs 33):=by have h:=hz.o;rw[Y.o]at h;exact h
    exact hK.out _ _ {C.o.below hb.o with f1:=fun _ _=>⟨_,rfl,hz2⟩}
   refine .cons 2 (fun b V wa A hJ hb hdep hA K hK=>?_) ?_
   ·have C:=aa hJ;clear hJ hb hdep;simp only[fH,Act.put,LS]at hA;subst hA;go_simp;refine bh (G:=fun w'=>K _ w') fun y hz hb hs=>?_;have hz2:ar y wa.heap.size 5 [9]:=hz.o;exact hK.out _ _ {C.o.below hb.o with f2:=fun _ _=>⟨_,rfl,hz2⟩}
   refine .cons 3 (fun b V wa A hJ hb hdep hA K hK=>?_) ?_
   ·have C:=aa hJ;have h4:b 4=false:=by
     cases hq:b 4with
     |false=>rfl
     |true=>rw[(C.o.f4 hq).1]at hb;cases hb
    obtain⟨g2,e2,k2⟩:=C.o.f2 h4 (hdep 2 (by kernel_rfl));clear hJ hb hdep;simp only[fH,Act.put,LS]at hA;rw[e2]at hA;subst hA;refine m4 (o:=⟨some 21,_,_,_,_,_⟩) (by rfl) wa 39 #[(2, .tmp 20)] rfl [(2, .slice (some ⟨g2,0,none⟩) 1 1)] (by simp[go_sem]) _ (CF g2) ?_;exact hK.out _ _ {C.o with f3:=fun _ _=>⟨g2,rfl,k2⟩,f4:=fun h=>⟨rfl,(C.o.f4 h).2⟩}
   refine .cons 4 (fun b V wa A hJ hb hdep hA K hK=>?_) ?_
   ·have C:=aa hJ;have e0:=C.o.f0 (hdep 0 (by kernel_rfl));have d3:=hdep 3 (by kernel_rfl);obtain⟨g1,e1,k1⟩:=C.o.f1 hb (hdep 1 (by kernel_rfl));obtain⟨g3,e3,k3⟩:=C.o.f3 hb d3;clear hJ hb hdep;simp only[fH,Act.put,LS]at hA;rw[e0,e1,e3]at hA;subst hA;clear e0 e1 e3;go_simp;go_at_call 6;refine(Eu g1 g3 R wa L.o k1 k3 (H.o.1.below C.o.lo)).mono ?_;rintro e y⟨hb,D',rfl,hD⟩;obtain rfl:D'=D:=(hD 0).trans (l.o 0).symm;exact hK.out _ _ {C.o.below hb with f1:=fun h=>(by cases h),f2:=fun h=>(by cases h),f3:=fun h=>(by cases h),f4:=fun _=>⟨d3,rfl⟩,f5:=fun h=>⟨rfl,(C.o.f5 h).2⟩,f6:=fun h=>⟨rfl,(C.o.f6 h).2⟩}
   refine .cons 5 (fun b V wa A hJ hb hdep hA K hK=>?_) ?_
   ·have C:=aa hJ;have d4:=hdep 4 (by kernel_rfl);clear hJ hb hdep;simp only[fH,Act.put,LS]at hA;subst hA;go_simp;exact hK.out _ _ {C.o with f5:=fun _=>⟨d4,(C.o.f4 d4).2⟩}
   refine .cons 6 (fun b V wa A hJ hb hdep hA K hK=>?_) ?_
   ·have C:=aa hJ;obtain⟨d4,e5⟩:=C.o.f5 (hdep 5 (by kernel_rfl));clear hJ hb hdep;simp only[fH,Act.put,LS]at hA;rw[e5]at hA;subst hA;clear e5;go_simp;exact hK.out _ _ {C.o with f6:=fun _=>⟨d4,rfl⟩}
   refine .cons 7 (fun b V wa A hJ hb hdep hA K hK=>?_) ?_
   ·have C:=aa hJ;obtain⟨d4,e5⟩:=C.o.f5 (hdep 5 (by kernel_rfl));clear hJ hb hdep;simp only[fH,Act.put,LS]at hA;rw[e5]at hA;subst hA;clear e5;go_simp;exact hK.out _ _ {C.o with f7:=fun _=>rfl}
   refine .cons 8 (fun b V wa A hJ hb hdep hA K hK=>?_) ?_
   ·have C:=aa hJ;have h9:¬b 9=true:=fun h=>by rw[C.o.f9 h]at hb;cases hb
    clear hJ hb hdep;simp only[fH,Act.put,LS]at hA;subst hA;refine dC (o:=⟨some 5,_,_,_,_,_⟩) (by rfl) 34 rfl _ _ aD ?_;intro y hz hb hs;exact hK.out _ _ {C.o.below hb.o with f9:=fun _=>rfl,f8:=fun _=>⟨wa.heap.size,rfl,C.o.lo.size,fun h=>by have:=(C.o.bk.bnd _ h).2;omega,fun _=>hz.o,fun h=>absurd h h9⟩}
   refine .cons 9 (fun b V wa A hJ hb hdep hA K hK=>?_) ?_
   ·have C:=aa hJ;obtain⟨d4,e6⟩:=C.o.f6 (hdep 6 (by kernel_rfl));have d8:=hdep 8 (by kernel_rfl);obtain⟨g8,e8,l8,n8,k8,_⟩:=C.o.f8 d8;have p:Hd (ar wa g8 34 (zs 32)):=k8 hb;clear hJ hb hdep;simp only[fH,Act.put,LS]at hA;rw[e6,e8]at hA;subst hA;refine aA (o:=⟨none,_,_,_,_,_⟩) (by rfl) 34 (.tmp 5) (.tmp 23) rfl 0 [] (bvs (zs 32)) (bvs D) [] rfl rfl (bj p.o) rfl (by simp[bvs,zs,E.o.1]) (by rw[ag];simp[bvs,E.o.1]) (ah _) ?_;intro y hz hg;have n4:¬b 4=false:=by rw[d4];decide
    exact hK.out undef _ {C.o with bk:=C.o.bk.touch (ae.one hg) fun B hB e=>n8 (e▸hB),lo:=(ae.one hg).toBelow C.o.lo C.o.lo.size fun B e=>e▸l8,f1:=fun h=>absurd h n4,f2:=fun h=>absurd h n4,f3:=fun h=>absurd h n4,f9:=fun _=>d8,f8:=fun _=>⟨g8,e8,l8,n8,fun h=>(by cases h),fun _=>aN hz⟩}
   refine .cons 10 (fun b V wa A hJ hb hdep hA K hK=>?_) .nil
   ·have C:=aa hJ;have e7:=C.o.f7 (hdep 7 (by kernel_rfl));clear hJ hb hdep;simp only[fH,Act.put,LS]at hA;rw[e7]at hA;subst hA;clear e7;go_simp;exact hK.out _ _ {C.o with f10:=fun _=>rfl}
  case rest=>
   obtain⟨g,rfl,rfl,r,HF,O⟩:=hcut;clear I J Y hmk;have heq:∀w:World,(Op.equalIn 10000 34 (.agg (bvs D).toArray) (.agg (bvs D).toArray)).run Tryz.prog w= .ok true w:=fun w=>by
    have h:=fP w E.o.2 E.o.2 E.o.1 E.o.1;rwa[decide_eq_true rfl]at h
   go_upto_region 6with fail;refine wp_region_held_drew (S:=fun w'=>w'.rangeAt g 0 (bvs D)) (by kernel_rfl) ((World.rangeAt_drew _ _ _ _).2 (ab.range r.o)) fun hH=>?_;have s:Hd (Below wc.heap.size wc wc.drew):=af (Below.refl _ _) 1;obtain⟨w6,hw6⟩:∃w6,w6=wc.drew:=⟨_,rfl⟩;rw[<-hw6]at s hH⊢;clear hw6;have P:Hd (∀W,Below wc.heap.size wc W->W.rangeAt g 0 (bvs D)):=fun W hW=>ab.range (ab.below r.o hW);refine tk 0 ?_;refine tk 1 ?_;refine tk 2 ?_;have hik:(Tryz.prog.info? 34).map (·.size)=some (bvs D).length:=by rw[ag];simp[bvs,E.o.1]
   have hud:=bE;refine tkl 3 ?_;refine rdy 4 fun K hK=>?_;go_simp;refine bh (G:=fun w'=>K _ w') fun w7 hz hb hs=>?_;have t:Hd (ar w7 w6.heap.size 5 [9]):=hz.o;have u:=aQ s hb.o;obtain⟨gv,hgv⟩:∃gv,gv=w6.heap.size:=⟨_,rfl⟩;rw[<-hgv]at t⊢;clear hgv hz hb hs;refine hK.out _ _ (P.o _ u.o) (fun hH=>?_);clear hK hik hud;refine tk0 5 rfl (rf (by rfl) 48 #[(1, .tmp 29)] rfl [(1, .slice (some ⟨gv,0,none⟩) 1 1)] (by simp[go_sem]) _ (CE gv)) ?_;refine rdy 6 (o:=⟨some 31,_,_,_,_,_⟩) fun K hK=>?_;refine el (o:=⟨some 31,_,_,_,_,_⟩) (by rfl) w7 49 48 _ 33 (.tmp 30) rfl xz BV (by omega) (by omega) (enC rK (some ⟨gv,0,none⟩) 1).toArray rfl (by rfl) ?_;refine bh (G:=fun w'=>K _ w') fun w8 hz hb hs=>?_;have HG:Hd (ar w8 gv 5 [9]):=ab.below t.o hb.o;have Q:=aQ u hb.o;have v:=hz;obtain⟨ge,hge⟩:∃ge,ge=w7.heap.size:=⟨_,rfl⟩;rw[<-hge]at v⊢;clear hge hz hb hs;refine hK.out _ _ (P.o _ Q.o) (fun hH=>?_);clear hK;refine rdy 7 fun K hK=>?_;go_simp;go_at_call 7;refine(Bg ge gv w8 HG.o v.o (H.o.2.below (O.o.trans (Q.o.mono O.o.size)))).mono ?_;rintro e w9⟨hb,D',rfl,hD⟩;obtain rfl:D'=D:=(hD 0).trans (l.o 0).symm;have T:=aQ Q hb;clear hD;refine hK.out _ _ (P.o _ T.o) (fun hH=>?_);clear hK hb;have hne:(!true)=false:=rfl;refine tk 8 ?_;refine tk 9 ?_;refine bN ?_;have HH:Hd (Bk w9 gb w.heap.size 9 S):=HF.o.below T.o;have HL:=aQ O T.o;clear heq hH P s u Q T t HG v r HF O L l E hne;go_wp2_with fail;go_loopw[4,7](fun s4 s7 wr=>∃(k:Nat)(S:Nat->Prop),k<=N/\s4= .bool true/\s7= .int .i64 (k:Int)/\Hd (Bk wr gb w.heap.size (9*(k+1)) S)/\Hd (Below w.heap.size w wr))(fun _ s7 _=>N-(intOf s7).toNat)
   case atStart=>exact⟨0,S,by omega,rfl,rfl,HH,HL⟩
   case round=>
    clear HH HL;obtain⟨k,S,hk,rfl,rfl,x,F⟩:=hrel;by_cases hlt:k<N
    ·have hlt':(k:Int)<N:=by omega
     obtain⟨b,off,hA,hbl,hr,⟨xs,ys,Ao,ao,Bo,bo,hs⟩,n,m,Pd,Pe,cd,ce,X,YS,ha⟩:=HI.o k hlt;subst hA;have HM:=aa hs;have U:=aa ha;have HN:Hd (wr.rangeAt b (off+k*104) (os k).cs):=aV F.o hbl hr;clear hs ha hr hbl;go_wp2_with((with_reducible refine atS 45 ?_);refine aj (by rfl) 42 (.tmp 44) rfl b (off+k*104) (os k).cs rfl HN.o ic (by rw[fe,OpV.len U.o.ok]) ?_;(try simp only[Act.put,LS]));refine(qA gb w.heap.size (9*(k+1)) S (os k) xs ys Ao Bo ao bo n m Pd Pe cd ce X YS wr (HM.o.play U.o.ok H.o F.o x.o (by omega)) (U.o.below F.o)).mono ?_;rintro e w2⟨rfl,S2,hk2,hs2,ht2⟩;have I:Hd (Bk w2 gb w.heap.size (9*(k+1+1)) S2):=hk2.mono (by omega);have J:Hd (Below w.heap.size w w2):=ht2.toBelow F.o F.o.size fun B hB=>(x.o.bnd B hB).1;clear hk2 hs2 ht2 x F HN HM U;go_wp2_with fail;refine(uR gb w.heap.size _ S2 w2 I.o (by omega)).mono ?_;rintro e w3⟨rfl,q,hw3⟩;have z:Hd (Below w2.heap.size w2 w3):=by rw[hw3];exact af (Below.refl _ _) q
     have M:Hd (Bk w3 gb w.heap.size (9*(k+1+1)) S2):=I.o.below z.o;have HO:=aQ J z.o;clear hw3 z I J;go_wp2_with fail;refine(sy gb w.heap.size _ S2 w3 M.o).mono ?_;rintro e w4⟨rfl,q4,hw4⟩;have HA:Hd (Below w3.heap.size w3 w4):=by rw[hw4];exact af (Below.refl _ _) q4
     have HV:Hd (Bk w4 gb w.heap.size (9*(k+1+1)) S2):=M.o.below HA.o;have j:=aQ HO HA.o;clear hw4 HA M HO;go_wp2_with fail;go_roundw
     case rel=>exact⟨k+1,S2,by omega,rfl,by go_num,HV.o,j.o⟩
     case measure=>simp[intOf];omega
    ·have hnlt:¬(k:Int)<N:=by omega
     go_wp2_with fail;go_ret;exact⟨rfl,F.o⟩
open Go.ChangeShapes Go.WideShapes
section
variable{H:Type}{enc:TypeId×Value->H}{w:World}{base:Nat}{held:Bool}
theorem Dz:Tryz.prog.underlying 40=some (.slice 39):=by kernel_rfl
theorem mI:Tryz.prog.underlying 36=some (.slice 5):=by kernel_rfl
theorem km:Tryz.prog.underlying 5=some (.int .u8):=by kernel_rfl
theorem Cu{fuel:Nat}{cs:List Value}{x:DataW H×List MemPlace}(hf:DataW.trod enc Tryz.prog w base (fun _=>true) held fuel 40 cs=some x):∃A N C X,cs=[.slice A N C]/\fa w A N X/\N<=C/\C<=maxLen/\(A=none->C=0)/\∀M,ed Tryz.prog 40 x.1 M->N*Tryz.prog.bytesOf 39<=M/\∀k,k<N->(X k).val.length*Tryz.prog.bytesOf 5<=M:=E4 Dz Tryz.underlying39 rfl rfl rfl rfl rfl rfl (by kernel_rfl) (by kernel_rfl) (by kernel_rfl) bW (by kernel_rfl) mI km (by kernel_rfl) km (by kernel_rfl) (by kernel_rfl) hf
end
section
variable{H:Type}{enc:TypeId×Value->H}{P:Program}{w:World}{base:Nat}{held:Bool}
theorem tj{M:Nat}(hMM:M<=140737488355328){t q:TypeId}{fuel:Nat}{cs:List Value}{x:DataW H×List MemPlace}(ht:P.underlying t=some (.slice q))(hq:P.underlying q=some (.int .u8))(cq:P.cellsOf q=1)(bq:P.bytesOf q=1)(h:DataW.trod enc P w base (fun _=>true) held fuel t cs=some x)(hM:ed P t x.1 M):∃A C xs,cs=[.slice A xs.length C]/\Lay w A xs C/\xs.length<=M:=by
 obtain⟨A,C,xs,e,r1,r3,r4,r2,hsz⟩:=ut ht hq cq h;have hl:=hsz M hM;rw[bq]at hl;refine⟨A,C,xs,e,⟨r1,fun h0 ad ea=>?_,r3,r2,r4,by omega⟩,by omega⟩;subst ea;rcases open_ints ht hq cq h with⟨hcs,_⟩|⟨a,l,c,zs,hcs,_,hl,hm,hz,hxx,hcell,hwz⟩
 ·rw[e]at hcs;simp at hcs
 ·rw[e]at hcs;simp only[List.cons.injEq,Value.slice.injEq,Option.some.injEq,and_true]at hcs;obtain⟨rfl,rfl,rfl⟩:=hcs;simp only[if_true]at hz;have:=lt_of_cell (hcell 0 (by omega));rwa[bX]at this
theorem DS{M:Nat}(hMM:M<=140737488355328){t e q:TypeId}{fuel:Nat}{cs:List Value}{x:DataW H×List MemPlace}(ht:P.underlying t=some (.slice e))(he:P.underlying e=some (.slice q))(hq:P.underlying q=some (.int .u8))(ce:P.cellsOf e=1)(cq:P.cellsOf q=1)(bq:P.bytesOf q=1)(hf:DataW.trod enc P w base (fun _=>true) held fuel t cs=some x)(hM:ed P t x.1 M):∃A N C YS,cs=[.slice A N C]/\uG w A N YS/\N<=C/\N*P.bytesOf e<=M/\∀k,k<N->(YS k).length<=M:=by
 rcases Deep.open_slice ht hf with⟨hcs,_⟩|⟨ad,len,cap,m,n,D,Pl,hcs,_,hl,hm,hmm,hx,hrow⟩
 ·exact⟨none,0,0,fun _=>[],hcs,fun i hi=>by omega,Nat.le_refl _,by omega,fun k hk=>by omega⟩
 ·simp only[if_true]at hmm;subst hmm;rw[ce]at hrow;rcases Nat.eq_zero_or_pos len with hz0|hpos
  ·subst hz0;exact⟨some ad,0,m,fun _=>[],hcs,fun i hi=>by omega,hl,by omega,fun k hk=>by omega⟩
  obtain⟨b,o,eb⟩:∃b o,ad=⟨b,o,none⟩:=by
   obtain⟨cs,g1,g2⟩:=hrow 0 (by omega);obtain⟨_,g3,g4⟩:=World.cells?_some g1;rw[show(0:Nat)*1=0from rfl]at g4;exact lM (by omega) g3 g4
  subst eb;have hS:∀k,k<len->ed P e (D k) M:=fun k hk y hy=>hM y (by
   rw[hx];simp only[DataW.weights,ht,List.mem_cons,List.mem_append];exact .inr (.inl (iE (List.mem_map.2 ⟨k,List.mem_range.2 hk,rfl⟩) y hy)));have each:∀k,k<len->∃ys:List Nat,(∃gb o' Ai ni ci,(some ⟨b,o,none⟩:Option Addr)=some ⟨gb,o',none⟩/\gb<w.heap.size/\w.cell? ⟨gb,o'+k,none⟩=some (.slice Ai ni ci)/\RB w Ai ni ys/\ni<=ci/\ci<=maxLen/\ni<=140737488355328/\(Ai=none->ci=0))/\ys.length<=M:=fun k hk=>by
   obtain⟨cs,g1,g2⟩:=hrow k (by omega);obtain⟨_,g3,g4⟩:=World.cells?_some g1;obtain⟨A,C,ys,e1,l1,l2⟩:=tj hMM he hq cq bq g2 (hS k hk);have h5:=g4 0 (by omega);rw[e1,add_lit,add_lit]at h5;have h6:=lt_of_cell h5;rw[Nat.mul_one,Nat.add_zero]at h5;exact⟨ys,⟨b,o,A,_,C,rfl,h6,h5,l1.rb,l1.le,l1.cm,l1.sz,l1.non⟩,l2⟩
  obtain⟨YS,hY⟩:=Deep.choose_lt each;refine⟨some ⟨b,o,none⟩,len,m,YS,hcs,fun k hk=>(hY k hk).1,hl,?_,fun k hk=>(hY k hk).2⟩;have h1:=hM ((((List.range len).map D).length+((List.range (m-len)).map fun j=>D (len+j)).length)*P.bytesOf e) (by rw[hx];simp[DataW.weights,ht]);refine Nat.le_trans (Nat.mul_le_mul_right _ ?_) h1;rw[List.length_map,List.length_range];omega
theorem eG{M:Nat}{e:TypeId}{fs:Array Field}{xs:List (DataW H×List MemPlace)}(he:P.underlying e=some (.struct fs))(hE:ed P e (.agg (xs.map (·.1))) M){j:Nat}{f:Field}(hj:fs[j]?=some f)(hl:j<xs.length):ed P f.type (xs[j]).1 M:=fun y hy=>hE y (by
 simp only[DataW.weights,he];refine DataW.weights_mem_each (j:=j) (t:=f.type) (d:=(xs[j]).1) ?_ ?_ y hy
 ·rw[List.getElem?_map,Array.getElem?_toList,hj];rfl
 ·rw[List.getElem?_map,List.getElem?_eq_getElem hl];rfl)
theorem E5{M:Nat}(hMM:M<=140737488355328){e q:TypeId}{fuel:Nat}{cs:List Value}{x:DataW H×List MemPlace}{fs:Array Field}{f0 f1 f2:Field}{tb:TypeId}(he:P.underlying e=some (.struct fs))(hlen:cs.length=34)(h0:fs[0]?=some f0)(h1:fs[1]?=some f1)(h2:fs[2]?=some f2)(o0:f0.offset=0)(o1:f1.offset=32)(o2:f2.offset=33)(k0:P.cellsOf f0.type=32)(k1:P.cellsOf f1.type=1)(k2:P.cellsOf f2.type=1)(u0:P.underlying f0.type=some (.array 32 tb))(u1:P.underlying f1.type=some .bool)(u2:P.underlying f2.type=some (.slice q))(hb:P.underlying tb=some (.int .u8))(cb:P.cellsOf tb=1)(hq:P.underlying q=some (.int .u8))(cq:P.cellsOf q=1)(bq:P.bytesOf q=1)(hf:DataW.trod enc P w base (fun _=>true) held fuel e cs=some x)(hM:ed P e x.1 M):∃(y:Chg)(A:Option Addr)(C:Nat),cs=chC y A C/\y.key.length=32/\IsB y.key/\Lay w A y.val C/\y.val.length<=M:=by
 obtain⟨xs,n',_,hDk,_,hxl,hg⟩:=DataW.trod_struct he hf;have hfs:2<fs.size:=(Array.getElem?_eq_some_iff.1 h2).1;have e0:=hg 0 f0 h0;have e1:=hg 1 f1 h1;have e2:=hg 2 f2 h2;rw[o0,k0,List.getElem?_eq_getElem (by omega)]at e0;rw[o1,k1,List.getElem?_eq_getElem (by omega)]at e1;rw[o2,k2,List.getElem?_eq_getElem (by omega)]at e2;obtain⟨ds,q0,hB,hdl⟩:=tq u0 hb cb (by rw[List.length_take,List.length_drop];omega) e0;obtain⟨bl,q1⟩:=xV u1 e1;obtain⟨A,C,vs,q2,r1,r2⟩:=tj hMM u2 hq cq bq e2 (eG he (by rw[hDk]at hM;exact hM) h2 (by omega));refine⟨⟨ds,bl,vs⟩,A,C,?_,hdl,hB,r1,r2⟩;have a1:cs=cs.take 32++((cs.drop 32).take 1++(cs.drop 33).take 1):=by
  rw[show(cs.drop 33)=(cs.drop 32).drop 1by rw[List.drop_drop],List.take_of_length_le (l:=(cs.drop 32).drop 1) (by simp;omega),List.take_append_drop,List.take_append_drop]
 rw[List.drop_zero]at q0;rw[a1,q0,q1,q2];rfl
end
section
variable{H:Type}{enc:TypeId×Value->H}{w:World}{base:Nat}{held:Bool}
theorem Cw{M:Nat}(hMM:M<=140737488355328){fuel:Nat}{cs:List Value}{x:DataW H×List MemPlace}(hlen:cs.length=34)(hf:DataW.trod enc Tryz.prog w base (fun _=>true) held fuel 39 cs=some x)(hM:ed Tryz.prog 39 x.1 M):∃(y:Chg)(A:Option Addr)(C:Nat),cs=chC y A C/\y.key.length=32/\IsB y.key/\Lay w A y.val C/\y.val.length<=M:=E5 hMM Tryz.underlying39 hlen rfl rfl rfl rfl rfl rfl (by kernel_rfl) (by kernel_rfl) (by kernel_rfl) bW (by kernel_rfl) mI km (by kernel_rfl) km (by kernel_rfl) (by kernel_rfl) hf hM
instance:Inhabited OpV:=⟨zOp⟩
theorem yv{M:Nat}(hMM:M+4096<=140737488355328){t e ti tk q tx tc tr:TypeId}{a:Option Addr}{N cap:Nat}{v:Value}{d:DataW H}{ps:List MemPlace}{fs:Array Field}{f0 f1 f2 f3 f4 f5 f6 f7 f8:Field}(ht:Tryz.prog.underlying t=some (.slice e))(he:Tryz.prog.underlying e=some (.struct fs))(h0:fs[0]?=some f0)(h1:fs[1]?=some f1)(h2:fs[2]?=some f2)(h3:fs[3]?=some f3)(h4:fs[4]?=some f4)(h5:fs[5]?=some f5)(h6:fs[6]?=some f6)(h7:fs[7]?=some f7)(h8:fs[8]?=some f8)(o0:f0.offset=0)(o1:f1.offset=1)(o2:f2.offset=2)(o3:f3.offset=34)(o4:f4.offset=66)(o5:f5.offset=67)(o6:f6.offset=68)(o7:f7.offset=102)(o8:f8.offset=103)(t0:f0.type=ti)(t1:f1.type=ti)(t2:f2.type=34)(t3:f3.type=tk)(t4:f4.type=q)(t5:f5.type=q)(t6:f6.type=tx)(t7:f7.type=tc)(t8:f8.type=tr)(hq:q=36)(hx':tx=39)(hc:tc=40)(_hr:tr=24)(ki:Tryz.prog.cellsOf ti=1)(kd:Tryz.prog.cellsOf 34=32)(kk:Tryz.prog.cellsOf tk=32)(kq:Tryz.prog.cellsOf q=1)(kx:Tryz.prog.cellsOf tx=34)(kc:Tryz.prog.cellsOf tc=1)(kr:Tryz.prog.cellsOf tr=1)(ui:Tryz.prog.underlying ti=some (.int .i64))(ud:Tryz.prog.underlying 34=some (.array 32 5))(uk:Tryz.prog.underlying tk=some (.array 32 5))(ur:Tryz.prog.underlying tr=some (.slice 36))(ce:Tryz.prog.cellsOf e=104)(hv:v= .slice a N cap)(h:DataW.Trod enc Tryz.prog w base (fun _=>true) held t v d ps)(hM:ed Tryz.prog t d M):∃os,ScriptAt w a N os/\N*Tryz.prog.bytesOf e<=M:=by
 subst hv;obtain⟨fuel,hf⟩:=h;have b8:Tryz.prog.bytesOf 5=1:=by kernel_rfl
 rcases Deep.open_slice ht hf with⟨hcs,_⟩|⟨ad,len,cap',m,n,D,Pl,hcs,_,hl,hm,hmm,hx,hrow⟩
 ·simp[Value.cells]at hcs;obtain⟨rfl,rfl,rfl⟩:=hcs;exact⟨fun _=>zOp,fun k hk=>by omega,by omega⟩
 ·simp[Value.cells]at hcs;obtain⟨rfl,rfl,rfl⟩:=hcs;simp only[if_true]at hmm;subst hmm;rw[ce]at hrow;rcases Nat.eq_zero_or_pos N with hz0|hpos
  ·subst hz0;exact⟨fun _=>zOp,fun k hk=>by omega,by omega⟩
  obtain⟨b,o,eb⟩:∃b o,ad=⟨b,o,none⟩:=by
   obtain⟨cs,g1,g2⟩:=hrow 0 (by omega);obtain⟨_,g3,g4⟩:=World.cells?_some g1;rw[show(0:Nat)*104=0from rfl]at g4;exact lM (by omega) g3 g4
  subst eb;have each:∀k,k<N->∃y:OpV,∃b' off,(some ⟨b,o,none⟩:Option Addr)=some ⟨b',off,none⟩/\b'<w.heap.size/\w.rangeAt b' (off+k*104) y.cs/\Dj w y:=fun k hk=>by
   obtain⟨cs,g1,g2⟩:=hrow k (by omega);obtain⟨_,g3,g4⟩:=World.cells?_some g1;obtain⟨xs,n',_,hDk,_,hxl,hg⟩:=DataW.trod_struct he g2;have hfs:8<fs.size:=(Array.getElem?_eq_some_iff.1 h8).1;have hE:ed Tryz.prog e (.agg (xs.map (·.1))) M:=fun y hy=>hM y (by
    rw[show d=_ from congrArg Prod.fst hx];simp only[DataW.weights,ht,List.mem_cons,List.mem_append];refine .inr (.inl (iE (List.mem_map.2 ⟨k,List.mem_range.2 hk,rfl⟩) y ?_));rw[show D k= .agg (xs.map (·.1))from congrArg Prod.fst hDk];exact hy);have e0:=hg 0 f0 h0;have e1:=hg 1 f1 h1;have e2:=hg 2 f2 h2;have e3:=hg 3 f3 h3;have e4:=hg 4 f4 h4;have e5:=hg 5 f5 h5;have e6:=hg 6 f6 h6;have e7:=hg 7 f7 h7;have e8:=hg 8 f8 h8;rw[o0,t0,ki,List.getElem?_eq_getElem (by omega)]at e0;rw[o1,t1,ki,List.getElem?_eq_getElem (by omega)]at e1;rw[o2,t2,kd,List.getElem?_eq_getElem (by omega)]at e2;rw[o3,t3,kk,List.getElem?_eq_getElem (by omega)]at e3;rw[o4,t4,kq,List.getElem?_eq_getElem (by omega),hq]at e4;rw[o5,t5,kq,List.getElem?_eq_getElem (by omega),hq]at e5;rw[o6,t6,kx,List.getElem?_eq_getElem (by omega),hx']at e6;rw[o7,t7,kc,List.getElem?_eq_getElem (by omega),hc]at e7;rw[o8,t8,kr,List.getElem?_eq_getElem (by omega)]at e8;have z4:=eG he hE h4 (by omega);have z5:=eG he hE h5 (by omega);have z6:=eG he hE h6 (by omega);have z7:=eG he hE h7 (by omega);have z8:=eG he hE h8 (by omega);rw[t4,hq]at z4;rw[t5,hq]at z5;rw[t6,hx']at z6;rw[t7,hc]at z7;rw[t8]at z8;obtain⟨a0,q0,_,w0⟩:=DataW.trod_int ui e0;obtain⟨a1,q1,_,w1⟩:=DataW.trod_int ui e1;obtain⟨ds,q2,hB,hdl⟩:=tq ud km (by kernel_rfl) (by rw[List.length_take,List.length_drop];omega) e2;obtain⟨es,q3,hB2,hdl2⟩:=tq uk km (by kernel_rfl) (by rw[List.length_take,List.length_drop];omega) e3;obtain⟨A,ca,ra,q4,l4,s4⟩:=tj (by omega) mI km (by kernel_rfl) b8 e4 z4;obtain⟨B,cb,rb,q5,l5,s5⟩:=tj (by omega) mI km (by kernel_rfl) b8 e5 z5;obtain⟨x,Av,Cv,q6,l61,l62,l63,s6⟩:=Cw (by omega) (by rw[List.length_take,List.length_drop];omega) e6 z6;obtain⟨Pd,nd,cd,X,q7,l71,l72,_,_,l75⟩:=Cu e7;obtain⟨Pe,ne,ce',YS,q8,l81,l82,l83,l84⟩:=DS (by omega) ur mI km (by kernel_rfl) (by kernel_rfl) b8 e8 z8;have y7:=l75 M z7;rw[b8,show Tryz.prog.bytesOf 39=64by kernel_rfl]at y7;rw[show Tryz.prog.bytesOf 36=24by kernel_rfl]at l83;have hcs:cs=(⟨a0,a1,ds,es, .slice A ra.length ca, .slice B rb.length cb,x,Av,Cv, .slice Pd nd cd, .slice Pe ne ce'⟩:OpV).cs:=by
    have c1:cs=cs.take 1++((cs.drop 1).take 1++((cs.drop 2).take 32++((cs.drop 34).take 32++((cs.drop 66).take 1++((cs.drop 67).take 1++((cs.drop 68).take 34++((cs.drop 102).take 1++(cs.drop 103).take 1))))))):=by
     rw[show cs.drop 103=(cs.drop 102).drop 1by rw[List.drop_drop],List.take_of_length_le (l:=(cs.drop 102).drop 1) (by simp;omega),List.take_append_drop,show cs.drop 102=(cs.drop 68).drop 34by rw[List.drop_drop],List.take_append_drop,show cs.drop 68=(cs.drop 67).drop 1by rw[List.drop_drop],List.take_append_drop,show cs.drop 67=(cs.drop 66).drop 1by rw[List.drop_drop],List.take_append_drop,show cs.drop 66=(cs.drop 34).drop 32by rw[List.drop_drop],List.take_append_drop,show cs.drop 34=(cs.drop 2).drop 32by rw[List.drop_drop],List.take_append_drop,show cs.drop 2=(cs.drop 1).drop 1by rw[List.drop_drop],List.take_append_drop,List.take_append_drop]
    rw[List.drop_zero]at q0;rw[c1,q0,q1,q2,q3,q4,q5,q6,q7,q8];rfl
   have hblk:b<w.heap.size:=by
    have h5:=g4 0 (by omega);rw[List.getElem?_eq_getElem (by omega)]at h5;have:=lt_of_cell h5;rwa[bX,bX]at this
   refine⟨⟨a0,a1,ds,es, .slice A ra.length ca, .slice B rb.length cb,x,Av,Cv, .slice Pd nd cd, .slice Pe ne ce'⟩,b,o,rfl,hblk,fun j v hj=>?_,⟨ra,rb,A,ca,B,cb,rfl,rfl,l4,l5,l63,by omega,by omega,by show x.val.length+512<=_;omega⟩,nd,ne,Pd,Pe,cd,ce',X,YS,⟨⟨hdl,hB⟩,⟨hdl2,hB2⟩,⟨l61,l62⟩,rfl,rfl,rfl,rfl⟩,rfl,rfl,l71,l81,l72,l82,by omega,by omega,fun k hk=>by have:=y7.2 k hk;omega,fun k hk=>by have:=l84 k hk;omega⟩;have hjl:j<104:=by
    have:=(List.getElem?_eq_some_iff.1 hj).1;rw[<-hcs]at this;omega
   have h5:=g4 j hjl;rw[add_lit,add_lit]at h5;rw[h5,hcs];exact hj
  obtain⟨X,hX⟩:=Deep.choose_lt each;refine⟨X,hX,?_⟩;have h1:=hM ((((List.range N).map D).length+((List.range (m-N)).map fun j=>D (N+j)).length)*Tryz.prog.bytesOf e) (by rw[show d=_ from congrArg Prod.fst hx];simp[DataW.weights,ht]);refine Nat.le_trans (Nat.mul_le_mul_right _ ?_) h1;rw[List.length_map,List.length_range];omega
theorem script_open{M:Nat}(hMM:M+4096<=140737488355328){a:Option Addr}{N cap:Nat}{d:DataW H}{ps:List MemPlace}(h:DataW.Trod enc Tryz.prog w base (fun _=>true) held 22 (.slice a N cap) d ps)(hM:ed Tryz.prog 22 d M):∃os,ScriptAt w a N os/\N*240<=M:=by
 have h:=yv hMM Tryz.underlying22 Tryz.underlying42 rfl rfl rfl rfl rfl rfl rfl rfl rfl rfl rfl rfl rfl rfl rfl rfl rfl rfl rfl rfl rfl rfl rfl rfl rfl rfl rfl rfl rfl rfl rfl (by kernel_rfl) (by kernel_rfl) (by kernel_rfl) (by kernel_rfl) (by kernel_rfl) (by kernel_rfl) (by kernel_rfl) Tryz.underlying3 Tryz.underlying34 Tryz.underlying37 Tryz.underlying24 (by kernel_rfl) rfl h hM;rwa[show Tryz.prog.bytesOf 42=240by kernel_rfl]at h
end
end Go.Proofs.YtfnlhfaihoojfaaGreatDoor
