/- Texts of the proof of ledgerlaw13.ClientPlays, part 3; no condition of its own. -/
import Derived.Test.YtfnlhfaihoojfaaGreatDoorS2
set_option maxRecDepth 100000
set_option maxHeartbeats 4000000
namespace Go.Proofs.YtfnlhfaihoojfaaGreatDoor
open Go.RowKit
theorem uK(g:Nat)(A:Option Addr)(n c:Nat)(xs ys rest:List Nat)(w:World)(hy:RB w A n ys)(hA:0<n->∀ad,A=some ad->ad.block≠g)(hX:IsB xs)(hR:IsB rest)(hrx:rest.take (xs.length%64)=xs.drop (64*(xs.length/64)))(h0:0<xs.length%64)(hlt:n<64-xs.length%64)(hh:dP w g (fw xs (xs.length/64)).list rest (xs.length%64) (xs.length%18446744073709551616)):Calls Tryz.prog 104 #[.pointer (some ⟨g,0,none⟩), .slice A n c] w fun e w'=>e= .returned (.tuple #[])/\fY g xs ys w w':=by
 have hn:n<=140737488355328:=by omega
 have H:=aa hy;have M:=aa hA;have N:=aa hh;have O:=aa hrx;have P:=aa hX;have Q:=aa hR;have I:=aa hy.isB;have B:Hd (w.grownBy (w.setCell ⟨g,73,none⟩ (.int .u64 ((((xs.length+n)%18446744073709551616:Nat):Int)))) (some g)):=ai w (g:=g) 73 _;have C:=aa (hh.setTaken ((xs.length+n)%18446744073709551616));have kt:=hh.taken;have ft:=hh.frozen 73;have kh:=(hh.setTaken ((xs.length+n)%18446744073709551616)).have_;have hc:IntKind.u64.wrap (((xs.length%18446744073709551616:Nat):Int)+(n:Int))=(((xs.length+n)%18446744073709551616:Nat):Int):=by
  simp[IntKind.wrap,IntKind.bits,IntKind.signed]
 have D:Hd (xs.length/64=(xs.length+n)/64/\xs.length%64+n=(xs.length+n)%64):=by
  show _/\_;omega
 clear hy hA hh hX hR hrx;have h64:xs.length%64<64:=Nat.mod_lt _ (by decide);generalize hh0:xs.length%64=hv at*;have F:=aa hh0;clear hh0;generalize xs.length%18446744073709551616=tk at*;generalize htn:(xs.length+n)%18446744073709551616=tn at*;have R:=aa htn;clear htn;go_enter Tryz.func104,Tryz.ntmps104;go_wp2_with fail;have E:Hd (RB (w.setCell ⟨g,73,none⟩ (.int .u64 (tn:Int))) A n ys):=H.o.grownBy B.o (fun hp ad e hz=>M.o hp ad e (by injection hz));clear kt ft hc H N;generalize w.setCell ⟨g,73,none⟩ (.int .u64 (tn:Int))=w1 at*;have j0:(0:Int)<=(hv:Int):=by omega
 have j1:(hv:Int)<=64:=by omega
 have j2:¬(64=hv):=by omega
 refine wp_region_still_tail 9 (by kernel_rfl) (by kernel_rfl) ?_;simp only[List.take_succ_cons,List.take_zero,List.drop_succ_cons,List.drop_zero];repeat(refine wpStill_step (fun K hK=>?_);go_simp;(try go_bits);refine hK _ ?_;clear hK K)
 try refine wpStill_nil ?_
 change wpList _ _ _ _ _ w1.drew;replace E:Hd (RB w1.drew A n ys):=E.o;replace B:Hd (w.grownBy w1.drew (some g)):=lO B.o;replace C:Hd (dP w1.drew g (fw xs (xs.length/64)).list rest hv tn):=C.o;clear kh;generalize w1.drew=w2 at*;have J:Hd (∀(w3:World)(rr:List Nat),Hd (dP w3 g (fw xs (xs.length/64)).list rr hv tn)->w3.cell? ⟨g,72,none⟩=some (.int .i64 (hv:Int))):=fun w3 rr hz=>hz.o.have_;have L:Hd (∀(w3:World)(rr:List Nat),Hd (dP w3 g (fw xs (xs.length/64)).list rr hv tn)->w3.frozen? ⟨g,72,none⟩=false):=fun w3 rr hz=>hz.o.frozen 72;go_wp2_with(first|(refine AB (op:=⟨some 29,_,_,_,_,_⟩) (by rfl) (.tmp 27) (.tmp 28) 36 36 rfl 5 ax dB A g hv (8+hv) (64-hv) (64-hv) n c rfl rfl rfl _ rest hv tn C.o n ys E.o (Nat.min_eq_left (by omega)).symm (by omega) ?_;intro w3 G hg3;have S:=aa hg3;have c72:=J.o w3 _ G;have f72:=L.o w3 _ G;clear hg3 J L));all_goals
  have T:Hd (fY g xs ys w (w3.setCell ⟨g,72,none⟩ (.int .i64 ((hv:Int)+(n:Int))))):=by
   have hl:=E.o.1;have hr:=C.o.2.2;have hlx:(xs++ys).length=xs.length+n:=by rw[List.length_append,hl]
   have hdx:(xs.drop (64*(xs.length/64))).length=hv:=by
    rw[List.length_drop];have:=F.o;omega
   refine⟨⟨splice rest hv ys,jD hv Q.o I.o,P.o.app I.o,?_,?_⟩,aE (aE B.o S.o) (ai w3 (g:=g) 72 _)⟩
   ·rw[hlx,<-D.o.1,<-D.o.2];unfold splice;rw[O.o,List.drop_append_of_le_length (by have:=F.o;omega),List.take_append,hdx,List.take_of_length_le (by omega),show hv+n-hv=n by omega,List.take_left' hl]
   ·rw[hlx,<-D.o.1,<-D.o.2,R.o,pk _ _ _ (by have:=F.o;omega)];have:=G.o.setHave (hv+n);rwa[show((hv+n:Nat):Int)=(hv:Int)+(n:Int)by omega]at this
  refine bodyPost_ret (results_none rfl _ _ _) rfl ?_;exact⟨rfl,T.o⟩
theorem uL(g:Nat)(A:Option Addr)(n c:Nat)(xs ys rest:List Nat)(w:World)(hy:RB w A n ys)(hnc:n<=c)(hn:n<=140737488355328)(hA:0<n->∀ad,A=some ad->ad.block≠g)(hX:IsB xs)(hR:IsB rest)(hrx:rest.take (xs.length%64)=xs.drop (64*(xs.length/64)))(h0:0<xs.length%64)(hlt:64-xs.length%64<=n)(hh:dP w g (fw xs (xs.length/64)).list rest (xs.length%64) (xs.length%18446744073709551616))(hk:TabU w 3 kL)(hne:g≠3):Calls Tryz.prog 104 #[.pointer (some ⟨g,0,none⟩), .slice A n c] w fun e w'=>e= .returned (.tuple #[])/\fY g xs ys w w':=by
 have L:=aa hk;have M:=aa hne;clear hk hne;have C:=aa hy;have I:=aa hA;have N:=aa hh;have HL:=aa hrx;have Z:=aa hX;have HN:=aa hR;have s:=aa hy.isB;have E:Hd (w.grownBy (w.setCell ⟨g,73,none⟩ (.int .u64 ((((xs.length+n)%18446744073709551616:Nat):Int)))) (some g)):=ai w (g:=g) 73 _;have F:=aa (hh.setTaken ((xs.length+n)%18446744073709551616));have kt:=hh.taken;have ft:=hh.frozen 73;have kh:=(hh.setTaken ((xs.length+n)%18446744073709551616)).have_;have hc:IntKind.u64.wrap (((xs.length%18446744073709551616:Nat):Int)+(n:Int))=(((xs.length+n)%18446744073709551616:Nat):Int):=by
  simp[IntKind.wrap,IntKind.bits,IntKind.signed]
 clear hy hA hh hX hR hrx;have h64:xs.length%64<64:=Nat.mod_lt _ (by decide);generalize hh0:xs.length%64=hv at*;have f:=aa hh0;clear hh0;generalize xs.length%18446744073709551616=tk at*;generalize htn:(xs.length+n)%18446744073709551616=tn at*;have R:=aa htn;clear htn;obtain⟨mq,hq1,hq2⟩:∃mq,64<=hv+mq/\hv+mq<=64:=⟨64-hv,by omega,by omega⟩;have HO:Hd ((xs.drop (64*(xs.length/64))).length=hv):=by
  show _=_;rw[List.length_drop];have:=f.o;omega
 go_enter Tryz.func104,Tryz.ntmps104;go_wp2_with fail;have G:Hd (RB (w.setCell ⟨g,73,none⟩ (.int .u64 (tn:Int))) A n ys):=C.o.grownBy E.o (fun hp ad e hz=>I.o hp ad e (by injection hz));clear kt ft hc N;generalize w.setCell ⟨g,73,none⟩ (.int .u64 (tn:Int))=w1 at*;have j0:(0:Int)<=(hv:Int):=by omega
 have j1:(hv:Int)<=64:=by omega
 have j2:¬(64=hv):=by omega
 refine wp_region_still_tail 9 (by kernel_rfl) (by kernel_rfl) ?_;simp only[List.take_succ_cons,List.take_zero,List.drop_succ_cons,List.drop_zero];repeat(refine wpStill_step (fun K hK=>?_);go_simp;(try go_bits);refine hK _ ?_;clear hK K)
 try refine wpStill_nil ?_
 change wpList _ _ _ _ _ w1.drew;replace G:Hd (RB w1.drew A n ys):=G.o;replace E:Hd (w.grownBy w1.drew (some g)):=lO E.o;replace F:Hd (dP w1.drew g (fw xs (xs.length/64)).list rest hv tn):=F.o;clear kh;generalize w1.drew=w2 at*;have O:Hd (∀(w3:World)(rr:List Nat),Hd (dP w3 g (fw xs (xs.length/64)).list rr hv tn)->w3.cell? ⟨g,72,none⟩=some (.int .i64 (hv:Int))):=fun w3 rr hz=>hz.o.have_;have P:Hd (∀(w3:World)(rr:List Nat),Hd (dP w3 g (fw xs (xs.length/64)).list rr hv tn)->w3.frozen? ⟨g,72,none⟩=false):=fun w3 rr hz=>hz.o.frozen 72;have t:=aa (G.o.take (k:=mq) (by omega));obtain⟨T,J⟩:∃T,Hd (T=xs++ys):=⟨_,rfl⟩;obtain⟨q0,Q⟩:∃q0,Hd (xs.length/64=q0):=⟨_,rfl⟩;obtain⟨rest1,i⟩:∃rest1,Hd (splice rest hv (ys.take mq)=rest1):=⟨_,rfl⟩;have v:Hd (IsB rest1):=by
  rw[<-i.o];exact jD hv HN.o (s.o.take _)
 have HP:Hd (fw xs (xs.length/64)=fw T q0):=by
  show _=_;rw[J.o,Q.o,pk _ _ _ (by have h1:=f.o;have h2:=Q.o;omega)]
 have S:Hd (64*q0+hv=xs.length):=by
  have h1:=f.o;have h2:=Q.o;show _=_;omega
 have HR:Hd ((T.drop (64*q0)).take 64=rest1):=by
  show _=_;have hlx:=S.o;have hdx:=HO.o;have hly:=G.o.1;rw[J.o,<-i.o,List.drop_append_of_le_length (by omega)];rw[Q.o]at hdx;rw[List.take_append,hdx,List.take_of_length_le (by omega),show 64-hv=mq by omega];unfold splice;rw[List.length_take,show hv+min mq ys.length=64by omega,List.drop_of_length_le (l:=rest) (by rw[F.o.2.2];exact Nat.le_refl _),List.append_nil,HL.o,Q.o]
 have j:Hd (∀w3:World,Hd (dP w3 g (fw xs (xs.length/64)).list (splice rest hv (ys.take mq)) hv tn)->dP (w3.setCell ⟨g,72,none⟩ (.int .i64 ((hv:Int)+(mq:Int)))) g (fw T q0).list rest1 (hv+mq) tn):=by
  intro w3 hz;have h1:=hz.o.setHave (hv+mq);rw[HP.o,i.o]at h1;exact h1
 have y:Hd (TabU w2 3 kL):=L.o.grown E.o (fun hz=>M.o (by injection hz with hz;exact hz.symm));have U:Hd (∀(a b:World),TabU a 3 kL->a.grownBy b (some g)->TabU b 3 kL):=fun a b h1 h2=>h1.grown h2 (fun hz=>M.o (by injection hz with hz;exact hz.symm));go_wp2_with(first|(refine AB (op:=⟨some 29,_,_,_,_,_⟩) (by rfl) (.tmp 27) (.tmp 28) 36 36 rfl 5 ax dB A g hv (8+hv) (64-hv) (64-hv) n c rfl rfl rfl _ rest hv tn F.o mq (ys.take mq) t.o (by show mq=min n (64-hv);omega) (by omega) ?_;intro w3 D hg3;have H:=aa hg3;have c72:=O.o w3 _ D;have f72:=P.o w3 _ D;clear hg3 O P)|(refine yq (o:=⟨some 40,_,_,_,_,_⟩) (by rfl) 36 (.tmp 38) (.tmp 39) rfl (by kernel_rfl) (by kernel_rfl) A n c mq rfl rfl (by omega) hnc ?_;intro A1 z)|(go_at_call 118;((refine(mP T q0 g _ _ rest1 (hv+mq) tn _ (by rw[HR.o];exact(j.o w3 D).reads v.o) (j.o w3 D) (U.o _ _ (U.o _ _ y.o H.o) (ai w3 (g:=g) 72 _)) M.o).mono ?_);rintro e w5⟨rfl,hh5,hg5⟩;have HS:=aa hh5;have HU:=aa hg5;have f72b:=hh5.frozen 72;have c72b:=hh5.have_;clear hh5 hg5)));have V:Hd (w.grownBy (w5.setCell ⟨g,72,none⟩ (.int .i64 0)) (some g)):=aE (aE (aE (aE E.o H.o) (ai w3 (g:=g) 72 _)) HU.o) (ai w5 (g:=g) 72 _);have p:Hd (dP (w5.setCell ⟨g,72,none⟩ (.int .i64 0)) g (fw T (q0+1)).list rest1 0 tn):=HS.o.setHave 0;have HB:Hd (TabU (w5.setCell ⟨g,72,none⟩ (.int .i64 0)) 3 kL):=U.o _ _ L.o V.o;have W:Hd (RB (w5.setCell ⟨g,72,none⟩ (.int .i64 0)) A1 (n-mq) (T.drop (64*(q0+1)))):=by
  have h0:RB w A n ys:=C.o;have h1:=(h0.grownBy V.o (fun hp ad e hz=>I.o hp ad e (by injection hz))).drop (k:=mq) (B:=A1) (by omega) z.o.1;rw[J.o,List.drop_append,List.drop_of_length_le (by have:=S.o;omega),List.nil_append,show 64*(q0+1)-xs.length=mq by have:=S.o;omega];exact h1
 have r:Hd (0<n-mq->∀ad,A1=some ad->ad.block≠g):=fun hp ad e=>by
  obtain⟨ad',e',h'⟩:=z.o.2.1 ad e;rw[<-h'];exact I.o (by omega) ad' e'
 have X:Hd (64*(q0+1)+(n-mq)=T.length):=by
  have h1:=S.o;have h2:=C.o.1;show _=_;rw[J.o,List.length_append];omega
 have HC:Hd (T.length%18446744073709551616=tn):=by
  show _=_;rw[J.o,List.length_append,C.o.1];exact R.o
 clear c72 f72 c72b f72b j U y t F G R;obtain⟨n1,c1,q1,E1⟩:∃n1 c1 q1,Hd (n1=n-mq/\c1=c-mq/\q1=q0+1):=⟨_,_,_,rfl,rfl,rfl⟩;obtain⟨e1,e2,e3⟩:=E1.o;rw[<-e1]at W X r;rw[<-e3]at W X p;rw[<-e1,<-e2];have hn1c:n1<=c1:=by omega
 have hn1:n1<=140737488355328:=by omega
 clear e1 e2 e3 I C E L;obtain⟨HD,G,HE,F,HI,E,R⟩:=And.intro X (And.intro W (And.intro r (And.intro p (And.intro HB (And.intro V HC)))));clear X W r p HB V HC hq1 hq2 hnc hlt j0 j1 j2 h0 hn;generalize w5.setCell ⟨g,72,none⟩ (.int .i64 0)=w6 at*;go_loopw[1](fun u wr=>∃(B:Option Addr)(m d q:Nat),u= .slice B m d/\m<=d/\m<=140737488355328/\Hd (64*q+m=T.length)/\Hd (RB wr B m (T.drop (64*q)))/\Hd (0<m->∀ad,B=some ad->ad.block≠g)/\Hd (dP wr g (fw T q).list rest1 0 tn)/\Hd (TabU wr 3 kL)/\Hd (w.grownBy wr (some g)))(fun u _=>lenOf u)
 case atStart=>exact⟨A1,n1,c1,q1,rfl,hn1c,hn1,HD.o,G.o,HE.o,F.o,HI.o,E.o⟩
 case round=>
  clear HD G HE F HI E;obtain⟨B,m,d,q,rfl,hmd,hm,HQ,C,I,N,L,HG⟩:=hrel;obtain⟨w2,rfl⟩:∃w2,w2=wr:=⟨_,rfl⟩;by_cases hge:64<=m
  ·have Z:=aa (C.o.take (k:=64) hge);have hQl:=HQ.o;obtain⟨B2,HJ⟩:∃B2,Hd (B2=if d=64then B else B.map (fun x=>(⟨x.block,x.off+64,none⟩:Addr))):=⟨_,rfl⟩;have HF:=aa (tK HJ.o hmd);go_wp2_with(first|(go_at_call 118;((refine(mP T q g _ _ rest1 0 tn _ Z.o N.o L.o M.o).mono ?_);rintro e w3⟨rfl,hh3,hg3⟩;have D:=aa hh3;have H:=aa hg3;clear hh3 hg3)));rw[<-HJ.o];have HV:Hd (RB w3 B2 (m-64) (T.drop (64*(q+1)))):=by
    have h1:=(C.o.grownBy H.o (fun hp ad e h=>I.o hp ad e (by injection h))).drop (k:=64) (B:=B2) hge HF.o.1;rw[List.drop_drop]at h1;exact h1
   have HW:Hd (0<m-64->∀ad,B2=some ad->ad.block≠g):=fun hp ad e=>by
    obtain⟨ad',e',h'⟩:=HF.o.2 ad e;rw[<-h'];exact I.o (by omega) ad' e'
   have HX:Hd (TabU w3 3 kL):=L.o.grown H.o (fun h=>M.o (by injection h with h;exact h.symm));have HZ:Hd (w.grownBy w3 (some g)):=aE HG.o H.o;go_roundw
   case rel=>exact⟨B2,m-64,d-64,q+1,rfl,by omega,by omega,by show _=_;omega,HV.o,HW.o,D.o,HX.o,HZ.o⟩
   case measure=>simp[lenOf];omega
  ·have hQl:=HQ.o;have Y:Hd (T.length/64=q/\T.length%64=m):=by
    show _/\_;omega
   have hf:=N.o.frozen 72;have hc72:∀(w3:World)(rr:List Nat),Hd (dP w3 g (fw T q).list rr 0 tn)->w3.cell? ⟨g,72,none⟩=some (.int .i64 0):=fun w3 rr h=>h.o.have_;have hf72:∀(w3:World)(rr:List Nat),Hd (dP w3 g (fw T q).list rr 0 tn)->w3.frozen? ⟨g,72,none⟩=false:=fun w3 rr h=>h.o.frozen 72;have O:=aa hc72;have P:=aa hf72;clear hc72 hf72 hQl hf;go_wp2_with(first|(refine AB (op:=⟨some 70,_,_,_,_,_⟩) (by rfl) (.tmp 68) (.tmp 69) 36 36 rfl 5 ax dB B g 0 8 64 64 m d rfl rfl rfl (fw T q).list rest1 0 tn N.o m (T.drop (64*q)) C.o (Nat.min_eq_left (by omega)).symm (by omega) ?_;intro w3 D hg3;have H:=aa hg3;have c72:=O.o w3 _ D;have f72:=P.o w3 _ D;clear hg3 O P));have Ha:Hd (fY g xs ys w (w3.setCell ⟨g,72,none⟩ (.int .i64 (m:Int)))):=by
    have hl:(T.drop (64*q)).length=m:=C.o.1;refine⟨⟨splice rest1 0 (T.drop (64*q)),jD 0 v.o C.o.2.1,?_,?_,?_⟩,aE (aE HG.o H.o) (ai w3 (g:=g) 72 _)⟩
    ·exact Z.o.app s.o
    ·rw[<-J.o,Y.o.1,Y.o.2,<-hl];exact l7 _ _
    ·rw[<-J.o,Y.o.1,Y.o.2,R.o];exact D.o.setHave m
   go_end0;exact⟨rfl,Ha.o⟩
theorem qg(g:Nat)(A:Option Addr)(n c:Nat)(xs ys:List Nat)(w:World)(hy:RB w A n ys)(hnc:n<=c)(hn:n<=140737488355328)(hA:0<n->∀ad,A=some ad->ad.block≠g)(hh:nT w g xs)(hk:TabU w 3 kL)(hne:g≠3):Calls Tryz.prog 104 #[.pointer (some ⟨g,0,none⟩), .slice A n c] w fun e w'=>e= .returned (.tuple #[])/\fY g xs ys w w':=by
 obtain⟨rest,h1,h2,h3,h4⟩:=hh;rcases Nat.eq_zero_or_pos (xs.length%64)with h0|h0
 ·exact uJ g A n c xs ys rest w hy hnc hn hA h2 h1 h0 (by rw[h0]at h4;exact h4) hk hne
 ·rcases Nat.lt_or_ge n (64-xs.length%64)with h|h
  ·exact uK g A n c xs ys rest w hy hA h2 h1 h3 h0 h h4
  ·exact uL g A n c xs ys rest w hy hnc hn hA h2 h1 h3 h0 h h4 hk hne
theorem aj{P:Program}{ops:Array Oper}{rest:List Oper}{o:Oper}{a:Act}{w:World}{Q:Exit->Act->World->Prop}(hgd:o.guard=none)(ty:TypeId)(x:Operand)(ho:o.op= .load ty x)(g off:Nat)(cs:List Value)(hx:a.eval x= .pointer (some ⟨g,off,none⟩))(hc:w.rangeAt g off cs)(hrow:(P.underlying ty).map (·.isRow)=some true)(hi:(P.info? ty).map (·.size)=some cs.length)(h:wpList P ops Q rest (a.put o.dst (.agg cs.toArray)) w):wpList P ops Q (o::rest) a w:=by
 refine wpList_plain hgd fun K hK=>?_;obtain⟨d,hu,hd⟩:=gq hrow;have hlv:=run_loadVar_mid (P:=P) w g off ty cs d hc hu hd hi;unfold Oper.wp execOp;simp only[ho,hx,Instr.loadAt,Instr.sureAddr,Sem.run_bind,Sem.run_pure,Result.andThen_ok,hlv];exact hK _ _ h
theorem Es{P:Program}{ops:Array Oper}{rest:List Oper}{o:Oper}{a:Act}{w:World}{Q:Exit->Act->World->Prop}(hgd:o.guard=none)(t:TypeId)(ho:o.op= .alloc t)(cs:Array Value)(n:Nat)(hi:(P.info? t).map (fun i=>(i.zero,i.size))=some (some (.agg cs),n))(h:wpList P ops Q rest (a.put o.dst (.pointer (some ⟨w.heap.size,0,none⟩))) (w.alloc (.cells cs t))):wpList P ops Q (o::rest) a w:=by
 refine wpList_plain hgd fun K hK=>?_;have hz:(zeroValue t).run P w= .ok (.agg cs) w:=by
  cases hq:P.info? t with
  |none=>simp[hq]at hi
  |some i=>
   have h1:i.zero=some (.agg cs):=by
    simp[hq]at hi;exact hi.1
   simp[zeroValue,typeInfo,hq,h1]
 have hrun:(Instr.alloc t true (.tuple #[])).run P w= .ok (.pointer (some ⟨w.heap.size,0,none⟩)) (w.alloc (.cells cs t)):=by
  simp[Instr.alloc,newVar,newRow,Sem.run_bind,hz,Value.cells]
 unfold Oper.wp execOp;simp only[ho,Sem.run_bind,Sem.run_pure,hrun,Result.andThen_ok];exact hK _ _ h
theorem aC{P:Program}{ops:Array Oper}{rest:List Oper}{o:Oper}{a:Act}{w:World}{Q:Exit->Act->World->Prop}(hgd:o.guard=none)(t:TypeId)(ho:o.op= .alloc t)(cs:Array Value)(n:Nat)(hi:(P.info? t).map (fun i=>(i.zero,i.size))=some (some (.agg cs),n))(h:∀w',Hd (ab w' w.heap.size t cs)->Hd (Below w.heap.size w w')->Hd (w'.heap.size=w.heap.size+1)->wpList P ops Q rest (a.put o.dst (.pointer (some ⟨w.heap.size,0,none⟩))) w'):wpList P ops Q (o::rest) a w:=Es hgd t ho cs n hi (h _ (ab.new _ _ _) ((Below.refl _ _).alloc (Nat.le_refl _) _) (by show _=_;simp))
theorem aM{P:Program}{ops:Array Oper}{rest:List Oper}{o:Oper}{a:Act}{w:World}{Q:Exit->Act->World->Prop}(hgd:o.guard=none)(t:TypeId)(parts:Array (Nat×Operand))(ho:o.op= .build t parts)(vs:List (Nat×Value))(hv:(parts.map fun(i,x)=>(i,a.eval x)).toList=vs)(cells:Array Value)(hb:P.built t vs=some cells)(h:wpList P ops Q rest (a.put o.dst (.agg cells)) w):wpList P ops Q (o::rest) a w:=by
 subst hv;exact wpList_plain hgd fun K hK=>wp_build t parts ho (by rw[hb];rfl) (by rw[hb];exact hK _ _ h)
theorem TabU.range{w:World}{g:Nat}{xs:List Nat}(h:TabU w g xs):w.rangeAt g 0 (uvs xs):=fun j v hj=>by
 simp only[uvs,List.getElem?_map,Option.map_eq_some_iff]at hj;obtain⟨y,hy,rfl⟩:=hj;have hl:j<xs.length:=by
  rcases Nat.lt_or_ge j xs.length with h|h
  ·exact h
  ·rw[List.getElem?_eq_none h]at hy;cases hy
 rw[Nat.zero_add,h.2 j hl];simp[List.getD,hy,uv]
theorem ab.range{w:World}{g:Nat}{t:TypeId}{cs:List Value}(h:ab w g t cs.toArray):w.rangeAt g 0 cs:=fun j v hj=>by
 rw[Nat.zero_add,ab.cell h,List.getElem?_toArray];exact hj
theorem iJ{L rest:List Nat}(h t:Nat)(h1:L.length=8)(h2:rest.length=64):(cH L rest h t).length=74:=by
 simp[cH,bg,bvs,h1,h2]
theorem Dd:(Tryz.prog.info? 161).map (fun i=>(i.zero,i.size))=some (some (.agg (cH (zs 8) (zs 64) 0 0).toArray),74):=by kernel_rfl
theorem Fi:(Tryz.prog.underlying 161).map (·.isRow)=some true:=by kernel_rfl
theorem uE:(Tryz.prog.underlying 129).map (·.isRow)=some true:=by kernel_rfl
theorem kn:(Tryz.prog.info? 129).map (·.size)=some 8:=by kernel_rfl
theorem xh:(Tryz.prog.info? 161).map (·.size)=some 74:=by kernel_rfl
theorem Eh:Tryz.prog.built 161 [(0, .agg (uvs hL).toArray)]=some (cH hL (zs 64) 0 0).toArray:=by kernel_rfl
theorem wP{w:World}{g:Nat}(h:dP w g hL (zs 64) 0 0):nT w g []:=⟨zs 64,dY 64,IsB.nil,rfl,h⟩
theorem vT(L rest:List Nat)(h t:Nat):(cH L rest h t).toArray.all (·.oneCell')=true:=by
 rw[Array.all_eq_true_iff_forall_mem];intro v hv;simp only[cH,uvs,bvs,List.mem_toArray,List.mem_append,List.mem_map,List.mem_cons,List.not_mem_nil,or_false]at hv;rcases hv with⟨x,_,rfl⟩|⟨x,_,rfl⟩|rfl|rfl<;>rfl
theorem De{P:Program}{ops:Array Oper}{rst:List Oper}{o:Oper}{a:Act}{w:World}{Q:Exit->Act->World->Prop}(hgd:o.guard=none)(ty:TypeId)(x y:Operand)(ho:o.op= .store ty x y)(g:Nat)(L rest:List Nat)(h t:Nat)(hx:a.eval x= .pointer (some ⟨g,0,none⟩))(hy:a.eval y= .agg (cH L rest h t).toArray)(hL:L.length=8)(hr:rest.length=64)(old:Array Value)(ho8:old.size=74)(hg:ab w g 161 old)(hi:(P.info? ty).map (·.size)=some 74)(k:∀w',Hd (dP w' g L rest h t)->w.grownBy w' (some g)->wpList P ops Q rst (a.put o.dst undef) w'):wpList P ops Q (o::rst) a w:=by
 refine wpList_store_row hgd ty x y ho g _ hx hy _ _ hg (by rw[hi,List.size_toArray,iJ h t hL hr]) (by rw[ho8,List.size_toArray,iJ h t hL hr]) (vT L rest h t) (k _ ?_ (fv _));exact⟨setRow_heap w g _ _ _ (0,0) hg,hL,hr⟩
def jJ(m long k:Nat):List Nat:=128::(List.replicate m 0++((pU long).take k++List.replicate (127-m-k) 0))
theorem rk(m long:Nat){k:Nat}(hm:m<=63)(hk:k<=8):(jJ m long k).length=128:=by
 simp[jJ,cT];omega
theorem xY(long:Nat){k:Nat}(hk:k<8):(pU long).getD k 0=long/2^(56-8*k)%256:=by
 simp[pU,List.getD,hk]
theorem uQ(m long:Nat){k:Nat}(hm:m<=63)(hk:k<8):(jJ m long k).set (m+1+k) (long/2^(56-8*k)%256)=jJ m long (k+1):=by
 unfold jJ;rw[show m+1+k=(m+k)+1by omega,List.set_cons_succ,List.set_append_right _ _ (by simp),List.length_replicate,show m+k-m=k by omega,List.set_append_right _ _ (by rw[List.length_take,cT];omega),List.length_take,cT,show k-min k 8=0 by omega,show 127-m-k=(127-m-(k+1))+1by omega,List.replicate_succ,List.set_cons_zero,aJ (by rw[cT];exact hk),xY long hk];simp
theorem uP(m long:Nat)(hm:m<=63):(zs 128).set 0 128=jJ m long 0:=by
 unfold zs jJ;rw[show 128=127+1from rfl,List.replicate_succ,List.set_cons_zero,List.take_zero,List.nil_append,List.replicate_append_replicate];congr 2;omega
theorem CK(n:Nat):IsB (pU n):=by
 intro x hx;simp only[pU,List.mem_map]at hx;obtain⟨i,_,rfl⟩:=hx;exact Nat.mod_lt _ (by decide)
theorem ql(m long k:Nat):IsB (jJ m long k):=by
 intro x hx;simp only[jJ,List.mem_cons,List.mem_append]at hx;rcases hx with rfl|hx|hx|hx
 ·decide
 ·have:=(List.mem_replicate.1 hx).2;omega
 ·exact CK long x (List.mem_of_mem_take hx)
 ·have:=(List.mem_replicate.1 hx).2;omega
theorem qj(n:Nat):(jJ ((119-n%64)%64) (8*n%18446744073709551616) 8).take ((119-n%64)%64+9)=rI n:=by
 unfold jJ rI;rw[List.take_of_length_le (l:=pU _) (by rw[cT];exact Nat.le_refl _),List.take_succ_cons,<-List.append_assoc,List.take_append_of_le_length (by simp[cT]),List.take_of_length_le (by simp[cT])];rfl
def sZ(L:List Nat)(k:Nat):List Nat:=(L.take k).flatMap beB++zs (32-4*k)
theorem j9(L:List Nat):(L.flatMap beB).length=4*L.length:=by
 induction L with
 |nil=>rfl
 |cons x r ih=>simp[List.flatMap_cons,ih,beB];omega
theorem sM{L:List Nat}(h:L.length=8){k:Nat}(hk:k<=8):(sZ L k).length=32:=by
 simp only[sZ,List.length_append,j9,List.length_take,ak,h];omega
theorem zw{L:List Nat}(h:L.length=8){k:Nat}(hk:k<8):((((sZ L k).set (4*k) (L.getD k 0/16777216%256)).set (4*k+1) (L.getD k 0/65536%256)).set (4*k+2) (L.getD k 0/256%256)).set (4*k+3) (L.getD k 0%256)=sZ L (k+1):=by
 have hf:((L.take k).flatMap beB).length=4*k:=by rw[j9,List.length_take,h];omega
 unfold sZ;rw[List.set_append_right _ _ (by omega),hf,List.set_append_right _ _ (by omega),hf,List.set_append_right _ _ (by omega),hf,List.set_append_right _ _ (by omega),hf,show 4*k-4*k=0 by omega,show 4*k+1-4*k=1by omega,show 4*k+2-4*k=2by omega,show 4*k+3-4*k=3by omega,aJ (by omega),List.flatMap_append];unfold zs;rw[show 32-4*k=(32-4*(k+1))+1+1+1+1by omega];simp[List.replicate_succ,beB]
theorem Cm{L:List Nat}(h:L.length=8):sZ L 8=L.flatMap beB:=by
 unfold sZ;rw[List.take_of_length_le (by omega)];simp[zs]
theorem En(L:List Nat):IsB (L.flatMap beB):=by
 intro x hx;simp only[List.mem_flatMap,beB,List.mem_cons,List.not_mem_nil,or_false]at hx;obtain⟨y,_,rfl|rfl|rfl|rfl⟩:=hx<;>exact Nat.mod_lt _ (by decide)
theorem cS(xs:List Nat):(kY xs).length=32:=by
 unfold kY;rw[j9,St.list_length]
theorem iw(xs:List Nat):IsB (kY xs):=En _
theorem aD:(Tryz.prog.info? 34).map (fun i=>(i.zero,i.size))=some (some (.agg (gZ 32)),32):=by kernel_rfl
theorem aF:(Tryz.prog.underlying 34).map (·.isRow)=some true:=by kernel_rfl
theorem ag:(Tryz.prog.info? 34).map (·.size)=some 32:=(zero_of_info aD).2
theorem BX:(Tryz.prog.info? 173).map (fun i=>(i.zero,i.size))=some (some (.agg (gZ 128)),128):=by kernel_rfl
theorem v24{v:Nat}(h:v<4294967296):(v:Int)/16777216=((v/16777216%256:Nat):Int):=by omega
theorem vU{w:World}{g:Nat}{xs:List Nat}(h:nT w g (xs++rI xs.length)):∃L,Hd (L.flatMap beB=kY xs)/\Hd (L.length=8/\IsW L)/\Hd (∀w',Below w.heap.size w w'->w'.rangeAt g 0 (uvs L)):=by
 obtain⟨rest,_,_,_,h4⟩:=h;refine⟨(fw (xs++rI xs.length) ((xs++rI xs.length).length/64)).list,?_,⟨St.list_length _,St.list_w (rQ _ _)⟩,fun w' hb j v hj=>?_⟩
 ·rfl
 ·have h5:=(h4.below hb).1.range;refine h5 j v ?_;have hl:j<(uvs (fw (xs++rI xs.length) ((xs++rI xs.length).length/64)).list).length:=by
   rcases Nat.lt_or_ge j (uvs (fw (xs++rI xs.length) ((xs++rI xs.length).length/64)).list).length with h|h
   ·exact h
   ·rw[List.getElem?_eq_none h]at hj;cases hj
  unfold cH;rw[List.getElem?_append_left hl];exact hj
theorem B0(g:Nat)(xs:List Nat)(w:World)(hh:nT w g xs)(hk:TabU w 3 kL):Calls Tryz.prog 105 #[.pointer (some ⟨g,0,none⟩)] w fun e w'=>e= .returned (.agg (bvs (kY xs)).toArray)/\Below w.heap.size w w':=by
 have X:=aa hk;obtain⟨rest,h1,h2,h3,h4⟩:=hh;have C:=aa h4;have HR:=aa h4.1.range;have hl:=iJ (xs.length%64) (xs.length%18446744073709551616) h4.2.1 h4.2.2;have HL:=aa hl;have Q:=aa (show IsB rest/\IsB xs/\rest.take (xs.length%64)=xs.drop (64*(xs.length/64))from⟨h1,h2,h3⟩);clear h1 h2 h3 h4 hl hk;go_enter Tryz.func105,Tryz.ntmps105;obtain⟨m,H⟩:∃m,Hd ((119-xs.length%64)%64=m):=⟨_,rfl⟩;have hm63:m<=63:=by
  have:=H.o;omega
 have hm:((119:Int)-((xs.length%64:Nat):Int)%64)%64=(m:Int):=by
  have:=H.o;omega
 have h119:(0:Int)<=119-((xs.length%64:Nat):Int)%64:=by omega
 obtain⟨long,R⟩:∃long,Hd (8*xs.length%18446744073709551616=long):=⟨_,rfl⟩;have hlg:IntKind.u64.wrap (((xs.length%18446744073709551616:Nat):Int)*8)=(long:Int):=by
  rw[<-R.o];simp[IntKind.wrap,IntKind.bits,IntKind.signed];omega
 have h64:xs.length%64<64:=Nat.mod_lt _ (by decide);generalize htk:xs.length%18446744073709551616=tk at*;have HI:=aa htk;clear htk;generalize hhv:xs.length%64=hv at*;have I:=aa hhv;clear hhv;go_wp2_with(first|(refine aC (o:=⟨some 2,_,_,_,_,_⟩) (by rfl) 34 rfl _ _ aD ?_;intro w1 HJ J Y)|(refine aj (o:=⟨some 13,_,_,_,_,_⟩) (by rfl) 161 (.tmp 12) rfl g 0 _ rfl (C.o.below J.o).1.range Fi (by rw[xh,HL.o]) ?_)|(refine aC (o:=⟨some 3,_,_,_,_,_⟩) (by rfl) 161 rfl _ _ Dd ?_;intro w2 Z f S)|(refine De (o:=⟨none,_,_,_,_,_⟩) (by rfl) 161 (.tmp 3) (.tmp 13) rfl w1.heap.size _ rest _ _ rfl rfl C.o.2.1 C.o.2.2 _ (by rfl) Z.o xh ?_;intro w3 E hg3;have ct:=E.o.taken;have ch:=E.o.have_;have hs3:=hg3.size;have h:=aa hg3;clear hg3)|(refine aC (o:=⟨some 5,_,_,_,_,_⟩) (by rfl) 173 rfl _ _ BX ?_;intro w4 K M j;have f5:=ab.frozen K.o 0;have c5:=ar.cell (xs:=zs 128) K.o (i:=0) (by rw[ak];omega);have ch5:=(E.o.below M.o).have_;clear ch ct));have l:Hd (ar (w4.setCell ⟨w3.heap.size,0,none⟩ (.int .u8 128)) w3.heap.size 173 (jJ m long 0)):=by
  have h1:=ar.set (w:=w4) (xs:=zs 128) K.o 0 128;rwa[uP m long hm63]at h1
 have N:Hd (w1.heap.size+1<=w3.heap.size):=by
  have h1:=S.o;show _<=_;omega
 have p:Hd (dP (w4.setCell ⟨w3.heap.size,0,none⟩ (.int .u8 128)) w1.heap.size (fw xs (xs.length/64)).list rest hv tk):=(E.o.below M.o).grown (ai w4 (g:=w3.heap.size) 0 _) (by have:=N.o;intro e;injection e with e;omega);have O:Hd (Below w1.heap.size w1 w3):=f.o.grown h.o (by rw[S.o];omega) (fun k hk=>by injection hk with hk;omega);have q:Hd (Below w1.heap.size w1 (w4.setCell ⟨w3.heap.size,0,none⟩ (.int .u8 128))):=(O.o.trans (M.o.mono O.o.size)).setCell O.o.size _;have r:Hd ((w4.setCell ⟨w3.heap.size,0,none⟩ (.int .u8 128)).heap.size=w3.heap.size+1):=by
  show _=_;rw[<-j.o];simp[World.setCell]
 clear f5 c5 ch5 K M j E h hlg h119 hm O Z f S hs3;generalize w4.setCell ⟨w3.heap.size,0,none⟩ (.int .u8 128)=w5 at*;generalize w3.heap.size=gt at*;have s:Hd (∀k,k<=8->(jJ m long k).length=128):=fun k hk=>rk m long hm63 hk;have Hg:Hd (long<18446744073709551616):=by
  have:=R.o;show _<_;omega
 go_loopw[24](fun i wr=>∃k:Nat,k<=8/\i= .int .i64 k/\Hd (ar wr gt 173 (jJ m long k))/\Hd (dP wr w1.heap.size (fw xs (xs.length/64)).list rest hv tk)/\Hd (Below w1.heap.size w1 wr)/\Hd (wr.heap.size=gt+1))(fun i _=>8-(intOf i).toNat)
 case atStart=>exact⟨0,by omega,rfl,l.o,p.o,q.o,r.o⟩
 case round=>
  clear l p q r;obtain⟨k,hk,rfl,F,C,B,u⟩:=hrel;obtain⟨w6,rfl⟩:∃w6,w6=wr:=⟨_,rfl⟩;by_cases hlt:k<8
  ·have cf:=ab.frozen F.o (m+1+k);have cc:=F.o.cell (i:=m+1+k) (by rw[s.o k hk];omega);have i0:(0:Int)<=56-8*(k:Int):=by omega
   have n0:(56-8*(k:Int)).toNat=56-8*k:=by omega
   have n1:((m:Int)+1+(k:Int)).toNat=m+1+k:=by omega
   have i1:(m:Int)+1+(k:Int)<128:=by omega
   have i2:(0:Int)<=(m:Int)+1+(k:Int):=by omega
   have HN:Hd (∀e:Int,e=((long/2^(56-8*k)%256:Nat):Int)->ar (w6.setCell ⟨gt,m+1+k,none⟩ (.int .u8 e)) gt 173 (jJ m long (k+1))):=by
    intro e he;subst he;have h1:=ar.set (w:=w6) F.o (m+1+k) (long/2^(56-8*k)%256);rwa[uQ m long hm63 hlt]at h1
   have HO:Hd (∀v,dP (w6.setCell ⟨gt,m+1+k,none⟩ v) w1.heap.size (fw xs (xs.length/64)).list rest hv tk):=fun v=>C.o.grown (ai w6 (g:=gt) _ v) (by have:=N.o;intro e;injection e with e;omega);have T:Hd (∀v,Below w1.heap.size w1 (w6.setCell ⟨gt,m+1+k,none⟩ v)):=fun v=>B.o.setCell (by have:=N.o;show _<=gt;omega) v;have HP:Hd (∀v,(w6.setCell ⟨gt,m+1+k,none⟩ v).heap.size=gt+1):=fun v=>by
    show _=_;rw[<-u.o];simp[World.setCell]
   generalize(jJ m long k).getD (m+1+k) 0=zz at*;go_wp2_with fail;go_roundw
   case rel=>exact⟨k+1,by omega,by go_num,HN.o _ (by simp),HO.o _,T.o _,HP.o _⟩
   case measure=>simp[intOf];omega
  ·have x:Hd (nT w6 w1.heap.size xs):=⟨rest,Q.o.1,Q.o.2.1,by rw[I.o];exact Q.o.2.2,by rw[I.o,HI.o];exact C.o⟩;have U:Hd (RB w6 (some ⟨gt,0,none⟩) (m+9) (rI xs.length)):=by
    have h1:=F.o.reads (ql m long k) (o:=0) (n:=m+9) (by rw[s.o k hk];omega);rw[List.drop_zero,show k=8by omega,<-H.o,<-R.o,<-I.o,qj]at h1;rw[<-H.o,<-I.o];exact h1
   have hlp:(rI xs.length).length=m+9:=U.o.1;have Hh:=aa hlp;have i0:(0:Int)<=(m:Int)+1+8:=by omega
   have i1:(m:Int)+1+8<=128:=by omega
   have n0:((m:Int)+1+8).toNat=m+9:=by omega
   have y:Hd (TabU w6 3 kL):=(X.o.below J.o).below B.o;have HQ:Hd (w1.heap.size≠3):=fun e=>by
    have h1:=(X.o.below J.o).1;omega
   clear hlp;go_wp2_with(first|(go_at_call 104;((refine(qg w1.heap.size (some ⟨gt,0,none⟩) (m+9) 128 xs (rI xs.length) _ U.o (by omega) (by omega) (fun _ ad e=>by injection e with e;subst e;have:=N.o;show gt≠_;omega) x.o y.o HQ.o).mono ?_);rintro e w7⟨rfl,hh7,hg7⟩;obtain⟨L,HU,D,z⟩:=vU hh7;have HA:=aa hg7;clear hh7 hg7))|(refine aC (o:=⟨some 8,_,_,_,_,_⟩) (by rfl) 34 rfl _ _ aD ?_;intro w8 HC V HV)|(refine aj (o:=⟨some 43,_,_,_,_,_⟩) (by rfl) 129 (.tmp 42) rfl w1.heap.size 0 (uvs L) rfl (z.o _ V.o) uE (by rw[kn,bg,D.o.1]) ?_));have W:Hd (Below w1.heap.size w1 w7):=B.o.grown HA.o B.o.size (fun k hk=>by injection hk with hk;omega);have G:Hd (w1.heap.size<=w7.heap.size):=W.o.size;have HE:Hd (Below w1.heap.size w1 w8):=W.o.trans (V.o.mono G.o);have HF:Hd (ar w8 w7.heap.size 34 (sZ L 0)):=HC.o;clear HC V HV HA z W F C B u x U y;generalize w7.heap.size=gd at*;go_loopw[44](fun i wr=>∃k:Nat,k<=8/\i= .int .i64 k/\Hd (ar wr gd 34 (sZ L k))/\Hd (Below w1.heap.size w1 wr))(fun i _=>8-(intOf i).toNat)
   case atStart=>exact⟨0,by omega,rfl,HF.o,HE.o⟩
   case round=>
    clear HF HE;obtain⟨k,hk,rfl,A,B⟩:=hrel;obtain⟨w6,rfl⟩:∃w6,w6=wr:=⟨_,rfl⟩;by_cases hlt:k<8
    ·have hx:=xc L (i:=k) (by rw[D.o.1];exact hlt);rw[<-List.getElem?_toArray]at hx;have hdl:=sM D.o.1 hk;have c0:=A.o.cell (i:=4*k) (by rw[hdl];omega);have c1:=A.o.cell (i:=4*k+1) (by rw[hdl];omega);have c2:=A.o.cell (i:=4*k+2) (by rw[hdl];omega);have c3:=A.o.cell (i:=4*k+3) (by rw[hdl];omega);have f0:=ab.frozen A.o (4*k);have f1:=ab.frozen A.o (4*k+1);have f2:=ab.frozen A.o (4*k+2);have f3:=ab.frozen A.o (4*k+3);have hv:=D.o.2.getD k;have HW:Hd (∀a b c d:Int,a=((L.getD k 0/16777216%256:Nat):Int)->b=((L.getD k 0/65536%256:Nat):Int)->c=((L.getD k 0/256%256:Nat):Int)->d=((L.getD k 0%256:Nat):Int)->ar ((((w6.setCell ⟨gd,4*k,none⟩ (.int .u8 a)).setCell ⟨gd,4*k+1,none⟩ (.int .u8 b)).setCell ⟨gd,4*k+2,none⟩ (.int .u8 c)).setCell ⟨gd,4*k+3,none⟩ (.int .u8 d)) gd 34 (sZ L (k+1))):=by
      intro a b c d ha hb hc hd;subst ha hb hc hd;have h1:=(((A.o.set (4*k) (L.getD k 0/16777216%256)).set (4*k+1) (L.getD k 0/65536%256)).set (4*k+2) (L.getD k 0/256%256)).set (4*k+3) (L.getD k 0%256);rwa[zw D.o.1 hlt]at h1
     have T:Hd (∀a b c d:Value,Below w1.heap.size w1 ((((w6.setCell ⟨gd,4*k,none⟩ a).setCell ⟨gd,4*k+1,none⟩ b).setCell ⟨gd,4*k+2,none⟩ c).setCell ⟨gd,4*k+3,none⟩ d)):=fun a b c d=>(((B.o.setCell (by exact G.o) a).setCell (by exact G.o) b).setCell (by exact G.o) c).setCell (by exact G.o) d;generalize(sZ L k).getD (4*k) 0=z0 at*;generalize(sZ L k).getD (4*k+1) 0=z1 at*;generalize(sZ L k).getD (4*k+2) 0=z2 at*;generalize(sZ L k).getD (4*k+3) 0=z3 at*;generalize L.getD k 0=v at*;clear hdl;have hrun:=fun w=>pz (P:=Tryz.prog) (t:=129) (e:=128) w Tryz.underlying129 (by kernel_rfl) (by kernel_rfl) hlt hx;clear hx;have i0:(0:Int)<=4*(k:Int):=by omega
     have i1:(0:Int)<=4*(k:Int)+1:=by omega
     have i2:(0:Int)<=4*(k:Int)+2:=by omega
     have i3:(0:Int)<=4*(k:Int)+3:=by omega
     have j0:4*(k:Int)<32:=by omega
     have j1:4*(k:Int)+1<32:=by omega
     have j2:4*(k:Int)+2<32:=by omega
     have j3:4*(k:Int)+3<32:=by omega
     have n0:(4*(k:Int)).toNat=4*k:=by omega
     have n1:(4*(k:Int)+1).toNat=4*k+1:=by omega
     have n2:(4*(k:Int)+2).toNat=4*k+2:=by omega
     have n3:(4*(k:Int)+3).toNat=4*k+3:=by omega
     go_wp2_with fail;go_roundw
     case rel=>exact⟨k+1,by omega,by go_num,HW.o _ _ _ _ (v24 hv) (by simp) (by simp) (by simp),T.o _ _ _ _⟩
     case measure=>simp[intOf];omega
    ·have HZ:Hd (ar w6 gd 34 (kY xs)):=by
      have h1:=A.o;rwa[show k=8by omega,Cm D.o.1,HU.o]at h1
     have Ha:=aa (HZ.o.whole (iw xs) (cS xs));have Hb:Hd (ar w6 w.heap.size 34 (zs 32)):=ab.belowB HJ.o B.o (by rw[Y.o];omega);have Hc:Hd (Below w.heap.size w w6):=J.o.trans (B.o.mono (by rw[Y.o];omega));have HG:=aa (cS xs);go_wp2_with(first|(refine ac (o:=⟨some 75,_,_,_,_,_⟩) (by rfl) 34 (.tmp 8) rfl ⟨gd,0,none⟩ 32 (kY xs) rfl Ha.o (by omega) aF ag ?_)|(refine iW (o:=⟨none,_,_,_,_,_⟩) (by rfl) 34 (.tmp 2) (.tmp 75) rfl w.heap.size 32 (kY xs) (zs 32) 34 rfl rfl Hb.o ag HG.o (ak 32) w.heap.size w Hc.o (by omega) ?_;intro wf He Hf));exact bH (g:=w.heap.size) (n:=32) rfl rfl He.o HG.o aF ag rfl ⟨rfl,Hf⟩
end Go.Proofs.YtfnlhfaihoojfaaGreatDoor
