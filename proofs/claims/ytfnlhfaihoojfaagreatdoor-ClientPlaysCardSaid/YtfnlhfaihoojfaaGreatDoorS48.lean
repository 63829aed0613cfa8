/- Texts of the proof of ledgerlaw13.ClientPlays, part 48; no condition of its own. -/
import Derived.Test.YtfnlhfaihoojfaaGreatDoorS47
set_option maxRecDepth 100000
set_option maxHeartbeats 4000000
namespace Go.Proofs.YtfnlhfaihoojfaaGreatDoor
open Go.RowKit
section
variable{W:World}{gh lo n m:Nat}{X:Nat->Chg}{YS:Nat->List Nat}{v:Nat->Value}{z:Nat->Nat->Nat}{r c:Nat->Nat}
theorem HSt.chs(h:HSt W gh lo n m X YS v z r c)(hk:∀i,i<n->(X i).key.length=32/\IsB (X i).key)(hv:∀i,i<n->IsB (X i).val/\(X i).val.length+512<=140737488355328)(hn:n<=maxLen)(hr:r 0=n+4)(hc:c 0=n):∃g cap,v 0= .slice (some ⟨g,0,none⟩) (n+4) cap/\n+4<=cap/\g<W.heap.size/\fa W (some ⟨g,0,none⟩) n X:=by
 obtain⟨g,cap,e,a,b,d,f⟩:=h.cAt hk hr;refine⟨g,cap,e,a,d,hn,fun k hk'=>⟨g,0,some ⟨z 0 k,0,none⟩,(X k).val.length+80,rfl,d,?_,(hk k hk').2,(hk k hk').1,kH (h.bz hc hk') (hv k hk').1 rfl,by omega,by have:=(hv k hk').2;unfold maxLen;omega,fun e=>by cases e⟩⟩;have h1:=f k (by omega);unfold XP AdP CpP at h1;rw[if_pos hk',if_pos hk',if_pos hk']at h1;rw[Nat.zero_add];exact h1
theorem HSt.raws(h:HSt W gh lo n m X YS v z r c)(hv:∀i,i<m->IsB (YS i)/\(YS i).length+512<=140737488355328)(hr:r 1=m+4)(hc:c 1=m):∃g cap,v 1= .slice (some ⟨g,0,none⟩) (m+4) cap/\m+4<=cap/\g<W.heap.size/\nR W (some ⟨g,0,none⟩) m YS:=by
 obtain⟨g,cap,e,a,b,d,f⟩:=h.rAt hr;refine⟨g,cap,e,a,d,fun k hk=>⟨g,0,some ⟨z 1 k,0,none⟩,(YS k).length,(YS k).length+80,rfl,d,?_,kH (h.bf hc hk) (hv k hk).1 rfl,by omega,by have:=(hv k hk).2;unfold maxLen;omega,by have:=(hv k hk).2;omega,(fun e=>by cases e),fun ad e=>by injection e with e;rw[<-e];exact ab.lt (h.bf hc hk)⟩⟩;have h1:=f k (by omega);unfold uB at h1;rw[if_pos hk]at h1;rw[Nat.zero_add];exact h1
end
theorem lm.keys{w:World}{o:OpV}{n m:Nat}{Pd Pe:Option Addr}{cd ce:Nat}{X:Nat->Chg}{YS:Nat->List Nat}(h:lm w o n m Pd Pe cd ce X YS):(∀i,i<n->(X i).key.length=32/\IsB (X i).key)/\(∀i,i<n->IsB (X i).val/\(X i).val.length+512<=140737488355328)/\(∀i,i<m->IsB (YS i)/\(YS i).length+512<=140737488355328):=by
 refine⟨fun i hi=>?_,fun i hi=>?_,fun i hi=>?_⟩
 ·obtain⟨_,_,_,_,_,_,_,a,b,_⟩:=h.hX.2 i hi;exact⟨b,a⟩
 ·obtain⟨_,_,_,_,_,_,_,_,_,a,_⟩:=h.hX.2 i hi;exact⟨a.isB,h.vB i hi⟩
 ·obtain⟨_,_,_,_,_,_,_,_,a,_⟩:=h.hY i hi;exact⟨a.isB,h.yB i hi⟩
theorem oH{P:Program}{ops:Array Oper}{rest:List Oper}{o:Oper}{a:Act}{w:World}{Q:Exit->Act->World->Prop}(hw:Region.wanted o (yielded ops a.tmps)=true)(ty:TypeId)(x:Operand)(ho:o.op= .load ty x)(g off:Nat)(cs:List Value)(hx:a.eval x= .pointer (some ⟨g,off,none⟩))(hc:w.rangeAt g off cs)(hrow:(P.underlying ty).map (·.isRow)=some true)(hi:(P.info? ty).map (·.size)=some cs.length)(h:wpList P ops Q rest (a.put o.dst (.agg cs.toArray)) w):wpList P ops Q (o::rest) a w:=by
 refine wpList_step fun K hK=>?_;rw[if_pos hw];obtain⟨d,hu,hd⟩:=gq hrow;have hlv:=run_loadVar_mid (P:=P) w g off ty cs d hc hu hd hi;unfold Oper.wp execOp;simp only[ho,hx,Instr.loadAt,Instr.sureAddr,Sem.run_bind,Sem.run_pure,Result.andThen_ok,hlv];exact hK _ _ h
theorem ji(o:OpV)(n m:Nat)(Pd Pe:Option Addr)(cd ce:Nat)(X:Nat->Chg)(YS:Nat->List Nat)(gh lo:Nat)(v:Nat->Value)(z:Nat->Nat->Nat)(r c:Nat->Nat)(w:World)(h:lm w o n m Pd Pe cd ce X YS)(hs:HSt w gh lo n m X YS v z r c)(hrc:RC r c (n+4) (m+4) n m n m 4)(ht:eY w)(ht1:du w):Calls Tryz.prog 28 #[.agg #[v 0,v 1,v 2,v 3], .agg o.cs.toArray] w fun e w'=>e= .returned (.bool true)/\Below w.heap.size w w':=by
 have L:=aa h;have f:=aa hs;have g:=aa hrc;have hnm:n<=maxLen:=by have:=h.nB;unfold maxLen;omega
 obtain⟨gC,cC,eC,hC1,_,hC⟩:=hs.chs h.keys.1 h.keys.2.1 hnm hrc.1.1 hrc.2.1;obtain⟨gR,cR,eR,hR1,_,hR⟩:=hs.raws h.keys.2.2 hrc.1.2.1 hrc.2.2.1;obtain⟨E,hE⟩:∃E,uC o.wd o.root n m X YS=E:=⟨_,rfl⟩;have V:Hd (∀W,Below w.heap.size w W->Calls Tryz.prog 55 #[.int .i64 o.wd, .agg (bvs o.root).toArray, .slice (some ⟨gC,0,none⟩) n cC, .slice (some ⟨gR,0,none⟩) m cR] W fun e w'=>Below W.heap.size W w'/\∃D,e= .returned (.tuple #[.agg (bvs D).toArray, .int .i64 (E:Nat)])/\(D.length=32/\IsB D)/\Al E o.wd o.root n X YS D):=fun W hb=>(BB o.wd o.root (some ⟨gC,0,none⟩) (some ⟨gR,0,none⟩) n cC m cR X YS W h.ok.root.2 h.ok.root.1 (hC.below hb) (by omega) (by have:=h.nB;omega) (fun k hk=>by have:=h.vB k hk;omega) (hR.below hb) (by omega) (ht.below hb)).mono fun e w' hq=>by
   rw[hE]at hq;exact hq.uni h.ok.root
 have i:Hd (∀W,Below w.heap.size w W->Calls Tryz.prog 56 #[.int .i64 o.wd, .agg (bvs o.root).toArray, .slice Pd n cd, .slice Pe m ce] W fun e w'=>Below W.heap.size W w'/\∃D,e= .returned (.tuple #[.agg (bvs D).toArray, .int .i64 (E:Nat)])/\(D.length=32/\IsB D)/\Al E o.wd o.root n X YS D):=fun W hb=>(Bt o.wd o.root Pd Pe n cd m ce X YS W h.ok.root.2 h.ok.root.1 (h.hX.below hb) h.nc (by have:=h.nB;omega) (fun k hk=>by have:=h.vB k hk;omega) (h.hY.below hb) h.mc (ht1.below hb)).mono fun e w' hq=>by
   rw[hE]at hq;exact hq.uni h.ok.root
 have j:Hd (∀{D D':List Nat},Al E o.wd o.root n X YS D->Al E o.wd o.root n X YS D'->D=D'):=fun h1 h2=>h1.unique h.keys.1 hE h2;have Y:Hd (v 0= .slice (some ⟨gC,0,none⟩) (n+4) cC/\v 1= .slice (some ⟨gR,0,none⟩) (m+4) cR):=⟨eC,eR⟩;have l:=aa h.hD;have p:=aa h.hE;have hle1:(n:Int)<=(cC:Int):=by omega
 have hle2:(m:Int)<=(cR:Int):=by omega
 clear h hs hrc ht ht1 hE eC eR hC hR hC1 hR1 hnm;go_enter Tryz.func28,Tryz.ntmps28;go_upto_region 1with fail;refine bV (G:=fun w2=>Code.wp _ _ _ _ w2) fun w2 O P I q=>?_;obtain⟨g2,hg2⟩:∃g2,g2=w.heap.size:=⟨_,rfl⟩;rw[<-hg2]at O P;rw[<-hg2];have Z:Hd (ab w2 g2 72 #[v 0,v 1,v 2,v 3]):=O;have a:Hd (bp w2 (g2+1) o):=P;clear O P hg2 q;have F:Hd (∀W,Below w2.heap.size w2 W->(W.cell? ⟨g2,0,none⟩=some (.slice (some ⟨gC,0,none⟩) (n+4) cC)/\W.cell? ⟨g2,1,none⟩=some (.slice (some ⟨gR,0,none⟩) (m+4) cR))/\W.cell? ⟨g2+1,1,none⟩=some (.int .i64 o.wd)/\W.rangeAt (g2+1) 2 (bvs o.root)/\W.cell? ⟨g2+1,102,none⟩=some (.slice Pd n cd)/\W.cell? ⟨g2+1,103,none⟩=some (.slice Pe m ce)):=fun W hb=>by
  have hh:ab W g2 72 #[v 0,v 1,v 2,v 3]:=ab.below Z.o hb;have ho:bp W (g2+1) o:=ab.below a.o hb;refine⟨⟨(hh.cell 0).trans ?_,(hh.cell 1).trans ?_⟩,ho.wd,ho.root,(ho.d L.o.ok).trans ?_,(ho.e L.o.ok).trans ?_⟩
  ·show some (v 0)=_;rw[Y.o.1]
  ·show some (v 1)=_;rw[Y.o.2]
  ·rw[l.o]
  ·rw[p.o]
 go_cut[5,6]from 10(fun s5 s6 wx=>∃(B:Nat)(D:List Nat),s5= .pointer (some ⟨B,0,none⟩)/\s6= .int .i64 (E:Nat)/\Hd (Below w2.heap.size w2 wx)/\Hd (ar wx B 34 D)/\Hd (D.length=32/\IsB D)/\Hd (Al E o.wd o.root n X YS D))
 case first=>
  have hdu:=bE;have hds:(Tryz.prog.info? 34).map (·.size)=some (bvs o.root).length:=by rw[ag];simp[bvs,L.o.ok.root.1]
  have M:Hd (Below w2.heap.size w2 w2.drew):=af (Below.refl _ _) 1;refine wp_region_held_drew (S:=fun W=>(W.cell? ⟨g2,0,none⟩=some (.slice (some ⟨gC,0,none⟩) (n+4) cC)/\W.cell? ⟨g2,1,none⟩=some (.slice (some ⟨gR,0,none⟩) (m+4) cR))/\W.cell? ⟨g2+1,1,none⟩=some (.int .i64 o.wd)/\W.rangeAt (g2+1) 2 (bvs o.root)/\W.cell? ⟨g2+1,102,none⟩=some (.slice Pd n cd)/\W.cell? ⟨g2+1,103,none⟩=some (.slice Pe m ce)) (by kernel_rfl) (F.o _ M.o) fun hH=>?_;generalize w2.drew=w3 at*;refine tka 0 ?_;refine tka 1 ?_;refine tka 2 ?_;refine tkl 3 ?_;refine tka 4 ?_;refine tka 5 ?_;refine tka 6 ?_;refine tka 7 ?_;refine tka 8 ?_;refine tka 9 ?_;refine tka 10 ?_;refine tka 11 ?_;refine tka 12 ?_;refine tka 13 ?_;refine tka 14 ?_;refine tka 15 ?_;clear hH;refine wpAnyH_ready (rs:=[16,20]) (by kernel_rfl) (by simp) ?_;refine AllReadyH.cons rfl (fun K hK=>?_) (.cons rfl (fun K hK=>?_) .nil)
  ·go_simp;go_at_call 55;refine(V.o w3 (I.o.trans (M.o.mono I.o.size))).mono ?_;rintro e w4⟨hb4,D,rfl,hDF,hAD⟩;have A:=aa hDF;have N:=aa hAD;have J:=aQ M hb4;refine hK.out _ _ (F.o _ J.o) (fun hH=>?_);clear hK hb4 hDF hAD;refine tka 17 ?_;refine tka 18 ?_;refine tka 19 ?_;clear hH;refine rdy 20 fun K hK=>?_;refine dC (o:=⟨some 5,_,_,_,_,_⟩) (by rfl) 34 rfl _ _ aD ?_;intro w5 hz5 hb5 hs5;have Q:Hd (ab w5 w4.heap.size 34 (([]:List Value)++(bvs (zs 32)++[])).toArray):=hz5;have t:Hd (w2.heap.size<=w4.heap.size):=J.o.size;have C:=aQ J hb5.o;refine hK.out _ _ (F.o _ C.o) (fun hH=>?_);clear hK hH;refine rdy 21 fun K hK=>?_;refine aA (o:=⟨none,_,_,_,_,_⟩) (by rfl) 34 (.tmp 5) (.tmp 27) rfl 0 [] (bvs (zs 32)) (bvs D) [] rfl rfl Q.o rfl (by simp[bvs,zs,A.o.1]) (by rw[ag];simp[bvs,A.o.1]) (ah _) ?_;intro w6 hz6 hg6;have H:Hd (Below w2.heap.size w2 w6):=C.o.grown hg6 C.o.size fun k hk=>by injection hk with hk;have:=t.o;omega
   have R:Hd (ar w6 w4.heap.size 34 D):=by
    have h1:=hz6;rw[List.append_nil,List.nil_append]at h1;exact h1
   refine hK.out _ _ (F.o _ H.o) (fun hH=>?_);clear hK;refine tka 22 ?_;refine bN ?_;go_wp2_with fail;go_meet
   case rel=>exact⟨w4.heap.size,D,rfl,rfl,H.o,R.o,A.o,N.o⟩
  ·refine dC (o:=⟨some 5,_,_,_,_,_⟩) (by rfl) 34 rfl _ _ aD ?_;intro w4 hz4 hb4 hs4;have u:Hd (ab w4 w3.heap.size 34 (([]:List Value)++(bvs (zs 32)++[])).toArray):=hz4;have x:Hd (w2.heap.size<=w3.heap.size):=M.o.size;have J:=aQ M hb4.o;refine hK.out _ _ (F.o _ J.o) (fun hH=>?_);clear hK hH;refine rdy 16 fun K hK=>?_;go_simp;go_at_call 55;refine(V.o w4 (I.o.trans (J.o.mono I.o.size))).mono ?_;rintro e w5⟨hb5,D,rfl,hDF,hAD⟩;have A:=aa hDF;have N:=aa hAD;have C:=aQ J hb5;have Q:Hd (ab w5 w3.heap.size 34 (([]:List Value)++(bvs (zs 32)++[])).toArray):=ab.below u.o hb5;refine hK.out _ _ (F.o _ C.o) (fun hH=>?_);clear hK hb5 hDF hAD;refine tka 17 ?_;refine tka 18 ?_;refine tka 19 ?_;clear hH;refine rdy 21 fun K hK=>?_;refine aA (o:=⟨none,_,_,_,_,_⟩) (by rfl) 34 (.tmp 5) (.tmp 27) rfl 0 [] (bvs (zs 32)) (bvs D) [] rfl rfl Q.o rfl (by simp[bvs,zs,A.o.1]) (by rw[ag];simp[bvs,A.o.1]) (ah _) ?_;intro w6 hz6 hg6;have H:Hd (Below w2.heap.size w2 w6):=C.o.grown hg6 C.o.size fun k hk=>by injection hk with hk;have:=x.o;omega
   have R:Hd (ar w6 w3.heap.size 34 D):=by
    have h1:=hz6;rw[List.append_nil,List.nil_append]at h1;exact h1
   refine hK.out _ _ (F.o _ H.o) (fun hH=>?_);clear hK;refine tka 22 ?_;refine bN ?_;go_wp2_with fail;go_meet
   case rel=>exact⟨w3.heap.size,D,rfl,rfl,H.o,R.o,A.o,N.o⟩
 case rest=>
  obtain⟨B,D,rfl,rfl,C,y,A,N⟩:=hcut;have hss:=F.o _ C.o;have q1:=hss.2.1;have q2:=hss.2.2.2.1;have q3:=hss.2.2.2.2;have HA:=aa hss.2.2.1;clear hss;go_wp2_with((with_reducible refine atS 33 ?_);refine aj (by rfl) 34 (.tmp 32) rfl (g2+1) 2 (bvs o.root) rfl HA.o (by kernel_rfl) (by rw[ag];simp[bvs,L.o.ok.root.1]) ?_;(try simp only[Act.put,LS]));refine(i.o wc (I.o.trans (C.o.mono I.o.size))).mono ?_;rintro e w6⟨hb6,D',rfl,_,hAD⟩;obtain rfl:=j.o N.o hAD;have H:=aQ C hb6;have HB:=dA y hb6;clear hb6 hAD q1 q2 q3;have heq:∀w:World,(Op.equalIn 10000 34 (.agg (bvs D).toArray) (.agg (bvs D).toArray)).run Tryz.prog w= .ok true w:=fun w=>by
   have h:=fP w A.o.2 A.o.2 A.o.1 A.o.1;rwa[decide_eq_true rfl]at h
  go_wp2_with(first|((with_reducible refine atS 7 ?_);refine dU (s:=⟨none,_,_,_,_,_⟩) (by rfl) (by rfl) 34 rfl (.tmp 7) (.tmp 39) rfl (bvs (zs 32)) (bvs D) 32 aD rfl (by simp[bvs,A.o.1]) rfl rfl (ah _) ?_;intro w7 HC b HJ;(try simp only[Act.put,LS]);have HE:Hd (ar w7 B 34 D):=ab.below HB.o b.o;have T:Hd (Below w2.heap.size w2 w7):=H.o.trans (b.o.mono H.o.size);have HF:Hd (ab w7 g2 72 #[v 0,v 1,v 2,v 3]):=ab.below Z.o T.o;have HG:Hd (bp w7 (g2+1) o):=ab.below a.o T.o)|((with_reducible refine atS 41 ?_);refine ac (by rfl) 34 (.tmp 5) rfl ⟨B,0,none⟩ 32 D rfl (HE.o.whole A.o.2 A.o.1) (by omega) (by kernel_rfl) (by kernel_rfl) ?_;(try simp only[Act.put,LS]))|((with_reducible refine atS 42 ?_);refine ac (by rfl) 34 (.tmp 7) rfl ⟨w6.heap.size,0,none⟩ 32 D rfl (ar.whole HC.o A.o.2 A.o.1) (by omega) (by kernel_rfl) (by kernel_rfl) ?_;(try simp only[Act.put,LS]))|((with_reducible refine atS 50 ?_);refine oH (by rfl) 72 (.tmp 2) rfl g2 0 [v 0,v 1,v 2,v 3] rfl (ab.range HF.o) nO mC ?_;(try simp only[Act.put,LS]))|((with_reducible refine atS 51 ?_);refine oH (by rfl) 42 (.tmp 3) rfl (g2+1) 0 o.cs rfl HG.o.all ic (by rw[fe,OpV.len L.o.ok]) ?_;(try simp only[Act.put,LS])));have U:=aQ I T.o;refine(yh o n m Pd Pe cd ce X YS gh lo v z r c w7 (L.o.below U.o) (HdI.below f.o U.o) g.o).mono ?_;rintro e w8⟨rfl,hb8⟩;have HH:=aQ U hb8;clear hb8;go_wp2_with fail;go_ret;exact⟨rfl,HH.o⟩
def Chg.keyed(x:Chg)(ks:List Nat):Chg:={x with key:=ks}
def Dq(ks:List Nat):List Nat:=ks.set 31 (ks.getD 31 0^^^1)
def turnC(x:Chg):Chg:=⟨Dq x.key,x.del,cj x.val⟩
theorem jY{ks:List Nat}(h:ks.length=32/\IsB ks):(Dq ks).length=32/\IsB (Dq ks):=by
 refine⟨by simp[Dq,h.1],fun x hx=>?_⟩;unfold Dq at hx;rcases List.mem_or_eq_of_mem_set hx with h1|h1
 ·exact h.2 x h1
 ·rw[h1];exact rO (h.2 _ (bL (by rw[h.1];omega))) (by omega)
section
variable{w W W':World}{base n c g f sz:Nat}{e:TypeId}{xs ys:List Value}
theorem tM(hown:W.ownsRow base e sz (.slice (some ⟨g,0,none⟩) n c) n xs)(hf:f+ys.length<=xs.length):∃X Y Z:List Value,ab W g e (X++(Y++Z)).toArray/\X.length=f/\Y.length=ys.length/\∀W',ab W' g e (X++(ys++Z)).toArray->W'.ownsRow base e sz (.slice (some ⟨g,0,none⟩) n c) n (xs.take f++(ys++xs.drop (f+ys.length))):=by
 rcases hown.2with⟨h0,_⟩|⟨g',cap,cur,h0,hb,hg,hnc,hcm,hs,htk⟩
 ·cases h0
 ·injection h0 with h0 _ h0c;injection h0 with h0;injection h0 with h0;subst h0 h0c;have hcs:n*sz<=c*sz:=Nat.mul_le_mul_right _ hnc;have hsz:cur.toList.length=c*sz:=by rw[Array.length_toList,hs]
  have hxl:=hown.1;have hcur:(cur.toList.take f++((cur.toList.drop f).take ys.length++cur.toList.drop (f+ys.length))).toArray=cur:=by
   rw[<-List.drop_drop,List.take_append_drop,List.take_append_drop]
  refine⟨cur.toList.take f,(cur.toList.drop f).take ys.length,cur.toList.drop (f+ys.length),by rw[hcur];exact hg,by rw[List.length_take];omega,by rw[List.length_take,List.length_drop];omega,fun W' hb'=>⟨?_, .inr ⟨g,c,_,rfl,hb,hb',hnc,hcm,?_,?_⟩⟩⟩
  ·simp only[List.length_append,List.length_take,List.length_drop];omega
  ·simp only[List.size_toArray,List.length_append,List.length_take,List.length_drop,hsz];omega
  ·rw[<-htk,List.take_take,Nat.min_eq_left (by omega),List.drop_take,tF (a:=f) (s:=ys.length) (by rw[List.length_take];omega) rfl (by omega)]
end
theorem ze{X:Nat->Chg}{Ad:Nat->Option Addr}{Cp:Nat->Nat}{N i:Nat}{ks:List Nat}(hk:∀j,j<N->(X j).key.length=32)(hks:ks.length=32)(hi:i<N):(dR X Ad Cp N).take (i*34)++(bvs ks++(dR X Ad Cp N).drop (i*34+32))=dR (upd X i ((X i).keyed ks)) Ad Cp N:=by
 have hl:=eA (Ad:=Ad) (Cp:=Cp) hk;have hk':∀j,j<N->(upd X i ((X i).keyed ks) j).key.length=32:=fun j hj=>by
  by_cases e:j=i
  ·rw[e,az];exact hks
  ·rw[au _ _ e];exact hk j hj
 have hl':=eA (Ad:=Ad) (Cp:=Cp) hk';have hbl:(bvs ks).length=32:=by rw[fR,hks]
 have hiN:i*34+34<=N*34:=by omega
 apply List.ext_getElem?;intro t;by_cases htN:t<N*34
 ·obtain⟨a,b,hab,hb⟩:∃a b,t=a*34+b/\b<34:=⟨t/34,t%34,by omega,by omega⟩;have ha:a<N:=by omega
  rw[hab,iz hk' ha hb];by_cases h1:a*34+b<i*34
  ·rw[List.getElem?_append_left (by rw[List.length_take];omega),List.getElem?_take,if_pos h1,iz hk ha hb,au _ _ (by omega)]
  ·rw[List.getElem?_append_right (by rw[List.length_take];omega),List.length_take,Nat.min_eq_left (by omega)];by_cases h2:a*34+b-i*34<32
   ·have hai:a=i:=by omega
    subst hai;have hb32:b<32:=by omega
    rw[List.getElem?_append_left (by omega),az,show a*34+b-a*34=b by omega];unfold chC Chg.keyed;rw[List.getElem?_append_left (by rw[fR];dsimp only;omega)]
   ·rw[List.getElem?_append_right (by omega),hbl,List.getElem?_drop,show i*34+32+(a*34+b-i*34-32)=a*34+b by omega,iz hk ha hb];by_cases hai:a=i
    ·subst hai;rw[az];have hkl:=hk a ha;unfold chC Chg.keyed;rw[List.getElem?_append_right (by rw[fR];omega),List.getElem?_append_right (by rw[fR];dsimp only;omega),fR,fR,hkl];dsimp only;rw[hks]
    ·rw[au _ _ hai]
 ·rw[List.getElem?_eq_none (by simp only[List.length_append,List.length_take,List.length_drop];omega),List.getElem?_eq_none (by omega)]
section
variable{W W':World}{gh lo n m i:Nat}{X Y:Nat->Chg}{YS:Nat->List Nat}{v:Nat->Value}{z:Nat->Nat->Nat}{r c:Nat->Nat}{ys:List Nat}
theorem HSt.congrX(h:HSt W gh lo n m X YS v z r c)(hc:c 0<=n)(hr:r 2<=n)(hx:∀k,k<n->X k=Y k):HSt W gh lo n m Y YS v z r c:=by
 refine HdI.congr h (fun j hj=>?_) fun a k _ hk=>⟨rfl,?_⟩
 ·unfold xS;by_cases h0:j=0
  ·rw[if_pos h0,if_pos h0];refine eo fun k _=>?_;unfold XP CpP;by_cases hk:k<n
   ·rw[if_pos hk,if_pos hk,if_pos hk,if_pos hk,hx k hk];exact⟨rfl,rfl,rfl⟩
   ·rw[if_neg hk,if_neg hk,if_neg hk,if_neg hk];exact⟨rfl,rfl,rfl⟩
  rw[if_neg h0,if_neg h0];by_cases h1:j=1
  ·rw[if_pos h1,if_pos h1]
  rw[if_neg h1,if_neg h1];by_cases h2:j=2
  ·rw[if_pos h2,if_pos h2];refine List.map_congr_left fun k hk=>?_;unfold zZ;rw[hx k (by have:=List.mem_range.1 hk;omega)]
  ·rw[if_neg h2,if_neg h2]
 ·unfold bS;by_cases h0:a=0
  ·subst h0;rw[if_pos rfl,if_pos rfl,hx k (by omega)]
  ·rw[if_neg h0,if_neg h0]
theorem HSt.congrY{ZS:Nat->List Nat}(h:HSt W gh lo n m X YS v z r c)(hc:c 1<=m)(hr:r 3<=m)(hx:∀k,k<m->YS k=ZS k):HSt W gh lo n m X ZS v z r c:=by
 refine HdI.congr h (fun j hj=>?_) fun a k _ hk=>⟨rfl,?_⟩
 ·unfold xS;by_cases h0:j=0
  ·rw[if_pos h0,if_pos h0]
  rw[if_neg h0,if_neg h0];by_cases h1:j=1
  ·rw[if_pos h1,if_pos h1];refine List.map_congr_left fun k _=>?_;unfold uB;by_cases hk:k<m
   ·rw[if_pos hk,if_pos hk,hx k hk]
   ·rw[if_neg hk,if_neg hk]
  rw[if_neg h1,if_neg h1];by_cases h2:j=2
  ·rw[if_pos h2,if_pos h2]
  ·rw[if_neg h2,if_neg h2];refine List.map_congr_left fun k hk=>?_;unfold C2;rw[hx k (by have:=List.mem_range.1 hk;omega)]
 ·unfold bS;by_cases h0:a=0
  ·rw[if_pos h0,if_pos h0]
  ·rw[if_neg h0,if_neg h0];by_cases h1:a=1
   ·subst h1;rw[if_pos rfl,if_pos rfl,hx k (by omega)]
   ·rw[if_neg h1,if_neg h1]
theorem HSt.turnC(h:HSt W gh lo n m X YS v z r c)(hi:i<c 0)(hl:ys.length=(X i).val.length)(ht:ae (fun B=>B=z 0 i) W W')(hb:ar W' (z 0 i) 5 (ys++m80)):HSt W' gh lo n m (upd X i ((X i).with ys)) YS v z r c:=by
 have h1:=HdI.set h (a:=0) (by omega) hi ht hb;have hlen:∀k,(upd X i ((X i).with ys) k).val.length=(X k).val.length:=fun k=>by
  by_cases e:k=i
  ·rw[e,az,gB,hl]
  ·rw[au _ _ e]
 have hkd:∀k,(upd X i ((X i).with ys) k).key=(X k).key/\(upd X i ((X i).with ys) k).del=(X k).del:=fun k=>by
  by_cases e:k=i
  ·rw[e,az];exact⟨rfl,rfl⟩
  ·rw[au _ _ e];exact⟨rfl,rfl⟩
 refine HdI.congr h1 (fun j hj=>?_) fun a k _ _=>⟨rfl,?_⟩
 ·unfold xS;by_cases h0:j=0
  ·rw[if_pos h0,if_pos h0];have hcell:∀N,dR (XP n X) (AdP n z) (CpP n X) N=dR (XP n (upd X i ((X i).with ys))) (AdP n z) (CpP n (upd X i ((X i).with ys))) N:=fun N=>by
    induction N with
    |zero=>rfl
    |succ N ih=>
     rw[dR,dR,ih];congr 1;unfold XP CpP;by_cases hk:N<n
     ·rw[if_pos hk,if_pos hk,if_pos hk,if_pos hk,hlen N];unfold chC;rw[(hkd N).1,(hkd N).2,hlen N]
     ·rw[if_neg hk,if_neg hk,if_neg hk,if_neg hk]
   exact hcell _
  rw[if_neg h0,if_neg h0];by_cases h1:j=1
  ·rw[if_pos h1,if_pos h1]
  rw[if_neg h1,if_neg h1];by_cases h2:j=2
  ·rw[if_pos h2,if_pos h2];refine List.map_congr_left fun k _=>?_;unfold zZ;rw[hlen k]
  ·rw[if_neg h2,if_neg h2]
 ·by_cases e:a=0/\k=i
  ·obtain⟨rfl,rfl⟩:=e;rw[ei];unfold bS;rw[if_pos rfl,az,gB]
  ·rw[ev _ _ e];unfold bS;by_cases h0:a=0
   ·rw[if_pos h0,if_pos h0,au _ _ fun e2=>e ⟨h0,e2⟩]
   ·rw[if_neg h0,if_neg h0]
theorem HSt.turnR(h:HSt W gh lo n m X YS v z r c)(hi:i<c 1)(hl:ys.length=(YS i).length)(ht:ae (fun B=>B=z 1 i) W W')(hb:ar W' (z 1 i) 5 (ys++m80)):HSt W' gh lo n m X (upd YS i ys) v z r c:=by
 have h1:=HdI.set h (a:=1) (by omega) hi ht hb;have hlen:∀k,(upd YS i ys k).length=(YS k).length:=fun k=>by
  by_cases e:k=i
  ·rw[e,az,hl]
  ·rw[au _ _ e]
 refine HdI.congr h1 (fun j hj=>?_) fun a k _ _=>⟨rfl,?_⟩
 ·unfold xS;by_cases h0:j=0
  ·rw[if_pos h0,if_pos h0]
  rw[if_neg h0,if_neg h0];by_cases h1:j=1
  ·rw[if_pos h1,if_pos h1];refine List.map_congr_left fun k _=>?_;unfold uB;rw[hlen k]
  rw[if_neg h1,if_neg h1];by_cases h2:j=2
  ·rw[if_pos h2,if_pos h2]
  ·rw[if_neg h2,if_neg h2];refine List.map_congr_left fun k _=>?_;unfold C2;rw[hlen k]
 ·by_cases e:a=1/\k=i
  ·obtain⟨rfl,rfl⟩:=e;rw[ei];unfold bS;rw[if_neg (by omega),if_pos rfl,az]
  ·rw[ev _ _ e];unfold bS;by_cases h0:a=0
   ·rw[if_pos h0,if_pos h0]
   ·rw[if_neg h0,if_neg h0];by_cases h1:a=1
    ·rw[if_pos h1,if_pos h1,au _ _ fun e2=>e ⟨h1,e2⟩]
    ·rw[if_neg h1,if_neg h1]
theorem HSt.keyC(h:HSt W gh lo n m X YS v z r c){g cap:Nat}{ks:List Nat}(hk:∀j,j<n->(X j).key.length=32/\IsB (X j).key)(hks:ks.length=32)(hv:v 0= .slice (some ⟨g,0,none⟩) (n+4) cap)(hr:r 0=n+4)(hi:i<n)(ht:ae (fun B=>B=g) W W')(ho:W'.ownsRow lo 39 34 (.slice (some ⟨g,0,none⟩) (n+4) cap) (n+4) ((xS n m X YS z r 0).take (i*34)++(bvs ks++(xS n m X YS z r 0).drop (i*34+32)))):HSt W' gh lo n m (upd X i ((X i).keyed ks)) YS v z r c:=by
 have h1:=HdI.rowSet h (j:=0) (g:=g) (by omega) (by rw[hv];rfl) ht (xs:=(xS n m X YS z r 0).take (i*34)++(bvs ks++(xS n m X YS z r 0).drop (i*34+32))) (by rw[hv,hr];exact ho);have hval:∀k,(upd X i ((X i).keyed ks) k).val=(X k).val:=fun k=>by
  by_cases e:k=i
  ·rw[e,az];rfl
  ·rw[au _ _ e]
 refine HdI.congr h1 (fun j hj=>?_) fun a k _ _=>⟨rfl,?_⟩
 ·by_cases h0:j=0
  ·subst h0;rw[az];have e1:xS n m X YS z r 0=dR (XP n X) (AdP n z) (CpP n X) (n+4):=by
    unfold xS;rw[if_pos rfl,hr]
   rw[e1,ze (fun j _=>(xo hk j).1) hks (by omega)];unfold xS;rw[if_pos rfl,hr];refine eo fun k _=>⟨?_,rfl,?_⟩
   ·unfold XP;by_cases e:k=i
    ·rw[e,az,if_pos hi,if_pos hi,az]
    ·rw[au _ _ e];by_cases hk:k<n
     ·rw[if_pos hk,if_pos hk,au _ _ e]
     ·rw[if_neg hk,if_neg hk]
   ·unfold CpP;rw[hval k]
  ·rw[au _ _ h0];unfold xS;rw[if_neg h0,if_neg h0];by_cases h1:j=1
   ·rw[if_pos h1,if_pos h1]
   rw[if_neg h1,if_neg h1];by_cases h2:j=2
   ·rw[if_pos h2,if_pos h2];refine List.map_congr_left fun k _=>?_;unfold zZ;rw[hval k]
   ·rw[if_neg h2,if_neg h2]
 ·unfold bS;by_cases h0:a=0
  ·rw[if_pos h0,if_pos h0,hval k]
  ·rw[if_neg h0,if_neg h0]
end
def Dn(Y':Nat->List Nat)(Ar:Nat->Option Addr)(Cr:Nat->Nat)(j:Nat):List Value:=(List.range j).map fun k=> .slice (Ar k) (Y' k).length (Cr k)
structure PQ(W:World)(M i j:Nat)(vD vE:Value)(X':Nat->Chg)(Y':Nat->List Nat)(Aq Ar:Nat->Option Addr)(Cq Cr:Nat->Nat):Prop where
 rD:W.ownsRow M 39 34 vD i (dR X' Aq Cq i)
 rE:W.ownsRow M 36 1 vE j (Dn Y' Ar Cr j)
 lD:∀k,k<i->bn W M (.slice (Aq k) (X' k).val.length (Cq k)) (X' k).val
 lE:∀k,k<j->bn W M (.slice (Ar k) (Y' k).length (Cr k)) (Y' k)
 aDE:cM vD vE
 aDD:∀k,k<i->cM vD (.slice (Aq k) (X' k).val.length (Cq k))
 aDr:∀k,k<j->cM vD (.slice (Ar k) (Y' k).length (Cr k))
 aED:∀k,k<i->cM vE (.slice (Aq k) (X' k).val.length (Cq k))
 aEr:∀k,k<j->cM vE (.slice (Ar k) (Y' k).length (Cr k))
section
variable{w W W1 W':World}{M i j n m:Nat}{vD vE v':Value}{X':Nat->Chg}{Y':Nat->List Nat}{Aq Ar:Nat->Option Addr}{Cq Cr:Nat->Nat}{V:Nat->Prop}
theorem PQ.nil(W:World)(M:Nat)(X':Nat->Chg)(Y':Nat->List Nat):PQ W M 0 0 (.slice none 0 0) (.slice none 0 0) X' Y' (fun _=>none) (fun _=>none) (fun _=>0) (fun _=>0):=⟨World.ownsRow_nil _ _ _ _,World.ownsRow_nil _ _ _ _,fun _ h=>by omega,fun _ h=>by omega,kR _ _ _,fun _ h=>by omega,fun _ h=>by omega,fun _ h=>by omega,fun _ h=>by omega⟩
theorem PQ.touch(h:PQ W M i j vD vE X' Y' Aq Ar Cq Cr)(ht:ae V W W')(hd:∀B,V B->B<M∨W.heap.size<=B∨(vD.ownBlock≠some B/\vE.ownBlock≠some B/\(∀k,k<i->(Value.slice (Aq k) (X' k).val.length (Cq k)).ownBlock≠some B)/\∀k,k<j->(Value.slice (Ar k) (Y' k).length (Cr k)).ownBlock≠some B)):PQ W' M i j vD vE X' Y' Aq Ar Cq Cr:={h with
  rD:=ht.row h.rD fun B hB hV=>by
   have h1:=h.rD.lt B hB;rcases hd B hV with k|k|k
   ·omega
   ·omega
   ·exact k.1 hB
  rE:=ht.row h.rE fun B hB hV=>by
   have h1:=h.rE.lt B hB;rcases hd B hV with k|k|k
   ·omega
   ·omega
   ·exact k.2.1 hB
  lD:=fun q hq=>ht.own (h.lD q hq) fun B hB hV=>by
   have h1:=(h.lD q hq).lt B hB;rcases hd B hV with k|k|k
   ·omega
   ·omega
   ·exact k.2.2.1 q hq hB
  lE:=fun q hq=>ht.own (h.lE q hq) fun B hB hV=>by
   have h1:=(h.lE q hq).lt B hB;rcases hd B hV with k|k|k
   ·omega
   ·omega
   ·exact k.2.2.2 q hq hB}
theorem PQ.below(h:PQ W M i j vD vE X' Y' Aq Ar Cq Cr)(hb:Below W.heap.size W W'):PQ W' M i j vD vE X' Y' Aq Ar Cq Cr:=h.touch (ae.ofBelow hb) fun _ h=>h.elim
theorem PQ.low(h:PQ W M i j vD vE X' Y' Aq Ar Cq Cr)(ht:ae V W W')(hd:∀B,V B->B<M):PQ W' M i j vD vE X' Y' Aq Ar Cq Cr:=h.touch ht fun B hB=> .inl (hd B hB)
theorem PQ.moreD(h:PQ W M i j vD vE X' Y' Aq Ar Cq Cr){A:Option Addr}{C:Nat}(hl:bn W M (.slice A (X' i).val.length C) (X' i).val)(h1:cM vD (.slice A (X' i).val.length C))(h2:cM vE (.slice A (X' i).val.length C))(ho:W1.ownsRow M 39 34 v' (i+1) (dR X' Aq Cq i++chC (X' i) A C))(hg:W.grownBy W1 vD.ownBlock)(hli:iT W vD v'):PQ W1 M (i+1) j v' vE X' Y' (upd Aq i A) Ar (upd Cq i C) Cr:=by
 have ht:=ae.grown hg;have oE:=h.rE.lt;have keep:∀k,k<i->bn W1 M (.slice (Aq k) (X' k).val.length (Cq k)) (X' k).val:=fun k hk=>ht.own (h.lD k hk) fun B hB e=>h.aDD k hk B e.symm hB;refine⟨?_,ht.row h.rE fun B hB e=>h.aDE B e.symm hB,fun k hk=>?_,fun k hk=>ht.own (h.lE k hk) fun B hB e=>h.aDr k hk B e.symm hB,da h.aDE hli fun B hB=>(oE B hB).2,fun k hk=>?_,fun k hk=>da (h.aDr k hk) hli fun B hB=>((h.lE k hk).lt B hB).2,fun k hk=>?_,h.aEr⟩
 ·have e:dR X' Aq Cq i++chC (X' i) A C=dR X' (upd Aq i A) (upd Cq i C) (i+1):=by
   rw[dR,az,az,eo (X':=X') (Ad':=upd Aq i A) (Cp':=upd Cq i C) fun k hk=>⟨rfl,(au _ _ (by omega)).symm,(au _ _ (by omega)).symm⟩]
  rw[e]at ho;exact ho
 ·by_cases q:k=i
  ·subst q;rw[az,az];exact ht.own hl fun B hB e=>h1 B e.symm hB
  ·rw[au _ _ q,au _ _ q];exact keep k (by omega)
 ·by_cases q:k=i
  ·subst q;rw[az,az];exact da h1 hli fun B hB=>(hl.lt B hB).2
  ·rw[au _ _ q,au _ _ q];exact da (h.aDD k (by omega)) hli fun B hB=>((h.lD k (by omega)).lt B hB).2
 ·by_cases q:k=i
  ·subst q;rw[az,az];exact h2
  ·rw[au _ _ q,au _ _ q];exact h.aED k (by omega)
theorem PQ.moreE(h:PQ W M i j vD vE X' Y' Aq Ar Cq Cr){A:Option Addr}{C:Nat}(hl:bn W M (.slice A (Y' j).length C) (Y' j))(h1:cM vD (.slice A (Y' j).length C))(h2:cM vE (.slice A (Y' j).length C))(ho:W1.ownsRow M 36 1 v' (j+1) (Dn Y' Ar Cr j++[.slice A (Y' j).length C]))(hg:W.grownBy W1 vE.ownBlock)(hli:iT W vE v'):PQ W1 M i (j+1) vD v' X' Y' Aq (upd Ar j A) Cq (upd Cr j C):=by
 have ht:=ae.grown hg;have oD:=h.rD.lt;refine⟨ht.row h.rD fun B hB e=>h.aDE B hB e.symm,?_,fun k hk=>ht.own (h.lD k hk) fun B hB e=>h.aED k hk B e.symm hB,fun k hk=>?_,(da h.aDE.symm' hli fun B hB=>(oD B hB).2).symm',h.aDD,fun k hk=>?_,fun k hk=>da (h.aED k hk) hli fun B hB=>((h.lD k hk).lt B hB).2,fun k hk=>?_⟩
 ·have e:Dn Y' Ar Cr j++[.slice A (Y' j).length C]=Dn Y' (upd Ar j A) (upd Cr j C) (j+1):=by
   unfold Dn;rw[List.range_succ,List.map_append,List.map_singleton,az,az];congr 1;refine List.map_congr_left fun k hk=>?_;have:=List.mem_range.1 hk;rw[au _ _ (by omega),au _ _ (by omega)]
  rw[e]at ho;exact ho
 ·by_cases q:k=j
  ·subst q;rw[az,az];exact ht.own hl fun B hB e=>h2 B e.symm hB
  ·rw[au _ _ q,au _ _ q];exact ht.own (h.lE k (by omega)) fun B hB e=>h.aEr k (by omega) B e.symm hB
 ·by_cases q:k=j
  ·subst q;rw[az,az];exact h1
  ·rw[au _ _ q,au _ _ q];exact h.aDr k (by omega)
 ·by_cases q:k=j
  ·subst q;rw[az,az];exact da h2 hli fun B hB=>(hl.lt B hB).2
  ·rw[au _ _ q,au _ _ q];exact da (h.aEr k (by omega)) hli fun B hB=>((h.lE k (by omega)).lt B hB).2
theorem PQ.fresh(h:PQ W M i j vD vE X' Y' Aq Ar Cq Cr){u:Value}(hu:∀B,u.ownBlock=some B->W.heap.size<=B):cM vD u/\cM vE u:=⟨fun B hB hB'=>by have:=(h.rD.lt B hB).2;have:=hu B hB';omega,fun B hB hB'=>by have:=(h.rE.lt B hB).2;have:=hu B hB';omega⟩
end
section
variable{o:OpV}{w:World}{g:Nat}
theorem bp.setD(h:bp w g o)(ok:o.Ok)(u:Value):bp (w.setCell ⟨g,102,none⟩ u) g {o with D:=u}:=by
 have h1:=ab.stored h 102 u;rw[List.setIfInBounds_toArray,OpV.cs_D,lr _ _ _ _ (by rw[List.length_append,OpV.p3_len ok,am ok.xk.1])]at h1;have h2:({o with D:=u}:OpV).cs=(o.p3++chC o.x o.Av o.Cv)++([u]++[o.E]):=OpV.cs_D (o:={o with D:=u});show ab _ _ _ _;rw[h2];exact h1
theorem bp.setE(h:bp w g o)(ok:o.Ok)(u:Value):bp (w.setCell ⟨g,103,none⟩ u) g {o with E:=u}:=by
 have h1:=ab.stored h 103 u;rw[List.setIfInBounds_toArray,OpV.cs_E,lr _ _ _ _ (by rw[List.length_append,List.length_append,OpV.p3_len ok,am ok.xk.1];rfl)]at h1;have h2:({o with E:=u}:OpV).cs=(o.p3++chC o.x o.Av o.Cv++[o.D])++([u]++[]):=OpV.cs_E (o:={o with E:=u});show ab _ _ _ _;rw[h2];exact h1
def OpV.lists(o:OpV)(D E:Value):OpV:={o with D:=D,E:=E}
theorem OpV.Ok.lists{o:OpV}(h:o.Ok){D E:Value}(hD:D.oneCell'=true)(hE:E.oneCell'=true):(o.lists D E).Ok:=⟨h.root,h.key,h.xk,h.one.1,h.one.2.1,hD,hE⟩
theorem bp.listD{D E:Value}(h:bp w g (o.lists D E))(ok:(o.lists D E).Ok)(u:Value):bp (w.setCell ⟨g,102,none⟩ u) g (o.lists u E):=h.setD ok u
theorem bp.listE{D E:Value}(h:bp w g (o.lists D E))(ok:(o.lists D E).Ok)(u:Value):bp (w.setCell ⟨g,103,none⟩ u) g (o.lists D u):=h.setE ok u
end
section
variable{W w:World}{M n m t cd ce cD cE:Nat}{vD vE:Value}{X':Nat->Chg}{Y':Nat->List Nat}{Aq Ar:Nat->Option Addr}{Cq Cr:Nat->Nat}
theorem PQ.atD(hp:PQ W M n m vD vE X' Y' Aq Ar Cq Cr)(ht:t<n)(hk:∀i,i<n->(X' i).key.length=32):∃g cap,vD= .slice (some ⟨g,0,none⟩) n cap/\n<=cap/\g<W.heap.size/\M<=g/\W.rangeAt g (t*34) (chC (X' t) (Aq t) (Cq t)):=by
 obtain⟨g,cap,e,h1,h2,h3,f⟩:=ii hp.rD (by omega);refine⟨g,cap,e,h1,h3,(hp.rD.lt g (by rw[e];rfl)).1,fun j y hj=>f _ y ?_⟩;have hj34:j<34:=by
  have:=(List.getElem?_eq_some_iff.1 hj).1;rwa[am (hk t ht)]at this
 rw[iz hk ht hj34];exact hj
theorem PQ.atE(hp:PQ W M n m vD vE X' Y' Aq Ar Cq Cr)(ht:t<m):∃g cap,vE= .slice (some ⟨g,0,none⟩) m cap/\m<=cap/\g<W.heap.size/\M<=g/\W.cell? ⟨g,t,none⟩=some (.slice (Ar t) (Y' t).length (Cr t)):=by
 obtain⟨g,cap,e,h1,h2,h3,f⟩:=ii hp.rE (by omega);refine⟨g,cap,e,h1,h3,(hp.rE.lt g (by rw[e];rfl)).1,f _ _ ?_⟩;unfold Dn;rw[List.getElem?_map,List.getElem?_range ht];rfl
theorem kI{A:Option Addr}{xs:List Nat}{C:Nat}(h:bn W M (.slice A xs.length C) xs):RB W A xs.length xs/\xs.length<=C/\C<=maxLen/\(A=none->C=0)/\∀ad,A=some ad->M<=ad.block/\ad.block<W.heap.size:=by
 obtain⟨A1,c1,e1,h1,h2,_⟩:=h.form;injection e1 with e1 _ e3;obtain⟨A2,c2,e2,_,h5,_⟩:=aP h.1;injection e2 with _ _ e4;refine⟨h.reads,h.room,by rw[e4];exact h5,h.reads'.2.2.2,fun ad e=>h2 ad (by rw[<-e1,e])⟩
theorem PQ.allIn{o:OpV}{Pd Pe AD AE:Option Addr}{X:Nat->Chg}{YS:Nat->List Nat}(h:lm w o n m Pd Pe cd ce X YS)(hk:∀i,i<n->(X i).key.length=32/\IsB (X i).key)(hp:PQ W M n m (.slice AD n cD) (.slice AE m cE) (fun k=>turnC (X k)) (fun k=>cj (YS k)) Aq Ar Cq Cr):lm W (o.lists (.slice AD n cD) (.slice AE m cE)) n m AD AE cD cE (fun k=>turnC (X k)) (fun k=>cj (YS k)):=by
 have hkt:∀i,i<n->(turnC (X i)).key.length=32/\IsB (turnC (X i)).key:=fun i hi=>jY (hk i hi);obtain⟨A1,c1,e1,hn,_⟩:=aP hp.rD;obtain⟨A2,c2,e2,hm,_⟩:=aP hp.rE;injection e1 with _ _ e1;injection e2 with _ _ e2;refine⟨h.ok.lists rfl rfl,rfl,rfl,⟨h.hX.1,fun k hk'=>?_⟩,fun k hk'=>?_,by omega,by omega,h.nB,h.mB,fun k hk'=>?_,fun k hk'=>?_⟩
 ·obtain⟨g,cap,e,h1,h2,h3,h4⟩:=hp.atD hk' fun i hi=>(hkt i hi).1;injection e with e _ _;obtain⟨a1,a2,a3,a4,_⟩:=kI (hp.lD k hk');exact⟨g,0,_,_,e,h2,by rw[Nat.zero_add];exact h4,(hkt k hk').2,(hkt k hk').1,a1,a2,a3,a4⟩
 ·obtain⟨g,cap,e,h1,h2,h3,h4⟩:=hp.atE hk';injection e with e _ _;obtain⟨a1,a2,a3,a4,_⟩:=kI (hp.lE k hk');exact⟨g,0,_,_,_,e,h2,by rw[Nat.zero_add];exact h4,a1,a2,a3,by have:=h.yB k hk';show(cj (YS k)).length<=_;rw[aW];omega,a4⟩
 ·have:=h.vB k hk';show(cj (X k).val).length+512<=_;rw[aW];exact this
 ·have:=h.yB k hk';show(cj (YS k)).length+512<=_;rw[aW];exact this
end
end Go.Proofs.YtfnlhfaihoojfaaGreatDoor
