/- Texts of the proof of ledgerlaw13.ClientPlays, part 44; no condition of its own. -/
import Derived.Test.YtfnlhfaihoojfaaGreatDoorS43
set_option maxRecDepth 100000
set_option maxHeartbeats 4000000
namespace Go.Proofs.YtfnlhfaihoojfaaGreatDoor
open Go.RowKit
section
variable{W W':World}{gh lo n m:Nat}{X:Nat->Chg}{YS:Nat->List Nat}{v:Nat->Value}{z:Nat->Nat->Nat}{r c:Nat->Nat}
theorem ii{base e sz k:Nat}{u:Value}{xs:List Value}(h:W.ownsRow base e sz u k xs)(hk:0<k):∃g cap,u= .slice (some ⟨g,0,none⟩) k cap/\k<=cap/\cap<=maxLen/\g<W.heap.size/\∀j y,xs[j]?=some y->W.cell? ⟨g,j,none⟩=some y:=by
 rcases h.2with⟨_,h0⟩|⟨g,cap,cur,rfl,_,hg,h1,h2,_⟩
 ·omega
 ·refine⟨g,cap,rfl,h1,h2,(Array.getElem?_eq_some_iff.1 hg).1,fun j y hj=>?_⟩;have h3:=h.cells (g:=g) rfl j y hj;rw[add_lit,Nat.zero_add]at h3;exact h3
theorem xo(hk:∀i,i<n->(X i).key.length=32/\IsB (X i).key)(k:Nat):(XP n X k).key.length=32/\IsB (XP n X k).key:=by
 unfold XP;split
 ·rename_i h;exact hk k h
 ·exact jX
theorem HSt.cAt(h:HSt W gh lo n m X YS v z r c)(hk:∀i,i<n->(X i).key.length=32/\IsB (X i).key)(hr:r 0=n+4):∃g cap,v 0= .slice (some ⟨g,0,none⟩) (n+4) cap/\n+4<=cap/\cap<=maxLen/\g<W.heap.size/\∀k,k<n+4->W.rangeAt g (k*34) (chC (XP n X k) (AdP n z k) (CpP n X k)):=by
 have h1:=h.rowC;rw[hr]at h1;obtain⟨g,cap,e,a,b,d,f⟩:=ii h1 (by omega);refine⟨g,cap,e,a,b,d,fun k hk' j y hj=>f _ y ?_⟩;have hj34:j<34:=by
  have:=(List.getElem?_eq_some_iff.1 hj).1;rwa[am (xo hk k).1]at this
 unfold xS;rw[if_pos rfl,hr,iz (fun i _=>(xo hk i).1) hk' hj34];exact hj
theorem HSt.rAt(h:HSt W gh lo n m X YS v z r c)(hr:r 1=m+4):∃g cap,v 1= .slice (some ⟨g,0,none⟩) (m+4) cap/\m+4<=cap/\cap<=maxLen/\g<W.heap.size/\∀k,k<m+4->W.cell? ⟨g,k,none⟩=some (uB m YS z k):=by
 have h1:=h.rowR (j:=1) (by omega);rw[hr]at h1;obtain⟨g,cap,e,a,b,d,f⟩:=ii h1 (by omega);refine⟨g,cap,e,a,b,d,fun k hk=>f k _ ?_⟩;unfold xS;rw[if_neg (by omega),if_pos rfl,hr,List.getElem?_map,List.getElem?_range hk];rfl
theorem HSt.vAt(h:HSt W gh lo n m X YS v z r c)(hr:r 2=n):∃A cap,v 2= .slice A n cap/\∀k,k<n->∃g,A=some ⟨g,0,none⟩/\W.cell? ⟨g,k,none⟩=some (zZ X z k):=by
 have h1:=h.rowR (j:=2) (by omega);rw[hr]at h1;obtain⟨A,cap,e,_⟩:=aP h1;refine⟨A,cap,e,fun k hk=>?_⟩;obtain⟨g,cap',e',_,_,_,f⟩:=ii h1 (by omega);rw[e]at e';injection e' with e' _ _;refine⟨g,e',f k _ ?_⟩;unfold xS;rw[if_neg (by omega),if_neg (by omega),if_pos rfl,hr,List.getElem?_map,List.getElem?_range hk];rfl
theorem HSt.fAt(h:HSt W gh lo n m X YS v z r c)(hr:r 3=m):∃A cap,v 3= .slice A m cap/\∀k,k<m->∃g,A=some ⟨g,0,none⟩/\W.cell? ⟨g,k,none⟩=some (C2 YS z k):=by
 have h1:=h.rowR (j:=3) (by omega);rw[hr]at h1;obtain⟨A,cap,e,_⟩:=aP h1;refine⟨A,cap,e,fun k hk=>?_⟩;obtain⟨g,cap',e',_,_,_,f⟩:=ii h1 (by omega);rw[e]at e';injection e' with e' _ _;refine⟨g,e',f k _ ?_⟩;unfold xS;rw[if_neg (by omega),if_neg (by omega),if_neg (by omega),hr,List.getElem?_map,List.getElem?_range hk];rfl
theorem HSt.bz(h:HSt W gh lo n m X YS v z r c)(hc:c 0=n){i:Nat}(hi:i<n):ar W (z 0 i) 5 ((X i).val++m80):=by
 have h1:=(HdI.byt h (a:=0) (i:=i) (by omega) (by omega)).1;exact h1
theorem HSt.bf(h:HSt W gh lo n m X YS v z r c)(hc:c 1=m){i:Nat}(hi:i<m):ar W (z 1 i) 5 (YS i++m80):=by
 have h1:=(HdI.byt h (a:=1) (i:=i) (by omega) (by omega)).1;exact h1
theorem HSt.bm(h:HSt W gh lo n m X YS v z r c)(hc:c 2=4){i:Nat}(hi:i<4):ar W (z 2 i) 5 mkR:=by
 have h1:=(HdI.byt h (a:=2) (i:=i) (by omega) (by omega)).1;exact h1
theorem kH{g l:Nat}{zs:List Nat}(h:ar W g 5 (zs++m80))(hB:IsB zs)(hl:zs.length=l):RB W (some ⟨g,0,none⟩) l zs:=by
 have h1:=ar.reads h (o9 hB) (o:=0) (n:=l) (by simp[dX];omega);rw[List.drop_zero,<-hl,List.take_left]at h1;rw[<-hl];exact h1
theorem lW{g O:Nat}{x:Chg}{A:Option Addr}{C:Nat}(h:W.rangeAt g O (chC x A C))(hl:x.key.length=32):W.rangeAt g O (bvs x.key)/\W.cell? ⟨g,O+32,none⟩=some (.bool x.del)/\W.cell? ⟨g,O+33,none⟩=some (.slice A x.val.length C):=⟨er h,ie h hl,eW h hl⟩
end
theorem tW(w:World){ks:List Nat}(hB:IsB ks)(hl:ks.length=32):(Op.equalIn 10000 37 (.agg (bvs ks).toArray) (.agg (bvs ks).toArray)).run Tryz.prog w= .ok true w:=by
 have h:=tl (P:=Tryz.prog) w 9998 37 5 32 Tryz.underlying37 Tryz.underlying5 iI hB hB hl hl;rw[decide_eq_true rfl]at h;exact h
theorem yh(o:OpV)(n m:Nat)(Pd Pe:Option Addr)(cd ce:Nat)(X:Nat->Chg)(YS:Nat->List Nat)(gh lo:Nat)(v:Nat->Value)(z:Nat->Nat->Nat)(r c:Nat->Nat)(w:World)(h:lm w o n m Pd Pe cd ce X YS)(hs:HSt w gh lo n m X YS v z r c)(hrc:RC r c (n+4) (m+4) n m n m 4):Calls Tryz.prog 57 #[.agg #[v 0,v 1,v 2,v 3], .agg o.cs.toArray] w fun e w'=>e= .returned (.bool true)/\Below w.heap.size w w':=by
 have C:=aa h;have hn41:(n:Int)<=2199023255552:=by have:=h.nB;omega
 have hm47:(m:Int)<=6000000000000:=by have:=h.mB;omega
 have HG:Hd (∀i,i<n->(X i).key.length=32/\IsB (X i).key):=fun i hi=>by
  obtain⟨_,_,_,_,_,_,_,a,b,_⟩:=h.hX.2 i hi;exact⟨b,a⟩
 obtain⟨gC,cC,eC,hC1,hC2,hC3,hC⟩:=hs.cAt HG.o hrc.1.1;obtain⟨gR,cR,eR,hR1,hR2,hR3,hR⟩:=hs.rAt hrc.1.2.1;obtain⟨AV,cV,eV,hV⟩:=hs.vAt hrc.1.2.2.1;obtain⟨AF,cF,eF,hF⟩:=hs.fAt hrc.1.2.2.2;have f:=aa (fun k(hk:k<n+4)=>(And.intro (hC k hk) hC3));have g:=aa (fun k(hk:k<m+4)=>(And.intro (hR k hk) hR3));have HV:=aa hV;have HF:=aa hF;have HH:=aa (fun i(hi:i<n)=>hs.bz hrc.2.1 hi);have HJ:=aa (fun i(hi:i<m)=>hs.bf hrc.2.2.1 hi);have HK:=aa (fun i(hi:i<4)=>hs.bm hrc.2.2.2 hi);rw[eC,eR,eV,eF];clear h hs hrc eC eR eV eF hC hR hV hF hC1 hC2 hC3 hR1 hR2 hR3;go_enter Tryz.func57,Tryz.ntmps57;go_upto_region 1with fail;refine bV (G:=fun w2=>Code.wp _ _ _ _ w2) fun w2 O P A HL=>?_;obtain⟨g2,hg2⟩:∃g2,g2=w.heap.size:=⟨_,rfl⟩;rw[<-hg2]at O P;rw[<-hg2];have D:Hd (ab w2 g2 72 #[.slice (some ⟨gC,0,none⟩) (n+4) cC, .slice (some ⟨gR,0,none⟩) (m+4) cR, .slice AV n cV, .slice AF m cF]):=O;have u:Hd (bp w2 (g2+1) o):=P;clear O P hg2 HL;have B:Hd (∀q,(w2.drewN q).cell? ⟨g2,0,none⟩=some (.slice (some ⟨gC,0,none⟩) (n+4) cC)/\(w2.drewN q).cell? ⟨g2,1,none⟩=some (.slice (some ⟨gR,0,none⟩) (m+4) cR)/\(w2.drewN q).cell? ⟨g2,2,none⟩=some (.slice AV n cV)/\(w2.drewN q).cell? ⟨g2,3,none⟩=some (.slice AF m cF)/\(w2.drewN q).cell? ⟨g2+1,102,none⟩=some (.slice Pd n cd)/\(w2.drewN q).cell? ⟨g2+1,103,none⟩=some (.slice Pe m ce)):=fun q=>by
  have q1:=u.o.d C.o.ok;have q2:=u.o.e C.o.ok;rw[C.o.hD]at q1;rw[C.o.hE]at q2;exact⟨D.o.cell 0,D.o.cell 1,D.o.cell 2,D.o.cell 3,q1,q2⟩
 have q1:=(B.o 0).2.2.2.2.1;have q2:=(B.o 0).2.2.2.2.2;change w2.cell? _=_ at q1;change w2.cell? _=_ at q2;go_wp2_with fail;clear q1 q2;go_loopw[7](fun s wr=>∃i q:Nat,i<=n/\s= .int .i64 (i:Int)/\wr=w2.drewN q)(fun s _=>n-(intOf s).toNat)
 case atStart=>exact⟨0,0,by omega,rfl,rfl⟩
 case round=>
  obtain⟨i,q,hi,rfl,rfl⟩:=hrel;by_cases hlt:i<n
  ·have hlt':(i:Int)<n:=by omega
   have hlt4:(i:Int)<(n:Int)+4:=by omega
   obtain⟨b,od,Ac,Cc,eP,hbl,hrg,hkB,hkl,hrb,hcc,hcm,hcn⟩:=C.o.hX.2 i hlt;obtain⟨gV,eV,hv⟩:=HV.o i hlt;have hc:=f.o i (by omega);have hz:=HH.o i hlt;unfold XP AdP CpP at hc;rw[if_pos hlt,if_pos hlt,if_pos hlt]at hc;unfold zZ at hv;have J:Hd ((X i).val.length+512<=140737488355328):=C.o.vB i hlt;obtain⟨x,hx⟩:∃x,X i=x:=⟨_,rfl⟩;obtain⟨zi,hzi⟩:∃zi,z 0 i=zi:=⟨_,rfl⟩;rw[hx]at hrg hkB hkl hrb hcc hc hz hv J;rw[hzi]at hc hz hv;obtain⟨l,hl⟩:∃l,x.val.length=l:=⟨_,rfl⟩;have hrz:=kH hz hrb.isB hl;obtain⟨k1,k2,k3⟩:=lW hc.1 hkl;obtain⟨j1,j2,j3⟩:=lW hrg hkl;rw[hl]at k3 j3 hrb hv J;have hlw:w.heap.size<=w2.heap.size:=A.o.size;have hbz:zi<w.heap.size:=ab.lt hz;have E:Hd (∀q:Nat,(∀c:Nat,(convert 36 9 (.slice (some ⟨zi,0,none⟩) l c)).run Tryz.prog (w2.drewN q)= .ok (.string (kf x.val)) (w2.drewN q))/\(∀c:Nat,(convert 36 9 (.slice Ac l c)).run Tryz.prog (w2.drewN q)= .ok (.string (kf x.val)) (w2.drewN q))):=fun q=>⟨fun c=>dn 36 9 5 ax (by kernel_rfl) (by kernel_rfl) (hrz.below (af A.o q)) c,fun c=>dn 36 9 5 ax (by kernel_rfl) (by kernel_rfl) (hrb.below (af A.o q)) c⟩;have Q:Hd (∀q:Nat,Calls Tryz.prog 13 #[.slice (some ⟨zi,0,none⟩) (l+80) (l+80), .slice Ac l Cc] (w2.drewN q) fun e w'=>e= .returned (.bool true)/\∃p,w'=(w2.drewN q).drewN p):=fun q=>gg zi Ac l Cc x.val (w2.drewN q) (ab.below hz (af A.o q)) (hrb.below (af A.o q)) (by have:=J.o;omega);obtain⟨ks,hks⟩:∃ks,x.key=ks:=⟨_,rfl⟩;obtain⟨dl,hdl⟩:∃dl,x.del=dl:=⟨_,rfl⟩;rw[hks]at k1 j1 hkB hkl;rw[hdl]at k2 j2;have F:Hd (∀q:Nat,(w2.drewN q).rangeAt gC (i*34) (bvs ks)/\(w2.drewN q).cell? ⟨gC,i*34+32,none⟩=some (.bool dl)/\(w2.drewN q).cell? ⟨gC,i*34+33,none⟩=some (.slice (some ⟨zi,0,none⟩) l (l+80))/\(w2.drewN q).rangeAt b (od+i*34) (bvs ks)/\(w2.drewN q).cell? ⟨b,od+i*34+32,none⟩=some (.bool dl)/\(w2.drewN q).cell? ⟨b,od+i*34+33,none⟩=some (.slice Ac l Cc)/\(w2.drewN q).cell? ⟨gV,i,none⟩=some (.slice (some ⟨zi,0,none⟩) (l+80) (l+80))):=fun q=>have hb:=af A.o q
    ⟨aV hb hc.2 k1,(hb.cell (p:=⟨gC,i*34+32,none⟩) hc.2).trans k2,(hb.cell (p:=⟨gC,i*34+33,none⟩) hc.2).trans k3,aV hb hbl j1,(hb.cell (p:=⟨b,od+i*34+32,none⟩) hbl).trans j2,(hb.cell (p:=⟨b,od+i*34+33,none⟩) hbl).trans j3,(hb.cell (p:=⟨gV,i,none⟩) (World.block_lt_of_cell? w _ hv)).trans hv⟩;have heq:∀w:World,(Op.equalIn 10000 37 (.agg (bvs ks).toArray) (.agg (bvs ks).toArray)).run Tryz.prog w= .ok true w:=fun w=>tW w hkB hkl;have hdu:=bW;have hds:(Tryz.prog.info? 37).map (·.size)=some (bvs ks).length:=by rw[aB];simp[bvs,hkl]
   subst eP eV;clear hbl hrg hkB hkl hrb hcc hcm hcn hv hc hz hx hzi hl hrz k1 k2 k3 j1 j2 j3 hlw hbz hks hdl J;generalize kf x.val=sx at*;go_wp2_with fail;rename_i KK hKK;have H:=aa hKK;clear hKK;refine wp_region_held_drew (S:=fun w'=>(w'.cell? ⟨g2,0,none⟩=some (.slice (some ⟨gC,0,none⟩) (n+4) cC)/\w'.cell? ⟨g2,2,none⟩=some (.slice (some ⟨gV,0,none⟩) n cV)/\w'.cell? ⟨g2+1,102,none⟩=some (.slice (some ⟨b,od,none⟩) n cd))/\(w'.rangeAt gC (i*34) (bvs ks)/\w'.cell? ⟨gC,i*34+32,none⟩=some (.bool dl)/\w'.cell? ⟨gC,i*34+33,none⟩=some (.slice (some ⟨zi,0,none⟩) l (l+80))/\w'.rangeAt b (od+i*34) (bvs ks)/\w'.cell? ⟨b,od+i*34+32,none⟩=some (.bool dl)/\w'.cell? ⟨b,od+i*34+33,none⟩=some (.slice Ac l Cc)/\w'.cell? ⟨gV,i,none⟩=some (.slice (some ⟨zi,0,none⟩) (l+80) (l+80)))/\(∀c:Nat,(convert 36 9 (.slice (some ⟨zi,0,none⟩) l c)).run Tryz.prog w'= .ok (.string sx) w')/\(∀c:Nat,(convert 36 9 (.slice Ac l c)).run Tryz.prog w'= .ok (.string sx) w')) (by kernel_rfl) ⟨⟨(B.o (q+1)).1,(B.o (q+1)).2.2.1,(B.o (q+1)).2.2.2.2.1⟩,F.o (q+1),E.o (q+1)⟩ fun hH=>?_;refine tka 0 ?_;refine tka 1 ?_;refine tka 2 ?_;refine tka 3 ?_;refine tka 4 ?_;refine tkl 5 ?_;refine tka 6 ?_;refine tka 7 ?_;refine tka 8 ?_;refine tka 9 ?_;refine tka 10 ?_;refine tkl 11 ?_;refine tka 12 ?_;refine tka 13 ?_;refine tka 14 ?_;refine tka 15 ?_;refine tka 16 ?_;refine tka 17 ?_;refine tka 18 ?_;refine tka 19 ?_;refine tka 20 ?_;refine tka 21 ?_;refine tka 22 ?_;refine tka 23 ?_;refine tka 24 ?_;refine tka 25 ?_;refine tka 26 ?_;refine tka 27 ?_;refine tka 28 ?_;refine tka 29 ?_;refine tka 30 ?_;refine tka 31 ?_;refine tka 32 ?_;refine tka 33 ?_;refine tka 34 ?_;refine tka 35 ?_;refine tka 36 ?_;refine tka 37 ?_;refine tka 38 ?_;refine tka 39 ?_;refine rdy 40 fun K hK=>?_;go_simp;refine(Q.o (q+1)).mono ?_;rintro e w3⟨rfl,p,hp⟩;rw[World.drewN_drewN]at hp;have R:=aa hp;refine hK.out _ _ (by rw[hp];exact⟨⟨(B.o _).1,(B.o _).2.2.1,(B.o _).2.2.2.2.1⟩,F.o _,E.o _⟩) (fun hH2=>?_);clear hK hH hp;refine tka 41 ?_;refine tka 42 ?_;refine tka 43 ?_;refine tka 44 ?_;refine tka 45 ?_;refine tka 46 ?_;refine tka 47 ?_;refine tka 48 ?_;refine tka 49 ?_;refine tka 50 ?_;refine tka 51 ?_;refine tka 52 ?_;refine tka 53 ?_;refine tka 54 ?_;refine tka 55 ?_;refine tka 56 ?_;refine tka 57 ?_;refine tka 58 ?_;refine tka 59 ?_;refine bN ?_;change KK _ _;refine H.o _ _ ?_;clear H KK hH2 heq hdu hds;go_wp2_with fail;go_roundw
   case rel=>exact⟨i+1,q+1+p,by omega,by go_num,R.o⟩
   case measure=>simp[intOf];omega
  ·have hin:i=n:=by omega
   have hnlt:¬(i:Int)<n:=by omega
   go_wp2_with fail;obtain⟨w3,hw3⟩:∃w3,w3=w2.drewN q:=⟨_,rfl⟩;have I:=aa hw3;rw[<-hw3];clear hw3;go_loopw[8](fun s wr=>∃j q:Nat,j<=m/\s= .int .i64 (j:Int)/\wr=w2.drewN q)(fun s _=>m-(intOf s).toNat)
   case atStart=>exact⟨0,q,by omega,rfl,I.o⟩
   case round=>
    clear I;obtain⟨j,q,hj,rfl,rfl⟩:=hrel;by_cases hltj:j<m
    ·have hltj':(j:Int)<m:=by omega
     have hlt4:(j:Int)<(m:Int)+4:=by omega
     obtain⟨b,oe,Ai,ni,ci,eP,hbl,hcl,hrb,hcc,hcm,hnb,hcn⟩:=C.o.hY j hltj;obtain⟨gF,eF,hf⟩:=HF.o j hltj;have hr:=g.o j (by omega);have hz:=HJ.o j hltj;unfold uB at hr;rw[if_pos hltj]at hr;unfold C2 at hf;have L:Hd ((YS j).length+512<=140737488355328):=C.o.yB j hltj;obtain⟨y,hy⟩:∃y,YS j=y:=⟨_,rfl⟩;obtain⟨zj,hzj⟩:∃zj,z 1 j=zj:=⟨_,rfl⟩;rw[hy]at hrb hr hz hf L;rw[hzj]at hr hz hf;have hl:y.length=ni:=hrb.1;have hrz:=kH hz hrb.isB hl;rw[hl]at hr hf L;have hlw:w.heap.size<=w2.heap.size:=A.o.size;have hbz:zj<w.heap.size:=ab.lt hz;have E:Hd (∀q:Nat,(∀c:Nat,(convert 36 9 (.slice (some ⟨zj,0,none⟩) ni c)).run Tryz.prog (w2.drewN q)= .ok (.string (kf y)) (w2.drewN q))/\(∀c:Nat,(convert 36 9 (.slice Ai ni c)).run Tryz.prog (w2.drewN q)= .ok (.string (kf y)) (w2.drewN q))):=fun q=>⟨fun c=>dn 36 9 5 ax (by kernel_rfl) (by kernel_rfl) (hrz.below (af A.o q)) c,fun c=>dn 36 9 5 ax (by kernel_rfl) (by kernel_rfl) (hrb.below (af A.o q)) c⟩;have Q:Hd (∀q:Nat,Calls Tryz.prog 13 #[.slice (some ⟨zj,0,none⟩) (ni+80) (ni+80), .slice Ai ni ci] (w2.drewN q) fun e w'=>e= .returned (.bool true)/\∃p,w'=(w2.drewN q).drewN p):=fun q=>gg zj Ai ni ci y (w2.drewN q) (ab.below hz (af A.o q)) (hrb.below (af A.o q)) (by have:=L.o;omega);have F:Hd (∀q:Nat,(w2.drewN q).cell? ⟨gR,j,none⟩=some (.slice (some ⟨zj,0,none⟩) ni (ni+80))/\(w2.drewN q).cell? ⟨b,oe+j,none⟩=some (.slice Ai ni ci)/\(w2.drewN q).cell? ⟨gF,j,none⟩=some (.slice (some ⟨zj,0,none⟩) (ni+80) (ni+80))):=fun q=>have hb:=af A.o q
      ⟨(hb.cell (p:=⟨gR,j,none⟩) hr.2).trans hr.1,(hb.cell (p:=⟨b,oe+j,none⟩) hbl).trans hcl,(hb.cell (p:=⟨gF,j,none⟩) (World.block_lt_of_cell? w _ hf)).trans hf⟩;subst eP eF;clear hbl hcl hrb hcc hcm hnb hcn hr hz hf hy hzj hl hrz hlw hbz L;generalize kf y=sx at*;go_wp2_with fail;rename_i KK hKK;have H:=aa hKK;clear hKK;refine wp_region_held_drew (S:=fun w'=>(w'.cell? ⟨g2,3,none⟩=some (.slice (some ⟨gF,0,none⟩) m cF)/\w'.cell? ⟨g2,1,none⟩=some (.slice (some ⟨gR,0,none⟩) (m+4) cR)/\w'.cell? ⟨g2+1,103,none⟩=some (.slice (some ⟨b,oe,none⟩) m ce))/\(w'.cell? ⟨gR,j,none⟩=some (.slice (some ⟨zj,0,none⟩) ni (ni+80))/\w'.cell? ⟨b,oe+j,none⟩=some (.slice Ai ni ci)/\w'.cell? ⟨gF,j,none⟩=some (.slice (some ⟨zj,0,none⟩) (ni+80) (ni+80)))/\(∀c:Nat,(convert 36 9 (.slice (some ⟨zj,0,none⟩) ni c)).run Tryz.prog w'= .ok (.string sx) w')/\(∀c:Nat,(convert 36 9 (.slice Ai ni c)).run Tryz.prog w'= .ok (.string sx) w')) (by kernel_rfl) ⟨⟨(B.o (q+1)).2.2.2.1,(B.o (q+1)).2.1,(B.o (q+1)).2.2.2.2.2⟩,F.o (q+1),E.o (q+1)⟩ fun hH=>?_;refine tka 0 ?_;refine tka 1 ?_;refine tka 2 ?_;refine tka 3 ?_;refine tka 4 ?_;refine tka 5 ?_;refine tka 6 ?_;refine tka 7 ?_;refine tka 8 ?_;refine tka 9 ?_;refine rdy 10 fun K hK=>?_;go_simp;refine(Q.o (q+1)).mono ?_;rintro e w4⟨rfl,p,hp⟩;rw[World.drewN_drewN]at hp;have R:=aa hp;refine hK.out _ _ (by rw[hp];exact⟨⟨(B.o _).2.2.2.1,(B.o _).2.1,(B.o _).2.2.2.2.2⟩,F.o _,E.o _⟩) (fun hH2=>?_);clear hK hH hp;refine tka 11 ?_;refine tka 12 ?_;refine tka 13 ?_;refine tka 14 ?_;refine tka 15 ?_;refine tka 16 ?_;refine tka 17 ?_;refine tka 18 ?_;refine tka 19 ?_;refine tka 20 ?_;refine tka 21 ?_;refine tka 22 ?_;refine tka 23 ?_;refine tka 24 ?_;refine tka 25 ?_;refine tka 26 ?_;refine bN ?_;change KK _ _;refine H.o _ _ ?_;clear H KK hH2;go_wp2_with fail;go_roundw
     case rel=>exact⟨j+1,q+1+p,by omega,by go_num,R.o⟩
     case measure=>simp[intOf];omega
    ·have hjm:j=m:=by omega
     have hnltj:¬(j:Int)<m:=by omega
     go_wp2_with fail;have I:Hd (Below w2.heap.size w2 (w2.drewN q)):=af (Below.refl _ _) q;generalize w2.drewN q=w3 at*;have HA:Hd (∀W,Below w2.heap.size w2 W->W.cell? ⟨g2,0,none⟩=some (.slice (some ⟨gC,0,none⟩) (n+4) cC)/\W.cell? ⟨g2,1,none⟩=some (.slice (some ⟨gR,0,none⟩) (m+4) cR)):=fun W hb=>⟨(hb.cell (p:=⟨g2,0,none⟩) D.o.lt).trans (D.o.cell 0),(hb.cell (p:=⟨g2,1,none⟩) D.o.lt).trans (D.o.cell 1)⟩;go_loopw[9](fun s wr=>∃t:Nat,t<=4/\s= .int .i64 (t:Int)/\Hd (Below w2.heap.size w2 wr))(fun s _=>4-(intOf s).toNat)
     case atStart=>exact⟨0,by omega,rfl,I.o⟩
     case round=>
      clear I;obtain⟨t,ht,rfl,M⟩:=hrel;by_cases hltt:t<4
      ·have hltt':(t:Int)<4:=by omega
       go_wp2_with(first|((with_reducible refine atS 118 ?_);refine aM (by rfl) 37 #[(0, .const (.int .u8 201)),(1, .const (.int .u8 7))] rfl [(0, .int .u8 201),(1, .int .u8 7)] (by simp[go_sem]) (bvs mkC.key).toArray qU ?_;(try simp only[Act.put,LS]))|((with_reducible refine atS 119 ?_);refine aM (by rfl) 39 #[(0, .tmp 118),(1, .const (.bool true))] rfl [(0, .agg (bvs mkC.key).toArray),(1, .bool true)] (by simp[go_sem]) (chC mkC none 0).toArray qT ?_;(try simp only[Act.put,LS]))|((with_reducible refine atS 10 ?_);refine dU (s:=⟨none,_,_,_,_,_⟩) (by rfl) (by rfl) 39 rfl (.tmp 10) (.tmp 119) rfl (chC zY none 0) (chC mkC none 0) 34 kN (am (ak 32)) (am jX.1) rfl rfl cZ ?_;intro w4 T HD HM;(try simp only[Act.put,LS])));have U:Hd (Below w2.heap.size w2 w4):=M.o.trans (HD.o.mono M.o.size);have hcc:=(f.o (n+t) (by omega));have hrr:=(g.o (m+t) (by omega));have hbm:=HK.o t hltt;unfold XP AdP CpP at hcc;unfold uB at hrr;rw[if_neg (by omega),if_neg (by omega),if_neg (by omega)]at hcc;rw[if_neg (by omega),show m+t-m=t by omega]at hrr;obtain⟨zt,hzt⟩:∃zt,z 2 t=zt:=⟨_,rfl⟩;rw[hzt]at hrr hbm;obtain⟨k1,hk1⟩:∃k1,n+t=k1:=⟨_,rfl⟩;obtain⟨k2,hk2⟩:∃k2,m+t=k2:=⟨_,rfl⟩;rw[hk1]at hcc;rw[hk2]at hrr;have a1:IntKind.i64.wrap ((n:Int)+(t:Int))=(k1:Int):=by rw[IntWalk.i64_in _ (by omega)];omega
       have a2:IntKind.i64.wrap ((m:Int)+(t:Int))=(k2:Int):=by rw[IntWalk.i64_in _ (by omega)];omega
       have b1:(k1:Int)<(n:Int)+4:=by omega
       have b2:(k2:Int)<(m:Int)+4:=by omega
       obtain⟨c1,c2,c3⟩:=lW hcc.1 jX.1;have hrm:RB w (some ⟨zt,0,none⟩) 2 mkR:=ar.whole hbm (fun x hx=>by simp[mkR]at hx;omega) rfl;have E:Hd (∀W,Below w2.heap.size w2 W->∀c:Nat,(convert 36 9 (.slice (some ⟨zt,0,none⟩) 2 c)).run Tryz.prog W= .ok (.string (kf mkR)) W):=fun W hb c=>dn 36 9 5 ax (by kernel_rfl) (by kernel_rfl) (hrm.below (A.o.trans (hb.mono A.o.size))) c;have F:Hd (∀W,Below w2.heap.size w2 W->W.rangeAt gC (k1*34) (bvs mkC.key)/\W.cell? ⟨gC,k1*34+32,none⟩=some (.bool true)/\W.cell? ⟨gC,k1*34+33,none⟩=some (.slice none 0 0)/\W.cell? ⟨gR,k2,none⟩=some (.slice (some ⟨zt,0,none⟩) 2 2)):=fun W hb'=>have hb:Below w.heap.size w W:=A.o.trans (hb'.mono A.o.size)
        ⟨aV hb hcc.2 c1,(hb.cell (p:=⟨gC,k1*34+32,none⟩) hcc.2).trans c2,(hb.cell (p:=⟨gC,k1*34+33,none⟩) hcc.2).trans c3,(hb.cell (p:=⟨gR,k2,none⟩) hrr.2).trans hrr.1⟩;obtain⟨gm,hgm⟩:∃gm,gm=wr.heap.size:=⟨_,rfl⟩;have V:Hd (w4.rangeAt gm 0 (bvs mkC.key)/\gm<w4.heap.size):=by
        rw[hgm];exact⟨(lW (ab.range T.o) jX.1).1,ab.lt T.o⟩
       rw[<-hgm];have Y:=aa jX;clear hcc hrr hbm hzt hk1 hk2 c1 c2 c3 hrm hgm T HD HM M;have HN:Hd (ar w4 gm 5 [])∨True:= .inr trivial;clear HN;generalize mkC.key=mk at*;have heq:∀w:World,(Op.equalIn 10000 37 (.agg (bvs mk).toArray) (.agg (bvs mk).toArray)).run Tryz.prog w= .ok true w:=fun w=>tW w Y.o.2 Y.o.1;have hdu:=bW;have hds:(Tryz.prog.info? 37).map (·.size)=some (bvs mk).length:=by rw[aB];simp[bvs,Y.o.1]
       go_wp2_with fail;rename_i KK hKK;have H:=aa hKK;clear hKK;have Z:Hd (Below w2.heap.size w2 (w4.drewN 1)):=af U.o 1;have HO:Hd ((w4.drewN 1).rangeAt gm 0 (bvs mk)/\gm<(w4.drewN 1).heap.size):=V.o;refine wp_region_held_drew (S:=fun w'=>(w'.cell? ⟨g2,0,none⟩=some (.slice (some ⟨gC,0,none⟩) (n+4) cC)/\w'.cell? ⟨g2,1,none⟩=some (.slice (some ⟨gR,0,none⟩) (m+4) cR))/\(w'.rangeAt gC (k1*34) (bvs mk)/\w'.cell? ⟨gC,k1*34+32,none⟩=some (.bool true)/\w'.cell? ⟨gC,k1*34+33,none⟩=some (.slice none 0 0)/\w'.cell? ⟨gR,k2,none⟩=some (.slice (some ⟨zt,0,none⟩) 2 2))/\w'.rangeAt gm 0 (bvs mk)/\(∀c:Nat,(convert 36 9 (.slice (some ⟨zt,0,none⟩) 2 c)).run Tryz.prog w'= .ok (.string (kf mkR)) w')) (by kernel_rfl) ⟨HA.o _ Z.o,F.o _ Z.o,HO.o.1,E.o _ Z.o⟩ fun hH=>?_;refine tka 0 ?_;refine tka 1 ?_;refine tka 2 ?_;refine tka 3 ?_;refine tka 4 ?_;refine tka 5 ?_;refine tka 6 ?_;refine tkl 7 ?_;refine tka 8 ?_;refine tkl 9 ?_;refine tka 10 ?_;refine tka 11 ?_;refine tka 12 ?_;refine tka 13 ?_;refine tka 14 ?_;refine tka 15 ?_;refine tka 16 ?_;refine tka 17 ?_;refine tka 18 ?_;refine tka 19 ?_;refine tka 20 ?_;refine tka 21 ?_;refine tka 22 ?_;refine tka 23 ?_;refine tka 24 ?_;refine tka 25 ?_;refine tka 26 ?_;refine tka 27 ?_;refine tka 28 ?_;refine tka 29 ?_;refine tka 30 ?_;refine tka 31 ?_;refine tka 32 ?_;refine tka 33 ?_;refine tka 34 ?_;refine tka 35 ?_;refine tka 36 ?_;refine tka 37 ?_;refine tka 38 ?_;refine tka 39 ?_;refine tka 40 ?_;refine tka 41 ?_;refine tka 42 ?_;clear hH;refine rdy 43 fun K hK=>?_;go_simp;have hbe:Below w4.heap.size w4 (w4.alloc (.cells #[.int .u8 202, .int .u8 8] 5)).drew:=((Below.refl _ _).alloc (Nat.le_refl _) _).drew;have N:Hd (Below w2.heap.size w2 (w4.alloc (.cells #[.int .u8 202, .int .u8 8] 5)).drew):=U.o.trans (hbe.mono U.o.size);have hbk:ar (w4.alloc (.cells #[.int .u8 202, .int .u8 8] 5)).drew w4.heap.size 5 mkR:=ab.drew (ab.new w4 5 #[.int .u8 202, .int .u8 8]);have hrk:RB (w4.alloc (.cells #[.int .u8 202, .int .u8 8] 5)).drew (some ⟨w4.heap.size,0,none⟩) 2 mkR:=ar.whole hbk (fun x hx=>by simp[mkR]at hx;omega) rfl;have hxq:∀c:Nat,(convert 36 9 (.slice (some ⟨w4.heap.size,0,none⟩) 2 c)).run Tryz.prog (w4.alloc (.cells #[.int .u8 202, .int .u8 8] 5)).drew= .ok (.string (kf mkR)) (w4.alloc (.cells #[.int .u8 202, .int .u8 8] 5)).drew:=fun c=>dn 36 9 5 ax (by kernel_rfl) (by kernel_rfl) hrk c;refine hK.out _ _ ⟨HA.o _ N.o,F.o _ N.o,aV hbe V.o.2 V.o.1,E.o _ N.o⟩ (fun hH2=>?_);clear hK hbk hrk hbe;obtain⟨gk,hgk⟩:∃gk,w4.heap.size=gk:=⟨_,rfl⟩;rw[hgk]at hxq⊢;generalize(w4.alloc (.cells #[.int .u8 202, .int .u8 8] 5)).drew=w5 at*;clear hgk;have HE:=aa hH2;clear hH2;refine rdy 44 fun K hK=>?_;go_simp;refine hK.out _ _ HE.o (fun hH3=>?_);clear hK hxq;refine tka 45 ?_;refine tka 46 ?_;refine bN ?_;change KK _ _;refine H.o _ _ ?_;clear H KK hH3 HE heq hdu hds;go_wp2_with fail;go_roundw
       case rel=>exact⟨t+1,by omega,by go_num,N.o⟩
       case measure=>simp[intOf];omega
      ·have hnltt:¬(t:Int)<4:=by omega
       go_wp2_with fail;go_ret;exact⟨rfl,A.o.trans (M.o.mono A.o.size)⟩
def Al(q:Nat)(wd:Int)(root:List Nat)(n:Nat)(X:Nat->Chg)(YS:Nat->List Nat)(D:List Nat):Prop:=(q≠0->D=zs 32)/\(q=0->∃Z NS,iZ X n Z/\(∀i j,i<n->j<n->(X j).key=(Z i).key->NS i=av wd (jo (YS j)))/\D=if n=0then root else iQ wd 256 n Z NS)
theorem ED.uni{q:Nat}{wd:Int}{root:List Nat}{n:Nat}{X:Nat->Chg}{YS:Nat->List Nat}{w w':World}{e:Ending}(hr:root.length=32/\IsB root)(h:ED q wd root n X YS w e w'):Below w.heap.size w w'/\∃D,e= .returned (.tuple #[.agg (bvs D).toArray, .int .i64 (q:Nat)])/\(D.length=32/\IsB D)/\Al q wd root n X YS D:=by
 obtain⟨hb,h1,h2⟩:=h;refine⟨hb,?_⟩;by_cases hq:q=0
 ·obtain⟨Z,NS,a,b,c⟩:=h2 hq;subst hq;refine⟨_,c,?_,fun h=>absurd rfl h,fun _=>⟨Z,NS,a,b,rfl⟩⟩;split
  ·exact hr
  ·exact fK wd 256 n Z NS
 ·exact⟨_,h1 hq,⟨ak 32,dY 32⟩,fun _=>rfl,fun h=>absurd h hq⟩
theorem Al.unique{q:Nat}{wd:Int}{root:List Nat}{n m:Nat}{X:Nat->Chg}{YS:Nat->List Nat}{D D':List Nat}(hk:∀i,i<n->(X i).key.length=32/\IsB (X i).key)(hE:uC wd root n m X YS=q)(h:Al q wd root n X YS D)(h':Al q wd root n X YS D'):D=D':=by
 by_cases hq:q=0
 ·obtain⟨Z,NS,a,b,c⟩:=h.2 hq;obtain⟨Z',NS',a',b',c'⟩:=h'.2 hq;rw[c,c'];by_cases hn:n=0
  ·rw[if_pos hn,if_pos hn]
  ·rw[if_neg hn,if_neg hn];have hw:bU X n 4096=0:=by
    rw[hq]at hE;unfold uC at hE;split at hE
    ·cases hE
    ·split at hE
     ·rename_i h1;exact absurd hE h1
     ·rename_i h1;omega
   have hrep:=(fI hw).2;have hnd:(br (lst X n)).Nodup:=by
    by_cases hc:(br (lst X n)).Nodup
    ·exact hc
    ·have:=kJ.2 hc;omega
   have hZ:lst Z n=lst Z' n:=by
    refine kV (a.2.trans a'.2.symm) a.1 a'.1 (fun x hx=>?_) ?_
    ·obtain⟨y,hy,rfl⟩:=List.mem_map.1 (a.2.subset hx);obtain⟨j,hj,rfl⟩:=i5.1 hy;have h1:=hk j hj;unfold uH;rw[ew];exact⟨h1.2,h1.1⟩
    ·have h1:(br (lst Z n)).Perm (br (lst X n)):=by
      have h2:=a.2.map Chg.key;have h3:((lst X n).map bR).map Chg.key=(lst X n).map Chg.key:=by
       rw[List.map_map];exact List.map_congr_left fun x _=>ew x
      rw[h3]at h2;exact h2
     exact h1.nodup_iff.2 hnd
   have hZi:∀j,j<n->Z j=Z' j:=fun j hj=>by
    have h1:=congrArg (fun l=>l[j]?) hZ;simpa[lst,hj]using h1
   refine lN wd 256 n Z Z' NS NS' (by omega) hZi fun j hj=>?_;obtain⟨i,hi,hki,_,_⟩:=ja a hrep hj;rw[b j i hj hi hki,b' j i hj hi (by rw[hki,hZi j hj])]
 ·rw[h.1 hq,h'.1 hq]
theorem CU(base B4 g:Nat)(c:Ck)(p:Pr)(h:Nat)(U:Nat->Prop)(b:Value)(w:World)(d:List Nat)(hh:h<256)(hp:p.Ok)(hj:PxJ base B4 (av c.wd p) h U w)(hr:aX w g (c.blanked b) p)(hf:Far U g (c.blanked b)):Calls Tryz.prog 92 #[.int .i64 h, .agg (bvs d).toArray, .agg (bvs (av c.wd p h)).toArray, .pointer (some ⟨B4,0,none⟩)] w (EB g c p (PxJ base B4 (av c.wd p)) h U b w):=by
 have A:=aa (aG (w:=c.wd) hp hh);obtain⟨ds,hds⟩:∃ds,av c.wd p=ds:=⟨_,rfl⟩;rw[hds]at hj A⊢;clear hds;have f:=aa hj.lt;obtain⟨v,h1,h2,h3,h4,h5⟩:=hj;have I:=aa h1;have J:=aa h2;have E:=aa h3;have K:=aa h4;have L:=aa h5;have M:=aa hr;have N:=aa hf;have O:Hd (bZ ds (h+1)=bZ ds h++ds h):=rfl;have hhI:(h:Int)<256:=by omega
 clear hp hr hf h1 h2 h3 h4 h5;obtain⟨va,vn,vc,rfl⟩:=db J.o;obtain⟨D,hD⟩:∃D,ds h=D:=⟨_,rfl⟩;rw[hD]at A O⊢;clear hD;go_enter Tryz.func92,Tryz.ntmps92;go_upto_region 1with fail;refine bV (G:=fun w2=>Code.wp _ _ _ _ w2) fun w2 Y P C i=>?_;have Q:Hd (ar w2 (w.heap.size+1) 34 D):=P;have F:Hd (ab w2 B4 27 #[.slice va vn vc]):=ab.below I.o C.o;have R:Hd (w2.ownsRow base 34 32 (.slice va vn vc) h (bvs (bZ ds h))):=(ae.ofBelow C.o).row J.o fun _ _ h=>h;have S:Hd (B4<w.heap.size):=I.o.lt;have hc7:w2.cell? ⟨B4,0,none⟩=some (.slice va vn vc):=ab.cell F.o 0;clear Y P;go_wp2_with(first|((with_reducible refine atS 8 ?_);refine ac (by rfl) 34 (.tmp 6) rfl ⟨w.heap.size+1,0,none⟩ 32 D rfl (Q.o.whole A.o.2 A.o.1) (by omega) (by kernel_rfl) (by kernel_rfl) ?_)|((with_reducible refine atS 9 ?_);refine aR rfl w2 27 34 _ 32 (.tmp 8) rfl cN aD (by decide) (by decide) (bvs D).toArray rfl (by simp[bvs,A.o.1]) ?_)|(with_reducible refine atS 10 ?_));clear hc7;have hd1:(bvs D).length=32:=by simp[bvs,A.o.1]
 have hbs:base<=w2.heap.size:=by have:=K.o;have:=S.o;have:=C.o.size;omega
 refine fG (t:=27) (e:=34) (o:=⟨some 10,_,_,_,_,_⟩) cN eO (by rfl) w2 (by rfl) (.tmp 7) (.tmp 9) (by rfl) base (.slice va vn vc) h (bvs (bZ ds h)) R.o (bvs D) hd1 (fun u hu=>ah _ u hu) (by rfl) (by rfl) (by omega) (by omega) hbs ?_;intro v3 w3 ho3 hg3 hl3;obtain⟨s3a,s3n,s3c,e3⟩:=db ho3;subst e3;have hne:¬some B4=(Value.slice va vn vc).ownBlock:=fun e=>L.o B4 e.symm rfl;have H:Hd (ab w3 B4 27 #[.slice va vn vc]):=(ae.grown hg3).blk F.o hne;have Z:Hd (w3.ownsRow base 34 32 (.slice s3a s3n s3c) (h+1) (bvs (bZ ds (h+1)))):=by
  rw[O.o,show bvs (bZ ds h++D)=bvs (bZ ds h)++bvs D by simp[bvs]];exact ho3
 have a:Hd (ae (fun B=>some B=(Value.slice va vn vc).ownBlock) w w3):=((ae.ofBelow C.o).mono fun _ _ h=>h.elim).trans (ae.grown hg3);have T:Hd (∀B,(Value.slice s3a s3n s3c).ownBlock=some B->(Value.slice va vn vc).ownBlock=some B∨w2.heap.size<=B):=hl3;have hc10:=ab.cell H.o 0;have hf10:=ab.frozen H.o 0;have V:Hd (w.heap.size<=w2.heap.size):=C.o.size;clear ho3 hg3 hl3 hd1 hbs F R Q hne;go_wp2_with fail;refine bodyPost_end (results_none rfl _ _ _) rfl ⟨rfl,?_⟩;have hne3:∀B,(Value.slice s3a s3n s3c).ownBlock=some B->B≠B4:=fun B hB=>by
  rcases T.o B hB with h|h
  ·exact L.o B h
  ·have:=S.o;have:=V.o;omega
 have t4:ae (fun B=>B=B4) w3 (w3.setCell ⟨B4,0,none⟩ (.slice s3a s3n s3c)):=ae.one (ai w3 0 _);have W:ae U w (w3.setCell ⟨B4,0,none⟩ (.slice s3a s3n s3c)):=(a.o.mono fun B _ e=>(E.o B).2 (.inr e.symm)).trans (t4.mono fun B _ e=>(E.o B).2 (.inl e));have X:mx w U (fun B=>B=B4∨(Value.slice s3a s3n s3c).ownBlock=some B):=fun B hB=>by
  rcases hB with rfl|hB
  ·exact .inl ((E.o _).2 (.inl rfl))
  ·rcases T.o B hB with h|h
   ·exact .inl ((E.o _).2 (.inr h))
   ·exact .inr (Nat.le_trans V.o h)
 refine⟨fun B=>B=B4∨(Value.slice s3a s3n s3c).ownBlock=some B,b,⟨.slice s3a s3n s3c,ab.stored H.o 0 _,t4.row Z.o fun B hB e=>hne3 B hB e,fun B=>Iff.rfl,K.o,hne3⟩,M.o.far W N.o, .inl rfl,W.mono fun _ _ h=> .inl h,X,N.o.same M.o X⟩
theorem Cg(base B4 g:Nat)(c:Ck)(p:Pr)(ds:Nat->List Nat)(hp:p.Ok):Eye 92 #[.pointer (some ⟨B4,0,none⟩)] g c p ds (PxJ base B4 (av c.wd p))where
 enters:=fN Tryz.func92 (by kernel_rfl) (by kernel_rfl)
 lt:=fun h B hB=>h.lt B hB
 keep:=fun h ht hn=>h.keep ht hn
 call:=fun h U b w hh hj hr hf=>CU base B4 g c p h U b w (ds h) hh hp hj hr hf
end Go.Proofs.YtfnlhfaihoojfaaGreatDoor
