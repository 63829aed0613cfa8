/- Texts of the proof of ledgerlaw13.ClientPlays, part 29; no condition of its own. -/
import Derived.Laws.BytesArg
import Derived.Test.YtfnlhfaihoojfaaGreatDoorS28
set_option maxRecDepth 100000
set_option maxHeartbeats 4000000
namespace Go.Proofs.YtfnlhfaihoojfaaGreatDoor
open Go.RowKit
theorem xE{w w1 w2 w5:World}{ky vl:List Nat}{dl:Bool}{A2:Option Addr}{c2:Nat}{v0:Value}{old:List Value}(h01:w.heap.size<w1.heap.size)(h12:w1.heap.size<w2.heap.size)(hb:Below w2.heap.size w2 w5)(hw:Below w.heap.size w w2)(h1:ab w2 w.heap.size 39 (chS ky dl v0).toArray)(h2:ab w2 w1.heap.size 39 old.toArray)(hk:ky.length=32)(hr:RB w5 A2 vl.length vl)(hlo:∀ad,A2=some ad->w2.heap.size<=ad.block):w5.cell? ⟨w.heap.size,33,none⟩=some v0/\w5.frozen? ⟨w.heap.size,33,none⟩=false/\ab (w5.setCell ⟨w.heap.size,33,none⟩ (.slice A2 vl.length c2)) w.heap.size 39 (chS ky dl (.slice A2 vl.length c2)).toArray/\ab (w5.setCell ⟨w.heap.size,33,none⟩ (.slice A2 vl.length c2)) w1.heap.size 39 old.toArray/\∀w6,(w5.setCell ⟨w.heap.size,33,none⟩ (.slice A2 vl.length c2)).grownBy w6 (some w1.heap.size)->RB w6 A2 vl.length vl/\(∀ad,A2=some ad->w.heap.size<=ad.block)/\Below w.heap.size w w6:=by
 have h5:=ab.below h1 hb;have hbel:Below w.heap.size w w5:=hw.trans (hb.mono hw.size);have hl1:=ab.lt h2;refine⟨?_,ab.frozen h5 33,oU h5 hk _,ab.far (ab.below h2 hb) (by show _≠w.heap.size;omega) _,fun w6 hg=>⟨?_,fun ad e=>?_,?_⟩⟩
 ·rw[ab.cell h5,List.getElem?_toArray,chS,List.getElem?_append_right (by simp[bvs,hk])];simp[bvs,hk]
 ·have h6:RB (w5.setCell ⟨w.heap.size,33,none⟩ (.slice A2 vl.length c2)) A2 vl.length vl:=hr.grownBy (ai w5 (g:=w.heap.size) 33 _) fun _ ad e he=>by
   have:=hlo ad e;injection he with he;omega
  refine h6.grownBy hg fun _ ad e he=>?_;have:=hlo ad e;injection he with he;omega
 ·have:=hlo ad e;omega
 ·have h7:Below w.heap.size w (w5.setCell ⟨w.heap.size,33,none⟩ (.slice A2 vl.length c2)):=hbel.setCell (p:=⟨w.heap.size,33,none⟩) (Nat.le_refl _) _;exact h7.grown hg h7.size fun k hk=>by injection hk with hk;omega
theorem DT(x:Chg)(A:Option Addr)(C:Nat)(w:World)(hk:x.key.length=32)(hr:RB w A x.val.length x.val)(hl:x.val.length<=140737488355328)(hnil:A=none->C=0):Calls Tryz.prog 107 #[.agg (chC x A C).toArray] w (EN (bR x) w):=by
 obtain⟨ky,dl,vl⟩:=x;have Q:=aa hr;have B:=aa hk;have R:=aa hnil;clear hr hk hnil;go_enter Tryz.func107,Tryz.ntmps107;cases dl
 ·go_wp2_with(first|((with_reducible refine atS 1 ?_);refine iY (by rfl) 39 (.tmp 0) rfl _ rfl ?_;intro w1 I F J)|((with_reducible refine atS 2 ?_);refine aC (by rfl) 39 rfl _ _ fk ?_;intro w2 K G L;have E:=aa (ab.below I.o G.o);have H:=aa (F.o.trans (G.o.mono F.o.size));have b32:=ie (ab.range E.o) B.o;have b33:=eW (ab.range E.o) B.o;rw[Nat.zero_add]at b32 b33)|((with_reducible refine atS 8 ?_);refine wH ax aH w2 (o:=⟨some 8,_,_,_,_,_⟩) rfl (.const (.slice none 0 0)) (.tmp 7) rfl w2.heap.size (.slice none 0 0) [] (Own.nil _ _ _) A vl.length C vl (Q.o.below H.o) R.o rfl rfl (by simpa using hl) (Nat.le_refl _) ?_;intro v8 w8 ho8 hg8 hl8;have M:Hd (bn w8 w2.heap.size v8 vl):=ho8;have S:Hd (Below w2.heap.size w2 w8):=(Below.refl _ _).grown hg8 (Nat.le_refl _) (fun k hk=>by cases hk);obtain⟨A2,c2,hv2,hr2,hlo2,hnil2,hle2⟩:=M.o.form;subst hv2;have hcm2:=xD M.o;have D:=aa (xE (c2:=c2) (by have:=J.o;omega) (by have:=L.o;omega) S.o H.o E.o K.o B.o hr2 (fun ad e=>(hlo2 ad e).1));have c33:=D.o.1;have f33:=D.o.2.1;have N:=aa (show vl.length<=c2/\c2<=maxLen/\(A2=none->c2=0)from⟨hle2,hcm2,hnil2⟩);clear ho8 hg8 hl8 hr2 hlo2 hnil2 hle2 hcm2 M)|((with_reducible refine atS 10 ?_);refine aj (by rfl) 39 (.tmp 1) rfl w.heap.size 0 _ rfl (ab.range D.o.2.2.1) be (by rw[aK,aL _ _ B.o]) ?_)|((with_reducible refine atT 2 ?_);refine a8 (o:=⟨none,_,_,_,_,_⟩) (by rfl) 39 (.tmp 2) (.tmp 10) rfl w1.heap.size _ _ 39 rfl rfl D.o.2.2.2.1 (by rw[aK,aL _ _ B.o]) (by rw[aL _ _ B.o,aL _ _ (ak 32)]) (lI rfl) ?_;intro w6 O P T));refine ij (g:=w1.heap.size) rfl rfl O.o be (by rw[aK,aL _ _ B.o]) rfl ?_;obtain⟨h1,h2,h3⟩:=D.o.2.2.2.2 _ P.o;exact⟨A2,c2,rfl,h1,N.o.1,N.o.2.1,N.o.2.2,h2,h3⟩
 ·go_wp2_with(first|((with_reducible refine atS 1 ?_);refine iY (by rfl) 39 (.tmp 0) rfl _ rfl ?_;intro w1 I F J)|((with_reducible refine atS 2 ?_);refine aC (by rfl) 39 rfl _ _ fk ?_;intro w2 K G L;have E:=aa (ab.below I.o G.o);have H:=aa (F.o.trans (G.o.mono F.o.size));have b32:=ie (ab.range E.o) B.o;rw[Nat.zero_add]at b32;have D:=aa (xE (A2:=none) (c2:=0) (vl:=[]) (by have:=J.o;omega) (by have:=L.o;omega) (Below.refl _ _) H.o E.o K.o B.o (RB.nil _ _) (fun ad e=>by cases e));have c33:=D.o.1;have f33:=D.o.2.1)|((with_reducible refine atS 10 ?_);refine aj (by rfl) 39 (.tmp 1) rfl w.heap.size 0 _ rfl (ab.range D.o.2.2.1) be (by rw[aK,aL _ _ B.o]) ?_)|((with_reducible refine atT 2 ?_);refine a8 (o:=⟨none,_,_,_,_,_⟩) (by rfl) 39 (.tmp 2) (.tmp 10) rfl w1.heap.size _ _ 39 rfl rfl D.o.2.2.2.1 (by rw[aK,aL _ _ B.o]) (by rw[aL _ _ B.o,aL _ _ (ak 32)]) (lI rfl) ?_;intro w6 O P T));refine ij (g:=w1.heap.size) rfl rfl O.o be (by rw[aK,aL _ _ B.o]) rfl ?_;obtain⟨h1,h2,h3⟩:=D.o.2.2.2.2 _ P.o;exact⟨none,0,rfl,h1,Nat.le_refl _,Nat.zero_le _,fun _=>rfl,h2,h3⟩
theorem bJ.head{w:World}{base n:Nat}{v:Value}{X:Nat->Chg}{Ad:Nat->Option Addr}{Cp:Nat->Nat}(h:bJ w base v n X Ad Cp)(h0:n=0->∃g c,v= .slice (some ⟨g,0,none⟩) 0 c):∃g c,v= .slice (some ⟨g,0,none⟩) n c:=by
 rcases h.own.2with⟨_,e⟩|⟨g,cap,_,e,_⟩
 ·subst e;exact h0 rfl
 ·exact⟨g,cap,e⟩
theorem Ev{X Z:Nat->Chg}{N:Nat}(h:iZ X N Z)(hg:∀k,k<N->uH (Z k)):nM (lst Z N) N=true↔0<=pQ X N:=tJ h.1 h.2 hg
theorem vI(A:Option Addr)(N c:Nat)(X:Nat->Chg)(w:World)(hx:fa w A N X)(hn:N*64<=140737488355328)(hv:∀k,k<N->(X k).val.length<=140737488355328):Calls Tryz.prog 91 #[.slice A N c] w (jB X N w):=by
 have HX:=aa hx;have HV:=aa hv;have HH:=aa (B6 A N c 4096 X w hx (by omega));clear hx hv;have I:Hd (∀v w'(e:Nat),e=bU X N 4096->(e=0->∃Z Ad Cp,bJ w' w.heap.size v N Z Ad Cp/\iZ X N Z)->(e≠0->v= .slice none 0 0)->Below w.heap.size w w'->jB X N w (.returned (.tuple #[v, .int .i64 (e:Nat)])) w'):=fun v w' e he h1 h2 h3=>by
  subst he;exact⟨v,rfl,h3,h1,h2⟩
 generalize jB X N w=R at*;go_enter Tryz.func91,Tryz.ntmps91;go_wp2_with fail;refine HH.o.mono ?_;rintro e w1⟨rfl,hb1⟩;have F:=aa hb1;clear hb1;by_cases h0:fM X N 4096=0
 ·have B:Hd (bU X N 4096=if 0<=pQ X N then 33 else 0):=by show _=_;unfold bU;rw[if_pos h0]
  rw[h0];obtain⟨i,hi,hz,hs,hby⟩:=info_parts ej;have hN4:=(mo h0).1;have hib:i.bytes*N<=281474976710656:=by rw[hby];omega
  clear h0;go_wp2_with((with_reducible refine atS 16 ?_);refine wpList_make_own w1 (o:=⟨some 16,_,_,_,_,_⟩) rfl (.const (.int .i64 0)) (.tmp 15) 40 rfl w.heap.size 39 i _ 34 dh hi hz hs .i64 .i64 _ N rfl rfl rfl hib (by unfold maxLen;omega) F.o.size ?_;intro w2 ho2 hg2;have U:=aa ho2;have V:Hd (Below w.heap.size w w2):=F.o.grown hg2 F.o.size (fun k hk=>by cases hk);clear ho2 hg2);clear hib hi hz hs hby;go_loopw[5,19](fun v i wr=>∃k:Nat,k<=N/\i= .int .i64 k/\(∃Z Ad Cp,Hd (bJ wr w.heap.size v k Z Ad Cp)/\Hd (lst Z k=(lst X k).map bR))/\Hd (k=0->∃g c,v= .slice (some ⟨g,0,none⟩) 0 c)/\Hd (Below w.heap.size w wr))(fun _ i _=>N-(intOf i).toNat)
  case atStart=>exact⟨0,by omega,rfl,⟨fun _=>default,fun _=>none,fun _=>0,(show bJ _ _ _ _ _ _ _ from{own:=U.o,key:=fun i hi=>by omega,val:=fun i hi=>by omega,apart:=fun i hi=>by omega}),rfl⟩,(fun _=>⟨_,_,rfl⟩),V.o⟩
  case round=>
   clear U V;obtain⟨k,hk,rfl,⟨Z,Ad,Cp,C,J⟩,W,G⟩:=hrel;obtain⟨w3,rfl⟩:∃w3,w3=wr:=⟨_,rfl⟩;by_cases hlt:k<N
   ·have hlt':(k:Int)<N:=by omega
    obtain⟨b,o,Av,Cv,rfl,hb,hr,hkB,hkl,hvr,hvC,hCm,hnil⟩:=(HX.o.below G.o).2 k hlt;have Y:=aa hr;have HF:Hd (lst (upd Z k (bR (X k))) (k+1)=(lst X (k+1)).map bR):=by show _=_;rw[oY,J.o,jv,List.map_append];rfl
    have hvl:=HV.o k hlt;have D:Hd (IsB (X k).key/\(X k).key.length=32):=⟨hkB,hkl⟩;have L:=aa (show RB w3 Av (X k).val.length (X k).val/\(Av=none->Cv=0)from⟨hvr,hnil⟩);clear hr hkB hkl hvr hvC hCm hnil hb;have hsz:(Tryz.prog.info? 39).map (·.size)=some (chC (X k) Av Cv).length:=by rw[aK,am D.o.2]
    generalize X k=x at*;go_wp2_with(first|((with_reducible refine atS 22 ?_);refine aj (by rfl) 39 (.tmp 21) rfl b (o+k*34) (chC x Av Cv) rfl Y.o be hsz ?_)|((with_reducible refine atS 7 ?_);refine aC (by rfl) 39 rfl _ _ fk ?_;intro w4 a H HY)|((with_reducible refine atT 7 ?_);refine a8 (o:=⟨none,_,_,_,_,_⟩) (by rfl) 39 (.tmp 7) (.tmp 22) rfl w3.heap.size _ _ 39 rfl rfl a.o hsz (by rw[am D.o.2,aL _ _ (ak 32)]) cZ ?_;intro w5 M O Ha;have E:=aa (uw G.o C.o (A:=none) (c:=0) (vl:=[]) ⟨RB.nil _ _,Nat.le_refl _,Nat.zero_le _,fun _=>rfl⟩ H.o O.o);have d:Hd (RB w5 Av x.val.length x.val):=(L.o.1.below ((H.o).grown O.o H.o.size (fun k hk=>by injection hk with hk;omega)));have Hb:Hd (w3.heap.size<w5.heap.size):=ab.lt M.o;clear a H O)|((with_reducible refine atS 24 ?_);refine aj (by rfl) 39 (.tmp 7) rfl w3.heap.size 0 _ rfl (ab.range M.o) be hsz ?_));refine(DT x Av Cv w5 D.o.2 d.o hvl L.o.2).mono ?_;rintro e w6⟨A6,c6,rfl,hr6,hle6,hcm6,hnil6,hlo6,hb6⟩;have P:=aa (E.o.1.trans (hb6.mono E.o.1.size));have Q:=aa (E.o.2.1.later hb6);have T:Hd (IsB (bR x).key/\(bR x).key.length=32):=by rw[ew];exact D.o
    have HG:Hd (0<(bR x).val.length->∀ad,A6=some ad->some ad.block≠u5.ownBlock):=fun _ ad e he=>by
     have q1:=hlo6 ad e;have q2:=(E.o.2.1.own.lt _ he.symm).2;omega
    have HI:=aa (show RB w6 A6 (bR x).val.length (bR x).val/\(bR x).val.length<=c6/\c6<=maxLen/\(A6=none->c6=0)from⟨hr6,hle6,hcm6,hnil6⟩);clear hr6 hle6 hcm6 hnil6 hlo6 hb6 L d M E hsz Y D;generalize bR x=y at*;go_wp2_with(first|((with_reducible refine atS 26 ?_);refine aR rfl w6 40 39 _ 34 (.tmp 25) rfl dh dW (by decide) (by decide) (chC y A6 c6).toArray rfl (by rw[List.size_toArray,am T.o.2]) ?_)|((with_reducible refine atS 27 ?_);refine jz dh ej rfl w6 rfl (.tmp 23) (.tmp 26) rfl w.heap.size u5 k _ Q.o.own (chC y A6 c6) (am T.o.2) cZ rfl rfl (by omega) (by omega) P.o.size ?_;intro v7 w7 ho7 hg7 hl7;have HJ:=aa (Q.o.more T.o HI.o HG.o ho7 hg7 hl7);have HL:Hd (Below w.heap.size w w7):=P.o.grown hg7 P.o.size Q.o.ge;clear ho7 hg7 hl7));go_roundw
    case rel=>exact⟨k+1,by omega,by go_num,⟨_,_,_,HJ.o,HF.o⟩,(fun h=>by omega),HL.o⟩
    case measure=>simp[intOf];omega
   ·have hnlt:¬(k:Int)<N:=by omega
    obtain rfl:k=N:=by omega
    obtain⟨g,cc,rfl⟩:=C.o.head W.o;go_wp2_with fail;have f:=aa (yp (c:=cc) C.o (by omega));have hgg:=(C.o.own.lt g rfl).1;refine f.o.mono ?_;rintro e w4⟨rfl,Z4,Ad4,Cp4,ho4,hs4,hp4,_,hg4⟩;have l:Hd (Below w.heap.size w w4):=G.o.grown hg4 G.o.size (fun j hj=>by injection hj with hj;omega);have HM:=aa ho4;have n:Hd (iZ X k Z4):=⟨hs4,hp4.trans (by rw[J.o])⟩;have r:=aa (Ev n.o ho4.key);have s:Hd (fa w4 (some ⟨g,0,none⟩) k Z4):=by
     obtain⟨A',C',e',h,_⟩:=ho4.form;injection e' with e1 e2 e3;rw[e1];exact h
    have hu:=bW;clear ho4 hs4 hp4 hg4 f C J W hgg;go_wp2_with fail;go_loopw[8](fun i wr=>∃m q:Nat,1<=m/\(m<=k∨k=0)/\i= .int .i64 m/\Hd (nM (lst Z4 k) (min m k)=false)/\wr=w4.drewN q)(fun i _=>k-(intOf i).toNat)
    case atStart=>
     refine⟨1,0,by omega,by omega,rfl,?_,rfl⟩;show _=_;rcases Nat.eq_zero_or_pos k with h|h
     ·rw[h];rfl
     ·rw[show min 1 k=1by omega];simp[nM]
    case round=>
     obtain⟨m,q,h1m,hmk,rfl,t,rfl⟩:=hrel;by_cases hml:m<k
     ·have hml':(m:Int)<k:=by omega
      obtain⟨p,hp⟩:∃p,m-1=p:=⟨_,rfl⟩;have hpm:IntKind.i64.wrap ((m:Int)-1)=(p:Int):=by rw[IntWalk.i64_in _ (by omega)];omega
      have hp0:(0:Int)<=(p:Int):=by omega
      have hpk:(p:Int)<k:=by omega
      have hpk2:p<k:=by omega
      obtain⟨b,o,Av,Cv,e1,hb,hr,hkB,hkl,hq1⟩:=s.o.2 m hml;obtain⟨b',o',Av',Cv',e2,hb',hr',hkB',hkl',hq2⟩:=s.o.2 p hpk2;injection e1 with e1;injection e1 with e1 e3 e4;clear e4;subst e1 e3;injection e2 with e2;injection e2 with e2 e3 e4;clear e4;subst e2 e3;have a1:=er hr;have a2:=er hr';rw[Nat.zero_add]at a1 a2;have hsz:(Tryz.prog.info? 37).map (·.size)=some (bvs (Z4 m).key).length:=by rw[aB];simp[bvs,hkl]
      have hsz2:(Tryz.prog.info? 37).map (·.size)=some (bvs (Z4 p).key).length:=by rw[aB];simp[bvs,hkl']
      have hek:∀w,(Op.equalIn 10000 37 (.agg (bvs (Z4 m).key).toArray) (.agg (bvs (Z4 p).key).toArray)).run Tryz.prog w= .ok (decide ((Z4 m).key=(Z4 p).key)) w:=fun w=>mD w _ _ hkB hkB' hkl hkl';have HP:Hd ((Z4 m).key=(Z4 p).key->33=bU X k 4096):=fun h=>by
       rw[B.o,if_pos (r.o.1 (si hml (by omega) (by rw[eN hml,hp,eN hpk2];exact h)))]
      have HQ:Hd (¬(Z4 m).key=(Z4 p).key->nM (lst Z4 k) (m+1)=false):=fun h=>by
       have h1:=t.o;rw[show min m k=m by omega]at h1;rw[nM,h1,eN hml,hp,eN hpk2,decide_eq_false h];simp
      obtain⟨w5,hw5⟩:∃w5,w4.drewN q=w5:=⟨_,rfl⟩;have u:=aa hw5;have KS:Hd (∀j,(w5.drewN j).rangeAt g (m*34) (bvs (Z4 m).key)/\(w5.drewN j).rangeAt g (p*34) (bvs (Z4 p).key)):=fun j=>by
       rw[<-hw5];exact⟨a1,a2⟩
      rw[hw5];clear hr hr' hkB hkl hkB' hkl' a1 a2 hw5 hp hq1 hq2 hb hb';generalize(Z4 m).key=x at*;generalize(Z4 p).key=y at*;go_wp2_with fail;rename_i KK hKK;have HS:=aa hKK;clear hKK;refine wp_region_held_drew (S:=fun w'=>w'.rangeAt g (m*34) (bvs x)/\w'.rangeAt g (p*34) (bvs y)) (by kernel_rfl) (KS.o 1) fun hH=>?_;refine tka 0 ?_;refine tka 1 ?_;refine tka 2 ?_;refine tka 3 ?_;refine tkl 4 ?_;refine tka 5 ?_;refine tka 6 ?_;refine tka 7 ?_;refine tka 8 ?_;refine tka 9 ?_;refine tkl 10 ?_;refine rdy 11 fun K hK=>?_;go_simp;refine hK.out _ _ hH (fun hH2=>?_);clear hK hH;refine bN ?_;change KK _ _;refine HS.o _ _ ?_;clear hH2 hu hsz hsz2 hek hpm;by_cases hxy:x=y
      ·have HT:=aa (HP.o hxy);rw[decide_eq_true hxy];go_wp2_with fail;exact I.o _ _ 33 HT.o (fun h=>absurd h (by decide)) (fun _=>rfl) (by rw[<-u.o];exact af (af l.o q) 1)
      ·have HU:=aa (HQ.o hxy);rw[decide_eq_false hxy];go_wp2_with fail;go_roundw
       case rel=>exact⟨m+1,q+1,by omega,by omega,by go_num,(by show _=_;rw[show min (m+1) k=m+1by omega];exact HU.o),by rw[<-u.o];rfl⟩
       case measure=>simp[intOf];omega
     ·have hml':¬(m:Int)<k:=by omega
      have HW:Hd (0=bU X k 4096):=by
       show _=_;have h1:nM (lst Z4 k) k=false:=by have:=t.o;rwa[show min m k=k by omega]at this
       rw[B.o,if_neg (fun h=>by rw[r.o.2 h]at h1;cases h1)]
      go_wp2_with fail;exact I.o _ _ 0 HW.o (fun _=>⟨Z4,Ad4,Cp4,HM.o.later (af (Below.refl _ _) q),n.o⟩) (fun h=>absurd rfl h) (af l.o q)
 ·have B:Hd (fM X N 4096=bU X N 4096):=(lK h0).symm;obtain⟨z,hz⟩:∃z,z=fM X N 4096:=⟨_,rfl⟩;rw[<-hz]at B h0⊢;have h1:(z:Int)≠0:=by omega
  have h2:(((z:Nat):Int)!=0)=true:=by rw[bne_iff_ne];exact h1
  clear hz;go_wp2_with fail;exact I.o _ _ z B.o (fun h=>absurd h h0) (fun _=>rfl) F.o
theorem sV:∀x:Fin 256,Lib.bitLen x.val=len8 x.val:=by decide+kernel
theorem BQ(x:Int)(w:World)(h0:0<=x)(h1:x<=255):Calls Tryz.prog 115 #[.int .u8 x] w fun e w'=>e= .returned (.int .i64 (Lib.bitLen x.toNat))/\w'=w:=by
 rw[<-Lib.len8_int x h0 h1];go_enter Tryz.func115,Tryz.ntmps115;go_wp2;go_ret;refine⟨?_,rfl⟩;generalize Lib.len8 x=l;show Ending.returned (.int .i64 (wrap64 l))=_;congr 2;unfold wrap64;omega
theorem BP(x:Nat)(w:World)(hx:x<256):Calls Tryz.prog 115 #[.int .u8 x] w fun e w'=>e= .returned (.int .i64 (len8 x:Nat))/\w'=w:=by
 have h:=BQ (x:Int) w (by omega) (by omega);rw[Int.toNat_natCast,show Lib.bitLen x=len8 x from sV ⟨x,hx⟩]at h;exact h
theorem DZ(x:Nat)(w:World)(hx:x<256):Calls Tryz.prog 99 #[.int .u8 x] w fun e w'=>e= .returned (.int .i64 (lz8 x:Nat))/\w'=w:=by
 have h8:len8 x<=8:=by
  have h:∀x:Fin 256,len8 x.val<=8:=by decide+kernel
  exact h ⟨x,hx⟩
 have A:Hd ((lz8 x:Int)=8-(len8 x:Int)):=by
  show(lz8 x:Int)=8-(len8 x:Int);unfold lz8;omega
 have B:=aa (BP x w hx);generalize len8 x=l at*;go_enter Tryz.func99,Tryz.ntmps99;go_wp2_with fail;refine B.o.mono ?_;rintro e w1⟨rfl,hw1⟩;rw[hw1];clear hw1;go_wp2_with fail;go_ret;exact⟨by rw[A.o];rfl,rfl⟩
theorem sO(ks:List Nat)(w:World)(hB:IsB ks)(hl:ks.length=32):Calls Tryz.prog 70 #[.agg (bvs ks).toArray, .agg (bvs ks).toArray] w fun e w'=>e= .returned (.int .i64 256)/\Below w.heap.size w w':=by
 have A:=aa hB;have B:=aa hl;have C:Hd (∀w,(Op.equalIn 10000 37 (.agg (bvs ks).toArray) (.agg (bvs ks).toArray)).run Tryz.prog w= .ok true w):=fun w=>by rw[mD w ks ks hB hB hl hl];simp
 clear hB hl;have D:=aa (((Below.refl w.heap.size w).alloc (Nat.le_refl _) (.cells (bvs ks).toArray 37)).alloc (by simp) (.cells (bvs ks).toArray 37));have E:Hd (RB ((w.alloc (.cells (bvs ks).toArray 37)).alloc (.cells (bvs ks).toArray 37)) (some ⟨w.heap.size,0,none⟩) 32 ks):=ar.whole (ab.alloc (ab.new w 37 _) _) A.o B.o;have F:Hd (RB ((w.alloc (.cells (bvs ks).toArray 37)).alloc (.cells (bvs ks).toArray 37)) (some ⟨w.heap.size+1,0,none⟩) 32 ks):=ar.whole (mF w _ 1 _ _ (by simp)) A.o B.o;have he:=C.o;go_enter Tryz.func70,Tryz.ntmps70;go_wp2_with(first|(refine ac (o:=⟨some 7,_,_,_,_,_⟩) (by rfl) 37 (.tmp 2) rfl ⟨w.heap.size,0,none⟩ 32 ks rfl E.o (by omega) fz aB ?_)|(refine ac (o:=⟨some 8,_,_,_,_,_⟩) (by rfl) 37 (.tmp 3) rfl ⟨w.heap.size+1,0,none⟩ 32 ks rfl F.o (by omega) fz aB ?_));go_ret;exact⟨rfl,D.o⟩
theorem sP(ds es:List Nat)(d:Nat)(w:World)(hB:IsB ds)(hl:ds.length=32)(hB2:IsB es)(hl2:es.length=32)(hd:EI ds es d):Calls Tryz.prog 70 #[.agg (bvs ds).toArray, .agg (bvs es).toArray] w fun e w'=>e= .returned (.int .i64 (te ds es d:Nat))/\Below w.heap.size w w':=by
 have E:=aa hB;have F:=aa hl;have G:=aa hB2;have H:=aa hl2;have D:=aa hd;have I:Hd (∀w,(Op.equalIn 10000 37 (.agg (bvs ds).toArray) (.agg (bvs es).toArray)).run Tryz.prog w= .ok false w):=fun w=>by
  rw[mD w ds es hB hB2 hl hl2,decide_eq_false (fun h=>hd.2.2 (by rw[h]))]
 clear hB hl hB2 hl2 hd;have A:Hd (ar ((w.alloc (.cells (bvs ds).toArray 37)).alloc (.cells (bvs es).toArray 37)) w.heap.size 37 ds):=ab.alloc (ab.new w 37 _) _;have B:Hd (ar ((w.alloc (.cells (bvs ds).toArray 37)).alloc (.cells (bvs es).toArray 37)) (w.heap.size+1) 37 es):=mF w _ 1 _ _ (by simp);have he:=I.o;go_enter Tryz.func70,Tryz.ntmps70;go_wp2_with(first|(refine ac (o:=⟨some 7,_,_,_,_,_⟩) (by rfl) 37 (.tmp 2) rfl ⟨w.heap.size,0,none⟩ 32 ds rfl (A.o.whole E.o F.o) (by omega) fz aB ?_)|(refine ac (o:=⟨some 8,_,_,_,_,_⟩) (by rfl) 37 (.tmp 3) rfl ⟨w.heap.size+1,0,none⟩ 32 es rfl (B.o.whole G.o H.o) (by omega) fz aB ?_));have C:Hd (Below w.heap.size w ((w.alloc (.cells (bvs ds).toArray 37)).alloc (.cells (bvs es).toArray 37))):=((Below.refl w.heap.size w).alloc (Nat.le_refl _) _).alloc (by simp) _;generalize(w.alloc (.cells (bvs ds).toArray 37)).alloc (.cells (bvs es).toArray 37)=w2 at*;clear he I;go_loopw[10](fun i wr=>∃k:Nat,k<=d/\i= .int .i64 k/\Hd (ar wr w.heap.size 37 ds)/\Hd (ar wr (w.heap.size+1) 37 es)/\Hd (Below w.heap.size w wr))(fun i _=>32-(intOf i).toNat)
 case atStart=>exact⟨0,by omega,rfl,A.o,B.o,C.o⟩
 case round=>
  clear A B C;obtain⟨k,hk,rfl,A,B,C⟩:=hrel;have hd32:d<32:=D.o.1;have hc1:=A.o.cell (i:=k) (by rw[F.o];omega);have hc2:=B.o.cell (i:=k) (by rw[H.o];omega);have h1:=fQ E.o k;have h2:=fQ G.o k;have hx:=Ff (ds.getD k 0) (es.getD k 0) h1 h2;by_cases hlt:k<d
  ·have he:=D.o.2.1 k hlt;rw[he,Nat.xor_self]at hx;rw[he]at hc1;clear h1 he;generalize es.getD k 0=y at*;go_wp2_with fail;go_region;go_wp2_with fail;go_roundw
   case rel=>exact⟨k+1,by omega,by go_num,A.o,B.o,af C.o 1⟩
   case measure=>simp[intOf];omega
  ·obtain rfl:k=d:=by omega
   have hne:=D.o.2.2;have hz8:ds.getD k 0^^^es.getD k 0<256:=Nat.xor_lt_two_pow (n:=8) h1 h2;have hz0:¬ds.getD k 0^^^es.getD k 0=0:=fun h=>hne (j6 h);obtain⟨z,J⟩:∃z,Hd (ds.getD k 0^^^es.getD k 0=z):=⟨_,rfl⟩;rw[J.o]at hx hz8 hz0;have hn0:((z:Int)!=0)=true:=by rw[bne_iff_ne];omega
   have K:=aa (fun w=>DZ z w hz8);have hlz:lz8 z<=8:=by unfold lz8;omega
   have L:Hd (te ds es k=8*k+lz8 z):=by
    show _=_;rw[<-J.o];rfl
   generalize lz8 z=l at*;clear hne hz0;generalize ds.getD k 0=x at*;generalize es.getD k 0=y at*;go_wp2_with fail;go_region;go_wp2_with fail;refine(K.o _).mono ?_;rintro e w3⟨rfl,hw3⟩;rw[hw3];clear hw3;go_wp2_with fail;go_ret;exact⟨by rw[L.o];rfl,af C.o 1⟩
theorem tN(ds es:List Nat)(w:World)(hB:IsB ds)(hl:ds.length=32)(hB2:IsB es)(hl2:es.length=32):Calls Tryz.prog 70 #[.agg (bvs ds).toArray, .agg (bvs es).toArray] w fun e w'=>e= .returned (.int .i64 (eS ds es:Nat))/\Below w.heap.size w w':=by
 by_cases h:ds=es
 ·subst h;rw[(kC hB hl hB hl).2 rfl];exact sO ds w hB hl
 ·obtain⟨d,hd⟩:=lG hl hl2 h;obtain⟨h1,h2,h3⟩:=pE hB hB2 hd;have e:eS ds es=te ds es d:=by
   have q1:te ds es d<=eS ds es:=(dH (by omega)).2 h2;have q2:¬te ds es d+1<=eS ds es:=fun q=>by
    have h4:=(dH (by omega)).1 q (te ds es d) (by omega);rcases h3 with h|h<;>omega
   omega
  rw[e];exact sP ds es d w hB hl hB2 hl2 hd
def kf(xs:List Nat):ByteArray:=⟨(xs.map fun x=>UInt8.ofNat x).toArray⟩
theorem dn{P:Program}{w:World}{A:Option Addr}{n:Nat}{xs:List Nat}(src dst e:TypeId)(hs:P.underlying src=some (.slice e))(he:P.underlying e=some (.int .u8))(hd:P.underlying dst=some .string)(h:RB w A n xs)(c:Nat):(convert src dst (.slice A n c)).run P w= .ok (.string (kf xs)) w:=by
 cases A with
 |none=>
  have hn:n=0:=by
   rcases Nat.eq_zero_or_pos n with h0|h0
   ·exact h0
   ·obtain⟨ad,e',_⟩:=h.2.2 h0;cases e'
  have hx:xs=[]:=List.eq_nil_of_length_eq_zero (h.1.trans hn);subst hx;rw[run_convert_bytes_nil w src e hs he n c dst hd];rfl
 |some ad=>
  have hl:(loadCells ad n).run P w= .ok ((xs.map fun x:Nat=>(x:Int)).map (Value.int .u8)).toArray w:=by
   have:=run_loadCells_list (P:=P) w ad (bvs xs) (fun j v hj=>by
    simp only[bvs,List.getElem?_map,Option.map_eq_some_iff]at hj;obtain⟨x,hx,rfl⟩:=hj;have hjl:j<xs.length:=(List.getElem?_eq_some_iff.1 hx).1;obtain⟨ad',e',_,hc⟩:=h.2.2 (by have:=h.1;omega);injection e' with e';subst e';exact hc j x hx);rw[show(bvs xs).length=n by simp[bvs,h.1]]at this;rw[this,List.map_map];rfl
  rw[run_convert_bytes_string w src dst e _ n c hs he hd,run_bytesToString w _ n c _ hl,foldl_push_bytes];simp[kf,ByteArray.empty,ByteArray.emptyWithCapacity];exact List.map_congr_left fun x _=>by simp
theorem rP{xs ys:List Nat}(hx:IsB xs)(hy:IsB ys):((kf xs).toList==(kf ys).toList)=decide (xs=ys):=by
 have e:∀zs:List Nat,(kf zs).toList=zs.map fun x=>UInt8.ofNat x:=fun zs=>by
  rw[ByteArray.toList_eq];simp[kf]
 rw[e,e,Bool.eq_iff_iff,beq_iff_eq,decide_eq_true_eq];constructor
 ·intro h;have h2:∀zs:List Nat,IsB zs->(zs.map fun x=>UInt8.ofNat x).map UInt8.toNat=zs:=fun zs hz=>by
   rw[List.map_map];conv=>rhs;rw[<-List.map_id zs]
   apply List.map_congr_left;intro x hx;have:=hz x hx;simp;omega
  rw[<-h2 xs hx,<-h2 ys hy,h]
 ·rintro rfl;rfl
theorem zr(A B:Option Addr)(n m c d:Nat)(xs ys:List Nat)(w:World)(hx:RB w A n xs)(hy:RB w B m ys):Calls Tryz.prog 65 #[.slice A n c, .slice B m d] w fun e w'=>e= .returned (.bool (decide (xs=ys)))/\w'=w:=by
 have h1:∀c,(convert 36 9 (.slice A n c)).run Tryz.prog w= .ok (.string (kf xs)) w:=dn 36 9 5 ax (by kernel_rfl) (by kernel_rfl) hx;have h2:∀c,(convert 36 9 (.slice B m c)).run Tryz.prog w= .ok (.string (kf ys)) w:=dn 36 9 5 ax (by kernel_rfl) (by kernel_rfl) hy;have h3:=rP hx.2.1 hy.2.1;generalize kf xs=s1 at*;generalize kf ys=s2 at*;obtain⟨b,hb⟩:∃b,decide (xs=ys)=b:=⟨_,rfl⟩;rw[hb]at h3⊢;clear hx hy hb;go_enter Tryz.func65,Tryz.ntmps65;go_wp2_with fail;go_ret;exact⟨rfl,rfl⟩
theorem oT(A:Option Addr)(n c:Nat)(xs:List Nat)(w:World)(hx:RB w A n xs)(hA:A=none->c=0)(hn:n<=140737488355328):Calls Tryz.prog 37 #[.slice A n c] w (qc w xs):=by
 have B:=aa hx;have C:=aa hn;clear hx hn;go_enter Tryz.func37,Tryz.ntmps37;go_wp2_with(at_builtin;refine dc (o:=⟨some 4,_,_,_,_,_⟩) ax aH w (by rfl) (.const (.slice none 0 0)) (.tmp 3) (by rfl) w.heap.size _ [] (Own.nil _ _ _) A n c xs B.o hA (by rfl) (by rfl) (by have:=C.o;simp;omega) (Nat.le_refl _) ?_;intro V w3 ho hg);go_ret;exact⟨_,rfl,ho,(Below.refl _ _).grown hg (Nat.le_refl _) fun k hk=>by cases hk⟩
end Go.Proofs.YtfnlhfaihoojfaaGreatDoor
