/- Texts of the proof of ledgerlaw13.ClientPlays, part 13; no condition of its own. -/
import Derived.Test.YtfnlhfaihoojfaaGreatDoorS12
set_option maxRecDepth 100000
set_option maxHeartbeats 4000000
namespace Go.Proofs.YtfnlhfaihoojfaaGreatDoor
open Go.RowKit
structure aX(w:World)(g:Nat)(c:Ck)(p:Pr):Prop where
 ck:fx w g c
 ok:c.Ok
 blank:dw w c.wd c.blank
 sums:w.ownsRow 0 34 32 c.s p.sums.length (bvs p.sums.flatten)
 pok:p.Ok
 bits:p.bits=c.bits
 found:p.found=c.f
 tabs:eY w
 g1:g≠2
 g2:g≠3
theorem aX.notG{w:World}{g:Nat}{c:Ck}{p:Pr}(h:aX w g c p):∀B,c.s.ownBlock=some B->B≠g:=fun B hB e=>by
 rcases h.sums.2with h1|⟨b,cap,cur,h0,h1,h2,h3⟩
 ·rw[h1.1]at hB;cases hB
 ·rw[h0]at hB;injection hB with hB;subst hB;exact qa (cs:=cur) (cs':=c.C.toArray) (t:=34) (t':=96) h2 h.ck (by decide) e
theorem aX.keep{w w':World}{g:Nat}{c:Ck}{p:Pr}(h:aX w g c p)(ht:ae (fun B=>B=g) w w'){b:Value}(hc:fx w' g (c.blanked b))(hb:dw w' c.wd b)(htt:eY w'):aX w' g (c.blanked b) p:=⟨hc,⟨h.ok.kl,h.ok.kB,h.ok.rl,h.ok.rB,h.ok.bl,h.ok.bB,h.ok.fl,h.ok.fB⟩,hb,ht.row h.sums h.notG,h.pok,h.bits,h.found,htt,h.g1,h.g2⟩
theorem ae.tabs{w w':World}{g:Nat}(ht:ae (fun B=>B=g) w w')(h:eY w)(h1:g≠2)(h2:g≠3):eY w':=⟨h.1.keep ht.size (ht.block _ h.1.1 (Ne.symm h1)),h.2.keep ht.size (ht.block _ h.2.1 (Ne.symm h2))⟩
theorem aX.below{w w':World}{g:Nat}{c:Ck}{p:Pr}(h:aX w g c p)(hb:Below w.heap.size w w'):aX w' g c p:=by
 have ht:ae (fun B=>B=g) w w':=(ae.ofBelow hb).mono fun _ _ h=>h.elim;refine⟨ab.below h.ck hb,h.ok,?_,ht.row h.sums h.notG,h.pok,h.bits,h.found,h.tabs.below hb,h.g1,h.g2⟩;rcases h.blank with h1|⟨B,h1,h2⟩
 ·exact .inl h1
 ·exact .inr ⟨B,h1,ab.below h2 hb⟩
theorem aX.bare{w:World}{g:Nat}{c:Ck}{p:Pr}(h:aX w g c p){j:Nat}(hj:j<256):Calls Tryz.prog 46 #[.pointer (some ⟨g,0,none⟩), .int .i64 j] w fun e w'=>e= .returned (.agg (bvs (ay c.wd j)).toArray)/\(∃b,aX w' g (c.blanked b) p/\me w c.blank b)/\ae (fun B=>B=g) w w':=(CM g c j w h.ck h.ok h.blank hj h.tabs h.g1 h.g2).mono fun _ _⟨h1,b,h2,h3,h4,h5⟩=>⟨h1,⟨b,h.keep h4 h2 h3 (h4.tabs h.tabs h.g1 h.g2),h5⟩,h4⟩
theorem me.trans{w w':World}{b b' b'':Value}(h:me w b b')(k:me w' b' b'')(hs:w.heap.size<=w'.heap.size):me w b b'':=by
 rcases k with rfl|⟨B,h1,h2⟩
 ·exact h
 ·exact .inr ⟨B,Nat.le_trans hs h1,h2⟩
theorem DB{ds:List (List Nat)}(hd:∀s∈ds,IsB s/\s.length=32){i:Nat}(hi:i<ds.length):(ds.flatten.drop (32*i)).take 32=ds.getD i (zs 32):=by
 induction ds generalizing i with
 |nil=>simp at hi
 |cons d ds ih=>
  have h0:=(hd d (by simp)).2;cases i with
  |zero=>simp[List.take_left' h0]
  |succ i=>
   rw[List.flatten_cons,show 32*(i+1)=32+32*i by omega,<-List.drop_drop,List.drop_left' h0,List.getD_cons_succ];exact ih (fun s hs=>hd s (by simp[hs])) (by simpa using hi)
theorem sq{ds:List (List Nat)}(hd:∀s∈ds,IsB s/\s.length=32):ds.flatten.length=32*ds.length:=by
 induction ds with
 |nil=>rfl
 |cons d ds ih=>rw[List.flatten_cons,List.length_append,(hd d (by simp)).2,ih fun s hs=>hd s (by simp[hs]),List.length_cons];omega
theorem aX.sumAt{w:World}{g:Nat}{c:Ck}{p:Pr}(h:aX w g c p){i:Nat}(hi:i<p.sums.length):∃B n k,c.s= .slice (some ⟨B,0,none⟩) n k/\n=p.sums.length/\RB w (some ⟨B,i*32,none⟩) 32 (p.sums.getD i (zs 32))/\(n:Int)<=256:=by
 rcases h.sums.2with h1|⟨b,cap,cur,h0,h1,h2,h3⟩
 ·have:=h1.2;omega
 ·have hr:World.ownsRow w 0 34 32 (.slice (some ⟨b,0,none⟩) p.sums.length cap) p.sums.length (bvs p.sums.flatten):=h0▸h.sums;have hm:p.sums.getD i (zs 32)∈p.sums:=by
   rw[jx _ _ hi];exact List.getElem_mem hi
  have hf:=sq h.pok.sB;have hlt:b<w.heap.size:=(di hr rfl).2;refine⟨b,_,cap,h0,rfl,⟨(h.pok.sB _ hm).2,(h.pok.sB _ hm).1,fun _=>⟨_,rfl,hlt,fun j x hj=>?_⟩⟩,?_⟩
  ·rw[add_lit];have hj32:j<32:=by
    rcases Nat.lt_or_ge j 32with h'|h'
    ·exact h'
    ·rw[List.getElem?_eq_none (by rw[(h.pok.sB _ hm).2];exact h')]at hj;cases hj
   show w.cell? ⟨b,i*32+j,none⟩=_;rw[hr.cellAt (i*32+j) (by omega),bvs,List.getElem?_map];have e:=DB h.pok.sB hi;rw[<-e,List.getElem?_take,if_pos hj32,List.getElem?_drop,show 32*i+j=i*32+j by omega]at hj;rw[hj];rfl
  ·have:=h.pok.sl;have:=iy (ds:=p.bits);have:=h.pok.bl;omega
theorem jP{w:Int}{p:Pr}{h:Nat}(h0:bM w p h=0)(hh:h<256)(hb:nz w p h≠0):bM w p 256=nz w p h:=by
 have h1:bM w p (h+1)=nz w p h:=by rw[bM,if_pos h0]
 rw[oQ (n:=h+1) (by rw[h1];exact hb) (by omega),h1]
def E9(g:Nat)(c:Ck)(p:Pr)(w:World)(e:Ending)(w':World):Prop:=e= .returned (.int .i64 (bM c.wd p 256:Nat))/\(∃b,aX w' g (c.blanked b) p/\me w c.blank b)/\ae (fun B=>B=g) w w'
theorem AY{P:Program}{w:World}{ops:Array Oper}{rest:List Oper}{o:Oper}{a:Act}{Q:Exit->Act->World->Prop}(hgd:o.guard=none)(t:TypeId)(x ix:Operand)(ho:o.op= .slice t x (some ix) none none)(ht:P.underlying t=some (.array (P.arrayLen t) (P.elem t)))(hn:P.arrayLen t=32)(hsz:(P.info? (P.elem t)).map (·.size)=some 1)(g k n:Nat)(hx:a.eval x= .pointer (some ⟨g,0,none⟩))(hi:a.eval ix= .int .i64 (k:Int))(hk:k+n=32)(h:∀q,Hd (0<n->q=k)->wpList P ops Q rest (a.put o.dst (.slice (some ⟨g,q,none⟩) n n)) w):wpList P ops Q (o::rest) a w:=by
 refine wpList_plain hgd fun K hK=>?_;have hs:(sizeOf (P.elem t)).run P w= .ok 1 w:=by
  cases hq:P.info? (P.elem t)with
  |none=>simp[hq]at hsz
  |some i=>
   have h1:i.size=1:=by simpa[hq]using hsz
   simp[sizeOf,typeInfo,hq,h1]
 have hrun:(Instr.sliceAt t (.pointer (some ⟨g,0,none⟩)) (some (.int .i64 (k:Int))) none none).run P w= .ok (.slice (some ⟨g,if n=0then 0 else k,none⟩) n n) w:=by
  rw[run_sliceAt_array_l w t ⟨g,0,none⟩ ht .i64 (k:Int) (by omega) (by omega),hs,hn];simp only[Result.andThen_ok,slicedAt,Int.toNat_natCast,Nat.mul_one];have e:32-k=n:=by omega
  rw[e];by_cases h0:n=0
  ·rw[if_pos h0,if_pos (by omega)]
  ·rw[if_neg h0,if_neg (by omega),add_lit,Nat.zero_add]
 have h2:=h (if n=0then 0 else k) (show _->_ from fun hp=>if_neg (by omega));unfold Oper.wp execOp;simp only[ho,hx,hi,Option.map,Sem.run_bind,Sem.run_pure,hrun,Result.andThen_ok];exact hK _ _ h2
theorem fP(w:World){xs ys:List Nat}(hx:IsB xs)(hy:IsB ys)(h1:xs.length=32)(h2:ys.length=32):(Op.equalIn 10000 34 (.agg (bvs xs).toArray) (.agg (bvs ys).toArray)).run Tryz.prog w= .ok (decide (xs=ys)) w:=tl (P:=Tryz.prog) w 9998 34 5 32 Tryz.underlying34 Tryz.underlying5 iI hx hy h1 h2
theorem yi{w:Int}{m:Nat}(hm:w=m)(h32:m<=32)(ds:List Nat):eZ w ds=decide (∀b∈ds.drop m,b=0):=by
 unfold eZ;rw[show gj w=m by unfold gj;omega]
theorem AQ(g:Nat)(c:Ck)(p:Pr)(w:World)(hr:aX w g c p)(hw1:1<=c.wd)(hw2:c.wd<=32):Calls Tryz.prog 44 #[.pointer (some ⟨g,0,none⟩)] w (E9 g c p w):=by
 have a:=aa hr;have HC:Hd (g<w.heap.size):=hr.ck.lt;have d:=aa hw1;have f:=aa hw2;clear hr hw1 hw2;go_enter Tryz.func44,Tryz.ntmps44;go_wp2_with fail;go_loopw[3,8](fun nx i wr=>∃h:Nat,h<=256/\i= .int .i64 h/\nx= .int .i64 (ek p.bits h:Nat)/\Hd (bM c.wd p h=0)/\Hd (∃b,aX wr g (c.blanked b) p/\me w c.blank b)/\Hd (ae (fun B=>B=g) w wr))(fun _ i _=>256-(intOf i).toNat)
 case atStart=>exact⟨0,by omega,rfl,rfl,rfl,⟨c.blank,a.o, .inl rfl⟩,ae.refl _ _⟩
 case round=>
  obtain⟨h,hh,rfl,rfl,F,J,L⟩:=hrel;by_cases hlt:h<256
  ·have hlt':(h:Int)<256:=by omega
   obtain⟨b,hb0,hb1⟩:=J.o;have A:=aa hb0;have M:=aa hb1;clear hb0 hb1 J;go_wp2_with fail;refine(qZ g 66 c.bits h wr (xR (c:=c.blanked b) A.o.ck A.o.ok) hlt).mono ?_;rintro e w1⟨rfl,rfl⟩;have I:Hd (gM c.bits h=gM p.bits h):=by
    show _=_;rw[A.o.bits];rfl
   cases hbit:gM c.bits h with
   |false=>
    have C:Hd (gM p.bits h=false):=by
     show _=_;rw[<-I.o,hbit]
    clear hbit I;go_wp2_with fail;go_roundw
    case rel=>exact⟨h+1,by omega,by go_num,by rw[ek,C.o];rfl,by rw[bM,if_pos F.o,nz,C.o];rfl,⟨b,A.o,M.o⟩,L.o⟩
    case measure=>simp[intOf];omega
   |true=>
    have C:Hd (gM p.bits h=true):=by
     show _=_;rw[<-I.o,hbit]
    clear hbit I;have hci:ek p.bits h<p.sums.length:=by
     rw[A.o.pok.sl,fV A.o.pok.bl];exact pe C.o hlt
    have N:Hd (av c.wd p h=p.sums.getD (ek p.bits h) (zs 32)):=by
     show av c.wd p h=_;unfold av;rw[if_pos C.o]
    have D:=aa (A.o.pok.sB (p.sums.getD (ek p.bits h) (zs 32)) (by rw[jx _ _ hci];exact List.getElem_mem hci));obtain⟨B,n,k,hs,hn,hx,hn2⟩:=A.o.sumAt hci;have hci2:((ek p.bits h:Nat):Int)<(n:Int):=by omega
    have hci3:((ek p.bits h:Nat):Int)<=256:=by omega
    obtain⟨cw,_,_,_,cs,_⟩:=bF (c:=c.blanked b) A.o.ck A.o.ok;rw[hs]at cs;have l:=aa hx;have HD:=aa cw;have r:Hd (ek p.bits (h+1)=ek p.bits h+1):=by
     show _=_;rw[ek,C.o];rfl
    clear hs hn hx hn2 hci cw;generalize ek p.bits h=q at*;generalize p.sums.getD q (zs 32)=ds at*;go_wp2_with(first|(refine ac (o:=⟨some 24,_,_,_,_,_⟩) (by rfl) 34 (.tmp 23) rfl ⟨B,q*32,none⟩ 32 ds rfl l.o (by omega) (by kernel_rfl) (by kernel_rfl) ?_)|((with_reducible refine atS 5 ?_);refine aC (by rfl) 34 rfl _ _ aD ?_;intro w2 s Q HE)|(refine aq (o:=⟨none,_,_,_,_,_⟩) (by rfl) 34 (.tmp 5) (.tmp 24) rfl 0 [] (bvs (zs 32)) (bvs ds) [] rfl rfl (bj s.o) rfl (by simp[bvs,zs,D.o.2]) (by rw[ag];simp[bvs,D.o.2]) (fun u hu=>ah _ u hu) ?_;intro w3 h3 g3)|(with_reducible refine atS 30 ?_));have hb13:Below w1.heap.size w1 w3:=Q.o.grown g3 Q.o.size fun k hk=>by injection hk with hk;omega
    have E:Hd (aX w3 g (c.blanked b) p):=A.o.below hb13;have G:Hd (ar w3 w1.heap.size 34 ds):=aN h3;have H:Hd (ae (fun B=>B=g) w w3):=L.o.trans ((ae.ofBelow hb13).mono fun _ _ h=>h.elim);have t:Hd (g<w1.heap.size):=A.o.ck.lt;clear hb13 h3 g3 cs hci2;obtain⟨m,hm⟩:∃m:Nat,c.wd=m:=⟨c.wd.toNat,by have:=d.o;omega⟩;have HM:=aa hm;have hm32:m<=32:=by have:=f.o;omega
    obtain⟨n,hn⟩:∃n:Nat,m+n=32:=⟨32-m,by omega⟩;have O:=aa hn;have R:=aa (yi hm hm32 ds);obtain⟨cw,_⟩:=bF (c:=c.blanked b) E.o.ck E.o.ok;rw[show(c.blanked b).wd=(m:Int)from hm]at cw;have hnb:(n:Int)<=32:=by omega
    clear hm hm32 hn;refine aa ?_;go_wp2_with(refine AY (o:=⟨some 31,_,_,_,_,_⟩) (by rfl) 34 (.tmp 5) (.tmp 30) rfl (by kernel_rfl) (by kernel_rfl) (by kernel_rfl) w1.heap.size m n rfl rfl O.o ?_;intro q0 v);go_loop[33](fun i=>∃j:Nat,j<=n/\i= .int .i64 j/\Hd (∀x∈(ds.drop m).take j,x=0))(fun i=>n-(intOf i).toNat)
    case atStart=>exact⟨0,by omega,rfl,by show∀x∈_,_;simp⟩
    case round=>
     obtain⟨j,hj,rfl,T⟩:=hrel;by_cases hlt2:j<n
     ·obtain rfl:q0=m:=v.o (by omega);have hlen:q0+j<ds.length:=by have:=O.o;have:=D.o.2;omega
      have hcell:w3.cell? ⟨w1.heap.size,q0+j,none⟩=some (.int .u8 (ds.getD (q0+j) 0:Nat)):=G.o.cell hlen;have z:Hd ((ds.drop q0).take (j+1)=(ds.drop q0).take j++[ds.getD (q0+j) 0]):=by
       show _=_;rw[aJ (by rw[List.length_drop];omega)];simp[List.getD]
      have HA:Hd (ds.getD (q0+j) 0∈ds.drop q0):=by
       show _∈_;have e:ds.getD (q0+j) 0=(ds.drop q0).getD j 0:=by simp[List.getD]
       rw[e];exact bL (by rw[List.length_drop];omega)
      clear hlen;generalize ds.getD (q0+j) 0=x at*;by_cases hx0:x=0
      ·have hx1:(x:Int)=0:=by omega
       have P:=aa hx0;clear hx0;go_wp2_with fail;go_round
       case rel=>exact⟨j+1,by omega,by go_num,by
        rw[z.o];intro y hy;rcases List.mem_append.1 hy with h1|h1
        ·exact T.o y h1
        ·simp at h1;rw[h1];exact P.o⟩
       case measure=>simp[intOf];omega
      ·have hx1:¬(x:Int)=0:=by omega
       have P:=aa hx0;clear hx0;go_wp2_with fail;have hbad:nz c.wd p h=120:=by
        unfold nz;rw[if_pos C.o,N.o,R.o,decide_eq_false (fun hall=>P.o (hall x HA.o))];rfl
       have hfin:bM c.wd p 256=120:=by rw[jP F.o hlt (by rw[hbad];decide),hbad]
       go_ret;exact⟨by rw[hfin];rfl,⟨b,E.o,M.o⟩,H.o⟩
     ·have hjn:(n:Int)<=j:=by omega
      have U:Hd (eZ c.wd ds=true):=by
       show _=_;rw[R.o,decide_eq_true_eq];intro y hy;refine T.o y ?_;rwa[List.take_of_length_le (by rw[List.length_drop,D.o.2];have:=O.o;omega)]
      go_wp2_with fail;rename_i KK hKK _;have V:=aa hKK;clear hKK;obtain⟨qe,hqe⟩:∃qe:Bool,qe=decide (ds=ay c.wd h):=⟨_,rfl⟩;have heq:∀w:World,(Op.equalIn 10000 34 (.agg (bvs ds).toArray) (.agg (bvs (ay c.wd h)).toArray)).run Tryz.prog w= .ok qe w:=fun w=>by rw[hqe];exact fP w D.o.1 (bu _ _) D.o.2 (al _ _)
      have W:=aa hqe;clear hqe;have hu:=bE;have hsz:(Tryz.prog.info? 34).map (·.size)=some (bvs ds).length:=by rw[ag];simp[bvs,D.o.2]
      refine wp_region_held_drew (S:=fun w'=>w'.rangeAt w1.heap.size 0 (bvs ds)) (by kernel_rfl) (ab.range G.o) fun hH=>?_;replace E:Hd (aX w3.drew g (c.blanked b) p):=E.o.below (af (Below.refl _ _) 1);replace G:Hd (ar w3.drew w1.heap.size 34 ds):=G.o;replace H:Hd (ae (fun B=>B=g) w w3.drew):=H.o.drewN 1;clear cw;generalize w3.drew=w4 at*;refine tkl 0 ?_;refine tk 1 ?_;refine tk 2 ?_;clear hH;refine rdy 3 fun K hK=>?_;go_simp;go_at_call 46;refine(E.o.bare hlt).mono ?_;rintro e w5⟨rfl,⟨b',hb',hnb'⟩,ht5⟩;have X:Hd (aX w5 g (c.blanked b') p):=hb';have hH5:w5.rangeAt w1.heap.size 0 (bvs ds):=ab.range (ht5.blk G.o (by have:=t.o;omega));have Y:Hd (ae (fun B=>B=g) w w5):=H.o.trans ht5;have Z:Hd (me w c.blank b'):=M.o.trans hnb' H.o.size;refine hK.out _ _ hH5 (fun hH=>?_);clear hK hb' hnb' ht5 hH5;have hwd:(c.blanked b).wd=c.wd:=rfl;rw[hwd];clear hwd;refine tk 4 ?_;refine bN ?_;change KK _ _;refine V.o _ _ ?_;clear heq V hH;cases qe with
      |true=>
       go_wp2_with fail;have hbad:nz c.wd p h=130:=by
        unfold nz;rw[if_pos C.o,N.o,if_pos U.o,if_pos (of_decide_eq_true W.o.symm)]
       have hfin:bM c.wd p 256=130:=by rw[jP F.o hlt (by rw[hbad];decide),hbad]
       go_ret;exact⟨by rw[hfin];rfl,⟨b',X.o,Z.o⟩,Y.o⟩
      |false=>
       have hbad:nz c.wd p h=0:=by
        unfold nz;rw[if_pos C.o,N.o,if_pos U.o,if_neg (of_decide_eq_false W.o.symm)]
       have HB:=aa hbad;clear hbad;go_wp2_with fail;go_roundw
       case rel=>exact⟨h+1,by omega,by go_num,by rw[r.o];go_num,by show _=_;rw[bM,if_pos F.o,HB.o],⟨b',X.o,Z.o⟩,Y.o⟩
       case measure=>simp[intOf];omega
  ·have hh256:h=256:=by omega
   subst hh256;obtain⟨b,hb0,hb1⟩:=J.o;go_wp2_with fail;go_ret;exact⟨by rw[F.o];rfl,⟨b,hb0,hb1⟩,L.o⟩
structure Far(U:Nat->Prop)(g:Nat)(c:Ck):Prop where
 ck:¬U g
 sums:∀B,c.s.ownBlock=some B->¬U B
 blank:∀B,c.blank.ownBlock=some B->¬U B
 begin_:¬U 2
 round_:¬U 3
def mx(w:World)(U U':Nat->Prop):Prop:=∀B,U' B->U B∨w.heap.size<=B
def EB(g:Nat)(c:Ck)(p:Pr)(J:Nat->(Nat->Prop)->World->Prop)(h:Nat)(U:Nat->Prop)(b:Value)(w:World)(e:Ending)(w':World):Prop:=e= .returned (.tuple #[])/\∃U' b',J (h+1) U' w'/\aX w' g (c.blanked b') p/\me w b b'/\ae (fun B=>U B∨B=g) w w'/\mx w U U'/\Far U' g (c.blanked b')
structure Eye(fn:Nat)(cap:Array Value)(g:Nat)(c:Ck)(p:Pr)(ds:Nat->List Nat)(J:Nat->(Nat->Prop)->World->Prop):Prop where
 enters:∀(args:Array Value)(w:World),(callFunc fn args).run Tryz.prog w= .ok (.enter fn args) w
 lt:∀{h:Nat}{U:Nat->Prop}{w:World},J h U w->∀B,U B->B<w.heap.size
 keep:∀{h:Nat}{U V:Nat->Prop}{w w':World},J h U w->ae V w w'->(∀B,V B->¬U B)->J h U w'
 call:∀(h:Nat)(U:Nat->Prop)(b:Value)(w:World),h<256->J h U w->aX w g (c.blanked b) p->Far U g (c.blanked b)->Calls Tryz.prog fn (#[.int .i64 h, .agg (bvs (ds h)).toArray, .agg (bvs (av c.wd p h)).toArray]++cap) w (EB g c p J h U b w)
theorem mx.refl(w:World)(U:Nat->Prop):mx w U U:=fun _ h=> .inl h
theorem mx.trans{w w':World}{U U' U'':Nat->Prop}(h:mx w U U')(k:mx w' U' U'')(hs:w.heap.size<=w'.heap.size):mx w U U'':=fun B hB=>by
 rcases k B hB with h1|h1
 ·exact h B h1
 ·exact .inr (by omega)
theorem dw.own{w:World}{wd:Int}{b:Value}(h:dw w wd b):∀B,b.ownBlock=some B->B<w.heap.size:=fun B hB=>by
 rcases h with rfl|⟨B',rfl,h2⟩
 ·cases hB
 ·injection hB with hB;subst hB;exact ab.lt h2
theorem me.far{w:World}{b b':Value}{U:Nat->Prop}(h:me w b b')(hu:∀B,U B->B<w.heap.size)(k:∀B,b.ownBlock=some B->¬U B):∀B,b'.ownBlock=some B->¬U B:=fun B hB=>by
 rcases h with rfl|⟨B',h1,rfl⟩
 ·exact k B hB
 ·injection hB with hB;have hB:B'=B:=hB;subst hB;intro h2;have:=hu _ h2;omega
theorem mx.not{w:World}{U U':Nat->Prop}(hu:mx w U U'){B:Nat}(h1:B<w.heap.size)(h2:¬U B):¬U' B:=fun h3=>by
 rcases hu B h3 with h4|h4
 ·exact h2 h4
 ·omega
theorem Far.bare{w:World}{g:Nat}{c:Ck}{b b':Value}{U:Nat->Prop}(h:Far U g (c.blanked b))(hb:me w b b')(hlt:∀B,U B->B<w.heap.size):Far U g (c.blanked b'):=⟨h.ck,h.sums,hb.far hlt h.blank,h.begin_,h.round_⟩
theorem Far.same{w:World}{g:Nat}{c:Ck}{p:Pr}{b:Value}{U U':Nat->Prop}(h:Far U g (c.blanked b))(hr:aX w g (c.blanked b) p)(hu:mx w U U'):Far U' g (c.blanked b):=⟨hu.not hr.ck.lt h.ck,fun B hB=>hu.not (di hr.sums hB).2 (h.sums B hB),fun B hB=>hu.not (hr.blank.own B hB) (h.blank B hB),hu.not hr.tabs.lt.1 h.begin_,hu.not hr.tabs.lt.2 h.round_⟩
theorem Far.mono{U V:Nat->Prop}{g:Nat}{c:Ck}(h:Far U g c)(hv:∀B,V B->U B):Far V g c:=⟨fun h1=>h.ck (hv _ h1),fun B hB h1=>h.sums B hB (hv _ h1),fun B hB h1=>h.blank B hB (hv _ h1),fun h1=>h.begin_ (hv _ h1),fun h1=>h.round_ (hv _ h1)⟩
theorem aX.farNew{w:World}{g:Nat}{c:Ck}{p:Pr}(hr:aX w g c p):Far (fun B=>w.heap.size<=B) g c:=⟨fun h=>by have:=hr.ck.lt;omega,fun B hB h=>by have:=(di hr.sums hB).2;omega,fun B hB h=>by have:=hr.blank.own B hB;omega,fun h=>by have:=hr.tabs.lt.1;omega,fun h=>by have:=hr.tabs.lt.2;omega⟩
theorem aX.far{w w':World}{g:Nat}{c:Ck}{p:Pr}{V:Nat->Prop}(hr:aX w g c p)(ht:ae V w w')(hf:Far V g c):aX w' g c p:=by
 refine⟨ht.blk hr.ck hf.ck,hr.ok,?_,ht.row hr.sums hf.sums,hr.pok,hr.bits,hr.found,⟨hr.tabs.1.keep ht.size (ht.block _ hr.tabs.1.1 hf.begin_),hr.tabs.2.keep ht.size (ht.block _ hr.tabs.2.1 hf.round_)⟩,hr.g1,hr.g2⟩;rcases hr.blank with h1|⟨B,h1,h2⟩
 ·exact .inl h1
 ·exact .inr ⟨B,h1,ht.blk h2 (hf.blank B (by rw[h1];rfl))⟩
theorem vF(w:Int)(k d0:List Nat)(near:Nat->List Nat)(h:Nat):bd w k d0 near (h+1)=aZ w (aU w (aI k h (bd w k d0 near h) (near h)).1 (aI k h (bd w k d0 near h) (near h)).2):=rfl
theorem dy(w:Int)(k:List Nat){d0:List Nat}(near:Nat->List Nat)(h0:d0.length=32)(h1:IsB d0)(h:Nat):(bd w k d0 near h).length=32/\IsB (bd w k d0 near h):=by
 cases h with
 |zero=>exact⟨h0,h1⟩
 |succ h=>exact⟨aw _ _,aY _ _⟩
theorem fu{k d n:List Nat}{h:Nat}(hd:IsB d)(hdl:d.length=32)(hn:IsB n)(hnl:n.length=32):IsB (aI k h d n).1/\(aI k h d n).1.length=32/\IsB (aI k h d n).2/\(aI k h d n).2.length=32:=by
 unfold aI;split<;>exact⟨by assumption,by assumption,by assumption,by assumption⟩
def Ey(g:Nat)(c:Ck)(p:Pr)(d0:List Nat)(J:Nat->(Nat->Prop)->World->Prop)(U:Nat->Prop)(b:Value)(w:World)(e:Ending)(w':World):Prop:=e= .returned (.agg (bvs (bd c.wd c.key d0 (av c.wd p) 256)).toArray)/\∃U' b',J 256 U' w'/\aX w' g (c.blanked b') p/\me w b b'/\ae (fun B=>U B∨B=g) w w'/\mx w U U'/\Far U' g (c.blanked b')
def sv{α:Type}(f:Nat->α)(i:Nat)(x:α):Nat->α:=fun j=>if j=i then x else f j
def svO(V:Nat->Value):Option Nat->Value->Nat->Value
 |some d,v=>sv V d v
 |none,_=>V
def fH(a:Act)(V:Nat->Value):List Nat->Act
 |[]=>a
 |d::r=>fH (a.put (some d) (V d)) V r
theorem i8(V:Nat->Value):∀(l:List Nat)(a:Act),(fH a V l).defers=a.defers/\(fH a V l).tmps.size=a.tmps.size/\∀j,j<a.tmps.size->(fH a V l).tmps[j]?=if j∈l then some (V j)else a.tmps[j]?
 |[],a=>⟨rfl,rfl,fun j _=>by simp[fH]⟩
 |d::r,a=>by
  obtain⟨h1,h2,h3⟩:=i8 V r (a.put (some d) (V d));refine⟨h1,h2.trans (by simp[Act.put]),fun j hj=>?_⟩;have:=h3 j (by simpa[Act.put]using hj);rw[fH,this];by_cases e:j∈r
  ·simp[e]
  ·by_cases e2:j=d
   ·subst e2;simp[e,Act.put,hj]
   ·simp[e,e2,Act.put,Ne.symm e2]
theorem x5{a b:Act}(h1:a.tmps=b.tmps)(h2:a.defers=b.defers):a=b:=by
 cases a;cases b;simp_all
theorem yI(a:Act)(l:List Nat):fH a (fun d=>a.tmps.getD d undef) l=a:=by
 obtain⟨h1,h2,h3⟩:=i8 (fun d=>a.tmps.getD d undef) l a;refine x5 (Array.ext_getElem? fun j=>?_) h1;rcases Nat.lt_or_ge j a.tmps.size with h|h
 ·rw[h3 j h];split
  ·simp[h]
  ·rfl
 ·rw[Array.getElem?_eq_none (by omega),Array.getElem?_eq_none h]
theorem Bu(V:Nat->Value){d:Nat}(v:Value)(l:List Nat)(hd:d∈l)(a:Act):(fH a V l).put (some d) v=fH a (sv V d v) l:=by
 obtain⟨h1,h2,h3⟩:=i8 V l a;obtain⟨g1,g2,g3⟩:=i8 (sv V d v) l a;refine x5 (Array.ext_getElem? fun j=>?_) ?_
 ·rcases Nat.lt_or_ge j a.tmps.size with h|h
  ·rw[g3 j h];by_cases e:j=d
   ·subst e;simp[Act.put,h2,h,hd,sv]
   ·have:((fH a V l).put (some d) v).tmps[j]?=(fH a V l).tmps[j]?:=by simp[Act.put,Ne.symm e]
    rw[this,h3 j h];simp[sv,e]
  ·rw[Array.getElem?_eq_none (by simp[Act.put,h2];omega),Array.getElem?_eq_none (by omega)]
 ·rw[g1];exact h1
theorem xO{l:Array Bool}{i:Nat}(h:l.getD i true=false):(l.setIfInBounds i true).toList.count false+1=l.toList.count false:=by
 have hi:i<l.size:=by
  rcases Nat.lt_or_ge i l.size with h1|h1
  ·exact h1
  ·simp[Array.getD_eq_getD_getElem?,Array.getElem?_eq_none h1]at h
 have hv:l.toList[i]'(by simpa using hi)=false:=by
  simpa[Array.getD_eq_getD_getElem?,hi]using h
 rw[Array.toList_setIfInBounds,List.count_set (by simpa using hi),hv];have:0<l.toList.count false:=List.count_pos_iff.2 (by rw[<-hv];exact List.getElem_mem _);show l.toList.count false-1+0+1=_;omega
theorem D6{l:Array Bool}{i:Nat}(hi:i<l.size):(fun j=>(l.setIfInBounds i true).getD j false)=sv (fun j=>l.getD j false) i true:=by
 funext j;unfold sv;by_cases e:j=i
 ·subst e;simp[Array.getD_eq_getD_getElem?,hi]
 ·rw[if_neg e];simp[Array.getD_eq_getD_getElem?,Ne.symm e]
section
variable{P:Program}{md:Region.Mode}{ops:Array Oper}{Q:Exit->Act->World->Prop}{S:World->Prop}
def AA(md:Region.Mode)(ops:Array Oper):Bool:=ops.toList.zipIdx.all fun p=>p.1.after.toList.all fun e=>!(Region.binds md e)||decide (e.on<p.2)
theorem xA(hb:AA md ops=true){l:Array Bool}(hl:l.size=ops.size)(h:Region.ready md ops l=[]):∀j,j<ops.size->l.getD j false=true:=by
 intro j;induction j using Nat.strongRecOn with
 |_ j ih=>
  intro hj;cases hv:l.getD j false with
  |true=>rfl
  |false=>
   exfalso;have hv':l.getD j true=false:=by
    simpa[Array.getD_eq_getD_getElem?,show j<l.size by omega]using hv
   have hm:j∈Region.ready md ops l:=mem_ready.2 ⟨hv',ops[j],by simp[hj],fun e he hbd=>ih e.on ?_ ?_⟩
   ·rw[h]at hm;cases hm
   all_goals
    have h1:=List.all_eq_true.1 hb (ops[j],j) (by
     rw[List.mem_iff_getElem?];exact⟨j,by simp[hj]⟩);have h2:=List.all_eq_true.1 h1 e (by simpa using he);have h3:e.on<j:=by simpa[hbd]using h2
    omega
theorem Dx{I:(Nat->Bool)->Act->World->Prop}(hb:AA md ops=true)(hS:∀b a w,I b a w->S w)(hd:∀b a w,I b a w->(∀j,j<ops.size->b j=true)->Q .normal a w)(hs:∀b a w i o,I b a w->ops[i]?=some o->b i=false->(∀e∈o.after,Region.binds md e=true->b e.on=true)->wpOp P ops Q i (I (sv b i true)) a w):∀(fuel:Nat)(l:Array Bool)(a:Act)(w:World),l.size=ops.size->l.toList.count false<=fuel->I (fun j=>l.getD j false) a w->wpAnyH P md ops Q S fuel l a w:=by
 intro fuel;induction fuel with
 |zero=>
  intro l a w hl hc hI;have h0:Region.ready md ops l=[]:=by
   cases hr:Region.ready md ops l with
   |nil=>rfl
   |cons i r=>
    have hm:i∈Region.ready md ops l:=by rw[hr];exact List.mem_cons_self
    have:=xO (mem_ready.1 hm).1;omega
  exact⟨h0,hd _ a w hI (xA hb hl h0)⟩
 |succ fuel ih=>
  intro l a w hl hc hI;refine⟨fun h0=>hd _ a w hI (xA hb hl h0),fun i hi=>?_⟩;obtain⟨h1,o,ho,h2⟩:=mem_ready.1 hi;have hlt:i<l.size:=by
   have:=(Array.getElem?_eq_some_iff.1 ho).1;omega
  have hbi:l.getD i false=false:=by
   simpa[Array.getD_eq_getD_getElem?,hlt]using h1
  refine wpOp_mono (fun a' w' hI'=>⟨hS _ _ _ hI',ih _ a' w' (by simpa using hl) (by have:=xO h1;omega) ?_⟩) (hs _ a w i o hI ho hbi h2);rw[D6 hlt];exact hI'
inductive EC(P:Program)(md:Region.Mode)(ops:Array Oper)(Q:Exit->Act->World->Prop)(l:List Nat)(F:(Nat->Bool)->(Nat->Value)->World->Prop)(a:Act):List Nat->Prop
 |nil:EC P md ops Q l F a []
 |cons(i:Nat){o:Oper}{rs:List Nat}(h:∀b V w A,F b V w->b i=false->(∀j,(o.after.toList.any fun e=>Region.binds md e&&e.on==j)=true->b j=true)->A=fH a V l->∀K:Act->World->Prop,Shut (∀v w',F (sv b i true) (svO V o.dst v) w'->K (A.put o.dst v) w')->if Region.wanted o (yielded ops A.tmps)=true then o.wp P A w K Q else K (A.put o.dst undef) w)(r:EC P md ops Q l F a rs)(ho:ops[i]?=some o:=by exact rfl)(hd:(o.dst.all fun d=>l.contains d)=true:=by rfl):EC P md ops Q l F a (i::rs)
theorem EC.at_{l rs:List Nat}{F:(Nat->Bool)->(Nat->Value)->World->Prop}{a:Act}(h:EC P md ops Q l F a rs){b:Nat->Bool}{V:Nat->Value}{w:World}{i:Nat}{o:Oper}(hi:i∈rs)(hF:F b V w)(ho:ops[i]?=some o)(hb:b i=false)(hd:∀e∈o.after,Region.binds md e=true->b e.on=true):wpOp P ops Q i (fun a' w'=>∃V,a'=fH a V l/\F (sv b i true) V w') (fH a V l) w:=by
 induction h with
 |nil=>cases hi
 |cons j h2 _ ho2 hd2 ih=>
  by_cases e:j=i
  ·subst e;obtain rfl:=Option.some.inj (ho2.symm.trans ho);rename_i o2 _ _;refine wpOp_step ho fun K hK=>h2 b V w _ hF hb (fun j hj=>?_) rfl K (fun v w' h=>hK _ _ ⟨_,?_,h⟩)
   ·obtain⟨e,he,h3⟩:=List.any_eq_true.1 hj;rw[Bool.and_eq_true]at h3;have:=hd e (by simpa using he) h3.1;rwa[show e.on=j by simpa using h3.2]at this
   ·cases hq:o2.dst with
    |none=>rfl
    |some d=>exact Bu V v l (by rw[hq]at hd2;simpa using hd2) a
  ·exact ih (by simpa[Ne.symm e]using hi)
theorem pi{fuel:Nat}{l0:Array Bool}{a:Act}{w:World}(l rs:List Nat)(F:(Nat->Bool)->(Nat->Value)->World->Prop)(h0:∀b V,(∀i∈rs,b i=false)->F b V w)(hS:∀b V w,F b V w->S w)(hd:∀b V w A,F b V w->(∀i∈rs,b i=true)->A=fH a V l->Q .normal A w)(hs:EC P md ops Q l F a rs)(hb:AA md ops=true:=by kernel_rfl)(hl:(decide (l0.size=ops.size)&&(decide (l0.toList.count false<=fuel)&&((rs.all fun i=>decide (i<ops.size)&&!(l0.getD i true))&&(List.range ops.size).all fun i=>l0.getD i false||rs.contains i)))=true:=by kernel_rfl):wpAnyH P md ops Q S fuel l0 a w:=by
 simp only[Bool.and_eq_true,decide_eq_true_eq]at hl;obtain⟨h1,h2,h3,h4⟩:=hl;have hrs:∀i∈rs,i<ops.size/\l0.getD i true=false:=fun i hi=>by
  have:=List.all_eq_true.1 h3 i hi;simpa using this
 refine Dx (I:=fun b A w'=>(∀i,i<ops.size->b i=false->i∈rs)/\∃V,A=fH a V l/\F b V w') hb (fun b A w' h=>?_) (fun b A w' h hall=>?_) (fun b A w' i o h ho hbi hdep=>?_) _ _ _ _ h1 h2 ⟨fun i hi hf=>?_,_,(yI a l).symm,h0 _ _ fun i hi=>?_⟩
 ·obtain⟨_,V,_,hF⟩:=h;exact hS _ _ _ hF
 ·obtain⟨_,V,rfl,hF⟩:=h;exact hd _ _ _ _ hF (fun i hi=>hall i (hrs i hi).1) rfl
 ·obtain⟨hm,V,rfl,hF⟩:=h;refine wpOp_mono (fun a' w'' hV=>⟨fun j hj hf=>hm j hj ?_,hV⟩) (hs.at_ (hm i (Array.getElem?_eq_some_iff.1 ho).1 hbi) hF ho hbi hdep);unfold sv at hf;split at hf
  ·cases hf
  ·exact hf
 ·have:=List.all_eq_true.1 h4 i (List.mem_range.2 hi);rw[show l0.getD i false=false from hf]at this;simpa using this
 ·have h5:=(hrs i hi).2;have h6:i<l0.size:=by rw[h1];exact(hrs i hi).1
  simpa[Array.getD_eq_getD_getElem?,h6]using h5
end
end Go.Proofs.YtfnlhfaihoojfaaGreatDoor
