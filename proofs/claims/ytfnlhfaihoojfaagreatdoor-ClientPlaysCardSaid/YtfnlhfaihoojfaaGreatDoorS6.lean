/- Texts of the proof of ledgerlaw13.ClientPlays, part 6; no condition of its own. -/
import Derived.Test.YtfnlhfaihoojfaaGreatDoorS5
set_option maxRecDepth 100000
set_option maxHeartbeats 4000000
namespace Go.Proofs.YtfnlhfaihoojfaaGreatDoor
open Go.RowKit
theorem xf{P:Program}{ops:Array Oper}{rest:List Oper}{o:Oper}{a:Act}{w:World}{Q:Exit->Act->World->Prop}(hgd:o.guard=none)(ty:TypeId)(x y:Operand)(ho:o.op= .store ty x y)(g n:Nat)(xs old:List Nat)(t:TypeId)(hx:a.eval x= .pointer (some ⟨g,0,none⟩))(hy:a.eval y= .agg (uvs xs).toArray)(hL:ee w g t old)(hi:(P.info? ty).map (·.size)=some n)(h1:xs.length=n)(h2:old.length=n)(h:∀w',Hd (ee w' g t xs)->Hd (w.grownBy w' (some g))->Hd (w'.heap.size=w.heap.size)->wpList P ops Q rest (a.put o.dst undef) w'):wpList P ops Q (o::rest) a w:=a8 hgd ty x y ho g (uvs xs) (uvs old) t hx hy hL (by rw[hi,bg,h1]) (by rw[bg,bg,h1,h2]) (j7 xs) h
theorem EL{P:Program}{ops:Array Oper}{rest:List Oper}{o:Oper}{a:Act}{w:World}{Q:Exit->Act->World->Prop}(hgd:o.guard=none)(ty:TypeId)(x:Operand)(ho:o.op= .load ty x)(g n:Nat)(t:TypeId)(xs:List Nat)(hx:a.eval x= .pointer (some ⟨g,0,none⟩))(hb:ee w g t xs)(hrow:(P.underlying ty).map (·.isRow)=some true)(hi:(P.info? ty).map (·.size)=some n)(hl:xs.length=n)(h:wpList P ops Q rest (a.put o.dst (.agg (uvs xs).toArray)) w):wpList P ops Q (o::rest) a w:=aj hgd ty x ho g 0 (uvs xs) hx (ab.range hb) hrow (by rw[hi,bg,hl]) h
theorem D7(L:List Nat){k:Nat}(h:k<4*L.length):(L.flatMap beB).getD k 0=L.getD (k/4) 0/2^(24-8*(k%4))%256:=by
 induction L generalizing k with
 |nil=>simp at h
 |cons x r ih=>
  rw[List.flatMap_cons];rcases Nat.lt_or_ge k 4with h4|h4
  ·have:k=0∨k=1∨k=2∨k=3:=by omega
   rcases this with rfl|rfl|rfl|rfl<;>simp[beB,List.getD]
  ·have e1:(beB x++r.flatMap beB).getD k 0=(r.flatMap beB).getD (k-4) 0:=by
    simp only[List.getD];rw[List.getElem?_append_right (by simpa[beB]using h4)];rfl
   have e2:(x::r).getD (k/4) 0=r.getD ((k-4)/4) 0:=by
    rw[show k/4=(k-4)/4+1by omega];rfl
   rw[e1,e2,ih (by simp only[List.length_cons]at h;omega),show(k-4)%4=k%4by omega]
def wT(D:List Nat)(k:Nat):List Nat:=D.take k++zs (32-k)
theorem sN{D:List Nat}(h:D.length=32){k:Nat}(hk:k<=32):(wT D k).length=32:=by
 simp only[wT,List.length_append,List.length_take,ak,h];omega
theorem zx{D:List Nat}(h:D.length=32){k:Nat}(hk:k<32):(wT D k).set k (D.getD k 0)=wT D (k+1):=by
 unfold wT zs;rw[List.set_append_right _ _ (by rw[List.length_take];omega),List.length_take,show k-min k D.length=0 by omega,show 32-k=(32-(k+1))+1by omega,List.replicate_succ,List.set_cons_zero,aJ (by omega)];simp
theorem Cs{D:List Nat}(h:D.length=32):wT D 32=D:=by
 unfold wT;rw[List.take_of_length_le (by omega)];simp[zs]
theorem zR(F ws:List Nat)(q:Nat)(w:World)(hB:IsB F)(hws:dr ((F.drop (64*q)).take 64) 64=ws)(ht:TabU w 1 kL):Calls Tryz.prog 79 #[.agg (uvs (fw F q).list).toArray, .agg (uvs ws).toArray] w fun e w'=>e= .returned (.agg (uvs (fw F (q+1)).list).toArray)/\Below w.heap.size w w':=by
 subst hws;exact wG (fw F q) _ w (rQ F q) (tB ((hB.drop _).take _) 64) (dg _ _) ht
structure du(w:World):Prop where
 first_:TabU w 0 hL
 consts_:TabU w 1 kL
theorem du.below{w w':World}(h:du w)(hb:Below w.heap.size w w'):du w':=⟨h.1.below hb,h.2.below hb⟩
theorem FF{w3 w5 w6 w7:World}{gs:Nat}{t:TypeId}{L:List Nat}(A:Hd (ee w3 gs t L))(B:Hd (Below w3.heap.size w3 w5))(C:Hd (Below w5.heap.size w5 w6))(D:Hd (w6.grownBy w7 (some w5.heap.size))):ee w7 gs t L:=ab.grown (ab.below (ab.below A.o B.o) C.o) D.o (by
  have h1:=ab.lt A.o;have h2:=B.o.size;intro e;injection e with e;omega)
theorem Fm{w2 w3 w5 w6 w7:World}(A:Hd (Below w2.heap.size w2 w3))(B:Hd (Below w3.heap.size w3 w5))(C:Hd (Below w5.heap.size w5 w6))(D:Hd (w6.grownBy w7 (some w5.heap.size))):Below w2.heap.size w2 w7:=by
 have h1:=A.o.size;have h2:=B.o.size;have h3:=C.o.size;exact((A.o.trans (B.o.mono h1)).trans (C.o.mono (by omega))).grown D.o (by omega) (fun k hk=>by injection hk with hk;omega)
theorem vt(A:Option Addr)(n c:Nat)(xs:List Nat)(w:World)(hx:RB w A n xs)(hA:A=none->c=0)(hn:n+128<=140737488355328)(ht:du w):Calls Tryz.prog 38 #[.slice A n c] w fun e w'=>e= .returned (.agg (bvs (kY xs)).toArray)/\Below w.heap.size w w':=by
 have y:=aa hx;have HA:=aa hA;have X:=aa ht;have hlx:=hx.1;have I:Hd ((li xs).length%64=0/\(li xs).length<=n+128/\IsB (li xs)):=by
  refine⟨rA xs,?_,?_⟩
  ·unfold li;rw[List.length_append,nh,hlx];omega
  ·refine hx.isB.app ?_;have:=qj xs.length;rw[<-this];exact(ql _ _ _).take _
 clear hx hA ht hlx;obtain⟨F,Q⟩:∃F,Hd (∀_:Nat,li xs=F):=⟨_,fun _=>rfl⟩;rw[Q.o 0]at I;go_enter Tryz.func38,Tryz.ntmps38;go_wp2_with(first|((with_reducible refine atS 2 ?_);refine aC (by rfl) 34 rfl _ _ aD ?_;intro w1 HE C HG)|(go_at_call 77;((refine(vZ A n c xs _ (y.o.below C.o) HA.o hn).mono ?_);rintro e w2⟨v2,rfl,hown2,hb2⟩;rw[Q.o 0]at hown2;obtain⟨A2,c2,rfl,hr2,_⟩:=hown2.form;have HH:=aa hr2;have E:=aa hb2;clear hown2 hb2 hr2))|((with_reducible refine atS 11 ?_);refine aj (by rfl) 129 (.global 0) rfl 0 0 (uvs hL) rfl ((X.o.below C.o).below E.o).1.range uE (by rw[kn];rfl) ?_;(try simp only[Act.put,LS]))|((with_reducible refine atS 4 ?_);refine aC (by rfl) 129 rfl _ _ xn ?_;intro w3 Y R HJ;(try simp only[Act.put,LS]))|((with_reducible refine atU ?_);refine xf (o:=⟨none,_,_,_,_,_⟩) (by rfl) 129 (.tmp 4) (.tmp 11) rfl w2.heap.size 8 hL (zs 8) 129 rfl rfl Y.o kn (by rfl) (by rfl) ?_;intro w4 Z a HK));have b:Hd (Below w2.heap.size w2 w4):=R.o.grown a.o R.o.size (fun k hk=>by injection hk with hk;omega);have HL:Hd (du w2):=(X.o.below C.o).below E.o;have HQ:Hd (∀q,64*q<F.length->64*q+64<=F.length):=fun q hq=>by
  have:=I.o.1;omega
 have HM:Hd (F.length<=140737488355328):=by
  have:=I.o.2.1;show _<=_;omega
 have d:Hd (ee w4 w2.heap.size 129 (fw F 0).list):=Z.o;have hfl:F.length<=140737488355328:=HM.o;clear Y R HJ Z a HK;go_loopw[5](fun i wr=>∃q:Nat,64*q<=F.length/\i= .int .i64 ((64*q:Nat):Int)/\Hd (ee wr w2.heap.size 129 (fw F q).list)/\Hd (Below w2.heap.size w2 wr))(fun i _=>F.length-(intOf i).toNat)
 case atStart=>exact⟨0,by omega,rfl,d.o,b.o⟩
 case round=>
  clear d b;obtain⟨q,hq,rfl,B,G⟩:=hrel;obtain⟨w3,rfl⟩:∃w3,w3=wr:=⟨_,rfl⟩;by_cases hlt:64*q<F.length
  ·have h64:=HQ.o q hlt;obtain⟨ws,S⟩:∃ws,Hd (∀_:Nat,dr ((F.drop (64*q)).take 64) 64=ws):=⟨_,fun _=>rfl⟩;have f:Hd (∀_:Nat,ws.length=64):=fun _=>by rw[<-S.o 0,dg]
   have T:Hd (∀q,(fw F q).list.length=8):=fun _=>rfl;go_wp2_with(first|(go_at_call 78;((refine(ye ws A2 F.length c2 (64*q) F _ (HH.o.below G.o) h64 hfl (S.o 0)).mono ?_);rintro e w5⟨rfl,hb5⟩;have J:=aa hb5;clear hb5))|((with_reducible refine atS 6 ?_);refine aC (by rfl) 130 rfl _ _ rZ ?_;intro w6 HN h Hk;(try simp only[Act.put,LS]))|((with_reducible refine atT 6 ?_);refine xf (o:=⟨none,_,_,_,_,_⟩) (by rfl) 130 (.tmp 6) (.tmp 20) rfl w5.heap.size 64 ws (zs 64) 130 rfl rfl HN.o mJ (f.o 0) (ak 64) ?_;intro w7 HO j Hl;have l:=aa (FF B J h j);have K:=aa (Fm G J h j))|((with_reducible refine atS 21 ?_);refine EL (by rfl) 129 (.tmp 4) rfl w2.heap.size 8 129 (fw F q).list rfl l.o uE kn (T.o q) ?_;(try simp only[Act.put,LS]))|((with_reducible refine atS 22 ?_);refine EL (by rfl) 130 (.tmp 6) rfl w5.heap.size 64 130 ws rfl HO.o xi mJ (f.o 0) ?_;(try simp only[Act.put,LS]))|(go_at_call 79;((refine(zR F ws q _ I.o.2.2 (S.o 0) (HL.o.2.below K.o)).mono ?_);rintro e w8⟨rfl,hb8⟩;have U:=aa hb8;clear hb8))|((with_reducible refine atT 4 ?_);refine xf (o:=⟨none,_,_,_,_,_⟩) (by rfl) 129 (.tmp 4) (.tmp 23) rfl w2.heap.size 8 (fw F (q+1)).list (fw F q).list 129 rfl rfl (ab.below l.o U.o) kn (T.o (q+1)) (T.o q) ?_;intro w9 HP HS Hm));have HU:Hd (Below w2.heap.size w2 w9):=(K.o.trans (U.o.mono K.o.size)).grown HS.o (by have h1:=K.o.size;have h2:=U.o.size;omega) (fun k hk=>by injection hk with hk;omega);go_roundw
   case rel=>exact⟨q+1,by omega,by go_num,HP.o,HU.o⟩
   case measure=>simp[intOf];omega
  ·have HV:Hd (∀_:Nat,(fw F q).list.flatMap beB=kY xs):=fun _=>by
    have h1:=I.o.1;unfold kY;rw[Q.o 0,show F.length/64=q by omega]
   have V:Hd (∀_:Nat,(fw F q).list.length=8):=fun _=>rfl;have M:Hd (∀k,k<32->(kY xs).getD k 0=(fw F q).list.getD (k/4) 0/2^(24-8*(k%4))%256):=fun k hk=>by
    rw[<-HV.o 0];exact D7 _ (by rw[V.o 0];exact hk)
   obtain⟨D,N⟩:∃D,Hd (∀_:Nat,kY xs=D):=⟨_,fun _=>rfl⟩;rw[N.o 0]at M;have H:Hd (∀_:Nat,D.length=32):=fun _=>by rw[<-N.o 0,cS]
   have HW:Hd (IsB D):=by
    rw[<-N.o 0];exact iw xs
   obtain⟨L,HZ⟩:∃L,Hd (∀_:Nat,(fw F q).list=L):=⟨_,fun _=>rfl⟩;rw[HZ.o 0]at M B V;have m:Hd (Below w.heap.size w w3):=(C.o.trans (E.o.mono C.o.size)).trans (G.o.mono (by have h1:=C.o.size;have h2:=E.o.size;omega));go_wp2_with(first|((with_reducible refine atS 7 ?_);refine aC (by rfl) 34 rfl _ _ aD ?_;intro w5 J O Ha;(try simp only[Act.put,LS])));have p:Hd (ee w5 w2.heap.size 129 L):=ab.below B.o O.o;have r:Hd (ar w5 w.heap.size 34 (zs 32)):=by
    have h1:ab w2 w.heap.size 34 (gZ 32):=ab.below HE.o E.o;exact ab.below (ab.below h1 G.o) O.o
   have s:=aQ m O.o;have W:Hd (w.heap.size<w3.heap.size/\w2.heap.size<w3.heap.size):=⟨by have h1:=HG.o;have h2:=E.o.size;have h3:=G.o.size;omega,ab.lt B.o⟩;have t:Hd (ar w5 w3.heap.size 34 (wT D 0)):=J.o;clear B G J O Ha m;generalize w3.heap.size=gd at*;go_loopw[8](fun i wr=>∃k:Nat,k<=32/\i= .int .i64 k/\Hd (ar wr gd 34 (wT D k))/\Hd (ee wr w2.heap.size 129 L)/\Hd (ar wr w.heap.size 34 (zs 32))/\Hd (Below w.heap.size w wr))(fun i _=>32-(intOf i).toNat)
   case atStart=>exact⟨0,by omega,rfl,t.o,p.o,r.o,s.o⟩
   case round=>
    clear t p r s;obtain⟨k,hk,rfl,P,B,u,x⟩:=hrel;obtain⟨w6,rfl⟩:∃w6,w6=wr:=⟨_,rfl⟩;by_cases hlk:k<32
    ·have cs:=B.o.cell (i:=k/4) (by rw[V.o 0];omega);have cd:=P.o.cell (i:=k) (by rw[sN (H.o 0) hk];exact hlk);have fd:=ab.frozen P.o k;have Hb:Hd (∀e:Int,e=(((L.getD (k/4) 0/2^(24-8*(k%4))%256:Nat)):Int)->ar (w6.setCell ⟨gd,k,none⟩ (.int .u8 e)) gd 34 (wT D (k+1))):=by
      intro e' he;subst he;have h1:=P.o.set k (L.getD (k/4) 0/2^(24-8*(k%4))%256);rwa[<-M.o k hlk,zx (H.o 0) hlk,M.o k hlk]at h1
     have Hc:Hd (∀v,ee (w6.setCell ⟨gd,k,none⟩ v) w2.heap.size 129 L):=fun v=>ab.far B.o (by have:=W.o;show w2.heap.size≠gd;omega) v;have He:Hd (∀v,ar (w6.setCell ⟨gd,k,none⟩ v) w.heap.size 34 (zs 32)):=fun v=>ab.far u.o (by have:=W.o;show w.heap.size≠gd;omega) v;have Hf:Hd (∀v,Below w.heap.size w (w6.setCell ⟨gd,k,none⟩ v)):=fun v=>x.o.setCell (by have:=W.o;show w.heap.size<=gd;omega) v;generalize L.getD (k/4) 0=sv at*;generalize(wT D k).getD k 0=z at*;have i0:(0:Int)<=(k:Int)/4:=by omega
     have i1:(k:Int)/4<8:=by omega
     have n0:((k:Int)/4).toNat=k/4:=by omega
     have i2:(0:Int)<=24-8*((k:Int)%4):=by omega
     have i3:IntKind.u64.wrap (24-8*((k:Int)%4))=24-8*((k:Int)%4):=IntWalk.u64_in _ (by omega);have n1:(24-8*((k:Int)%4)).toNat=24-8*(k%4):=by omega
     have i4:(k:Int)<32:=by omega
     go_wp2_with fail;go_roundw
     case rel=>exact⟨k+1,by omega,by go_num,Hb.o _ (by simp),Hc.o _,He.o _,Hf.o _⟩
     case measure=>simp[intOf];omega
    ·have Hg:Hd (ar w6 gd 34 D):=by
      have h1:=P.o;rwa[show k=32by omega,Cs (H.o 0)]at h1
     have Hh:=aa (Hg.o.whole HW.o (H.o 0));go_wp2_with(first|((with_reducible refine atS 41 ?_);refine ac (by rfl) 34 (.tmp 7) rfl ⟨gd,0,none⟩ 32 D rfl Hh.o (by omega) aF ag ?_;(try simp only[Act.put,LS]))|((with_reducible refine atT 2 ?_);refine iW (o:=⟨none,_,_,_,_,_⟩) (by rfl) 34 (.tmp 2) (.tmp 41) rfl w.heap.size 32 D (zs 32) 34 rfl rfl u.o ag (H.o 0) (ak 32) w.heap.size w x.o (by omega) ?_;intro wf Hi Hj));exact bH (g:=w.heap.size) (n:=32) rfl rfl Hi.o (H.o 0) aF ag rfl ⟨by rw[N.o 0],Hj⟩
theorem ua:(Tryz.prog.info? 37).map (fun i=>(i.zero,i.size))=some (some (.agg (gZ 32)),32):=by kernel_rfl
theorem fz:(Tryz.prog.underlying 37).map (·.isRow)=some true:=by kernel_rfl
theorem aB:(Tryz.prog.info? 37).map (·.size)=some 32:=(zero_of_info ua).2
theorem bW:Tryz.prog.underlying 37=some (.array 32 5):=by kernel_rfl
theorem Ep(a:Nat)(ha:a<9223372036854775808):bits .and .i64 (a:Int) 7=((a%8:Nat):Int):=by
 show IntKind.i64.wrap ((BitVec.ofInt 64 (a:Int)&&&BitVec.ofInt 64 ((7:Nat):Int)).toNat:Int)=_;rw[BitVec.toNat_and,lw a ha,lw 7 (by omega),IntKind.wrap_i64,Nat.and_two_pow_sub_one_eq_mod a 3];omega
theorem E6(ks:List Nat)(i:Nat)(w:World)(hB:IsB ks)(hl:ks.length=32)(hi:i<256):Calls Tryz.prog 82 #[.agg (bvs ks).toArray, .int .i64 i] w fun e w'=>e= .returned (.int .i64 (cU ks i:Nat))/\Below w.heap.size w w':=by
 have hc:=ar.cell (ab.new w 37 (bvs ks).toArray:ar _ _ _ ks) (i:=i/8) (by omega);have hx8:=fQ hB (i/8);have h7:=Ep i (by omega);have h1:=Er (ks.getD (i/8) 0/2^(7-i%8)) (Nat.lt_of_le_of_lt (Nat.div_le_self _ _) (by omega));have A:Hd (cU ks i=ks.getD (i/8) 0/2^(7-i%8)%2):=rfl;clear hB hl;generalize ks.getD (i/8) 0=x at*;go_enter Tryz.func82,Tryz.ntmps82;have B:Hd (bits .and .i64 (wrap64 ((x:Int)/2^(7-i%8))) 1=((x/2^(7-i%8)%2:Nat):Int)):=by
  show _=_;have e:((x:Int)/2^(7-i%8))=((x/2^(7-i%8):Nat):Int):=by simp
  have hb:x/2^(7-i%8)<256:=Nat.lt_of_le_of_lt (Nat.div_le_self _ _) hx8;rw[e,<-h1];congr 1;generalize x/2^(7-i%8)=y at hb;unfold wrap64;omega
 clear h1;go_wp2_with fail;go_ret;exact⟨by rw[A.o,<-B.o];rfl,(Below.refl _ _).alloc (Nat.le_refl _) _⟩
theorem mD(w:World)(xs ys:List Nat)(hx:IsB xs)(hy:IsB ys)(hxl:xs.length=32)(hyl:ys.length=32):(Op.equalIn 10000 37 (.agg (bvs xs).toArray) (.agg (bvs ys).toArray)).run Tryz.prog w= .ok (decide (xs=ys)) w:=by
 rw[show(10000:Nat)=9998+2from rfl,tl w 9998 37 5 32 bW (by kernel_rfl) iI hx hy hxl hyl]
theorem bE:Tryz.prog.underlying 34=some (.array 32 5):=by kernel_rfl
theorem E3(w:World)(xs ys:List Nat)(hx:IsB xs)(hy:IsB ys)(hxl:xs.length=32)(hyl:ys.length=32):(Op.equalIn 10000 34 (.agg (bvs xs).toArray) (.agg (bvs ys).toArray)).run Tryz.prog w= .ok (decide (xs=ys)) w:=by
 rw[show(10000:Nat)=9998+2from rfl,tl w 9998 34 5 32 bE (by kernel_rfl) iI hx hy hxl hyl]
end Go.Proofs.YtfnlhfaihoojfaaGreatDoor
