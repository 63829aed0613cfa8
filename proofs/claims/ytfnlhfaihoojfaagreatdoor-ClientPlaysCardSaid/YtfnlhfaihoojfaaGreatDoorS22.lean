/- Texts of the proof of ledgerlaw13.ClientPlays, part 22; no condition of its own. -/
import Derived.Test.YtfnlhfaihoojfaaGreatDoorS21
set_option maxRecDepth 100000
set_option maxHeartbeats 4000000
namespace Go.Proofs.YtfnlhfaihoojfaaGreatDoor
open Go.RowKit
theorem m9{rs:List Nat}{k:Nat}(h:k<32/\k<rs.length):(rs.take k++zs (32-k)).set k (rs.getD k 0)=rs.take (k+1)++zs (32-(k+1)):=by
 have hl:(rs.take k).length=k:=by rw[List.length_take];omega
 rw[List.set_append_right _ _ (by omega),hl,Nat.sub_self,show 32-k=(32-(k+1))+1by omega,zs,List.replicate_succ,List.set_cons_zero,aJ h.2,List.append_assoc];rfl
theorem sS(A:Option Addr)(n c:Nat)(xs:List Nat)(w:World)(hx:RB w A n xs)(hn:n<=140737488355328):Calls Tryz.prog 124 #[.slice A n c] w (qc w xs):=by
 have C:=aa hx;clear hx;go_enter Tryz.func124,Tryz.ntmps124;go_wp2_with fail;go_loopw[3,4](fun v i wr=>∃k:Nat,k<=n/\i= .int .i64 k/\bn wr w.heap.size v (xs.take k)/\Below w.heap.size w wr)(fun _ i _=>n-(intOf i).toNat)
 case atStart=>exact⟨0,by omega,rfl,by simpa using Own.nil _ _ _,Below.refl _ _⟩
 case round=>
  obtain⟨k,hk,rfl,hown,hbel⟩:=hrel;have hlen:=C.o.1;have D:=aa hown;have B:=aa hbel;clear hown hbel;by_cases hlt:k<n
  ·obtain⟨ad,rfl,hb,hcell⟩:=C.o.at_ hlt;have hc:=fL hb B.o hcell;have hlt8:xs.getD k 0<256:=C.o.lt hlt;have E:=aa (aJ (show k<xs.length by omega));have hl2:(xs.take k).length+1<=140737488355328:=by rw[List.length_take];omega
   have hlt':(k:Int)<n:=by omega
   clear hcell hlen;generalize xs.getD k 0=b at*;go_wp2_with(at_builtin;refine iu ax aH wr rfl (.tmp 11) (.tmp 16) rfl w.heap.size _ (xs.take k) D.o b hlt8 rfl rfl hl2 B.o.size ?_;intro v' w1 hown1 hgrow1);have hb1:=B.o.grown hgrow1 B.o.size D.o.ge;go_roundw
   case rel=>exact⟨k+1,by omega,by go_num,by rw[E.o];exact hown1,hb1⟩
   case measure=>simp[intOf];omega
  ·have E:Hd (xs.take k=xs):=by
    show xs.take k=xs;exact List.take_of_length_le (by omega)
   have hnlt:¬(k:Int)<n:=by omega
   clear hlen;go_wp2_with fail;go_ret;exact⟨_,rfl,by rw[<-E.o];exact D.o,B.o⟩
theorem cG.bitSet{w:World}{g:Nat}{f:Bool}{v s:Value}{bits:List Nat}(h:cG w g f v bits s)(hl:bits.length=32){q:Nat}(hq:q<32)(x:Nat):cG (w.setCell ⟨g,2+q,none⟩ (.int .u8 x)) g f v (bits.set q x) s:=by
 have h1:=ab.stored h (2+q) (.int .u8 x);have e:(prC f v bits s).toArray.setIfInBounds (2+q) (.int .u8 x)=(prC f v (bits.set q x) s).toArray:=by
  rw[List.setIfInBounds_toArray];congr 1;show(Value.bool f::v::(bvs bits++[s])).set (2+q) _=_;rw[show 2+q=q+1+1by omega,List.set_cons_succ,List.set_cons_succ,List.set_append_left _ _ (by simp[bvs,hl,hq]),prC,bvs,bvs,List.map_set];rfl
 rw[e]at h1;exact h1
theorem cG.bitCell{w:World}{g:Nat}{f:Bool}{v s:Value}{bits:List Nat}(h:cG w g f v bits s)(hl:bits.length=32){q:Nat}(hq:q<32):w.cell? ⟨g,2+q,none⟩=some (.int .u8 (bits.getD q 0:Nat)):=by
 have h1:=h.cell (2+q);rw[h1,List.getElem?_toArray];show(Value.bool f::v::(bvs bits++[s]))[2+q]?=_;rw[show 2+q=q+1+1by omega,List.getElem?_cons_succ,List.getElem?_cons_succ,List.getElem?_append_left (by simp[bvs,hl,hq]),bvs,List.getElem?_map,List.getD_eq_getElem?_getD,List.getElem?_eq_getElem (by omega)];rfl
theorem ng(A:Option Addr)(n c:Nat)(xs:List Nat)(w:World)(hx:RB w A n xs)(hnc:n<=c)(hn:n<=140737488355328):Calls Tryz.prog 113 #[.slice A n c] w fun e w'=>ya w.heap.size xs e w'/\Below w.heap.size w w':=by
 have T:=aa hx;have hln:=hx.1;go_enter Tryz.func113,Tryz.ntmps113;go_upto_region 3with(first|((with_reducible refine atS 2 ?_);refine aC (by rfl) 94 rfl _ _ lF ?_;intro w1 Ho Hp Hq)|((with_reducible refine atS 4 ?_);refine aC (by rfl) 94 rfl _ _ lF ?_;intro w2 Hr HY Hs)|fail);have H:Hd (cG w2 w.heap.size false (.slice none 0 0) (zs 32) (.slice none 0 0)):=ab.below Ho.o HY.o;have M:Hd (cG w2 w1.heap.size false (.slice none 0 0) (zs 32) (.slice none 0 0)):=Hr.o;have C:=aQ Hp HY.o;have I:Hd (w.heap.size<w1.heap.size):=by have:=Hq.o;show _<_;omega
 have J:Hd (w1.heap.size<w2.heap.size):=by have:=Hs.o;show _<_;omega
 clear Ho Hr Hp HY Hq Hs;generalize w1.heap.size=g at*;go_cut[18]from 10to 18(fun s18 wx=>wx=w2/\∃q:Bool,s18= .bool q/\(q=true↔3<=n/\xs.getD 0 0=1))
 case first=>
  by_cases h3:3<=n
  ·have h3':(3:Int)<=n:=by omega
   obtain⟨ad,rfl,hb0,hc0⟩:=hx.at_ (k:=0) (by omega);rw[show ad.add 0=ad by simp[Addr.add]]at hc0;have hc1:=(C.o.cell hb0).trans hc0;have hpos:(0:Int)<n:=by omega
   clear hx hln hb0 hc0;by_cases hone:xs.getD 0 0=1
   ·rw[hone]at hc1;go_wp2_with fail;go_meet
    case rel=>exact⟨rfl,true,rfl,by simp[h3];simpa using hone⟩
   ·obtain⟨b,hb⟩:∃b,b=xs.getD 0 0:=⟨_,rfl⟩;rw[<-hb]at hc1 hone;have hb1:¬(b:Int)=1:=by omega
    have JG:=aa hb;clear hb;go_wp2_with fail;go_meet
    case rel=>exact⟨rfl,_,rfl,by rw[<-JG.o];constructor<;>intro h<;>simp at h⊢<;>omega⟩
  ·have h3':¬(3:Int)<=n:=by omega
   clear hx hln;go_wp2_with fail;go_meet
   case rel=>exact⟨rfl,false,rfl,by simp[h3]⟩
 case rest=>
 obtain⟨hwc,q,rfl,HQ⟩:=hcut;rw[hwc];clear hwc;have HA:=aa HQ;clear HQ;go_upto_if 18with fail;go_cut[5]from 18to 57(fun s5 wx=>∃(F:Bool)(va:Option Addr)(vn vc:Nat)(v:List Nat)(p0:Nat),s5= .int .i64 p0/\p0<=n/\Hd (dQ xs=some (F,v,xs.drop p0))/\Hd (cG wx g F (.slice va vn vc) (zs 32) (.slice none 0 0))/\Hd (cG wx w.heap.size false (.slice none 0 0) (zs 32) (.slice none 0 0))/\Hd (Below w.heap.size w wx)/\Hd (bn wx (g+1) (.slice va vn vc) v)/\Hd (∀B,(Value.slice va vn vc).ownBlock=some B->g<B/\B<wx.heap.size)/\Hd (g<wx.heap.size))
 case first=>
  cases q with
  |true=>
   obtain⟨h3,hone⟩:=HA.o.1 rfl;clear HA;obtain⟨ad,rfl,hb0,_⟩:=hx.at_ (k:=0) (by omega);have hz:¬xs.getD 0 0=0:=by omega
   obtain⟨ad1,e1,_,hc1'⟩:=hx.at_ (k:=1) (by omega);injection e1 with e1;subst e1;obtain⟨ad2,e2,_,hc2'⟩:=hx.at_ (k:=2) (by omega);injection e2 with e2;subst e2;have hc1b:=fL hb0 C.o hc1';have hc2b:=fL hb0 C.o hc2';have hy1:=hx.lt (k:=1) (by omega);have hy2:=hx.lt (k:=2) (by omega);obtain⟨m,hm⟩:∃m,m=xs.getD 1 0+256*xs.getD 2 0:=⟨_,rfl⟩;have HM:Hd (dQ xs=if m<=128/\3+m<=n then some (true,(xs.drop 3).take m,xs.drop (3+m))else none):=by
    show _=_;unfold dQ;rw[if_neg (by omega),if_neg hz,<-hm,hln];by_cases hc:m<=128/\3+m<=n
    ·rw[if_pos hc,if_pos ⟨hone,h3,hc⟩]
    ·rw[if_neg hc,if_neg fun h=>hc h.2.2]
   clear hone hc1' hc2' hx;have hi1:(1:Int)<n:=by omega
   have hi2:(2:Int)<n:=by omega
   generalize xs.getD 1 0=y1 at*;generalize xs.getD 2 0=y2 at*;have hmI:(y1:Int)+256*(y2:Int)=(m:Int):=by omega
   have JH:=aa hmI;clear hm hmI;go_wp2_with fail;have hc1c:w2.cell? ⟨ad.block,ad.off+1,none⟩=some (.int .u8 (y1:Int)):=hc1b;have hc2c:w2.cell? ⟨ad.block,ad.off+2,none⟩=some (.int .u8 (y2:Int)):=hc2b;have hn1:1<n:=by omega
   have hn2:2<n:=by omega
   go_quiet(fail);rw[JH.o];clear hc1b hc2b hc1c hc2c hn1 hn2;replace H:Hd (cG (w2.drewN nq) w.heap.size false (.slice none 0 0) (zs 32) (.slice none 0 0)):=H.o;replace M:Hd (cG (w2.drewN nq) g false (.slice none 0 0) (zs 32) (.slice none 0 0)):=M.o;replace C:Hd (Below w.heap.size w (w2.drewN nq)):=af C.o nq;replace J:Hd (g<(w2.drewN nq).heap.size):=J.o;generalize w2.drewN nq=w3 at*;by_cases hok:m<=128/\3+m<=n
   ·have a:Hd (dQ xs=some (true,(xs.drop 3).take m,xs.drop (3+m))):=HM.o.trans (if_pos hok);clear HM;have hm1:¬(128:Int)<(m:Int):=by omega
    have hm2:¬(n:Int)<3+(m:Int):=by omega
    have hm3:(3:Int)+(m:Int)<=(c:Int):=by omega
    have hp0:=(eL M.o).1;have hpf:=(eL M.o).2.2.1;have H3:(3:Int)<(c:Int)∨¬(3:Int)<(c:Int):=by omega
    rcases H3 with hc3|hc3;all_goals
     (try have hpos3:0<c-3:=by omega);go_wp2_with fail;have Ht:Hd (cG (w3.setCell ⟨g,0,none⟩ (.bool true)) g true (.slice none 0 0) (zs 32) (.slice none 0 0)):=M.o.found true;have Hu:Hd (cG (w3.setCell ⟨g,0,none⟩ (.bool true)) w.heap.size false (.slice none 0 0) (zs 32) (.slice none 0 0)):=(ae.one (ai w3 0 _)).blk H.o (by have:=I.o;omega);have Ha:Hd (Below w.heap.size w (w3.setCell ⟨g,0,none⟩ (.bool true))):=C.o.grown (ai w3 0 _) C.o.size fun k hk=>by injection hk with hk;have:=I.o;omega
     have Hv:Hd (g<(w3.setCell ⟨g,0,none⟩ (.bool true)).heap.size):=by show g<_;have:=J.o;simpa using this
     have Hb:=aa (T.o.below Ha.o);clear hp0 hpf M H C J;generalize w3.setCell ⟨g,0,none⟩ (.bool true)=w4 at*;refine(sS _ m _ ((xs.drop 3).take m) w4 (by first|(have:=((Hb.o.drop (k:=3) (B:=some ⟨ad.block,ad.off+3,none⟩) (by omega) (fun _=>rfl)).take (k:=m) (by omega));exact this)|((have hm0:m=0:=(by omega));(rw[hm0]);exact Hb.o.take (k:=0) (by omega))) (by omega)).mono ?_;rintro e w5⟨V,rfl,hown,hb5⟩;obtain⟨va,vn,vc,hvf⟩:=db hown.1;subst hvf;have JI:=aa hown;have Hw:Hd (∀B,(Value.slice va vn vc).ownBlock=some B->g<B/\B<w5.heap.size):=fun B hB=>⟨by have:=(hown.lt B hB).1;have:=Hv.o;omega,(hown.lt B hB).2⟩;have HC:Hd (cG w5 g true (.slice none 0 0) (zs 32) (.slice none 0 0)):=ab.below Ht.o hb5;have JJ:Hd (cG w5 w.heap.size false (.slice none 0 0) (zs 32) (.slice none 0 0)):=ab.below Hu.o hb5;have P:=aQ Ha hb5;have JK:Hd (g<w5.heap.size):=HC.o.lt;clear hown hb5 Ht Hu Ha Hb;have hp1:=(eL HC.o).2.1;have hpf1:=(eL HC.o).2.2.2;go_wp2_with fail;go_meet
     case rel=>
      refine⟨true,va,vn,vc,_,3+m,by go_num,by omega,a,HC.o.val _,(ae.one (ai w5 1 _)).blk JJ.o (by have:=I.o;omega),P.o.grown (ai w5 1 _) P.o.size fun k hk=>by injection hk with hk;have:=I.o;omega,((ae.one (ai w5 1 _)).own JI.o fun B hB e=>by have:=(Hw.o B hB).1;omega).mono (by have:=Hv.o;omega),fun B hB=>by have:=Hw.o B hB;simpa using this,by show g<_;have:=JK.o;simpa using this⟩
   ·have L:Hd (dF xs=none):=jd (HM.o.trans (if_neg hok));clear HM;have H3:(¬(128:Int)<(m:Int)/\(n:Int)<3+(m:Int))∨(128:Int)<(m:Int):=by omega
    rcases H3 with⟨hm1,hm2⟩|hm1;all_goals
       go_wp2_with(first|(refine aM (o:=⟨some 38,_,_,_,_,_⟩) (by rfl) 94 #[] rfl [] (by rfl) _ fF ?_)|(refine fc (o:=⟨none,_,_,_,_,_⟩) rfl (.tmp 2) (.tmp 38) rfl w.heap.size false (.slice none 0 0) (zs 32) (.slice none 0 0) rfl rfl H.o (ak 32) rfl rfl ?_;intro wz E D;have G:Hd (Below w.heap.size w wz):=C.o.grown D C.o.size (fun k hk=>by injection hk with hk;omega);clear D)|fail);refine iX (g:=w.heap.size) rfl rfl E (ak 32) rfl rfl ?_;exact⟨⟨fun _=>rfl,fun p hp=>by rw[L.o]at hp;cases hp⟩,G.o⟩
  |false=>
   by_cases h0:n=0
   ·have L:Hd (dF xs=none):=jd (qL (by omega));have h0':(n:Int)=0:=by omega
    clear hx hln HA;go_wp2_with(first|(refine aM (o:=⟨some 57,_,_,_,_,_⟩) (by rfl) 94 #[] rfl [] (by rfl) _ fF ?_)|(refine fc (o:=⟨none,_,_,_,_,_⟩) rfl (.tmp 2) (.tmp 57) rfl w.heap.size false (.slice none 0 0) (zs 32) (.slice none 0 0) rfl rfl H.o (ak 32) rfl rfl ?_;intro wz E D;have G:Hd (Below w.heap.size w wz):=C.o.grown D C.o.size (fun k hk=>by injection hk with hk;omega);clear D)|fail);refine iX (g:=w.heap.size) rfl rfl E (ak 32) rfl rfl ?_;exact⟨⟨fun _=>rfl,fun p hp=>by rw[L.o]at hp;cases hp⟩,G.o⟩
   obtain⟨ad,rfl,hb0,hc0⟩:=hx.at_ (k:=0) (by omega);rw[show ad.add 0=ad by simp[Addr.add]]at hc0;have h0':¬(n:Int)=0:=by omega
   have hpos:(0:Int)<n:=by omega
   have hc1:=(C.o.cell hb0).trans hc0;by_cases hz:xs.getD 0 0=0
   ·have a:Hd (dQ xs=some (false,[],xs.drop 1)):=oO (by omega) hz;rw[hz]at hc1;clear hx hln hz hc0 hb0 HA;go_wp2_with fail;go_meet
    case rel=>exact⟨false,none,0,0,[],1,rfl,by omega,a,M,H,C,Own.nil _ _ _,(fun B h=>by cases h),J⟩
   ·have L:Hd (dF xs=none):=by
     by_cases hone:xs.getD 0 0=1
     ·exact jd ((qK (by omega) hone).trans (if_neg fun h=>absurd (HA.o.2 ⟨by omega,hone⟩) (by simp)))
     ·exact jd (nl (by omega) hz hone)
    obtain⟨b,hb⟩:∃b,b=xs.getD 0 0:=⟨_,rfl⟩;rw[<-hb]at hc1 hz;clear hb hx hln hc0 hb0 HA;have h0b:¬(b:Int)=0:=by omega
    have h0d:((b:Int)!=0)=true:=by simpa using h0b
    go_wp2_with(first|(refine aM (o:=⟨some 57,_,_,_,_,_⟩) (by rfl) 94 #[] rfl [] (by rfl) _ fF ?_)|(refine fc (o:=⟨none,_,_,_,_,_⟩) rfl (.tmp 2) (.tmp 57) rfl w.heap.size false (.slice none 0 0) (zs 32) (.slice none 0 0) rfl rfl H.o (ak 32) rfl rfl ?_;intro wz E D;have G:Hd (Below w.heap.size w wz):=C.o.grown D C.o.size (fun k hk=>by injection hk with hk;omega);clear D)|fail);refine iX (g:=w.heap.size) rfl rfl E (ak 32) rfl rfl ?_;exact⟨⟨fun _=>rfl,fun p hp=>by rw[L.o]at hp;cases hp⟩,G.o⟩
 case rest=>
  obtain⟨F,va,vn,vc,v,p0,rfl,hp0n,a,Hx,Hy,Hz,HO,HV,H0⟩:=hcut;clear M H C J;have M:=Hx;have H:=Hy;have C:=Hz;have J:=H0;clear Hx Hy Hz H0;by_cases h32:p0+32<=n
  ·obtain⟨ad,rfl,hb0,hc0⟩:=hx.at_ (k:=0) (by omega);clear hb0 hc0 hx;have N:Hd (p0+32<=n):=h32;have hgt:¬(p0+32:Int)>(n:Int):=by omega
   have Q:Hd ((xs.drop p0).length=n-p0):=by show _=_;rw[List.length_drop,T.o.1]
   have H1:Hd (IsB (xs.drop p0)):=T.o.2.1.drop _;have H2:Hd (∀k,p0+k<n->(xs.drop p0).getD k 0=xs.getD (p0+k) 0):=fun k _=>by rw[List.getD_eq_getElem?_getD,List.getD_eq_getElem?_getD,List.getElem?_drop]
   have Hc:=aa (mZ a.o);generalize hrs:xs.drop p0=rs at*;clear hrs h32 a hln;generalize wc=w3 at*;go_wp2_with fail;clear hgt;go_loopw[7](fun i wr=>∃k:Nat,k<=32/\i= .int .i64 k/\Hd (cG wr g F (.slice va vn vc) (rs.take k++zs (32-k)) (.slice none 0 0))/\Hd (ae (fun B=>B=g) w3 wr)/\Hd (Below w.heap.size w wr))(fun i _=>32-(intOf i).toNat)
   case atStart=>exact⟨0,by omega,rfl,by simpa using M,ae.refl _ _,C⟩
   case round=>
    obtain⟨k,hk,rfl,f,He,HF⟩:=hrel;by_cases hlt:k<32
    ·have hlt':(k:Int)<32:=by omega
     have Hf:Hd ((rs.take k++zs (32-k)).length=32):=by show _=_;rw[List.length_append,List.length_take,Q.o,ak];have:=N.o;omega
     obtain⟨ad',e',hb,hc0⟩:=T.o.at_ (k:=p0+k) (by have:=N.o;omega);injection e' with e';subst e';have hc:=fL hb HF.o hc0;have hx8:xs.getD (p0+k) 0<256:=T.o.lt (by have:=N.o;omega);have HG:Hd ((rs.take k++zs (32-k)).set k (xs.getD (p0+k) 0)=rs.take (k+1)++zs (32-(k+1))):=by rw[<-H2.o k (by have:=N.o;omega)];exact m9 ⟨hlt,by have:=Q.o;have:=N.o;omega⟩
     have hf:=ab.frozen f.o (2+k);have hik:(p0+k:Int)<n:=by have:=N.o;omega
     have H4:Hd (cG (wr.setCell ⟨g,2+k,none⟩ (.int .u8 ((xs.getD (p0+k) 0:Nat):Int))) g F (.slice va vn vc) ((rs.take k++zs (32-k)).set k (xs.getD (p0+k) 0)) (.slice none 0 0)):=f.o.bitSet Hf.o hlt _;have hgk:wr.grownBy (wr.setCell ⟨g,2+k,none⟩ (.int .u8 ((xs.getD (p0+k) 0:Nat):Int))) (some g):=ai wr (2+k) _;have Hg:Hd (ae (fun B=>B=g) w3 (wr.setCell ⟨g,2+k,none⟩ (.int .u8 ((xs.getD (p0+k) 0:Nat):Int)))):=He.o.trans (ae.one hgk);have JL:Hd (Below w.heap.size w (wr.setCell ⟨g,2+k,none⟩ (.int .u8 ((xs.getD (p0+k) 0:Nat):Int)))):=HF.o.grown hgk HF.o.size fun k hk=>by injection hk with hk;have:=I.o;omega
     have hcp:=f.o.bitCell Hf.o hlt;rw[HG.o]at H4;clear hgk f hc0 HG Hf;generalize xs.getD (p0+k) 0=x at*;generalize(rs.take k++zs (32-k)).getD k 0=y at*;go_wp2_with fail;go_roundw
     case rel=>exact⟨k+1,by omega,by go_num,H4,Hg,JL⟩
     case measure=>simp[intOf];omega
    ·have hk32:k=32:=by omega
     have hnlt:¬(k:Int)<32:=by omega
     have H5:Hd (cG wr g F (.slice va vn vc) (rs.take 32) (.slice none 0 0)):=by rw[hk32]at f;simpa[zs]using f
     have R:Hd ((rs.take 32).length=32):=by show _=_;rw[List.length_take];have:=Q.o;have:=N.o;omega
     have JM:Hd (IsB (rs.take 32)):=H1.o.take _;have Hh:Hd (oV F v rs=if 32<=rs.length/\rs.length=32+32*cW (rs.take 32)then some ⟨F,v,rs.take 32,d9 (cW (rs.take 32)) (rs.drop 32)⟩else none):=rfl;generalize rs.take 32=bits at*;clear f hlt hk hk32;go_wp2_with fail;clear hnlt;generalize k=k0;go_loopw[5](fun i wr'=>∃k p:Nat,p=p0+32+32*k/\p<=n/\i= .int .i64 p/\∃s,Hd (cG wr' g F (.slice va vn vc) bits s)/\Hd (wr'.ownsRow w3.heap.size 34 32 s k (bvs ((rs.drop 32).take (k*32))))/\Hd (ae (fun B=>B=g) w3 wr')/\Hd (Below w.heap.size w wr'))(fun i _=>n-(intOf i).toNat)
     case atStart=>exact⟨0,p0+32,by omega,N.o,by go_num,_,H5,World.ownsRow_nil _ _ _ _,He,HF⟩
     case round=>
      clear He HF H5;rename_i w4;obtain⟨k,p,hpk,hpn,rfl,s,HD,U,Y,l⟩:=hrel;have O:=aa hpk;clear hpk;have Hi:Hd (∀B,s.ownBlock=some B->w3.heap.size<=B/\B<wr.heap.size):=fun B hB=>di U.o hB;by_cases hp32:p+32<=n
      ·have hp32':(p:Int)+32<=(n:Int):=by omega
       go_wp2_with(first|((with_reducible refine atS 8 ?_);refine aC (by rfl) 34 rfl _ _ aD ?_;intro w5 H6 HI HN)|fail);have JN:Hd (cG w5 g F (.slice va vn vc) bits s):=ab.below HD.o HI.o;have JO:Hd (w5.ownsRow w3.heap.size 34 32 s k (bvs ((rs.drop 32).take (k*32)))):=(ae.ofBelow HI.o).row U.o fun _ _ h=>h;have JP:Hd (ae (fun B=>B=g) w3 w5):=Y.o.trans ((ae.ofBelow HI.o).mono fun _ _ h=>h.elim);have H7:=aQ l HI.o;have JQ:Hd (ar w5 wr.heap.size 34 (zs 32)):=H6;have Hj:Hd (wr.heap.size<w5.heap.size/\g<wr.heap.size/\w3.heap.size<=wr.heap.size):=⟨by have:=HN.o;omega,by have:=Y.o.size;have:=J.o;omega,Y.o.size⟩;clear HD U Y l HI HN H6;generalize wr.heap.size=d at*;obtain⟨dd,HJ⟩:∃dd,Hd (dd=(rs.drop 32).drop (k*32)):=⟨_,rfl⟩;have Hk:Hd (32<=dd.length):=by rw[HJ.o];show _<=_;rw[List.length_drop,List.length_drop];have:=Q.o;have:=O.o;omega
       have JR:Hd (∀j,j<32->dd.getD j 0=xs.getD (p+j) 0):=fun j hj=>by
        have:=H2.o (32+k*32+j) (by have:=O.o;omega);rw[HJ.o,show p+j=p0+(32+k*32+j)by have:=O.o;omega,<-this,List.drop_drop];simp only[List.getD_eq_getElem?_getD,List.getElem?_drop]
       have JS:Hd ((rs.drop 32).take ((k+1)*32)=(rs.drop 32).take (k*32)++dd.take 32):=by rw[HJ.o];show _=_;rw[show(k+1)*32=k*32+32by omega,List.take_add]
       have JT:Hd (IsB dd):=by rw[HJ.o];exact(H1.o.drop _).drop _
       clear HJ;go_loopw[9](fun i wj=>∃j:Nat,j<=32/\i= .int .i64 j/\Hd (ar wj d 34 (dd.take j++zs (32-j)))/\Hd (ae (fun B=>B=d) w5 wj))(fun i _=>32-(intOf i).toNat)
       case atStart=>exact⟨0,by omega,rfl,by simpa using JQ,ae.refl _ _⟩
       case round=>
        rename_i w6 _;obtain⟨j,hj,rfl,HE,HK⟩:=hrel;by_cases hjt:j<32
        ·have hjt':(j:Int)<32:=by omega
         have H8:Hd (Below w.heap.size w wr):=HK.o.toBelow H7.o H7.o.size fun B hB=>by have:=I.o;have:=Hj.o;omega
         have H9:Hd ((dd.take j++zs (32-j)).length=32):=by show _=_;rw[List.length_append,List.length_take,ak];have:=Hk.o;omega
         obtain⟨ad',e',hb,hc0⟩:=T.o.at_ (k:=p+j) (by omega);injection e' with e';subst e';have hc:=fL hb H8.o hc0;have hx8:xs.getD (p+j) 0<256:=T.o.lt (by omega);have HG:Hd ((dd.take j++zs (32-j)).set j (xs.getD (p+j) 0)=dd.take (j+1)++zs (32-(j+1))):=by rw[<-JR.o j hjt];exact m9 ⟨hjt,by have:=Hk.o;omega⟩
         have hcp:=ar.cell HE.o (i:=j) (by rw[H9.o];omega);have hf:=ab.frozen HE.o j;have hik:(p:Int)+j<n:=by omega
         have JA:Hd (ar (wr.setCell ⟨d,j,none⟩ (.int .u8 ((xs.getD (p+j) 0:Nat):Int))) d 34 ((dd.take j++zs (32-j)).set j (xs.getD (p+j) 0))):=ar.set HE.o j _;have Hg:Hd (ae (fun B=>B=d) w5 (wr.setCell ⟨d,j,none⟩ (.int .u8 ((xs.getD (p+j) 0:Nat):Int)))):=HK.o.trans (ae.one (ai wr j _));rw[HG.o]at JA;clear HE hc0 HG H9 H8;generalize xs.getD (p+j) 0=x at*;generalize(dd.take j++zs (32-j)).getD j 0=y at*;go_wp2_with fail;go_roundw
         case rel=>exact⟨j+1,by omega,by go_num,JA,Hg⟩
         case measure=>simp[intOf];omega
        ·have hj32:j=32:=by omega
         subst hj32;have hdz:dd.take 32++zs (32-32)=dd.take 32:=by simp[zs]
         rw[hdz]at HE;have hd1:(bvs (dd.take 32)).length=32:=by rw[bvs,List.length_map,List.length_take];have:=Hk.o;omega
         have JB:=aa hd1;have JC:Hd (RB wr (some ⟨d,0,none⟩) 32 (dd.take 32)):=HE.o.whole (JT.o.take _) (by rw[bvs,List.length_map]at hd1;exact hd1);have Hl:Hd (cG wr g F (.slice va vn vc) bits s):=HK.o.blk JN.o (by have:=Hj.o;omega);have JD:Hd (wr.ownsRow w3.heap.size 34 32 s k (bvs ((rs.drop 32).take (k*32)))):=HK.o.row JO.o fun B hB=>by have:=Hi.o B hB;omega
         have Hm:Hd (ae (fun B=>B=g) w3 wr):=JP.o.andThen HK.o fun B hB e=>by have:=Hj.o;omega
         have hc34:wr.cell? ⟨g,34,none⟩=some s:=Hl.o.sumsCell R.o;clear hj hjt hd1 hdz;go_wp2_with(first|((with_reducible refine atS 100 ?_);refine ac (by rfl) 34 (.tmp 8) rfl ⟨d,0,none⟩ 32 (dd.take 32) rfl JC.o (by omega) (by kernel_rfl) (by kernel_rfl) ?_)|((with_reducible refine atS 101 ?_);refine aR rfl wr 27 34 _ 32 (.tmp 100) rfl cN aD (by decide) (by decide) (bvs (dd.take 32)).toArray rfl (by rw[List.size_toArray];exact JB.o) ?_)|(with_reducible refine atS 102 ?_));clear hc34;refine fG (t:=27) (e:=34) (o:=⟨some 102,_,_,_,_,_⟩) cN eO (by rfl) wr (by rfl) (.tmp 99) (.tmp 101) (by rfl) w3.heap.size s k (bvs ((rs.drop 32).take (k*32))) JD.o (bvs (dd.take 32)) JB.o (fun u hu=>ah _ u hu) (by rfl) (by rfl) (by have:=O.o;omega) (by have:=O.o;omega) (by have:=Hm.o.size;omega) ?_;intro v7 w7 ho7 hg7 hl7;obtain⟨sa,sn,sc,e7⟩:=db ho7;subst e7;have HS:Hd (cG w7 g F (.slice va vn vc) bits s):=(ae.grown hg7).blk Hl.o (fun e=>by have:=(Hi.o g e.symm).1;have:=J.o;omega);have JE:Hd (ae (fun B=>B=g) w3 w7):=Hm.o.andThen (ae.grown hg7) fun B hB e=>by have:=(Hi.o B e.symm).1;omega
         have Hn:=aa ho7;have hc7:w7.cell? ⟨g,34,none⟩=some s:=HS.o.sumsCell R.o;have hf7:w7.frozen? ⟨g,34,none⟩=false:=ab.frozen HS.o _;have JU:Hd (cG (w7.setCell ⟨g,34,none⟩ (.slice sa sn sc)) g F (.slice va vn vc) bits (.slice sa sn sc)):=HS.o.sums R.o _;have JF:Hd (ae (fun B=>B=g) w3 (w7.setCell ⟨g,34,none⟩ (.slice sa sn sc))):=JE.o.trans (ae.one (ai w7 34 _));have JV:Hd ((w7.setCell ⟨g,34,none⟩ (.slice sa sn sc)).ownsRow w3.heap.size 34 32 (.slice sa sn sc) (k+1) (bvs ((rs.drop 32).take ((k+1)*32)))):=by
          rw[JS.o,show bvs ((rs.drop 32).take (k*32)++dd.take 32)=bvs ((rs.drop 32).take (k*32))++bvs (dd.take 32)by simp[bvs]];exact(ae.one (ai w7 34 _)).row Hn.o fun B hB e=>by have:=(di Hn.o hB).1;have:=J.o;omega
         have JW:Hd (Below w.heap.size w (w7.setCell ⟨g,34,none⟩ (.slice sa sn sc))):=JF.o.toBelow C.o C.o.size fun B hB=>by have:=I.o;omega
         clear ho7 hg7 hl7 HS JE Hn JD Hm Hl JC;go_wp2_with fail;go_roundw
         case rel=>exact⟨k+1,p+32,by have:=O.o;omega,by omega,by go_num,_,JU,JV,JF,JW⟩
         case measure=>simp[intOf];omega
      ·have hp32':¬(p:Int)+32<=(n:Int):=by omega
       obtain⟨sa,sn,sc,hsf⟩:=db U.o;have hsn:sn=k:=by
        rcases U.o.2with⟨e,h0⟩|⟨g',cap,cur,e,_⟩
        ·rw[hsf]at e;injection e with e1 e2 e3;omega
        ·rw[hsf]at e;injection e with e1 e2 e3
       subst hsf hsn;have HT:Hd (cG wr w.heap.size false (.slice none 0 0) (zs 32) (.slice none 0 0)):=Y.o.blk H.o (by have:=I.o;omega);have r:Hd (Below wr.heap.size wr wr.drew):=af (Below.refl _ _) 1;have hub:Tryz.prog.underlying 33=some (.array 32 5):=by kernel_rfl
       have hszb:(Tryz.prog.info? 33).map (·.size)=some (bvs bits).length:=by rw[show(Tryz.prog.info? 33).map (·.size)=some 32by kernel_rfl];simp[bvs,R.o]
       have HL:Hd (∀W,Below wr.heap.size wr W->W.cell? ⟨g,34,none⟩=some (.slice sa sn sc)/\W.rangeAt g 2 (bvs bits)):=fun W hb=>by
        have h1:=ab.below HD.o hb;exact⟨cG.sumsCell h1 R.o,ab.rangeOf (X:=[.bool F,(.slice va vn vc)]) (Z:=[.slice sa sn sc]) h1 rfl⟩
       by_cases hpe:p=n
       ·have hpe':(p:Int)=(n:Int):=by omega
        go_wp2_with fail;rename_i KK hKK;have HU:=aa hKK;clear hKK;refine wp_region_held_drew (S:=fun w'=>w'.cell? ⟨g,34,none⟩=some (.slice sa sn sc)/\w'.rangeAt g 2 (bvs bits)) (by kernel_rfl) (HL.o _ r.o) fun hH=>?_;generalize wr.drew=w4' at*;refine tka 0 ?_;refine tka 1 ?_;refine tka 2 ?_;refine tka 3 ?_;refine tka 4 ?_;refine tka 5 ?_;refine tka 6 ?_;refine tka 7 ?_;refine tka 8 ?_;refine tkl 9 ?_;refine rdy 10 fun K hK=>?_;go_simp;go_at_call 125;refine(yE bits w4' JM.o R.o).mono ?_;rintro e w5⟨rfl,hb5⟩;have P:=aQ r hb5;refine hK.out _ _ (HL.o _ P.o) (fun hH=>?_);clear hK hb5;have HC:Hd (cG w5 g F (.slice va vn vc) bits (.slice sa sn sc)):=ab.below HD.o P.o;have HW:Hd (cG w5 w.heap.size false (.slice none 0 0) (zs 32) (.slice none 0 0)):=ab.below HT.o P.o;have z:=aQ l P.o;have JX:Hd (ae (fun B=>B=g) w3 w5):=Y.o.trans ((ae.ofBelow P.o).mono fun _ _ h=>h.elim);have HN:Hd (w5.ownsRow w3.heap.size 34 32 (.slice sa sn sc) sn (bvs ((rs.drop 32).take (sn*32)))):=(ae.ofBelow P.o).row U.o fun _ _ h=>h;clear HL HD HT Y U l r;by_cases ho:sn=cW bits
        ·rw[<-ho];refine tka 11 ?_;refine tka 12 ?_;refine bN ?_;change KK _ _;refine HU.o _ _ ?_;clear hH hub hszb;go_wp2_with(first|((with_reducible refine atS 118 ?_);refine xm (by rfl) (.tmp 4) rfl g F (.slice va vn vc) bits (.slice sa sn sc) rfl HC.o R.o ?_)|(refine fc (o:=⟨none,_,_,_,_,_⟩) rfl (.tmp 2) (.tmp 118) rfl w.heap.size F (.slice va vn vc) bits (.slice sa sn sc) rfl rfl HW.o R.o rfl rfl ?_;intro wz E D;have G:Hd (Below w.heap.size w wz):=z.o.grown D z.o.size (fun k hk=>by injection hk with hk;omega)));have hD:dF xs=some ⟨F,v,bits,d9 sn (rs.drop 32)⟩:=by
          rw[Hc.o,Hh.o,if_pos ⟨by have:=Q.o;have:=N.o;omega,by have:=Q.o;have:=O.o;omega⟩,ho]
         have hlr:(rs.drop 32).length=32*sn:=by rw[List.length_drop];have:=Q.o;have:=O.o;omega
         refine iX (g:=w.heap.size) rfl rfl E R.o rfl rfl ⟨⟨fun h=>(by rw[hD]at h;cases h),fun p' h=>?_⟩,G.o⟩;rw[hD]at h;injection h with h;subst h;refine⟨_,_,rfl,?_,?_⟩
         ·exact(ae.one D).own ((JX.o.own HO.o fun B hB e=>by have:=(HV.o B hB).1;omega).mono (by have:=I.o;omega)) fun B hB e=>by have:=(HV.o B hB).1;have:=I.o;omega
         ·show World.ownsRow _ _ _ _ _ (d9 sn (rs.drop 32)).length _;rw[gY,jh hlr];have h1:=HN.o;rw[List.take_of_length_le (by omega)]at h1;exact gG ((ae.one D).row h1 fun B hB e=>by have:=(di h1 hB).1;have:=J.o;have:=I.o;omega) (by have:=J.o;have:=I.o;omega)
        ·have L:Hd (dF xs=none):=Hc.o.trans (Hh.o.trans (if_neg fun h=>ho (by have:=h.2;have:=Q.o;have:=O.o;omega)));have hoI:¬(sn:Int)=(cW bits:Int):=by omega
         generalize cW bits=q at*;refine tka 11 ?_;refine tka 12 ?_;refine bN ?_;change KK _ _;refine HU.o _ _ ?_;clear hH hub hszb;go_wp2_with(first|(refine aM (o:=⟨some 117,_,_,_,_,_⟩) (by rfl) 94 #[] rfl [] (by rfl) _ fF ?_)|(refine fc (o:=⟨none,_,_,_,_,_⟩) rfl (.tmp 2) (.tmp 117) rfl w.heap.size false (.slice none 0 0) (zs 32) (.slice none 0 0) rfl rfl HW.o (ak 32) rfl rfl ?_;intro wz E D;have G:Hd (Below w.heap.size w wz):=z.o.grown D z.o.size (fun k hk=>by injection hk with hk;omega);clear D)|fail);refine iX (g:=w.heap.size) rfl rfl E (ak 32) rfl rfl ?_;exact⟨⟨fun _=>rfl,fun p hp=>by rw[L.o]at hp;cases hp⟩,G.o⟩
       ·have hpe':¬(p:Int)=(n:Int):=by omega
        have hpd:decide ((p:Int)=(n:Int))=false:=decide_eq_false hpe';have hpb:((p:Int)==(n:Int))=false:=by simpa using hpe'
        have hpbn:((p:Int)!=(n:Int))=true:=by simpa using hpe'
        have L:Hd (dF xs=none):=Hc.o.trans (Hh.o.trans (if_neg fun h=>hpe (by have:=h.2;have:=Q.o;have:=O.o;have:=N.o;omega)));go_wp2_with fail;rename_i KK hKK;have HU:=aa hKK;clear hKK;refine wp_region_held_drew (S:=fun w'=>w'.cell? ⟨g,34,none⟩=some (.slice sa sn sc)/\w'.rangeAt g 2 (bvs bits)) (by kernel_rfl) (HL.o _ r.o) fun hH=>?_;refine tka 0 ?_;refine tka 1 ?_;refine tka 2 ?_;refine tka 3 ?_;try simp only[hpd,hpb,hpbn,hpe',Bool.not_false,ne_eq,not_false_eq_true,decide_true]
        refine tka 4 ?_;refine tks 5 ?_;refine tks 6 ?_;refine tks 7 ?_;refine tks 8 ?_;refine tks 9 ?_;refine tks 10 ?_;refine tks 11 ?_;refine tka 12 ?_;refine bN ?_;change KK _ _;refine HU.o _ _ ?_;clear hH hub hszb;have HW:Hd (cG wr.drew w.heap.size false (.slice none 0 0) (zs 32) (.slice none 0 0)):=ab.below HT.o r.o;have z:Hd (Below w.heap.size w wr.drew):=l.o.trans (r.o.mono l.o.size);clear HL HD HT Y U l r;generalize wr.drew=w5 at*;go_wp2_with(first|(refine aM (o:=⟨some 117,_,_,_,_,_⟩) (by rfl) 94 #[] rfl [] (by rfl) _ fF ?_)|(refine fc (o:=⟨none,_,_,_,_,_⟩) rfl (.tmp 2) (.tmp 117) rfl w.heap.size false (.slice none 0 0) (zs 32) (.slice none 0 0) rfl rfl HW.o (ak 32) rfl rfl ?_;intro wz E D;have G:Hd (Below w.heap.size w wz):=z.o.grown D z.o.size (fun k hk=>by injection hk with hk;omega);clear D)|fail);refine iX (g:=w.heap.size) rfl rfl E (ak 32) rfl rfl ?_;exact⟨⟨fun _=>rfl,fun p hp=>by rw[L.o]at hp;cases hp⟩,G.o⟩
  ·have L:Hd (dF xs=none):=(mZ a.o).trans (by unfold oV;rw[if_neg (by rw[List.length_drop,T.o.1];omega)]);have hgt:(p0+32:Int)>(n:Int):=by omega
   go_wp2_with(first|(refine aM (o:=⟨some 63,_,_,_,_,_⟩) (by rfl) 94 #[] rfl [] (by rfl) _ fF ?_)|(refine fc (o:=⟨none,_,_,_,_,_⟩) rfl (.tmp 2) (.tmp 63) rfl w.heap.size false (.slice none 0 0) (zs 32) (.slice none 0 0) rfl rfl H.o (ak 32) rfl rfl ?_;intro wz E D;have G:Hd (Below w.heap.size w wz):=C.o.grown D C.o.size (fun k hk=>by injection hk with hk;omega);clear D)|fail);refine iX (g:=w.heap.size) rfl rfl E (ak 32) rfl rfl ?_;exact⟨⟨fun _=>rfl,fun p hp=>by rw[L.o]at hp;cases hp⟩,G.o⟩
def bZ(ds:Nat->List Nat):Nat->List Nat
 |0=>[]
 |n+1=>bZ ds n++ds n
theorem pl{ds:Nat->List Nat}{n:Nat}(h:∀j,j<n->(ds j).length=32):(bZ ds n).length=n*32:=by
 induction n with
 |zero=>rfl
 |succ n ih=>rw[bZ,List.length_append,ih fun j hj=>h j (by omega),h n (by omega)];omega
theorem DJ{ds:Nat->List Nat}{n k:Nat}(h:∀j,j<n->(ds j).length=32)(hk:k<n):((bZ ds n).drop (k*32)).take 32=ds k:=by
 induction n with
 |zero=>omega
 |succ n ih=>
  have hl:=pl (ds:=ds) (n:=n) fun j hj=>h j (by omega);rw[bZ];rcases Nat.lt_or_eq_of_le (Nat.le_of_lt_succ hk)with hk'|rfl
  ·rw[List.drop_append_of_le_length (by omega),List.take_append_of_le_length (by rw[List.length_drop];omega)];exact ih (fun j hj=>h j (by omega)) hk'
  ·rw[List.drop_append,List.drop_of_length_le (by omega),hl,Nat.sub_self,List.drop_zero,List.nil_append,List.take_of_length_le (by rw[h _ hk];omega)]
theorem vd{ds es:Nat->List Nat}{n:Nat}(h:∀j,j<n->ds j=es j):bZ ds n=bZ es n:=by
 induction n with
 |zero=>rfl
 |succ n ih=>rw[bZ,bZ,ih fun j hj=>h j (by omega),h n (by omega)]
theorem yu(l:List (List Nat)):bZ (fun j=>l.getD j (zs 32)) l.length=l.flatten:=by
 suffices h:∀n,n<=l.length->bZ (fun j=>l.getD j (zs 32)) n=(l.take n).flatten by rw[h _ (Nat.le_refl _),List.take_length]
 intro n;induction n with
 |zero=>intro _;simp[bZ]
 |succ n ih=>
  intro hn;rw[bZ,ih (by omega),List.take_succ_eq_append_getElem (by omega),List.flatten_append,List.getD_eq_getElem?_getD,List.getElem?_eq_getElem (by omega)];simp
def dq(w:World)(base:Nat)(v:Value)(n:Nat)(ds:Nat->List Nat):Prop:=w.ownsRow base 34 32 v n (bvs (bZ ds n))
theorem dq.nil(w:World)(base:Nat)(ds:Nat->List Nat):dq w base (.slice none 0 0) 0 ds:=World.ownsRow_nil _ _ _ _
theorem dq.range{w:World}{base g n c:Nat}{ds:Nat->List Nat}(h:dq w base (.slice (some ⟨g,0,none⟩) n c) n ds)(hl:∀j,j<n->(ds j).length=32){k:Nat}(hk:k<n):w.rangeAt g (k*32) (bvs (ds k)):=fun j v hj=>by
 have hj32:j<32:=by
  have:=(List.getElem?_eq_some_iff.1 hj).1;simpa[bvs,hl k hk]using this
 rw[World.ownsRow.cellAt h _ (by omega)];have e2:=congrArg (fun l:List Nat=>(bvs l)[j]?) (DJ hl hk);simp only[bvs,List.getElem?_map,List.getElem?_take,if_pos hj32,List.getElem?_drop]at e2 hj⊢;rw[e2,hj]
theorem dq.head{w:World}{base n:Nat}{v:Value}{ds:Nat->List Nat}(h:dq w base v n ds)(hn:0<n):∃g c,v= .slice (some ⟨g,0,none⟩) n c/\base<=g/\g<w.heap.size/\n<=c:=jt h hn
theorem dq.form{w:World}{base n:Nat}{v:Value}{ds:Nat->List Nat}(h:dq w base v n ds):∃a c,v= .slice a n c:=by
 rcases h.2with⟨e,h0⟩|⟨g,cap,cur,e,_⟩
 ·exact⟨none,0,by rw[e,h0]⟩
 ·exact⟨_,_,e⟩
theorem dq.touch{U:Nat->Prop}{w w':World}{base n:Nat}{v:Value}{ds:Nat->List Nat}(h:dq w base v n ds)(ht:ae U w w')(hn:∀k,v.ownBlock=some k->¬U k):dq w' base v n ds:=ht.row h hn
theorem dq.below{w w':World}{base n:Nat}{v:Value}{ds:Nat->List Nat}(h:dq w base v n ds)(hb:Below w.heap.size w w'):dq w' base v n ds:=(ae.ofBelow hb).row h fun _ _ h=>h
theorem dq.mono{w:World}{base base' n:Nat}{v:Value}{ds:Nat->List Nat}(h:dq w base v n ds)(hb:base'<=base):dq w base' v n ds:=gG h hb
theorem dq.lt{w:World}{base n:Nat}{v:Value}{ds:Nat->List Nat}(h:dq w base v n ds){B:Nat}(hB:v.ownBlock=some B):base<=B/\B<w.heap.size:=di h hB
theorem dq.of_sums{w:World}{base:Nat}{v:Value}{l:List (List Nat)}(h:ko w base v l):dq w base v l.length (fun j=>l.getD j (zs 32)):=by
 unfold dq;rw[yu];exact h
theorem dq.step{w:World}{base n:Nat}{v:Value}{ds:Nat->List Nat}{D:List Nat}(hD:ds n=D)(h:w.ownsRow base 34 32 v (n+1) (bvs (bZ ds n)++bvs D)):dq w base v (n+1) ds:=by
 unfold dq;rw[bZ,hD,show bvs (bZ ds n++D)=bvs (bZ ds n)++bvs D by simp[bvs]];exact h
theorem dq.one(w:World){base:Nat}{ds:Nat->List Nat}{D:List Nat}(hD:ds 0=D)(hl:D.length=32)(hb:base<=w.heap.size):dq (w.alloc (.cells (bvs D).toArray 34)) base (.slice (some ⟨w.heap.size,0,none⟩) 1 1) 1 ds:=by
 subst hD;refine⟨?_, .inr ⟨w.heap.size,1,(bvs (ds 0)).toArray,rfl,hb,ab.new _ _ _,Nat.le_refl _,by simp[maxLen],?_,?_⟩⟩
 ·simp[bZ,bvs,hl]
 ·simp[bvs,hl]
 ·rw[Nat.one_mul,List.take_of_length_le (by simp[bvs,hl])];simp[bZ]
end Go.Proofs.YtfnlhfaihoojfaaGreatDoor
