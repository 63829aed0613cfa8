/- Texts of the proof of ledgerlaw13.ClientPlays, part 26; no condition of its own. -/
import Derived.Test.YtfnlhfaihoojfaaGreatDoorS25
set_option maxRecDepth 100000
set_option maxHeartbeats 4000000
namespace Go.Proofs.YtfnlhfaihoojfaaGreatDoor
open Go.RowKit
theorem qB{w:World}(a b c:Nat)(ha:a<256)(hb:b<256)(hc:c<256):bn (w.alloc (.cells #[.int .u8 (a:Int), .int .u8 (b:Int), .int .u8 (c:Int)] 5)) w.heap.size (.slice (some ⟨w.heap.size,0,none⟩) 3 3) [a,b,c]:=⟨⟨rfl, .inr ⟨w.heap.size,3,#[.int .u8 (a:Int), .int .u8 (b:Int), .int .u8 (c:Int)],rfl,Nat.le_refl _,heap_alloc_new w _,Nat.le_refl _,by simp[maxLen],rfl,rfl⟩⟩,fun x hx=>by simp at hx;omega⟩
theorem BW:(Tryz.prog.info? 33).map (fun i=>(i.zero,i.size))=some (some (.agg (gZ 32)),32):=by kernel_rfl
theorem vG:∀(r:Fin 8)(x:Fin 256),x.val<2^r.val->bits .or .u8 (x.val:Int) ((2:Int)^r.val%256)=((x.val+2^r.val:Nat):Int):=by decide+kernel
theorem Db(x r:Nat)(hx:x<2^r)(hr:r<8):bits .or .u8 (x:Int) ((2:Int)^r%256)=((x+2^r:Nat):Int):=vG ⟨r,hr⟩ ⟨x,Nat.lt_of_lt_of_le hx (Nat.le_trans (Nat.pow_le_pow_right (by decide) (show r<=8by omega)) (by decide))⟩ hx
theorem DA(F:Nat->Bool){near:Nat->List Nat}{n:Nat}(hn:n<=256)(h:∀j,j<256->(near j).length=32):(dt F near n).flatten.length<=n*32:=by
 induction n with
 |zero=>simp[dt]
 |succ n ih=>
  have h1:=ih (by omega);have h2:=h n (by omega);rw[dt];split
  ·rw[List.flatten_append,List.length_append,List.flatten_cons,List.flatten_nil,List.append_nil];omega
  ·omega
def kg(f:Bool)(vl:List Nat):List Nat:=if f then 1::vl.length%256::vl.length/256::vl else[0]
theorem qu(wk g c gn cn:Nat)(f:Bool)(va:Option Addr)(n vc:Nat)(vl:List Nat)(near:Nat->List Nat)(w:World)(hE:wW w g wk)(hx:RB w va n vl)(hA:va=none->vc=0)(hl:f=true->n<=128)(hN:cX w gn near)(hnf:∀j,j<256->(near j).length=32/\IsB (near j)):Calls Tryz.prog 75 #[.slice (some ⟨g,0,none⟩) 257 c, .agg (spC f (.slice va n vc) (.slice (some ⟨gn,0,none⟩) 256 cn)).toArray] w fun e w'=>(∃v,e= .returned v/\bn w' w.heap.size v (pS (prU wk f vl near 256)))/\Below w.heap.size w w':=by
 have HE:=aa hE;have HX:=aa hx;have t:=aa (And.intro hA hl);have HN:=aa hN;have HJ:=aa hnf;have hnl:vl.length=n:=hx.1;have HK:=aa hnl;clear hE hx hA hl hN hnf hnl;go_enter Tryz.func75,Tryz.ntmps75;go_upto_region 1with fail;refine bh (G:=fun w2=>Code.wp _ _ _ _ w2) fun w2 H1 HW HS=>?_;have U:Hd (eU w2 w.heap.size f (.slice va n vc) (.slice (some ⟨gn,0,none⟩) 256 cn)):=H1;clear H1;have hc0:w2.cell? ⟨w.heap.size,0,none⟩=some (.bool f):=U.o.cell 0;go_upto_if 12with fail;go_cut[5]from 13to 32(fun v wx=>Hd (bn wx w2.heap.size v (kg f vl))/\Hd (Below w2.heap.size w2 wx))
 case first=>
  cases f with
  |true=>
   have hn128:n<=128:=t.o.2 rfl;have hm:(n:Int).tmod 256=(n:Int):=by rw[Int.tmod_eq_emod_of_nonneg (by omega)];omega
   have hq:(n:Int).tdiv 256=0:=by rw[Int.tdiv_eq_ediv_of_nonneg (by omega)];omega
   have hc1:w2.cell? ⟨w.heap.size,1,none⟩=some (.slice va n vc):=U.o.cell 1;have u:Hd (bn (w2.alloc (.cells #[.int .u8 1, .int .u8 (n:Int), .int .u8 0] 5)) w2.heap.size (.slice (some ⟨w2.heap.size,0,none⟩) 3 3) [1,n,0]):=qB 1 n 0 (by omega) (by omega) (by omega);have M:Hd (Below w2.heap.size w2 (w2.alloc (.cells #[.int .u8 1, .int .u8 (n:Int), .int .u8 0] 5))):=(Below.refl _ _).alloc (Nat.le_refl _) _;have Hr:Hd (kg true vl=[1,n,0]++vl):=by
    show _=_;unfold kg;rw[if_pos rfl,HK.o,Nat.mod_eq_of_lt (by omega),Nat.div_eq_of_lt (by omega)];rfl
   go_wp2_with(first|(at_builtin;refine dc (o:=⟨some 25,_,_,_,_,_⟩) ax aH _ (by rfl) (.tmp 13) (.tmp 24) (by rfl) w2.heap.size _ [] (Own.nil _ _ _) _ 3 3 [1,n,0] u.o.reads (fun h=>by cases h) (by rfl) (by rfl) (by decide) M.o.size ?_;intro V w3 ho3 hg3)|(with_reducible refine atS 28 ?_));have Ha:Hd (bn w3 w2.heap.size V ([1,n,0])):=ho3;have d:Hd (Below w2.heap.size w2 w3):=M.o.grown hg3 M.o.size fun k hk=>by cases hk
   have hc2:w3.cell? ⟨w.heap.size,1,none⟩=some (.slice va n vc):=(ab.below U.o d.o).cell 1;have Hs:=aa (HX.o.below (HW.o.trans (d.o.mono HW.o.size)));clear u M ho3 hg3 hm hq hc1 hc0;refine aa ?_;go_wp2_with(at_builtin;refine dc (o:=⟨some 29,_,_,_,_,_⟩) ax aH w3 (by rfl) (.tmp 26) (.tmp 28) (by rfl) w2.heap.size V [1,n,0] Ha.o va n vc vl Hs.o t.o.1 (by rfl) (by rfl) (by simp;omega) d.o.size ?_;intro V4 w4 ho4 hg4);go_meet
   case rel=>exact⟨by rw[Hr.o];exact ho4,d.o.grown hg4 d.o.size Ha.o.ge⟩
  |false=>
   have u:Hd (bn (w2.alloc (.cells #[.int .u8 0] 5)) w2.heap.size (.slice (some ⟨w2.heap.size,0,none⟩) 1 1) [0]):=gH 0 (by omega);have M:Hd (Below w2.heap.size w2 (w2.alloc (.cells #[.int .u8 0] 5))):=(Below.refl _ _).alloc (Nat.le_refl _) _;go_wp2_with(at_builtin;refine dc (o:=⟨some 32,_,_,_,_,_⟩) ax aH _ (by rfl) (.tmp 30) (.tmp 31) (by rfl) w2.heap.size _ [] (Own.nil _ _ _) _ 1 1 [0] u.o.reads (fun h=>by cases h) (by rfl) (by rfl) (by decide) M.o.size ?_;intro V w3 ho3 hg3);go_meet
   case rel=>exact⟨ho3,M.o.grown hg3 M.o.size fun k hk=>by cases hk⟩
 case rest=>
  obtain⟨A,y⟩:=hcut;generalize u5=V0 at*;have HM:Hd ((kg f vl).length<=131):=by
   show _<=_;unfold kg;cases f with
   |true=>have:=t.o.2 rfl;have:=HK.o;simp;omega
   |false=>simp
  have X:Hd (pS (prU wk f vl near 256)=kg f vl++(dm (fun h=>decide (near h≠ay wk h)) 256++(dt (fun h=>decide (near h≠ay wk h)) near 256).flatten)):=rfl;obtain⟨F,HF⟩:∃F:Nat->Bool,Hd (F=fun h=>decide (near h≠ay wk h)):=⟨_,rfl⟩;have Hb:Hd (∀h,F h=decide (near h≠ay wk h)):=fun h=>by rw[HF.o]
  have HP:Hd (∀h,(dm F h).length=32):=fun h=>cK F h;have HQ:Hd (∀h,h<=256->IsB (dm F h)):=fun h hh=>qY F hh;rw[<-HF.o]at X;obtain⟨R,HR⟩:∃R,Hd (pS (prU wk f vl near 256)=R):=⟨_,rfl⟩;rw[HR.o]at X;have Hc:=aQ HW y.o;have He:Hd (eU wc w.heap.size f (.slice va n vc) (.slice (some ⟨gn,0,none⟩) 256 cn)):=ab.below U.o y.o;obtain⟨K,Hf⟩:∃K,Hd (kg f vl=K):=⟨_,rfl⟩;rw[Hf.o]at A HM X;have Y:Hd (w.heap.size<w2.heap.size/\w2.heap.size<=wc.heap.size):=⟨U.o.lt,y.o.size⟩;clear hc0 HF Hf y U HK HX t;go_wp2_with((with_reducible refine atS 6 ?_);refine aC (by rfl) 33 rfl _ _ BW ?_;intro w5 Hg z Ht);have Hh:Hd (eU w5 w.heap.size f (.slice va n vc) (.slice (some ⟨gn,0,none⟩) 256 cn)):=ab.below He.o z.o;have Hi:=aa (A.o.below z.o);have HU:=aQ Hc z.o;have HV:Hd (ar w5 wc.heap.size 33 (dm F 0)):=Hg;have Hu:Hd (wc.heap.size<w5.heap.size):=HV.o.lt;have HA:Hd (∀B,V0.ownBlock=some B->w2.heap.size<=B/\B<wc.heap.size):=fun B hB=>A.o.lt B hB;clear He A Hg z Hc Ht;go_loopw[7](fun i wr=>∃h:Nat,h<=256/\i= .int .i64 h/\Hd (ar wr wc.heap.size 33 (dm F h))/\Hd (ae (fun B=>B=wc.heap.size) w5 wr))(fun i _=>256-(intOf i).toNat)
  case atStart=>exact⟨0,by omega,rfl,HV,ae.refl _ _⟩
  case round=>
   obtain⟨h,hh,rfl,H,L⟩:=hrel;have Z:Hd (Below w.heap.size w wr):=L.o.toBelow HU.o HU.o.size fun B e=>by have:=Y.o;omega
   have HC:Hd (eU wr w.heap.size f (.slice va n vc) (.slice (some ⟨gn,0,none⟩) 256 cn)):=L.o.blk Hh.o (by have:=Y.o;omega);by_cases hlt:h<256
   ·have hlt':(h:Int)<256:=by omega
    have hlt7:(h:Int)<257:=by omega
    obtain⟨D,N⟩:∃D,Hd (near h=D):=⟨_,rfl⟩;obtain⟨E,Q⟩:∃E,Hd (ay wk h=E):=⟨_,rfl⟩;have I:Hd (D.length=32/\IsB D):=by rw[<-N.o];exact HJ.o h hlt
    have T:Hd (E.length=32/\IsB E):=by rw[<-Q.o];exact⟨al _ _,bu _ _⟩
    have l:Hd (F h=decide (D≠E)):=by rw[<-N.o,<-Q.o];exact Hb.o h
    have hrd:wr.rangeAt gn (h*32) (bvs D):=by rw[<-N.o];exact(HN.o.below Z.o).2 h hlt
    have hre:wr.rangeAt g (h*32) (bvs E):=by rw[<-Q.o];exact(HE.o.below Z.o).2 h (by omega)
    have hsc:wr.cell? ⟨w.heap.size,2,none⟩=some (.slice (some ⟨gn,0,none⟩) 256 cn):=HC.o.cell 2;have hu:=bE;have hsz:(Tryz.prog.info? 34).map (·.size)=some (bvs D).length:=by rw[ag];simp[bvs,I.o.1]
    have hsz2:(Tryz.prog.info? 34).map (·.size)=some (bvs E).length:=by rw[ag];simp[bvs,T.o.1]
    obtain⟨qe,hqe⟩:∃qe:Bool,qe=decide (D=E):=⟨_,rfl⟩;have heq:∀w:World,(Op.equalIn 10000 34 (.agg (bvs D).toArray) (.agg (bvs E).toArray)).run Tryz.prog w= .ok qe w:=fun w=>by rw[hqe];exact fP w I.o.2 T.o.2 I.o.1 T.o.1
    have m:=aa hqe;clear hqe;go_upto_region 10with fail;go_cut[46]from 37to 58(fun v wx=>v= .bool (!qe)/\wx=wr.drew)
    case first=>
     refine wp_region_held_drew (S:=fun w'=>w'.rangeAt gn (h*32) (bvs D)/\w'.rangeAt g (h*32) (bvs E)/\w'.cell? ⟨w.heap.size,2,none⟩=some (.slice (some ⟨gn,0,none⟩) 256 cn)) (by kernel_rfl) ⟨hrd,hre,hsc⟩ fun hH=>?_;refine tka 0 ?_;refine tka 1 ?_;refine tka 2 ?_;refine tka 3 ?_;refine tkl 4 ?_;refine tka 5 ?_;refine tka 6 ?_;refine tka 7 ?_;refine tkl 8 ?_;refine tka 9 ?_;refine bN ?_;go_wp2_with fail;go_meet
     case rel=>exact⟨rfl,rfl⟩
    case rest=>
     obtain⟨rfl,rfl⟩:=hcut;replace H:Hd (ar wr.drew wc.heap.size 33 (dm F h)):=ab.drew H.o;replace L:Hd (ae (fun B=>B=wc.heap.size) w5 wr.drew):=L.o.drewN 1;clear HC Z hrd hre hsc heq hsz hsz2 hu;generalize wr.drew=wd at*;have Hv:=aa (HP.o h);have H9:=aa (HQ.o h (by omega));cases qe with
     |false=>
      have Hw:=aa (of_decide_eq_false m.o.symm);obtain⟨q,hq0⟩:∃q,h/8=q:=⟨_,rfl⟩;obtain⟨r,hr0⟩:∃r,h%8=r:=⟨_,rfl⟩;have hqI:(h:Int).tdiv 8=(q:Int):=by rw[Int.tdiv_eq_ediv_of_nonneg (by omega)];omega
      have hrI:(h:Int).tmod 8=(r:Int):=by rw[Int.tmod_eq_emod_of_nonneg (by omega)];omega
      have hq32:(q:Int)<32:=by omega
      have hr8:(r:Int)<8:=by omega
      obtain⟨x,hx⟩:∃x,(dm F h).getD q 0=x:=⟨_,rfl⟩;have hxr:x<2^r:=by
       rw[<-hx,mv F (by omega) (by omega),<-hq0,show min 8 (h-8*(h/8))=r by omega];exact kD _ _ _
      have O:Hd (dm F (h+1)=(dm F h).set q (x+2^r)):=by
       show _=_;rw[dm,if_pos,hq0,hr0,hx];rw[l.o];simpa using Hw.o
      have hor:=Db x r hxr (by omega);have hcx:wd.cell? ⟨wc.heap.size,q,none⟩=some (.int .u8 (x:Nat)):=by
       rw[<-hx];exact H.o.cell (by rw[Hv.o];omega)
      have hfx:wd.frozen? ⟨wc.heap.size,q,none⟩=false:=ab.frozen H.o q;clear hq0 hr0 hx hxr;go_wp2_with fail;go_roundw
      case rel=>
       have e:((x+2^r:Nat):Int)=(x:Int)+2^r:=by simp
       rw[<-e];exact⟨h+1,by omega,by go_num,by rw[O.o];exact ar.set H.o q (x+2^r),L.o.trans (ae.one (ai wd q _))⟩
      case measure=>simp[intOf];omega
     |true=>
      have O:Hd (dm F (h+1)=dm F h):=by
       show _=_;rw[dm,if_neg];rw[l.o];simp[of_decide_eq_true m.o.symm]
      go_wp2_with fail;go_roundw
      case rel=>exact⟨h+1,by omega,by go_num,by rw[O.o];exact H,L⟩
      case measure=>simp[intOf];omega
   ·have Hx:Hd (h=256):=by show _=_;omega
    have hnlt0:¬(h:Int)<256:=by omega
    rw[Hx.o]at H;have Hj:Hd (bn wr w2.heap.size V0 K):=L.o.own Hi.o fun B hB e=>by have:=HA.o B hB;omega
    have Hk:Hd (w2.heap.size<=wr.heap.size):=by have:=L.o.size;have:=Hu.o;have:=Y.o;show _<=_;omega
    have HH:=aa (HP.o 256);have Hl:=aa (HQ.o 256 (Nat.le_refl _));obtain⟨bs,Hm⟩:∃bs,Hd (dm F 256=bs):=⟨_,rfl⟩;rw[Hm.o]at H HH Hl X;clear L Hi HV HP HQ Hm Hh HU hh hlt;generalize wr=w6 at*;go_wp2_with fail;have Hy:Hd (eU w6 w.heap.size f (.slice va n vc) (.slice (some ⟨gn,0,none⟩) 256 cn)):=HC;have Hn:Hd (ae (fun B=>V0.ownBlock=some B) w6 w6):=ae.refl _ _;have P:Hd (∀W,ae (fun B=>V0.ownBlock=some B) w6 W->Below w.heap.size w W/\eU W w.heap.size f (.slice va n vc) (.slice (some ⟨gn,0,none⟩) 256 cn)/\ar W wc.heap.size 33 bs/\w2.heap.size<=W.heap.size):=fun W hW=>⟨hW.toBelow Z.o Z.o.size fun B e=>by have:=HA.o B e;have:=Y.o;omega,hW.blk Hy.o (fun e=>by have:=HA.o _ e;have:=Y.o;omega),hW.blk H.o (fun e=>by have:=HA.o _ e;omega),Nat.le_trans Hk.o hW.size⟩;have Ho:Hd (∀v W W' v',bn W w2.heap.size v K∨True->ae (fun B=>V0.ownBlock=some B) w6 W->(∀B,v.ownBlock=some B->V0.ownBlock=some B∨w6.heap.size<=B)->W.grownBy W' v.ownBlock->iT W v v'->ae (fun B=>V0.ownBlock=some B) w6 W'/\∀B,v'.ownBlock=some B->V0.ownBlock=some B∨w6.heap.size<=B):=fun v W W' v' _ h1 h2 h3 h4=>⟨h1.andThen (ae.grown h3) fun B hB e=>(h2 B e.symm).resolve_right (by omega),fun B hB=>by
      rcases h4 B hB with h|h
      ·exact h2 B h
      ·exact .inr (Nat.le_trans h1.size h)⟩;clear HC Z H Hk;go_loopw[5,8](fun v i wr=>∃k:Nat,k<=32/\i= .int .i64 k/\Hd (bn wr w2.heap.size v (K++bs.take k))/\Hd (ae (fun B=>V0.ownBlock=some B) w6 wr)/\Hd (∀B,v.ownBlock=some B->V0.ownBlock=some B∨w6.heap.size<=B))(fun _ i _=>32-(intOf i).toNat)
    case atStart=>exact⟨0,by omega,rfl,by rw[List.take_zero,List.append_nil];exact Hj.o,Hn,fun B h=> .inl h⟩
    case round=>
     clear Hj Hn;obtain⟨k,hk,rfl,A,C,J⟩:=hrel;by_cases hlt:k<32
     ·have hlt':(k:Int)<32:=by omega
      have hk32:k<bs.length:=by rw[HH.o];exact hlt
      have hc:wr.cell? ⟨wc.heap.size,k,none⟩=some (.int .u8 (bs.getD k 0:Nat)):=(P.o wr C.o).2.2.1.cell hk32;have hx8:bs.getD k 0<256:=Hl.o _ (bL hk32);have HY:Hd (K++bs.take (k+1)=K++bs.take k++[bs.getD k 0]):=by show _=_;rw[aJ hk32,List.append_assoc]
      have hln:(K++bs.take k).length+1<=140737488355328:=by rw[List.length_append,List.length_take];have:=HM.o;omega
      clear hk32;generalize bs.getD k 0=b at*;go_wp2_with(at_builtin;refine re (o:=⟨some 68,_,_,_,_,_⟩) ax aH wr rfl (.tmp 63) (.tmp 67) rfl w2.heap.size _ _ A.o b hx8 rfl rfl hln (P.o wr C.o).2.2.2 ?_;intro v' w1 hown1 hgrow1 hlies1);have p:=aa (Ho.o _ _ _ _ (.inr trivial) C.o J.o hgrow1 hlies1);clear hgrow1 hlies1;go_roundw
      case rel=>exact⟨k+1,by omega,by go_num,by rw[HY.o];exact hown1,p.o.1,p.o.2⟩
      case measure=>simp[intOf];omega
     ·have hnlt:¬(k:Int)<32:=by omega
      have s:Hd (bs.take k=bs):=List.take_of_length_le (by rw[HH.o];omega);rw[s.o]at A;clear hlt s;obtain⟨h2,HI⟩:∃h2,Hd (K++bs=h2):=⟨_,rfl⟩;have Hz:Hd (h2.length<=200):=by show _<=_;rw[<-HI.o,List.length_append,HH.o];have:=HM.o;omega
      rw[HI.o]at A;obtain⟨G,a⟩:∃G:Nat->List Nat,Hd (G=fun h=>(dt F near h).flatten):=⟨_,rfl⟩;have H2:Hd (G 0=[]):=by rw[a.o];rfl
      have H3:Hd (∀h,F h=true->G (h+1)=G h++near h):=fun h hf=>by rw[a.o];show(dt F near (h+1)).flatten=_;rw[dt,if_pos hf,List.flatten_append];simp
      have H4:Hd (∀h,F h=false->G (h+1)=G h):=fun h hf=>by rw[a.o];show(dt F near (h+1)).flatten=_;rw[dt,if_neg (by rw[hf];decide)]
      have H5:Hd (R=h2++G 256):=by rw[X.o,<-List.append_assoc,HI.o,a.o];rfl
      have H6:Hd (∀h,h<=256->(G h).length<=h*32):=fun h hh=>by
       rw[a.o];exact DA F hh fun j hj=>(HJ.o j hj).1
      clear a X HI;go_wp2_with fail;go_loopw[5,9,10](fun v j _ wr=>∃h:Nat,h<=256/\j= .int .i64 h/\Hd (bn wr w2.heap.size v (h2++G h))/\Hd (ae (fun B=>V0.ownBlock=some B) w6 wr)/\Hd (∀B,v.ownBlock=some B->V0.ownBlock=some B∨w6.heap.size<=B))(fun _ j _ _=>256-(intOf j).toNat)
      case atStart=>exact⟨0,by omega,rfl,by rw[H2.o,List.append_nil];exact A.o,C,J⟩
      case round=>
       clear A C J;obtain⟨h,hh,rfl,A,C,J⟩:=hrel;by_cases hlt:h<256
       ·have hlt':(h:Int)<256:=by omega
        have hlt7:(h:Int)<257:=by omega
        obtain⟨D,N⟩:∃D,Hd (near h=D):=⟨_,rfl⟩;obtain⟨E,Q⟩:∃E,Hd (ay wk h=E):=⟨_,rfl⟩;have I:Hd (D.length=32/\IsB D):=by rw[<-N.o];exact HJ.o h hlt
        have T:Hd (E.length=32/\IsB E):=by rw[<-Q.o];exact⟨al _ _,bu _ _⟩
        have l:Hd (F h=decide (D≠E)):=by rw[<-N.o,<-Q.o];exact Hb.o h
        have Hp:Hd (∀W,ae (fun B=>V0.ownBlock=some B) w6 W->W.rangeAt gn (h*32) (bvs D)):=fun W hW=>by rw[<-N.o];exact(HN.o.below (P.o W hW).1).2 h hlt
        have hrd:=Hp.o wr C.o;have hre:wr.rangeAt g (h*32) (bvs E):=by rw[<-Q.o];exact(HE.o.below (P.o wr C.o).1).2 h (by omega)
        have hsc:wr.cell? ⟨w.heap.size,2,none⟩=some (.slice (some ⟨gn,0,none⟩) 256 cn):=(P.o wr C.o).2.1.cell 2;have hu:=bE;have hsz:(Tryz.prog.info? 34).map (·.size)=some (bvs D).length:=by rw[ag];simp[bvs,I.o.1]
        have hsz2:(Tryz.prog.info? 34).map (·.size)=some (bvs E).length:=by rw[ag];simp[bvs,T.o.1]
        obtain⟨qe,hqe⟩:∃qe:Bool,qe=decide (D=E):=⟨_,rfl⟩;have heq:∀w:World,(Op.equalIn 10000 34 (.agg (bvs D).toArray) (.agg (bvs E).toArray)).run Tryz.prog w= .ok qe w:=fun w=>by rw[hqe];exact fP w I.o.2 T.o.2 I.o.1 T.o.1
        have m:=aa hqe;clear hqe;go_upto_region 19with fail;go_cut[82]from 73to 96(fun v wx=>v= .bool (!qe)/\wx=wr.drew)
        case first=>
         refine wp_region_held_drew (S:=fun w'=>w'.rangeAt gn (h*32) (bvs D)/\w'.rangeAt g (h*32) (bvs E)/\w'.cell? ⟨w.heap.size,2,none⟩=some (.slice (some ⟨gn,0,none⟩) 256 cn)) (by kernel_rfl) ⟨hrd,hre,hsc⟩ fun hH=>?_;refine tka 0 ?_;refine tka 1 ?_;refine tka 2 ?_;refine tka 3 ?_;refine tkl 4 ?_;refine tka 5 ?_;refine tka 6 ?_;refine tka 7 ?_;refine tkl 8 ?_;refine tka 9 ?_;refine bN ?_;go_wp2_with fail;go_meet
         case rel=>exact⟨rfl,rfl⟩
        case rest=>
         obtain⟨rfl,rfl⟩:=hcut;replace A:=aa (A.o.below (af (Below.refl _ _) 1):bn wr.drew w2.heap.size _ _);replace C:Hd (ae (fun B=>V0.ownBlock=some B) w6 wr.drew):=C.o.drewN 1;clear hrd hre hsc heq hsz hsz2 hu;generalize wr.drew=wd at*;cases qe with
         |true=>
          have O:Hd (G (h+1)=G h):=H4.o h (by rw[l.o];simp[of_decide_eq_true m.o.symm]);go_wp2_with fail;go_roundw
          case rel=>exact⟨h+1,by omega,by go_num,by rw[O.o];exact A,C,J⟩
          case measure=>simp[intOf];omega
         |false=>
          have O:Hd (G (h+1)=G h++D):=by rw[<-N.o];exact H3.o h (by rw[l.o];simp[of_decide_eq_false m.o.symm])
          have Hq:Hd ((h2++G h).length<=10000):=by show _<=_;rw[List.length_append];have:=H6.o h (by omega);have:=Hz.o;omega
          obtain⟨h3,HZ⟩:∃h3,Hd (h2++G h=h3):=⟨_,rfl⟩;have H7:Hd (h2++G (h+1)=h3++D):=by rw[O.o,<-List.append_assoc,HZ.o];rfl
          rw[HZ.o]at A Hq;clear HZ O;simp only[Bool.not_false];go_wp2_with fail;go_loopw[5,10](fun v i wr=>∃k:Nat,k<=32/\i= .int .i64 k/\Hd (bn wr w2.heap.size v (h3++D.take k))/\Hd (ae (fun B=>V0.ownBlock=some B) w6 wr)/\Hd (∀B,v.ownBlock=some B->V0.ownBlock=some B∨w6.heap.size<=B))(fun _ i _=>32-(intOf i).toNat)
          case atStart=>exact⟨0,by omega,rfl,by rw[List.take_zero,List.append_nil];exact A,C,J⟩
          case round=>
           clear A C J;obtain⟨k,hk,rfl,A,C,J⟩:=hrel;by_cases hlt3:k<32
           ·have hlt3':(k:Int)<32:=by omega
            have hk32:k<D.length:=by rw[I.o.1];exact hlt3
            have hsc:wr.cell? ⟨w.heap.size,2,none⟩=some (.slice (some ⟨gn,0,none⟩) 256 cn):=(P.o wr C.o).2.1.cell 2;have hc:wr.cell? ⟨gn,h*32+k,none⟩=some (.int .u8 (D.getD k 0:Nat)):=Hp.o wr C.o k _ (by rw[bvs,List.getElem?_map,bK hk32];rfl);have hx8:D.getD k 0<256:=I.o.2 _ (bL hk32);have HY:Hd (h3++D.take (k+1)=h3++D.take k++[D.getD k 0]):=by show _=_;rw[aJ hk32,List.append_assoc]
            have hln:(h3++D.take k).length+1<=140737488355328:=by rw[List.length_append,List.length_take];have:=Hq.o;omega
            clear hk32;generalize D.getD k 0=b at*;go_wp2_with(at_builtin;refine re (o:=⟨some 96,_,_,_,_,_⟩) ax aH wr rfl (.tmp 87) (.tmp 95) rfl w2.heap.size _ _ A.o b hx8 rfl rfl hln (P.o wr C.o).2.2.2 ?_;intro v' w1 hown1 hgrow1 hlies1);have p:=aa (Ho.o _ _ _ _ (.inr trivial) C.o J.o hgrow1 hlies1);clear hgrow1 hlies1;go_roundw
            case rel=>exact⟨k+1,by omega,by go_num,by rw[HY.o];exact hown1,p.o.1,p.o.2⟩
            case measure=>simp[intOf];omega
           ·have hnlt3:¬(k:Int)<32:=by omega
            have s:Hd (h3++D.take k=h2++G (h+1)):=by rw[H7.o,List.take_of_length_le (by rw[I.o.1];omega)];rfl
            rw[s.o]at A;clear hlt3 s;go_wp2_with fail;go_roundw
            case rel=>exact⟨h+1,by omega,by go_num,A,C,J⟩
            case measure=>simp[intOf];omega
       ·have H8:Hd (h=256):=by show _=_;omega
        have hnlt2:¬(h:Int)<256:=by omega
        rw[H8.o,<-H5.o]at A;go_wp2_with fail;go_ret;exact⟨⟨_,rfl,by rw[HR.o];exact A.o.mono (by have:=Y.o;omega)⟩,(P.o _ C.o).1⟩
end Go.Proofs.YtfnlhfaihoojfaaGreatDoor
