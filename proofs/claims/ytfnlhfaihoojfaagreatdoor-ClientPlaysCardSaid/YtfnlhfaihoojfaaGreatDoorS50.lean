/- Texts of the proof of ledgerlaw13.ClientPlays, part 50; no condition of its own. -/
import Derived.Test.YtfnlhfaihoojfaaGreatDoorS49
set_option maxRecDepth 100000
set_option maxHeartbeats 4000000
namespace Go.Proofs.YtfnlhfaihoojfaaGreatDoor
open Go.RowKit
theorem qA(gb base N:Nat)(S:Nat->Prop)(o:OpV)(xs ys:List Nat)(Ao Bo:Option Addr)(ao bo:Nat)(n m:Nat)(Pd Pe:Option Addr)(cd ce:Nat)(X:Nat->Chg)(YS:Nat->List Nat)(w:World)(h:xq w gb base N S o xs ys Ao ao Bo bo)(ha:lm w o n m Pd Pe cd ce X YS):Calls Tryz.prog 4 #[.pointer (some ⟨gb,0,none⟩), .agg o.cs.toArray] w (lk gb base (N+9) S w):=by
 by_cases hkd:o.kd=6
 ·have A:=aa h;have E:=aa ha;have F:=aa hkd;clear h ha hkd;go_enter Tryz.func4,Tryz.ntmps4;go_upto_region 1with fail;refine bh (G:=fun w2=>Code.wp _ _ _ _ w2) fun w1 C B I=>?_;have D:Hd (bp w1 w.heap.size o):=C;clear C;have q0:=D.o.kd;rw[F.o]at q0;go_wp2_with((with_reducible refine atS 16 ?_);refine aj (by rfl) 42 (.tmp 3) rfl w.heap.size 0 o.cs rfl D.o.all ic (by rw[fe,OpV.len A.o.ok]) ?_;(try simp only[Act.put,LS]));refine(Et o n m Pd Pe cd ce X YS w1 (E.o.below B.o) (A.o.ht.now.1.below B.o) (A.o.ht.now.2.below B.o)).mono ?_;rintro e w2⟨rfl,hb2⟩;have H:=aQ B hb2;clear hb2 q0;go_wp2_with fail;go_ret;exact⟨rfl,k9.none (A.o.bk.mono (by omega)) H.o⟩
 ·exact vw gb base N S o xs ys Ao Bo ao bo w h hkd
section
variable{w:World}{gb base n n2:Nat}{S:Nat->Prop}{v:Nat->Value}{xl yl:List Value}{ms ns:List Nat}
theorem aO.at1{e:TypeId}{A:Option Addr}{n c:Nat}{xs:List Value}(h:aO w e 1 (.slice A n c) n xs){i:Nat}(hi:i<n):∃g f,A=some ⟨g,f,none⟩/\w.cell? ⟨g,f+i,none⟩=xs[i]?:=by
 obtain⟨g,f,rfl,_⟩:=h.drop (k:=0) (by omega) (by omega);have hl:i<xs.length:=by have:=h.1;omega
 refine⟨g,f,rfl,?_⟩;have h1:=h.cells i xs[i] (List.getElem?_eq_getElem hl);rw[add_lit]at h1;rw[h1,List.getElem?_eq_getElem hl]
theorem BkI.atL(h:BkI w gb base S n n2 v xl ms yl ns){A0 A1:Option Addr}{c0 c1 i:Nat}(e0:v 0= .slice A0 xl.length c0)(e1:v 1= .slice A1 xl.length c1)(hi:i<xl.length):∃g f g2 f2 Au m c a,A0=some ⟨g,f,none⟩/\A1=some ⟨g2,f2,none⟩/\w.cell? ⟨g,f+i,none⟩=some (.slice Au m c)/\w.cell? ⟨g2,f2+i,none⟩=some (.int .i64 (a:Nat))/\a<n/\m<=140737488355328/\∀j,j<m->∃gu,Au=some ⟨gu,0,none⟩/\w.cell? ⟨gu,j,none⟩=some (.int .u8 (mkN a j:Nat)):=by
 have r0:aO w 36 1 (v 0) xl.length xl:=h.heads.row 0 (by omega);have r1:aO w 3 1 (v 1) ms.length (ms.map inV):=h.heads.row 1 (by omega);rw[e0]at r0;rw[e1,h.lenL]at r1;obtain⟨g,f,ea,k0⟩:=r0.at1 hi;obtain⟨g2,f2,ea2,k1⟩:=r1.at1 hi;have hi2:i<ms.length:=by rw[h.lenL];exact hi
 rw[List.getElem?_eq_getElem hi]at k0;rw[List.getElem?_map,List.getElem?_eq_getElem hi2,Option.map_some]at k1;obtain⟨ha,m,hm,hrow⟩:=h.fulL i xl[i] ms[i] (List.getElem?_eq_getElem hi) (List.getElem?_eq_getElem hi2);obtain⟨Au,c,eu,_⟩:=aP hrow;refine⟨g,f,g2,f2,Au,m,c,ms[i],ea,ea2,by rw[k0,eu],k1,ha,hm,fun j hj=>?_⟩;rcases hrow.2with⟨_,h0⟩|⟨gu,cap,cur,e,_⟩
 ·omega
 ·rw[eu]at e;injection e with e _ _;refine⟨gu,e,?_⟩;rw[eu,e]at hrow;have h2:=hrow.cells (g:=gu) rfl j (Pb ms[i] j) (by rw[jW,if_pos (by omega)]);rw[add_lit,Nat.zero_add]at h2;exact h2
end
theorem uR(gb base N:Nat)(S:Nat->Prop)(w:World)(hb:Bk w gb base N S)(hN:N<=2305843009213693952):Calls Tryz.prog 8 #[.pointer (some ⟨gb,0,none⟩)] w fun e w'=>e= .returned (.bool true)/\∃q,w'=w.drewN q:=by
 obtain⟨n,n2,v,xl,ms,yl,ns,hnN,hnN2,hb⟩:=hb;obtain⟨A0,c0,e0,_⟩:=(hb.heads.row 0 (by omega)).form;obtain⟨A1,c1,e1,_⟩:=(hb.heads.row 1 (by omega)).form;rw[show kB xl ms yl ns 0=xl.length from rfl]at e0;rw[show kB xl ms yl ns 1=xl.length from hb.lenL]at e1;have C:=aa (fun(i:Nat)(hi:i<xl.length)=>hb.atL e0 e1 hi);have hat:=hb.heads.at_.1;rw[e0,e1]at hat;have A:Hd (∀q,(w.drewN q).cell? ⟨gb,1,none⟩=some (.slice A0 xl.length c0)/\(w.drewN q).cell? ⟨gb,2,none⟩=some (.slice A1 xl.length c1)):=fun q=>⟨hat.2.1,hat.2.2.1⟩;have hk6:xl.length<=600:=hb.maxL;have hn63:n<=2305843009213693952:=by omega
 clear hb e0 e1 hat hnN hnN2;obtain⟨k0,hk0⟩:∃k0,xl.length=k0:=⟨_,rfl⟩;rw[hk0]at C A hk6;clear hk0;go_enter Tryz.func8,Tryz.ntmps8;go_wp2_with fail;go_loopw[3](fun i wr=>∃k q:Nat,k<=k0/\i= .int .i64 k/\wr=w.drewN q)(fun i _=>k0-(intOf i).toNat)
 case atStart=>exact⟨0,0,by omega,rfl,rfl⟩
 case round=>
  obtain⟨k,q,hk,rfl,rfl⟩:=hrel;have⟨cA,cB⟩:=A.o q;by_cases hlt:k<k0
  ·have hlt':(k:Int)<k0:=by omega
   obtain⟨g,f,g2,f2,Au,m,c,a,rfl,rfl,r0,r1,ha,hm,hr⟩:=C.o k hlt;have hm':(m:Int)<=140737488355328:=by omega
   have B:Hd (∀q,(w.drewN q).cell? ⟨g,f+k,none⟩=some (.slice Au m c)/\(w.drewN q).cell? ⟨g2,f2+k,none⟩=some (.int .i64 (a:Nat))):=fun q=>⟨r0,r1⟩;have G:=aa hr;obtain⟨w1,hw1⟩:∃w1,w1=w.drewN q:=⟨_,rfl⟩;have D:=aa hw1;rw[<-hw1]at cA cB⊢;clear hw1 hr r0 r1;go_wp2_with fail;go_loopw[4](fun i wr=>∃j p:Nat,j<=m/\i= .int .i64 j/\wr=w.drewN p)(fun i _=>m-(intOf i).toNat)
   case atStart=>exact⟨0,q,by omega,rfl,D.o⟩
   case round=>
    clear D cA cB;obtain⟨j,p,hj,rfl,rfl⟩:=hrel;have⟨cA,cB⟩:=A.o p;have⟨cC,cD⟩:=B.o p;by_cases hlj:j<m
    ·have hlj':(j:Int)<m:=by omega
     obtain⟨gu,rfl,hc⟩:=G.o j hlj;have E:Hd (∀q,(w.drewN q).cell? ⟨gb,1,none⟩=some (.slice (some ⟨g,f,none⟩) k0 c0)/\(w.drewN q).cell? ⟨gb,2,none⟩=some (.slice (some ⟨g2,f2,none⟩) k0 c1)/\(w.drewN q).cell? ⟨g,f+k,none⟩=some (.slice (some ⟨gu,0,none⟩) m c)/\(w.drewN q).cell? ⟨g2,f2+k,none⟩=some (.int .i64 (a:Nat))/\(w.drewN q).cell? ⟨gu,j,none⟩=some (.int .u8 (mkN a j:Nat))):=fun q=>⟨(A.o q).1,(A.o q).2,(B.o q).1,(B.o q).2,hc⟩;have H:=aa (ku a j (w.drewN (p+1)) (by omega) (by omega));clear hc;generalize mkN a j=z at*;go_wp2_with fail;rename_i KK hKK;have F:=aa hKK;clear hKK cA cB cC cD;refine wp_region_held_drew (S:=fun w'=>w'.cell? ⟨gb,1,none⟩=some (.slice (some ⟨g,f,none⟩) k0 c0)/\w'.cell? ⟨gb,2,none⟩=some (.slice (some ⟨g2,f2,none⟩) k0 c1)/\w'.cell? ⟨g,f+k,none⟩=some (.slice (some ⟨gu,0,none⟩) m c)/\w'.cell? ⟨g2,f2+k,none⟩=some (.int .i64 (a:Nat))/\w'.cell? ⟨gu,j,none⟩=some (.int .u8 (z:Nat))) (by kernel_rfl) (E.o (p+1)) fun hH=>?_;refine tka 0 ?_;refine tka 1 ?_;refine tka 2 ?_;refine tka 3 ?_;refine tka 4 ?_;refine tka 5 ?_;refine tka 6 ?_;refine tka 7 ?_;refine tka 8 ?_;refine tka 9 ?_;refine tka 10 ?_;refine tka 11 ?_;refine tka 12 ?_;refine tka 13 ?_;refine tka 14 ?_;refine tka 15 ?_;refine tka 16 ?_;refine tka 17 ?_;refine rdy 18 fun K hK=>?_;go_simp;refine H.o.mono ?_;rintro e w2⟨rfl,rfl⟩;refine hK.out _ _ (E.o (p+1)) (fun hH2=>?_);clear hK hH;refine tka 19 ?_;refine bN ?_;change KK _ _;refine F.o _ _ ?_;clear F KK hH2;go_wp2_with fail;go_roundw
     case rel=>exact⟨j+1,p+1,by omega,by go_num,rfl⟩
     case measure=>simp[intOf];omega
    ·have hnlj:¬(j:Int)<m:=by omega
     go_wp2_with fail;go_roundw
     case rel=>exact⟨k+1,p,by omega,by go_num,rfl⟩
     case measure=>simp[intOf];omega
  ·have hnlt:¬(k:Int)<k0:=by omega
   go_wp2_with fail;go_ret;exact⟨rfl,q,rfl⟩
section
variable{w:World}{gb base n n2:Nat}{S:Nat->Prop}{v:Nat->Value}{xl yl:List Value}{ms ns:List Nat}
theorem pP{ns:List Nat}{i t:Nat}(hi:i<ns.length)(ht:t<32):(ns.map fun a=>bvs (eX a)).flatten[i*32+t]?=(bvs (eX ns[i]))[t]?:=by
 induction ns generalizing i with
 |nil=>simp at hi
 |cons a r ih=>
  have hl:(bvs (eX a)).length=32:=by simp[bvs,dM]
  rw[List.map_cons,List.flatten_cons];cases i with
  |zero=>rw[List.getElem?_append_left (by omega),Nat.zero_mul,Nat.zero_add];rfl
  |succ i=>
   rw[List.getElem?_append_right (by omega),hl,show(i+1)*32+t-32=i*32+t by omega,ih (by simp at hi;omega)];rfl
theorem yP{a j m:Nat}(hj:j<m){t:Nat}(ht:t<32):(pat (Pd a) (m*32))[j*32+t]?=(bvs (eX a))[t]?:=by
 rw[jW,if_pos (by omega),<-rU a j,ml,if_pos ht]
theorem BkI.atK(h:BkI w gb base S n n2 v xl ms yl ns){A0 A1:Option Addr}{c0 c1 i:Nat}(e0:v 2= .slice A0 yl.length c0)(e1:v 3= .slice A1 yl.length c1)(hi:i<yl.length):∃g f g2 f2 Au m c a,A0=some ⟨g,f,none⟩/\A1=some ⟨g2,f2,none⟩/\w.cell? ⟨g,f+i,none⟩=some (.slice Au m c)/\w.rangeAt g2 (f2+i*32) (bvs (eX a))/\m<=1073741824/\∀j,j<m->∃gu,Au=some ⟨gu,0,none⟩/\w.rangeAt gu (j*32) (bvs (eX a)):=by
 have r0:aO w 27 1 (v 2) yl.length yl:=h.heads.row 2 (by omega);have r1:aO w 34 32 (v 3) ns.length (ns.map fun a=>bvs (eX a)).flatten:=h.heads.row 3 (by omega);rw[e0]at r0;rw[e1,h.lenK]at r1;obtain⟨g,f,ea,k0⟩:=r0.at1 hi;obtain⟨g2,f2,ea2,_⟩:=r1.drop (k:=0) (by omega) (by omega);have hi2:i<ns.length:=by rw[h.lenK];exact hi
 rw[List.getElem?_eq_getElem hi]at k0;obtain⟨m,hm,hrow⟩:=h.fulK i yl[i] ns[i] (List.getElem?_eq_getElem hi) (List.getElem?_eq_getElem hi2);obtain⟨Au,c,eu,_⟩:=aP hrow;have lt32:∀{t:Nat}{u:Value}{a:Nat},(bvs (eX a))[t]?=some u->t<32:=fun{t u a}hu=>by
  have:=(List.getElem?_eq_some_iff.1 hu).1;simpa[bvs,dM]using this
 refine⟨g,f,g2,f2,Au,m,c,ns[i],ea,ea2,by rw[k0,eu],fun t u hu=>?_,hm,fun j hj=>?_⟩
 ·rw[ea2]at r1;have h1:=r1.cells (i*32+t) u (by rw[pP hi2 (lt32 hu)];exact hu);rw[add_lit,<-Nat.add_assoc]at h1;exact h1
 ·rcases hrow.2with⟨_,h0⟩|⟨gu,cap,cur,e,_⟩
  ·omega
  ·rw[eu]at e;injection e with e _ _;refine⟨gu,e,fun t u hu=>?_⟩;rw[eu,e]at hrow;have h2:=hrow.cells (g:=gu) rfl (j*32+t) u (by rw[yP hj (lt32 hu)];exact hu);rw[add_lit,Nat.zero_add]at h2;exact h2
end
theorem sy(gb base N:Nat)(S:Nat->Prop)(w:World)(hb:Bk w gb base N S):Calls Tryz.prog 9 #[.pointer (some ⟨gb,3,none⟩)] w fun e w'=>e= .returned (.bool true)/\∃q,w'=w.drewN q:=by
 obtain⟨n,n2,v,xl,ms,yl,ns,hnN,hnN2,hb⟩:=hb;obtain⟨A0,c0,e0,_⟩:=(hb.heads.row 2 (by omega)).form;obtain⟨A1,c1,e1,_⟩:=(hb.heads.row 3 (by omega)).form;rw[show kB xl ms yl ns 2=yl.length from rfl]at e0;rw[show kB xl ms yl ns 3=yl.length from hb.lenK]at e1;have D:=aa (fun(i:Nat)(hi:i<yl.length)=>hb.atK e0 e1 hi);have hat:=hb.heads.at_.1;rw[e0,e1]at hat;have A:Hd (∀q,(w.drewN q).cell? ⟨gb,4,none⟩=some (.slice A0 yl.length c0)/\(w.drewN q).cell? ⟨gb,5,none⟩=some (.slice A1 yl.length c1)):=fun q=>⟨hat.2.2.2.2.1,hat.2.2.2.2.2⟩;have hk6:yl.length<=200:=hb.maxK;clear hb e0 e1 hat hnN hnN2;obtain⟨k0,hk0⟩:∃k0,yl.length=k0:=⟨_,rfl⟩;rw[hk0]at D A hk6;clear hk0;go_enter Tryz.func9,Tryz.ntmps9;go_wp2_with fail;go_loopw[3](fun i wr=>∃k q:Nat,k<=k0/\i= .int .i64 k/\wr=w.drewN q)(fun i _=>k0-(intOf i).toNat)
 case atStart=>exact⟨0,0,by omega,rfl,rfl⟩
 case round=>
  obtain⟨k,q,hk,rfl,rfl⟩:=hrel;have⟨cA,cB⟩:=A.o q;by_cases hlt:k<k0
  ·have hlt':(k:Int)<k0:=by omega
   obtain⟨g,f,g2,f2,Au,m,c,a,rfl,rfl,r0,r1,hm,hr⟩:=D.o k hlt;have hm':(m:Int)<=1073741824:=by omega
   have C:Hd (∀q,(w.drewN q).cell? ⟨g,f+k,none⟩=some (.slice Au m c)/\(w.drewN q).rangeAt g2 (f2+k*32) (bvs (eX a))):=fun q=>⟨r0,r1⟩;have E:=aa hr;obtain⟨M,hM⟩:∃M,eX a=M:=⟨_,rfl⟩;have B:Hd (M.length=32/\IsB M):=by rw[<-hM];exact⟨dM a,tS a⟩
   rw[hM]at C E;obtain⟨w1,hw1⟩:∃w1,w1=w.drewN q:=⟨_,rfl⟩;have F:=aa hw1;rw[<-hw1]at cA cB⊢;clear hw1 hr r0 r1 hM;go_wp2_with fail;go_loopw[4](fun i wr=>∃j p:Nat,j<=m/\i= .int .i64 j/\wr=w.drewN p)(fun i _=>m-(intOf i).toNat)
   case atStart=>exact⟨0,q,by omega,rfl,F.o⟩
   case round=>
    clear F cA cB;obtain⟨j,p,hj,rfl,rfl⟩:=hrel;have⟨cA,cB⟩:=A.o p;have cC:=(C.o p).1;by_cases hlj:j<m
    ·have hlj':(j:Int)<m:=by omega
     obtain⟨gu,rfl,hc⟩:=E.o j hlj;have H:Hd (∀q,(w.drewN q).cell? ⟨gb,4,none⟩=some (.slice (some ⟨g,f,none⟩) k0 c0)/\(w.drewN q).cell? ⟨gb,5,none⟩=some (.slice (some ⟨g2,f2,none⟩) k0 c1)/\(w.drewN q).cell? ⟨g,f+k,none⟩=some (.slice (some ⟨gu,0,none⟩) m c)/\(w.drewN q).rangeAt g2 (f2+k*32) (bvs M)/\(w.drewN q).rangeAt gu (j*32) (bvs M)):=fun q=>⟨(A.o q).1,(A.o q).2,(C.o q).1,(C.o q).2,hc⟩;clear hc;go_wp2_with fail;rename_i KK hKK;have G:=aa hKK;clear hKK cA cB cC;have heq:∀w:World,(Op.equalIn 10000 34 (.agg (bvs M).toArray) (.agg (bvs M).toArray)).run Tryz.prog w= .ok true w:=fun w=>by
      have h:=fP w B.o.2 B.o.2 B.o.1 B.o.1;rwa[decide_eq_true rfl]at h
     have hdu:=bE;have hds:(Tryz.prog.info? 34).map (·.size)=some (bvs M).length:=by rw[ag];simp[bvs,B.o.1]
     refine wp_region_held_drew (S:=fun w'=>w'.cell? ⟨gb,4,none⟩=some (.slice (some ⟨g,f,none⟩) k0 c0)/\w'.cell? ⟨gb,5,none⟩=some (.slice (some ⟨g2,f2,none⟩) k0 c1)/\w'.cell? ⟨g,f+k,none⟩=some (.slice (some ⟨gu,0,none⟩) m c)/\w'.rangeAt g2 (f2+k*32) (bvs M)/\w'.rangeAt gu (j*32) (bvs M)) (by kernel_rfl) (H.o (p+1)) fun hH=>?_;refine tka 0 ?_;refine tka 1 ?_;refine tka 2 ?_;refine tka 3 ?_;refine tka 4 ?_;refine tka 5 ?_;refine tka 6 ?_;refine tka 7 ?_;refine tka 8 ?_;refine tkl 9 ?_;refine tka 10 ?_;refine tka 11 ?_;refine tka 12 ?_;refine tka 13 ?_;refine tka 14 ?_;refine tka 15 ?_;refine tkl 16 ?_;refine tka 17 ?_;refine bN ?_;change KK _ _;refine G.o _ _ ?_;clear G KK hH heq hdu hds;go_wp2_with fail;go_roundw
     case rel=>exact⟨j+1,p+1,by omega,by go_num,rfl⟩
     case measure=>simp[intOf];omega
    ·have hnlj:¬(j:Int)<m:=by omega
     go_wp2_with fail;go_roundw
     case rel=>exact⟨k+1,p,by omega,by go_num,rfl⟩
     case measure=>simp[intOf];omega
  ·have hnlt:¬(k:Int)<k0:=by omega
   go_wp2_with fail;go_ret;exact⟨rfl,q,rfl⟩
theorem BL(n:Nat):madeCells #[(.int .u8 0:Value)] n=gZ n:=by
 apply Array.ext
 ·simp[madeCells,gZ,bvs,zs]
 ·intro i h1 h2;simp[madeCells,gZ,bvs,bv,zs,Nat.mod_one]
theorem vP(n:Nat)(hn:n<=281474976710656):∃cs:Array Value,Hd (cs=gZ n)/\∀w:World,(Instr.makeSlice 36 (.int .i64 (n:Int)) (.int .i64 (n:Int))).run Tryz.prog w= .ok (.slice (some ⟨w.heap.size,0,none⟩) n n) (w.alloc (.cells cs 5)):=⟨_,BL n,fun w=>run_make_row' (P:=Tryz.prog) 36 5 (.int .u8 0) 1 ax aH rfl .i64 .i64 n (by omega) (by omega) w⟩
theorem rf{P:Program}{ops:Array Oper}{S:World->Prop}{o:Oper}{a:Act}(hw:Region.wanted o (yielded ops a.tmps)=true)(t:TypeId)(parts:Array (Nat×Operand))(ho:o.op= .build t parts)(vs:List (Nat×Value))(hv:(parts.map fun(i,x)=>(i,a.eval x)).toList=vs)(cells:Array Value)(hb:P.built t vs=some cells):YieldsIf P ops S o (.agg cells) a:= .inl ⟨hw,fun w _=>by
  subst hv;unfold execOp;simp only[ho,Sem.run_bind,run_build w t _ cells hb,Result.andThen_ok,Sem.run_pure]⟩
def pW:Pr:=⟨false,[],zs 32,[]⟩
theorem ka:dF (zs 33)=some pW:=by kernel_rfl
theorem xW(h:Nat):gM (zs 32) h=false:=by
 unfold gM;have:(zs 32).getD (h/8) 0=0:=by
  rcases Nat.lt_or_ge (h/8) (zs 32).length with h1|h1
  ·exact xb 32 _ (bL h1)
  ·simp[List.getD,List.getElem?_eq_none h1]
 rw[this];simp
theorem ow(w:Int)(h:Nat):av w pW h=ay w h:=by
 unfold av;rw[if_neg (by show¬gM (zs 32) h=true;rw[xW];decide)]
theorem vW(w:Int)(n:Nat):bM w pW n=0:=B8 fun j _=>by
 unfold nz;rw[if_neg (by show¬gM (zs 32) j=true;rw[xW];decide)]
theorem vC(w:Int)(k:List Nat)(h:Nat):bT w k pW h=ay w h:=by
 induction h with
 |zero=>rfl
 |succ h ih=>
  have e:bT w k pW (h+1)=aZ w (upT w k h (bT w k pW h) (av w pW h)):=rfl;rw[e,ih,ow];unfold upT aI;split<;>rfl
theorem zk{w:Int}(h1:1<=w)(h2:w<=32)(r k:List Nat):dj w r k (zs 33)=if ay w 256=r then 0 else 131:=by
 rw[mX (p:=pW) (by rw[fW (by omega) ka,vW]) (by omega) ka,vC]
def Ft:Nat->Value:=fun _=> .slice none 0 0
theorem Bk.start{w:World}{gb base:Nat}(h:ab w gb 31 #[.int .i64 0, .slice none 0 0, .slice none 0 0, .int .i64 0, .slice none 0 0, .slice none 0 0])(hb:base<=gb):Bk w gb base 0 (fun B=>B=gb):=by
 have hs:∀B,bP gb Ft B->B=gb:=fun B hB=>by
  rcases hB with h|⟨j,_,h⟩
  ·exact h
  ·cases h
 refine⟨0,0,Ft,[],[],[],[],Nat.le_refl _,Nat.le_refl _,⟨⟨h,fun j hj=>?_,fun i j _ _ _=>kR _ _ _,(fun j _ e=>by cases e),fun B hB=>by have:=hs B hB;omega⟩,rfl,rfl,by simp,by simp,(fun i u a hu=>by cases hu),(fun i u a hu=>by cases hu),(fun u hu=>by cases hu),hs,fun B hB=>by have:=ab.lt h;omega⟩⟩;have h4:j=0∨j=1∨j=2∨j=3:=by omega
 rcases h4 with rfl|rfl|rfl|rfl<;>exact aO.nil _ _ _
structure xp(w:World)(o:OpV)(xs ys:List Nat)(Ao:Option Addr)(ao:Nat)(Bo:Option Addr)(bo:Nat):Prop where
 hA:o.A= .slice Ao xs.length ao
 hB:o.B= .slice Bo ys.length bo
 lA:Lay w Ao xs ao
 lB:Lay w Bo ys bo
 lV:Lay w o.Av o.x.val o.Cv
 sz:xs.length+512<=140737488355328/\ys.length+512<=140737488355328/\o.x.val.length+512<=140737488355328
def Dj(w:World)(o:OpV):Prop:=(∃xs ys Ao ao Bo bo,xp w o xs ys Ao ao Bo bo)/\∃n m Pd Pe cd ce X YS,lm w o n m Pd Pe cd ce X YS
def ScriptAt(w:World)(A:Option Addr)(N:Nat)(os:Nat->OpV):Prop:=∀k,k<N->∃b off,A=some ⟨b,off,none⟩/\b<w.heap.size/\w.rangeAt b (off+k*104) (os k).cs/\Dj w (os k)
section
variable{w W:World}{gb base N:Nat}{S:Nat->Prop}{o:OpV}{xs ys:List Nat}{Ao Bo:Option Addr}{ao bo:Nat}
theorem Bs{V:Nat->Prop}{A:Option Addr}{n:Nat}{xs:List Nat}(h:RB w A n xs)(ht:ae V w W)(hV:∀ad,A=some ad->¬V ad.block):RB W A n xs:=⟨h.1,h.2.1,fun hn=>by
  obtain⟨ad,e,hlt,hc⟩:=h.2.2 hn;refine⟨ad,e,Nat.lt_of_lt_of_le hlt ht.size,fun j x hj=>(World.cell?_of_block (a:=ad.add j) ?_).trans (hc j x hj)⟩;rw[bX];exact ht.block _ hlt (hV ad e)⟩
theorem rX{A:Option Addr}{xs:List Nat}{c:Nat}(h:Lay w A xs c)(hS:∀ad,A=some ad->¬S ad.block):Las S w fun W=>Lay W A xs c:=fun _ ht=>⟨Bs h.rb ht hS,fun h0 ad e=>Nat.lt_of_lt_of_le (h.lt h0 ad e) ht.size,h.le,h.non,h.cm,h.sz⟩
theorem mM{P:World->Prop}{w0:World}(hP:∀W,Below w0.heap.size w0 W->P W)(hw:Below w0.heap.size w0 w)(hS:∀B,S B->w0.heap.size<=B):Las S w P:=fun W ht=>hP W (ht.toBelow hw hw.size hS)
theorem xp.play{w0:World}(h:xp w0 o xs ys Ao ao Bo bo)(ok:o.Ok)(ht:eY w0/\du w0)(hw:Below w0.heap.size w0 w)(hb:Bk w gb w0.heap.size N S)(hN:N<=576460752303423488):xq w gb w0.heap.size N S o xs ys Ao ao Bo bo:=by
 have hS:∀B,S B->w0.heap.size<=B:=fun B hB=>(hb.bnd B hB).1;exact⟨hb,ok,h.hA,h.hB,mM (fun W hW=>h.lA.below hW) hw hS,mM (fun W hW=>h.lB.below hW) hw hS,mM (fun W hW=>h.lV.below hW) hw hS,mM (fun W hW=>⟨ht.1.below hW,ht.2.below hW⟩) hw hS,hw.size,h.sz,hN⟩
end
def o1(R:List Nat)(g:Nat):OpV:=⟨1,4,R,zs 32, .slice (some ⟨g,0,none⟩) 33 33, .slice none 0 0,zY,none,0, .slice none 0 0, .slice none 0 0⟩
theorem FC(a b a' b' A A' B:Value)(R0 R1 K T:List Value)(h:R0.length=R1.length)(hR:R1.length=32)(hK:K.length=32):spl (spl (spl (spl ([a,b]++(R0++(K++([A,B]++T)))).toArray 0 #[a']) 1 #[b']) 2 R1.toArray) 66 #[A']=([a',b']++(R1++(K++([A',B]++T)))).toArray:=by
 have f1:spl ([a,b]++(R0++(K++([A,B]++T)))).toArray 0 #[a']=([a',b]++(R0++(K++([A,B]++T)))).toArray:=fy [] [a] [a'] (b::(R0++(K++([A,B]++T)))) rfl;have f2:spl ([a',b]++(R0++(K++([A,B]++T)))).toArray 1 #[b']=([a',b']++(R0++(K++([A,B]++T)))).toArray:=fy [a'] [b] [b'] (R0++(K++([A,B]++T))) rfl;have f3:spl ([a',b']++(R0++(K++([A,B]++T)))).toArray 2 R1.toArray=([a',b']++(R1++(K++([A,B]++T)))).toArray:=fy [a',b'] R0 R1 (K++([A,B]++T)) h;have f4:spl ([a',b']++(R1++(K++([A,B]++T)))).toArray 66 #[A']=([a',b']++(R1++(K++([A',B]++T)))).toArray:=by
  have h:=fy ([a',b']++(R1++K)) [A] [A'] (B::T) rfl;rw[show([a',b']++(R1++K)).length=66by simp;omega]at h;simpa using h
 rw[f1,f2,f3,f4]
theorem CB(ps:List (Nat×Value)):Tryz.prog.built 42 ps=Instr.fill (#[(0,1),(1,1),(2,32),(34,32),(66,1),(67,1),(68,34),(102,1),(103,1)][·]?) zOp.cs.toArray ps:=by
 have h1:(Tryz.prog.info? 42).map (·.zero)=some (some (.agg zOp.cs.toArray)):=by kernel_rfl
 obtain⟨i,hi,hz⟩:∃i,Tryz.prog.info? 42=some i/\i.zero=some (.agg zOp.cs.toArray):=by
  cases hq:Tryz.prog.info? 42with
  |none=>simp[hq]at h1
  |some i=>exact⟨i,rfl,by simpa[hq]using h1⟩
 have hp:(Tryz.prog.underlying 42).bind (fun d=>match d with| .struct fs=>fs.toList.mapM (fun f=>(Tryz.prog.info? f.type).map fun i=>(f.offset,i.size))|_=>none)=some [(0,1),(1,1),(2,32),(34,32),(66,1),(67,1),(68,34),(102,1),(103,1)]:=by kernel_rfl
 rw[Tryz.underlying42]at hp;unfold Program.built;rw[hi,Tryz.underlying42];simp only[hz];simp only[Option.bind_some]at hp;rw[hp];rfl
theorem CD(R:List Nat)(hR:R.length=32)(g:Nat):Tryz.prog.built 42 [(0, .int .i64 1),(1, .int .i64 4),(2, .agg (bvs R).toArray),(4, .slice (some ⟨g,0,none⟩) 33 33)]=some (o1 R g).cs.toArray:=by
 have hkl:(bvs R).length=32:=by simp[bvs,hR]
 have s1:((Value.agg (bvs R).toArray).cells).size=32:=by simp[Value.cells,hkl]
 have hzl:zOp.cs.toArray.size=104:=by rfl
 rw[CB,de (off:=0) (size:=1) rfl rfl (by rw[hzl];omega),de (off:=1) (size:=1) rfl rfl (by rw[dV,hzl];omega),de (off:=2) (size:=32) rfl s1 (by rw[dV,dV,hzl];omega),de (off:=66) (size:=1) rfl rfl (by rw[dV,dV,dV,hzl];omega),Instr.fill];exact congrArg some (FC _ _ _ _ _ _ _ (bvs (zs 32)) (bvs R) (bvs (zs 32)) _ (by rw[hkl];rfl) hkl rfl)
theorem EK(R:List Nat)(hR:R.length=32/\IsB R)(g:Nat):(o1 R g).Ok:=⟨hR,⟨ak 32,dY 32⟩,⟨ak 32,dY 32⟩,rfl,rfl,rfl,rfl⟩
theorem xJ(w:World):Lay w none [] 0:=⟨⟨rfl,IsB.nil,fun h=>by cases h⟩,(fun _ ad e=>by cases e),Nat.le_refl _,fun _=>rfl,Nat.zero_le _,by simp⟩
def rK:Chg:=⟨zs 32,false,[9]⟩
theorem BE(p:Pr)(h:dF (zs 33)=some p):wV 4 rK p=nJ 4 256 [rK]:=by
 rw[ka]at h;injection h with h;subst h;rw[tH];unfold wV;congr 1;funext h;exact ow 4 h
theorem Dh(w:World)(ht:du w):Calls Tryz.prog 5 #[.int .i64 4, .int .i64 256] w fun e w'=>Below w.heap.size w w'/\∃R,e= .returned (.agg (bvs R).toArray)/\∀_:Nat,R=ay 4 256:=(vr 4 w ht).mono fun _ _⟨h1,h2⟩=>⟨h2,_,h1,fun _=>rfl⟩
theorem Bx(gb g N:Nat)(S:Nat->Prop)(R:List Nat)(w0 w:World)(hR:R.length=32/\IsB R)(hz:ar w g 5 (zs 33))(hb:Bk w gb w0.heap.size N S)(hg:¬S g)(ht:eY w0/\du w0)(hw:Below w0.heap.size w0 w)(hN:N<=576460752303423488)(cb:Array Value)(hcb:cb=(o1 R g).cs.toArray):Calls Tryz.prog 4 #[.pointer (some ⟨gb,0,none⟩), .agg cb] w (lk gb w0.heap.size (N+9) S w):=by
 subst hcb;have hS:∀B,S B->w0.heap.size<=B:=fun B hB=>(hb.bnd B hB).1;have hA:Lay w (some ⟨g,0,none⟩) (zs 33) 33:=⟨hz.whole (dY _) (ak _),(fun _ ad e=>by injection e with e;rw[<-e];exact ab.lt hz),by rw[ak];omega,(fun e=>by cases e),by simp[maxLen],by rw[ak];omega⟩;refine qA gb w0.heap.size N S (o1 R g) (zs 33) [] (some ⟨g,0,none⟩) none 33 0 0 0 none none 0 0 (fun _=>zY) (fun _=>[]) w ⟨hb,EK R hR g,by rw[ak];rfl,rfl,rX hA fun ad e=>by injection e with e;rw[<-e];exact hg,rX (xJ w) (fun ad e=>by cases e),rX (xJ w) (fun ad e=>by cases e),mM (fun W hW=>⟨ht.1.below hW,ht.2.below hW⟩) hw hS,hw.size,⟨by rw[ak];omega,by simp,by simp[o1,zY]⟩,hN⟩ ⟨EK R hR g,rfl,rfl,⟨by simp[maxLen],fun k hk=>by omega⟩,fun k hk=>by omega,by omega,by omega,by omega,by omega,fun k hk=>by omega,fun k hk=>by omega⟩
theorem CF(g:Nat):Tryz.prog.built 39 [(2, .slice (some ⟨g,0,none⟩) 1 1)]=some (chC rK (some ⟨g,0,none⟩) 1).toArray:=by kernel_rfl
theorem CE(g:Nat):Tryz.prog.built 48 [(1, .slice (some ⟨g,0,none⟩) 1 1)]=some (enC rK (some ⟨g,0,none⟩) 1).toArray:=by kernel_rfl
theorem tR:IsB [9]:=fun x hx=>by
 simp at hx;omega
theorem Eu(g g2:Nat)(R:List Nat)(w:World)(hR:∀_:Nat,R=ay 4 256)(hz:ar w g 5 (zs 33))(hv:ar w g2 5 [9])(ht:eY w):Calls Tryz.prog 6 #[.int .i64 4, .agg (bvs R).toArray, .slice (some ⟨g,0,none⟩) 33 33, .agg (chC rK (some ⟨g2,0,none⟩) 1).toArray] w fun e w'=>Below w.heap.size w w'/\∃D,e= .returned (.tuple #[.agg (bvs D).toArray, .int .i64 0])/\∀_:Nat,D=nJ 4 256 [rK]:=by
 rw[hR 0];have hq:wU 4 (ay 4 256) (zs 33) rK=0:=by
  unfold wU;rw[zk (by omega) (by omega),if_pos rfl,if_pos rfl];rfl
 refine(nt 4 (ay 4 256) (some ⟨g,0,none⟩) 33 33 (zs 33) rK (some ⟨g2,0,none⟩) 1 w (bu _ _) (al _ _) (dY 32) (ak 32) (hz.whole (dY _) (ak _)) (fun ad e=>by injection e with e;rw[<-e];exact ab.lt hz) (by omega) (fun h=>by cases h) (by simp[maxLen]) (by omega) (hv.whole tR rfl) (fun h=>by cases h) ht).mono ?_;rintro e w'⟨hb,_,h⟩;obtain⟨p,hp,_,_,_,rfl⟩:=h hq;exact⟨hb,_,rfl,fun _=>BE p hp⟩
theorem Bg(ge gv:Nat)(w:World)(hv:ar w gv 5 [9])(he:ab w ge 48 (enC rK (some ⟨gv,0,none⟩) 1).toArray)(ht:du w):Calls Tryz.prog 7 #[.int .i64 4, .slice (some ⟨ge,0,none⟩) 1 1] w fun e w'=>Below w.heap.size w w'/\∃D,e= .returned (.agg (bvs D).toArray)/\∀_:Nat,D=nJ 4 256 [rK]:=(yy 4 (some ⟨ge,0,none⟩) 1 1 (fun _=>rK) w ⟨⟨by simp[maxLen],fun k hk=>⟨ge,0,some ⟨gv,0,none⟩,1,rfl,ab.lt he,(by rw[show 0+k*33=0 by omega];exact ab.range he),dY 32,ak 32,hv.whole tR rfl,Nat.le_refl _,by simp[maxLen],fun e=>by cases e⟩⟩,Nat.le_refl _,by omega,fun k hk=>by simp[rK],by simp[lst,br],by simp[lst,dG],fun _ _ _ _ b hb=>by omega⟩ ht).mono fun _ _⟨h1,h2⟩=>⟨h2,_,h1,fun _=>rfl⟩
theorem m4{P:Program}{ops:Array Oper}{Q:Exit->Act->World->Prop}{K:Act->World->Prop}{E:Prop}{o:Oper}{a:Act}(hw:Region.wanted o (yielded ops a.tmps)=true)(w:World)(t:TypeId)(parts:Array (Nat×Operand))(ho:o.op= .build t parts)(vs:List (Nat×Value))(hv:(parts.map fun(i,x)=>(i,a.eval x)).toList=vs)(cells:Array Value)(hb:P.built t vs=some cells)(h:K (a.put o.dst (.agg cells)) w):if Region.wanted o (yielded ops a.tmps)=true then o.wp P a w K Q else E:=by
 subst hv;rw[if_pos hw];exact wp_build t parts ho (by rw[hb];rfl) (by rw[hb];exact h)
structure I2(R:List Nat)(gb:Nat)(w0:World)(b:Nat->Bool)(V:Nat->Value)(w:World):Prop where
 lo:Below w0.heap.size w0 w
 b0:b 4=false->Bk w gb w0.heap.size 0 (fun B=>B=gb)
 f0:b 0=true->V 10= .pointer (some ⟨gb,0,none⟩)
 f1:b 1=true->V 11= .agg (bvs R).toArray
 f2:b 4=false->b 2=true->∃g,V 12= .slice (some ⟨g,0,none⟩) 33 33/\g≠gb/\ar w g 5 (zs 33)
 f3:b 4=false->b 3=true->∃g,V 13= .agg (o1 R g).cs.toArray/\g≠gb/\ar w g 5 (zs 33)
 f4:b 4=true->b 3=true/\V 14= .bool true/\∃S,Bk w gb w0.heap.size 9 S
 f5:b 5=true->b 4=true/\V 4= .bool true
theorem I2.below{R:List Nat}{gb:Nat}{w0 w w':World}{b:Nat->Bool}{V:Nat->Value}(h:I2 R gb w0 b V w)(hb:Below w.heap.size w w'):I2 R gb w0 b V w':={h with
  lo:=h.lo.trans (hb.mono h.lo.size)
  b0:=fun p=>(h.b0 p).below hb
  f2:=fun p q=>let⟨g,e,n,k⟩:=h.f2 p q;⟨g,e,n,ab.below k hb⟩
  f3:=fun p q=>let⟨g,e,n,k⟩:=h.f3 p q;⟨g,e,n,ab.below k hb⟩
  f4:=fun p=>let⟨q,e,S,k⟩:=h.f4 p;⟨q,e,S,k.below hb⟩}
structure I5(R D:List Nat)(gb:Nat)(S:Nat->Prop)(w0:World)(b:Nat->Bool)(V:Nat->Value)(w:World):Prop where
 bk:Bk w gb w0.heap.size 9 S
 lo:Below w0.heap.size w0 w
 f0:b 0=true->V 18= .agg (bvs R).toArray
 f1:b 4=false->b 1=true->∃g,V 19= .slice (some ⟨g,0,none⟩) 33 33/\ar w g 5 (zs 33)
 f2:b 4=false->b 2=true->∃g,V 20= .slice (some ⟨g,0,none⟩) 1 1/\ar w g 5 [9]
 f3:b 4=false->b 3=true->∃g,V 21= .agg (chC rK (some ⟨g,0,none⟩) 1).toArray/\ar w g 5 [9]
 f4:b 4=true->b 3=true/\V 22= .tuple #[.agg (bvs D).toArray, .int .i64 0]
 f5:b 5=true->b 4=true/\V 17= .tuple #[.agg (bvs D).toArray, .int .i64 0]
 f6:b 6=true->b 4=true/\V 23= .agg (bvs D).toArray
 f7:b 7=true->V 24= .int .i64 0
 f8:b 8=true->∃g,V 5= .pointer (some ⟨g,0,none⟩)/\w0.heap.size<=g/\¬S g/\(b 9=false->ar w g 34 (zs 32))/\(b 9=true->ar w g 34 D)
 f9:b 9=true->b 8=true
 f10:b 10=true->V 6= .int .i64 0
theorem I5.below{R D:List Nat}{gb:Nat}{S:Nat->Prop}{w0 w w':World}{b:Nat->Bool}{V:Nat->Value}(h:I5 R D gb S w0 b V w)(hb:Below w.heap.size w w'):I5 R D gb S w0 b V w':={h with
  bk:=h.bk.below hb
  lo:=h.lo.trans (hb.mono h.lo.size)
  f1:=fun p q=>let⟨g,e,k⟩:=h.f1 p q;⟨g,e,ab.below k hb⟩
  f2:=fun p q=>let⟨g,e,k⟩:=h.f2 p q;⟨g,e,ab.below k hb⟩
  f3:=fun p q=>let⟨g,e,k⟩:=h.f3 p q;⟨g,e,ab.below k hb⟩
  f8:=fun p=>let⟨g,e,l,n,k,m⟩:=h.f8 p;⟨g,e,l,n,fun q=>ab.below (k q) hb,fun q=>ab.below (m q) hb⟩}
end Go.Proofs.YtfnlhfaihoojfaaGreatDoor
