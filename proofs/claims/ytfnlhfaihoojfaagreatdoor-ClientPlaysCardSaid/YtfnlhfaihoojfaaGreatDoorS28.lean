/- Texts of the proof of ledgerlaw13.ClientPlays, part 28; no condition of its own. -/
import Derived.Lib.BytesEntry
import Derived.Test.YtfnlhfaihoojfaaGreatDoorS27
set_option maxRecDepth 100000
set_option maxHeartbeats 4000000
namespace Go.Proofs.YtfnlhfaihoojfaaGreatDoor
open Go.RowKit
theorem zF(l:List UInt8):Lib.compareBytes l l=0:=by
 induction l with
 |nil=>rfl
 |cons a r ih=>simp[Lib.compareBytes,ih]
theorem qR:∀(xs ys:List UInt8)(i:Nat)(a b:UInt8),(∀j,j<i->xs[j]?=ys[j]?/\j<xs.length)->xs[i]?=some a->ys[i]?=some b->¬a=b->Lib.compareBytes xs ys=if a<b then-1 else 1
 |x::xs,y::ys,0,a,b,_,h1,h2,h=>by
  simp at h1 h2;subst h1 h2;have hn:x.toNat≠y.toNat:=fun e=>h (UInt8.toNat_inj.1 e);unfold Lib.compareBytes;by_cases hlt:x<y
  ·rw[if_pos hlt,if_pos hlt]
  ·have hgt:y<x:=by
    rw[UInt8.lt_iff_toNat_lt]at hlt⊢;omega
   rw[if_neg hlt,if_pos hgt,if_neg hlt]
 |x::xs,y::ys,i+1,a,b,h0,h1,h2,h=>by
  have e:=(h0 0 (by omega)).1;simp at e;subst e;have ih:=qR xs ys i a b (fun j hj=>by
   have:=h0 (j+1) (by omega);simpa using this) (by simpa using h1) (by simpa using h2) h;simp[Lib.compareBytes,ih]
 |[],_,0,_,_,_,h1,_,_=>by simp at h1
 |[],_,i+1,_,_,_,h1,_,_=>by simp at h1
 |_::_,[],0,_,_,_,_,h2,_=>by simp at h2
 |_::_,[],i+1,_,_,_,_,h2,_=>by simp at h2
theorem qq{P:Program}{w:World}{A:Option Addr}{n c:Nat}{xs:List Nat}(h:RB w A n xs)(h0:0<n):(Extern.Bytes.bytesOf (.slice A n c)).run P w= .ok ⟨(Lib.bytesOf (xs.map fun x:Nat=>(x:Int))).toArray⟩ w:=by
 obtain⟨ad,rfl,_,hc⟩:=h.2.2 h0;have hl:=Lib.run_loadBytesX (P:=P) w (xs.map fun x:Nat=>(x:Int)) ad .empty (fun j x hj=>by
  simp only[List.getElem?_map,Option.map_eq_some_iff]at hj;obtain⟨y,hy,rfl⟩:=hj;exact hc j y hy);rw[List.length_map,h.1]at hl;unfold Extern.Bytes.bytesOf;rw[hl];simp
def C3(ds es:List Nat):Int:=Lib.compareBytes (Lib.bytesOf (ds.map fun x:Nat=>(x:Int))) (Lib.bytesOf (es.map fun x:Nat=>(x:Int)))
theorem DK{P:Program}{w:World}{A B:Option Addr}{n m c d:Nat}{ds es:List Nat}(h1:RB w A n ds)(h2:RB w B m es)(hn:0<n)(hm:0<m):(Extern.BytealgCompare.compare #[.slice A n c, .slice B m d]).run P w= .ok (.int .i64 (C3 ds es)) w:=by
 change Sem.run P (do pure (goInt (Extern.BytealgCompare.cmp (<-Extern.Bytes.bytesOf (.slice A n c)) (<-Extern.Bytes.bytesOf (.slice B m d))))) w=_;simp only[Sem.run_bind,qq h1 hn,qq h2 hm,Sem.run_pure,Result.andThen];rw[Lib.cmp_eq];rfl
theorem zD(ds:List Nat):C3 ds ds=0:=zF _
theorem jH{ds:List Nat}{i:Nat}(h:i<ds.length):(Lib.bytesOf (ds.map fun x:Nat=>(x:Int)))[i]?=some (UInt8.ofNat (ds.getD i 0)):=by
 simp[Lib.bytesOf,List.getD,h]
theorem zE{ds es:List Nat}(hB:IsB ds)(hB2:IsB es)(hl:ds.length=32)(hl2:es.length=32){i:Nat}(h:EI ds es i):C3 ds es=if ds.getD i 0<es.getD i 0then-1 else 1:=by
 have h1:=fQ hB i;have h2:=fQ hB2 i;have n1:(UInt8.ofNat (ds.getD i 0)).toNat=ds.getD i 0:=by rw[UInt8.toNat_ofNat',Nat.mod_eq_of_lt (show ds.getD i 0<2^8from h1)]
 have n2:(UInt8.ofNat (es.getD i 0)).toNat=es.getD i 0:=by rw[UInt8.toNat_ofNat',Nat.mod_eq_of_lt (show es.getD i 0<2^8from h2)]
 have hi:=h.1;have k:=qR (Lib.bytesOf (ds.map fun x:Nat=>(x:Int))) (Lib.bytesOf (es.map fun x:Nat=>(x:Int))) i _ _ (fun j hj=>by
  refine⟨?_,by simp[Lib.bytesOf];omega⟩;rw[jH (ds:=ds) (by omega),jH (ds:=es) (by omega),h.2.1 j hj]) (jH (ds:=ds) (by omega)) (jH (ds:=es) (by omega)) (fun e=>h.2.2 (by rw[<-n1,<-n2,e]));unfold C3;rw[k];simp only[UInt8.lt_iff_toNat_lt,n1,n2]
theorem sU(A B:Option Addr)(n m c d:Nat)(ds es:List Nat)(w:World)(h1:RB w A n ds)(h2:RB w B m es)(hn:0<n)(hm:0<m):Calls Tryz.prog 121 #[.slice A n c, .slice B m d] w fun e w'=>e= .returned (.int .i64 (C3 ds es))/\w'=w:=by
 have hr:=DK (P:=Tryz.prog) (c:=c) (d:=d) h1 h2 hn hm;clear h1 h2;generalize C3 ds es=z at*;go_enter Tryz.func121,Tryz.ntmps121;go_wp2;rw[run_callFunc_extern Tryz.func137 (by kernel_rfl) (by kernel_rfl) (by kernel_rfl) (e:=Extern.BytealgCompare.compare) (by kernel_rfl),hr];simp only[Result.andThen];rw[Oper.upon_value];go_wp2;go_ret;exact⟨rfl,rfl⟩
theorem zI(A B:Option Addr)(n m c d:Nat)(ds es:List Nat)(w:World)(h1:RB w A n ds)(h2:RB w B m es)(hn:0<n)(hm:0<m):Calls Tryz.prog 121 #[.slice A n c, .slice B m d] w fun e w'=>e= .returned (.int .i64 (C3 ds es))/\∃q,w'=w.drewN q:=(sU A B n m c d ds es w h1 h2 hn hm).mono fun _ _⟨he,hw⟩=>⟨he,0,hw⟩
open Go.Sort
theorem Ct{ds es:List Nat}(hB:IsB ds)(hB2:IsB es)(hl:ds.length=32)(hl2:es.length=32):C3 ds es=pT (eJ ds) (eJ es):=by
 by_cases h:ds=es
 ·subst h;rw[zD];simp[pT]
 ·obtain⟨i,hd⟩:=lG hl hl2 h;have hi:=hd.1;rw[zE hB hB2 hl hl2 hd];by_cases h1:ds.getD i 0<es.getD i 0
  ·have:=fo ds es i hB hB2 (by omega) (by omega) hd.2.1 h1;rw[if_pos h1,pT,if_pos this]
  ·have h2:es.getD i 0<ds.getD i 0:=by have:=hd.2.2;omega
   have:=fo es ds i hB2 hB (by omega) (by omega) (fun j hj=>(hd.2.1 j hj).symm) h2;rw[if_neg h1,pT,if_neg (by omega),if_pos this]
theorem vV(w:World)(os:Array Obj)(q:Nat):(grow w os).drewN q=grow (w.drewN q) os:=rfl
theorem rF(ds es:List Nat)(w:World)(hB:IsB ds)(hl:ds.length=32)(hB2:IsB es)(hl2:es.length=32):Calls Tryz.prog 110 #[.agg (bvs ds).toArray, .agg (bvs es).toArray] w fun e w'=>e= .returned (.int .i64 (pT (eJ ds) (eJ es)))/\∃q os',w'=grow (w.drewN q) os':=by
 rw[<-Ct hB hB2 hl hl2];have A:Hd (RB ((w.alloc (.cells (bvs ds).toArray 37)).alloc (.cells (bvs es).toArray 37)) (some ⟨w.heap.size,0,none⟩) 32 ds):=ar.whole (ab.alloc (ab.new w 37 _) _) hB hl;have B:Hd (RB ((w.alloc (.cells (bvs ds).toArray 37)).alloc (.cells (bvs es).toArray 37)) (some ⟨w.heap.size+1,0,none⟩) 32 es):=ar.whole (mF w _ 1 _ _ (by simp)) hB2 hl2;have C:Hd (∀q,∃q' os',((w.alloc (.cells (bvs ds).toArray 37)).alloc (.cells (bvs es).toArray 37)).drewN q=grow (w.drewN q') os'):=fun q=>⟨q,_,by rw[alloc_eq_grow,alloc_eq_grow,grow_grow];rfl⟩;clear hB hl hB2 hl2;go_enter Tryz.func110,Tryz.ntmps110;go_wp2_with fail;go_quiet(refine Calls.quiet_of (zI _ _ 32 32 32 32 ds es _ (A.o.below (af (Below.refl _ _) _)) (B.o.below (af (Below.refl _ _) _)) (by omega) (by omega)));go_wp2_with fail;go_ret;exact⟨rfl,C.o _⟩
structure El where
 x:Chg
 A:Option Addr
 C:Nat
 ok:IsB x.key/\x.key.length=32
instance:Inhabited El:=⟨⟨⟨zs 32,false,[]⟩,none,0,dY 32,ak 32⟩⟩
def nL(e:El):List Value:=chC e.x e.A e.C
theorem nn(e:El):(nL e).length=34:=am e.ok.2
theorem Ch(e:El):∀v∈nL e,v.oneCell'=true:=cZ
def C4(a b:El):Int:=pT (eJ a.x.key) (eJ b.x.key)
theorem ltE(a b:El):ltOf C4 a b=decide (eJ a.x.key<eJ b.x.key):=by
 unfold ltOf C4 pT;by_cases h:eJ a.x.key<eJ b.x.key
 ·simp[h]
 ·rw[if_neg h,decide_eq_false h];split<;>rfl
theorem FB:SWO (ltOf C4)where
 irrefl x:=by rw[ltE];simp
 trans x y z h1 h2:=by rw[ltE]at*;simp at*;omega
 ntrans x y z h1 h2:=by rw[ltE]at*;simp at*;omega
theorem sQ(a b:El)(w:World):Calls Tryz.prog 109 #[.agg (nL a).toArray, .agg (nL b).toArray] w fun e w'=>e= .returned (.int .i64 (C4 a b))/\∃q os',w'=grow (w.drewN q) os':=by
 obtain⟨x,A,C,hx⟩:=a;obtain⟨y,B,D,hy⟩:=b;unfold nL C4;simp only;have F:Hd (((w.alloc (.cells (chC x A C).toArray 39)).alloc (.cells (chC y B D).toArray 39)).rangeAt w.heap.size 0 (bvs x.key)):=er (ab.range (ab.alloc (ab.new w 39 _) _));have G:Hd (((w.alloc (.cells (chC x A C).toArray 39)).alloc (.cells (chC y B D).toArray 39)).rangeAt (w.heap.size+1) 0 (bvs y.key)):=er (ab.range (mF w _ 1 _ _ (by simp)));have hs1:(Tryz.prog.info? 37).map (·.size)=some (bvs x.key).length:=by rw[aB];simp[bvs,hx.2]
 have hs2:(Tryz.prog.info? 37).map (·.size)=some (bvs y.key).length:=by rw[aB];simp[bvs,hy.2]
 have E:=aa (show(IsB x.key/\x.key.length=32)/\IsB y.key/\y.key.length=32from⟨hx,hy⟩);have H:Hd (∀q os,∃q' os',grow ((((w.alloc (.cells (chC x A C).toArray 39)).alloc (.cells (chC y B D).toArray 39))).drewN q) os=grow (w.drewN q') os'):=fun q os=>⟨q,_,by rw[alloc_eq_grow,alloc_eq_grow,grow_grow,vV,grow_grow]⟩;clear hx hy;go_enter Tryz.func109,Tryz.ntmps109;go_wp2_with(first|((with_reducible refine atS 6 ?_);refine aj (by rfl) 37 (.tmp 5) rfl w.heap.size 0 _ rfl F.o fz hs1 ?_)|((with_reducible refine atS 8 ?_);refine aj (by rfl) 37 (.tmp 7) rfl (w.heap.size+1) 0 _ rfl G.o fz hs2 ?_));refine(rF x.key y.key _ E.o.1.1 E.o.1.2 E.o.2.1 E.o.2.2).mono ?_;rintro e w1⟨rfl,q,os,rfl⟩;go_wp2_with fail;go_ret;exact⟨rfl,H.o q os⟩
theorem Ea(blk off size:Nat)(w:World):CmpLays Tryz.prog 109 #[] nL 34 C4 blk off size w:=fun _ _ _ _ x y=>sQ x y _
theorem AJ:((gZ 32)++#[(.bool false:Value), .slice none 0 0]).toList.length=34:=by simp[gZ,bvs,zs]
theorem B6(A:Option Addr)(N c hO:Nat)(X:Nat->Chg)(w:World)(hx:fa w A N X)(hm:hO<=4096):Calls Tryz.prog 106 #[.slice A N c, .int .i64 hO] w fun e w'=>e= .returned (.int .i64 (fM X N hO:Nat))/\Below w.heap.size w w':=by
 have R:=aa hx;have hn:=hx.1;unfold maxLen at hn;clear hx;go_enter Tryz.func106,Tryz.ntmps106;by_cases hmn:hO<N
 ·have E:Hd (fM X N hO=31):=by show _=_;unfold fM;rw[if_pos hmn]
  have hmn':(hO:Int)<N:=by omega
  go_wp2_with fail;go_ret;exact⟨by rw[E.o];rfl,Below.refl _ _⟩
 ·have hmn':¬(hO:Int)<N:=by omega
  go_wp2_with fail;go_loopw[13](fun i wr=>∃k:Nat,k<=N/\i= .int .i64 k/\Hd (dI X k=false)/\Hd (Below w.heap.size w wr))(fun i _=>N-(intOf i).toNat)
  case atStart=>exact⟨0,by omega,rfl,rfl,Below.refl _ _⟩
  case round=>
   obtain⟨k,hk,rfl,I,C⟩:=hrel;obtain⟨w1,rfl⟩:∃w1,w1=wr:=⟨_,rfl⟩;by_cases hlt:k<N
   ·obtain⟨b,o,Av,Cv,rfl,hb,hr,hkB,hkl,hvr,hvC,hCm,hnil⟩:=(R.o.below C.o).2 k hlt;have hlt':(k:Int)<N:=by omega
    have E:=aa hr;have hsz:(Tryz.prog.info? 39).map (·.size)=some (chC (X k) Av Cv).length:=by rw[aK,am hkl]
    have J:Hd (((gZ 32)++#[(.bool false:Value), .slice none 0 0]).toList.length=(chC (X k) Av Cv).length):=by show _=_;rw[am hkl,AJ]
    have D:=aa hkl;clear hr hkB hkl hvr hvC hCm hnil;have fin:∀w2 w3:World,Below w1.heap.size w1 w2->w2.grownBy w3 (some w1.heap.size)->Below w.heap.size w w3:=fun w2 w3 h1 h2=>(C.o.trans (h1.mono C.o.size)).grown h2 (Nat.le_trans C.o.size h1.size) (fun k hk=>by injection hk with hk;rw[<-hk];exact C.o.size);have K:=aa fin;clear fin;have L:Hd (long (X k)=(!(X k).del&&decide (128<(X k).val.length))):=rfl;have O:Hd (dI X (k+1)=(dI X k||long (X k))):=rfl;have S:Hd (long (X k)=true->dI X N=true):=fun h=>lS hlt h;generalize X k=x at*;obtain⟨ky,dl,vl⟩:=x;cases dl
    ·by_cases hlen:128<vl.length
     ·have hlen':(128:Int)<(vl.length:Int):=by omega
      go_wp2_with(first|((with_reducible refine atS 16 ?_);refine aj (by rfl) 39 (.tmp 15) rfl b (o+k*34) _ rfl E.o be hsz ?_)|((with_reducible refine atS 6 ?_);refine aC (by rfl) 39 rfl _ _ dW ?_;intro w2 F G P)|((with_reducible refine atT 6 ?_);refine a8 (o:=⟨none,_,_,_,_,_⟩) (by rfl) 39 (.tmp 6) (.tmp 16) rfl w1.heap.size _ _ 39 rfl rfl F.o hsz J.o cZ ?_;intro w3 B H Q;have b1:=ie (ab.range B.o) D.o;have b2:=eW (ab.range B.o) D.o;rw[Nat.zero_add]at b1 b2));go_ret;refine⟨?_,K.o w2 w3 G.o H.o⟩;rw[show fM X N hO=32by unfold fM;rw[if_neg hmn,S.o (by rw[L.o];simp;exact hlen)];rfl];rfl
     ·have hlen':¬(128:Int)<(vl.length:Int):=by omega
      have M:Hd (dI X (k+1)=false):=by
       show _=_;rw[O.o,I.o,L.o];simp;omega
      go_wp2_with(first|((with_reducible refine atS 16 ?_);refine aj (by rfl) 39 (.tmp 15) rfl b (o+k*34) _ rfl E.o be hsz ?_)|((with_reducible refine atS 6 ?_);refine aC (by rfl) 39 rfl _ _ dW ?_;intro w2 F G P)|((with_reducible refine atT 6 ?_);refine a8 (o:=⟨none,_,_,_,_,_⟩) (by rfl) 39 (.tmp 6) (.tmp 16) rfl w1.heap.size _ _ 39 rfl rfl F.o hsz J.o cZ ?_;intro w3 B H Q;have b1:=ie (ab.range B.o) D.o;have b2:=eW (ab.range B.o) D.o;rw[Nat.zero_add]at b1 b2));go_roundw
      case rel=>exact⟨k+1,by omega,by go_num,M.o,K.o w2 w3 G.o H.o⟩
      case measure=>simp[intOf];omega
    ·have M:Hd (dI X (k+1)=false):=by
      show _=_;rw[O.o,I.o,L.o];simp
     go_wp2_with(first|((with_reducible refine atS 16 ?_);refine aj (by rfl) 39 (.tmp 15) rfl b (o+k*34) _ rfl E.o be hsz ?_)|((with_reducible refine atS 6 ?_);refine aC (by rfl) 39 rfl _ _ dW ?_;intro w2 F G P)|((with_reducible refine atT 6 ?_);refine a8 (o:=⟨none,_,_,_,_,_⟩) (by rfl) 39 (.tmp 6) (.tmp 16) rfl w1.heap.size _ _ 39 rfl rfl F.o hsz J.o cZ ?_;intro w3 B H Q;have b1:=ie (ab.range B.o) D.o;have b2:=eW (ab.range B.o) D.o;rw[Nat.zero_add]at b1 b2));go_roundw
     case rel=>exact⟨k+1,by omega,by go_num,M.o,K.o w2 w3 G.o H.o⟩
     case measure=>simp[intOf];omega
   ·have hnlt:¬(k:Int)<N:=by omega
    obtain rfl:k=N:=by omega
    go_wp2_with fail;go_ret;refine⟨?_,C.o⟩;rw[show fM X k hO=0 by unfold fM;rw[if_neg hmn,I.o];rfl];rfl
noncomputable def elOf(x:Chg)(A:Option Addr)(C:Nat):El:=by
 classical exact if h:IsB x.key/\x.key.length=32then⟨x,A,C,h⟩else default
theorem r9{x:Chg}{A:Option Addr}{C:Nat}(h:IsB x.key/\x.key.length=32):elOf x A C=⟨x,A,C,h⟩:=by
 unfold elOf;rw[dif_pos h]
noncomputable def elsOf(X:Nat->Chg)(Ad:Nat->Option Addr)(Cp:Nat->Nat)(N:Nat):Array El:=((List.range N).map fun i=>elOf (X i) (Ad i) (Cp i)).toArray
theorem dp(X:Nat->Chg)(Ad:Nat->Option Addr)(Cp:Nat->Nat)(N:Nat):(elsOf X Ad Cp N).size=N:=by simp[elsOf]
theorem um{X:Nat->Chg}{Ad:Nat->Option Addr}{Cp:Nat->Nat}{N i:Nat}(hi:i<N):(elsOf X Ad Cp N)[i]! =elOf (X i) (Ad i) (Cp i):=by
 rw[getElem!_pos _ i (by rw[dp];exact hi)];simp[elsOf]
theorem oS(d:Array El)(N:Nat)(hd:d.size=N):Go.Sort.flatK nL 34 d=(dR (fun i=>d[i]!.x) (fun i=>d[i]!.A) (fun i=>d[i]!.C) N).toArray:=by
 have hl:=eA (X:=fun i=>d[i]!.x) (Ad:=fun i=>d[i]!.A) (Cp:=fun i=>d[i]!.C) (n:=N) (fun i _=>d[i]!.ok.2);apply Array.ext_getElem?;intro j;simp only[List.getElem?_toArray];by_cases h:j<N*34
 ·have hq:j/34<N:=by omega
  have e:=iz (X:=fun i=>d[i]!.x) (Ad:=fun i=>d[i]!.A) (Cp:=fun i=>d[i]!.C) (n:=N) (i:=j/34) (j:=j%34) (fun i _=>d[i]!.ok.2) hq (Nat.mod_lt _ (by omega));rw[show j/34*34+j%34=j by omega]at e;rw[e];have hj:j<(Go.Sort.flatK nL 34 d).size:=by rw[Go.Sort.size_flatK,hd];exact h
  have hm:j%34<(nL d[j/34]!).length:=by rw[nn];exact Nat.mod_lt _ (by omega)
  have hg:=Go.Sort.get_flatK nL 34 d j (by rw[hd];exact h);rw[getElem!_pos (Go.Sort.flatK nL 34 d) j hj,getElem!_pos (nL d[j/34]!) (j%34) hm]at hg;rw[Array.getElem?_eq_getElem hj,hg];exact(List.getElem?_eq_getElem hm).symm
 ·rw[List.getElem?_eq_none (by omega),Array.getElem?_eq_none (by rw[Go.Sort.size_flatK,hd];omega)]
section
variable{w:World}{base g N c:Nat}{X:Nat->Chg}{Ad:Nat->Option Addr}{Cp:Nat->Nat}
theorem wv(hk:∀i,i<N->IsB (X i).key/\(X i).key.length=32):Go.Sort.flatK nL 34 (elsOf X Ad Cp N)=(dR X Ad Cp N).toArray:=by
 rw[oS _ N (dp _ _ _ _),eo (X':=X) (Ad':=Ad) (Cp':=Cp) fun i hi=>by
  rw[um hi,r9 (hk i hi)];exact⟨rfl,rfl,rfl⟩]
def uA(base g N c:Nat)(X:Nat->Chg)(Ad:Nat->Option Addr)(Cp:Nat->Nat)(w:World)(w':World):Prop:=∃X' Ad' Cp',bJ w' base (.slice (some ⟨g,0,none⟩) N c) N X' Ad' Cp'/\dG (lst X' N)/\(lst X' N).Perm (lst X N)/\(∀i,i<N->∃j,j<N/\X' i=X j/\Ad' i=Ad j/\Cp' i=Cp j)/\w.grownBy w' (some g)
theorem AX(h:bJ w base (.slice (some ⟨g,0,none⟩) N c) N X Ad Cp){d':Array El}{n:Nat}{os:Array Obj}(hp:Go.Sort.PermIn 0 (elsOf X Ad Cp N).size (elsOf X Ad Cp N) d')(hs:Go.Sort.SortedIn (ltOf C4) 0 (elsOf X Ad Cp N).size d'):uA base g N c X Ad Cp w (sortWorldK nL 34 w g 0 n d' os):=by
 have hds:d'.size=N:=by rw[hp.1,dp]
 have hpl:d'.toList.Perm (elsOf X Ad Cp N).toList:=by
  have h1:=hp.2.2;rw[Array.extract_size]at h1;rwa[<-hp.1,Array.extract_size]at h1
 have hel:∀i,i<N->∃j,j<N/\d'[i]! =(elsOf X Ad Cp N)[j]!:=fun i hi=>by
  have hm:d'[i]!∈d'.toList:=by
   rw[getElem!_pos d' i (by omega)];exact Array.mem_toList_iff.2 (Array.getElem_mem _)
  obtain⟨j,hj,e⟩:=List.mem_iff_getElem.1 (hpl.subset hm);have hj':j<N:=by simpa[dp]using hj
  refine⟨j,hj',?_⟩;rw[getElem!_pos (elsOf X Ad Cp N) j (by rw[dp];exact hj')];simpa using e.symm
 have heq:∀i,i<N->∃j,j<N/\d'[i]!.x=X j/\d'[i]!.A=Ad j/\d'[i]!.C=Cp j:=fun i hi=>by
  obtain⟨j,hj,e⟩:=hel i hi;rw[um hj,r9 (h.key j hj)]at e;exact⟨j,hj,by rw[e],by rw[e],by rw[e]⟩
 rcases h.own.2with⟨h0,_⟩|⟨g',cap,cur,e1,hg,hb,hnc,hcm,hsz,ht⟩
 ·cases h0
 ·injection e1 with e1 _ e3;injection e1 with e1;injection e1 with e1;subst e1 e3;have hgl:g<w.heap.size:=(Array.getElem?_eq_some_iff.1 hb).1;have hfd:=oS d' N hds;have hgr:w.grownBy (sortWorldK nL 34 w g 0 n d' os) (some g):=by
   refine⟨rfl,rfl,rfl,by simp[sortWorldK,Go.Sort.putRowK,Go.Sort.putRow,Go.Sort.mapBlock,Go.Sort.ahead],fun k hk hne=>?_⟩;unfold sortWorldK;rw[Go.Sort.heap_grow_old _ _ (by simpa[Go.Sort.putRowK,Go.Sort.putRow,Go.Sort.mapBlock,Go.Sort.ahead]using hk)];have:g≠k:=fun e=>hne (by rw[e]);simp[Go.Sort.putRowK,Go.Sort.putRow,Go.Sort.mapBlock,Go.Sort.ahead,Array.getElem?_modify,this]
  have hblk:(sortWorldK nL 34 w g 0 n d' os).heap[g]?=some (.cells (Go.Sort.putCells id 0 (Go.Sort.flatK nL 34 d') cur) 39 (0,0)):=by
   unfold sortWorldK;rw[Go.Sort.heap_grow_old _ _ (by simpa[Go.Sort.putRowK,Go.Sort.putRow,Go.Sort.mapBlock,Go.Sort.ahead]using hgl)];simp[Go.Sort.putRowK,Go.Sort.putRow,Go.Sort.mapBlock,Go.Sort.ahead,Array.getElem?_modify,hb,Go.Sort.onCells]
  have hfl:=eA (X:=fun i=>d'[i]!.x) (Ad:=fun i=>d'[i]!.A) (Cp:=fun i=>d'[i]!.C) (n:=N) (fun i _=>d'[i]!.ok.2);have htk:(Go.Sort.putCells id 0 (Go.Sort.flatK nL 34 d') cur).toList.take (N*34)=dR (fun i=>d'[i]!.x) (fun i=>d'[i]!.A) (fun i=>d'[i]!.C) N:=by
   rw[hfd];apply List.ext_getElem?;intro j;by_cases hj:j<N*34
   ·rw[List.getElem?_take_of_lt hj,Array.getElem?_toList];have hjc:j<cur.size:=by rw[hsz];omega
    have hj2:j<(dR (fun i=>d'[i]!.x) (fun i=>d'[i]!.A) (fun i=>d'[i]!.C) N).length:=by omega
    simp only[Go.Sort.putCells,Array.getElem?_mapIdx,Array.getElem?_eq_getElem hjc,Option.map_some];rw[if_pos ⟨by omega,by simpa using hj2⟩,List.getElem?_eq_getElem hj2,Nat.sub_zero,getElem!_pos _ j (by simpa using hj2)];simp
   ·rw[List.getElem?_take_eq_none (by omega),List.getElem?_eq_none (by omega)]
  refine⟨fun i=>d'[i]!.x,fun i=>d'[i]!.A,fun i=>d'[i]!.C,?_,?_,?_,heq,hgr⟩
  ·refine{own:=⟨hfl▸rfl, .inr ⟨g,_,_,rfl,hg,hblk,hnc,hcm,by simp[Go.Sort.putCells,hsz],htk⟩⟩,key:=fun i _=>d'[i]!.ok,val:=fun i hi=>?_,apart:=fun i hi h0 ad e=>?_}
   ·obtain⟨j,hj,ex,ea,ec⟩:=heq i hi;obtain⟨h1,h2⟩:=h.val j hj;rw[ex,ea,ec];exact⟨h1.grownBy hgr (fun h0 ad e=>h.apart j hj h0 ad e),h2⟩
   ·obtain⟨j,hj,ex,ea,ec⟩:=heq i hi;rw[ex]at h0;rw[ea]at e;exact h.apart j hj h0 ad e
  ·refine List.pairwise_iff_getElem.2 fun i j hi hj hij=>?_;have hi':i<N:=by simpa[lst]using hi
   have hj':j<N:=by simpa[lst]using hj
   have h1:=hs i j (Nat.zero_le _) hij (by rw[dp];exact hj');rw[ltE]at h1;have h2:¬eJ d'[j]!.x.key<eJ d'[i]!.x.key:=of_decide_eq_false h1;simp only[lst,List.getElem_map,List.getElem_range,Ez];omega
  ·have e1:lst (fun i=>d'[i]!.x) N=d'.toList.map (·.x):=by
    apply List.ext_getElem
    ·simp[lst,hds]
    ·intro i h1 h2;have hi:i<N:=by simpa[lst]using h1
     simp only[lst,List.getElem_map,List.getElem_range];rw[getElem!_pos d' i (by omega)];simp
   have e2:lst X N=(elsOf X Ad Cp N).toList.map (·.x):=by
    apply List.ext_getElem
    ·simp[lst,dp]
    ·intro i h1 h2;have hi:i<N:=by simpa[lst]using h1
     simp only[lst,elsOf,List.getElem_map,List.getElem_range];rw[r9 (h.key i hi)]
   rw[e1,e2];exact hpl.map _
theorem yp(h:bJ w base (.slice (some ⟨g,0,none⟩) N c) N X Ad Cp)(hN:N<4611686018427387904):Calls Tryz.prog 108 #[.slice (some ⟨g,0,none⟩) N c, .func (.func 109) #[] #[]] w fun e w'=>e= .returned (.tuple #[])/\uA base g N c X Ad Cp w w':=by
 have eg:∀args w,(callFunc 109 args).run Tryz.prog w= .ok (.enter 109 args) w:=enters_of Tryz.func109 (by kernel_rfl) rfl;have hH:Go.Sort.HoldsK nL 34 w g 0 (elsOf X Ad Cp N):=by
  intro j hj;rw[wv h.key]at hj⊢;have hl:=eA (Ad:=Ad) (Cp:=Cp) (fun i hi=>(h.key i hi).2);have hj':j<N*34:=by rw[<-hl];simpa using hj
  refine⟨?_,World.ownsRow.frozenAt h.own _⟩;rw[World.ownsRow.cellAt h.own _ (by rw[Nat.zero_add];exact hj'),Nat.zero_add,getElem!_pos _ j hj];simp only[id,List.getElem_toArray];rw[List.getElem?_eq_getElem]
 have hgl:=(h.own.lt g rfl).2;have hcon:=AnyQ.slices_SortFunc EJ 34 Tryz.isAgg39 Tryz.sizeOf39 nL nn Ch C4 FB 109 #[] g 0 c (elsOf X Ad Cp N) w eg (Ea g 0 _ w) hH hgl (by rw[dp];exact hN);change Calls Tryz.prog 108 _ _ _ at hcon;rw[dp]at hcon;refine hcon.mono ?_;rintro e w'⟨rfl,d',n,os,hp,hs,rfl⟩;exact⟨rfl,AX h (by rw[dp];exact hp) (by rw[dp];exact hs)⟩
end
end Go.Proofs.YtfnlhfaihoojfaaGreatDoor
