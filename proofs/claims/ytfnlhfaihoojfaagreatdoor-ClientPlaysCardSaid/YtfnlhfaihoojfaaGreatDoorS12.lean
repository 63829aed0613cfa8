/- Texts of the proof of ledgerlaw13.ClientPlays, part 12; no condition of its own. -/
import Derived.Test.YtfnlhfaihoojfaaGreatDoorS11
set_option maxRecDepth 100000
set_option maxHeartbeats 4000000
namespace Go.Proofs.YtfnlhfaihoojfaaGreatDoor
open Go.RowKit
def dS(wd:Int):Nat->List Nat
 |0=>[]
 |n+1=>dS wd n++ay wd n
theorem eB(wd:Int)(n:Nat):(dS wd n).length=32*n:=by
 induction n with
 |zero=>rfl
 |succ n ih=>rw[dS,List.length_append,ih,al];omega
theorem qO(wd:Int)(n:Nat):IsB (dS wd n):=by
 induction n with
 |zero=>exact IsB.nil
 |succ n ih=>exact ih.app (bu wd n)
theorem pC(wd:Int){h n:Nat}(hn:h<n):((dS wd n).drop (32*h)).take 32=ay wd h:=by
 induction n with
 |zero=>omega
 |succ n ih=>
  rw[dS];rcases Nat.lt_or_ge h n with h1|h1
  ·rw[List.drop_append_of_le_length (by rw[eB];omega),List.take_append_of_le_length (by rw[List.length_drop,eB];omega)];exact ih h1
  ·obtain rfl:h=n:=by omega
   rw[List.drop_left' (by rw[eB]),List.take_of_length_le (by rw[al];exact Nat.le_refl _)]
theorem qa{w:World}{g g':Nat}{t t':TypeId}{cs cs':Array Value}(h:ab w g t cs)(h':ab w g' t' cs')(ht:t≠t'):g≠g':=fun e=>by
 subst e;have h1:w.heap[g]?=some (.cells cs t):=h;have h2:w.heap[g]?=some (.cells cs' t'):=h';rw[h1]at h2;injection h2 with h2;injection h2 with _ h2;exact ht h2
def dw(w:World)(wd:Int)(b:Value):Prop:=b= .slice none 0 0∨∃B,b= .slice (some ⟨B,0,none⟩) 256 256/\ar w B 34 (dS wd 256)
def Ck.blanked(c:Ck)(b:Value):Ck:={c with blank:=b}
theorem iv:Tryz.prog.underlying 27=some (.slice 34):=by kernel_rfl
theorem D9(ad:Addr)(n c:Nat)(w:World):(binOp .eql 27 (.slice (some ad) n c) (.slice none 0 0)).run Tryz.prog w= .ok (.bool false) w:=by
 rw[Lib.run_eql_slice_nil w 27 34 (some ad) n c 0 0 iv];rfl
theorem Cl(w:World):(binOp .eql 27 (.slice none 0 0) (.slice none 0 0)).run Tryz.prog w= .ok (.bool true) w:=by
 rw[Lib.run_eql_slice_nil w 27 34 none 0 0 0 0 iv];rfl
def me(w:World)(b b':Value):Prop:=b'=b∨∃B,w.heap.size<=B/\b'= .slice (some ⟨B,0,none⟩) 256 256
def Dw(g:Nat)(c:Ck)(h:Nat)(w:World)(e:Ending)(w':World):Prop:=e= .returned (.agg (bvs (ay c.wd h)).toArray)/\∃b,fx w' g (c.blanked b)/\dw w' c.wd b/\ae (fun B=>B=g) w w'/\me w c.blank b
theorem zT(g:Nat)(c:Ck)(h B:Nat)(w:World)(hi:fx w g c)(hc:c.Ok)(hb:c.blank= .slice (some ⟨B,0,none⟩) 256 256)(hB:ar w B 34 (dS c.wd 256))(hh:h<256):Calls Tryz.prog 46 #[.pointer (some ⟨g,0,none⟩), .int .i64 h] w (Dw g c h w):=by
 have H:=aa hi;have I:=aa hc;have J:=aa hB;have C:=aa hb;have K:Hd (g<w.heap.size):=hi.lt;have L:Hd (B<w.heap.size):=ab.lt hB;have hnn:=D9 ⟨B,0,none⟩ 256 256;clear hi hc hb hB;go_enter Tryz.func46,Tryz.ntmps46;go_wp2_with(with_reducible refine atS 10 ?_);refine bh (G:=fun w2=>Hd (wpList _ _ _ _ _ w2)) fun w2 D A O=>?_;have M:Hd (ar w2 w.heap.size 34 (zs 32)):=D;clear D;have E:Hd (fx w2 g c):=ab.below H.o A.o;have F:=dA J A.o;obtain⟨_,_,_,_,_,cb⟩:=bF E.o I.o;rw[C.o]at cb;have N:Hd (RB w2 (some ⟨B,h*32,none⟩) 32 (ay c.wd h)):=by
  have h1:=(F.o.whole (qO _ _) (eB _ _)).drop (k:=32*h) (B:=some ⟨B,h*32,none⟩) (by omega) (fun _=>by
   show _=some (Addr.add ⟨B,0,none⟩ (32*h));rw[add_lit,Nat.zero_add,Nat.mul_comm]);have h2:=h1.take (k:=32) (by omega);rwa[pC _ hh]at h2
 refine aa ?_;go_wp2_with(first|(refine ac (o:=⟨some 50,_,_,_,_,_⟩) (by rfl) 34 (.tmp 49) rfl ⟨B,h*32,none⟩ 32 (ay c.wd h) rfl N.o (by omega) (by kernel_rfl) (by kernel_rfl) ?_)|(refine aq (o:=⟨none,_,_,_,_,_⟩) (by rfl) 34 (.tmp 4) (.tmp 50) rfl 0 [] (bvs (zs 32)) (bvs (ay c.wd h)) [] rfl rfl (bj M.o) rfl (by simp[bvs,zs,al]) (by rw[ag];simp[bvs,al]) (fun u hu=>ah _ u hu) ?_;intro w3 h3 g3));have ht:ae (fun B=>B=w.heap.size) w2 w3:=ae.one g3;have ht2:ae (fun B=>B=g) w w3:=((ae.ofBelow A.o).mono fun _ _ h=>h.elim).andThen ht fun B hB e=>by omega
 exact bH rfl rfl (aN h3) (al _ _) aF ag rfl ⟨rfl,c.blank,ht.blk E.o (by have:=K.o;omega), .inr ⟨B,C.o,ht.blk F.o (by have:=L.o;omega)⟩,ht2, .inl rfl⟩
theorem EO(a b:Nat):zs a++zs b=zs (a+b):=by simp[zs,List.replicate_append_replicate]
theorem ip(xs ys:List Nat):bvs (xs++ys)=bvs xs++bvs ys:=by simp[bvs]
theorem eY.lt{w:World}(h:eY w):2<w.heap.size/\3<w.heap.size:=⟨h.begin_.1,h.round_.1⟩
theorem Fl(n:Nat):madeCells (gZ 32) n=gZ n:=by
 apply Array.ext_getElem?;intro i;by_cases hi:i<n
 ·rw[xu hi];have e:(gZ 32)[i%32]! = .int .u8 0:=by rw[getElem!_def,xu (Nat.mod_lt _ (by omega))]
  have hs:(gZ 32).size=32:=by simp[gZ,bvs,zs]
  unfold madeCells;rw[Array.getElem?_map,Array.getElem?_eq_getElem (by simpa using hi),hs];simp[e]
 ·rw[Array.getElem?_eq_none (by simp[madeCells];omega),Array.getElem?_eq_none (by simp[gZ,bvs,zs];omega)]
theorem CL(g:Nat)(c:Ck)(h:Nat)(w:World)(hi:fx w g c)(hc:c.Ok)(hb:c.blank= .slice none 0 0)(hh:h<256)(ht:eY w)(hg1:g≠2)(hg2:g≠3):Calls Tryz.prog 46 #[.pointer (some ⟨g,0,none⟩), .int .i64 h] w (Dw g c h w):=by
 have v:=aa hi;have A:=aa hc;have x:=aa hb;have Z:=aa ht;have a:=aa (And.intro hg1 hg2);have J:Hd (g<w.heap.size):=hi.lt;have hnn:=Cl;obtain⟨cs,y,hmk⟩:∃cs:Array Value,Hd (cs=gZ 8192)/\∀w:World,(Instr.makeSlice 27 (.int .i64 256) (.int .i64 256)).run Tryz.prog w= .ok (.slice (some ⟨w.heap.size,0,none⟩) 256 256) (w.alloc (.cells cs 34)):=by
  have hinfo:(Tryz.prog.info? 34).map (fun i=>(i.zero,i.size,i.bytes))=some (some (.agg (gZ 32)),32,32):=by kernel_rfl
  obtain⟨i,hi,hz,hs1,hby⟩:=info_parts hinfo;refine⟨_,(Fl 8192),fun w=>?_⟩;have hr:=run_makeSlice (P:=Tryz.prog) (w:=w) 27 34 i (.agg (gZ 32)) iv hi hz .i64 .i64 256 256 (by omega) (by omega) (by rw[hs1];decide) (by rw[hby];decide) (by omega);rw[hs1]at hr;exact hr
 clear hi hc hb ht hg1 hg2;go_enter Tryz.func46,Tryz.ntmps46;go_wp2_with(with_reducible refine atS 10 ?_);refine bh (G:=fun w2=>Hd (wpList _ _ _ _ _ w2)) fun w2 f R z=>?_;have HA:Hd (ar w2 w.heap.size 34 (zs 32)):=f;clear f;have T:Hd (fx w2 g c):=ab.below v.o R.o;obtain⟨c0,_,_,_,_,cb⟩:=bF T.o A.o;rw[x.o]at cb;have cb':=World.cell?_alloc_some w2 ⟨g,133,none⟩ (.cells cs 34) (by rw[cb];rfl);rw[cb]at cb';have fb:(w2.alloc (.cells cs 34)).frozen? ⟨g,133,none⟩=false:=ab.frozen (ab.alloc T.o _) 133;refine aa ?_;go_wp2_with(with_reducible refine atS 19 ?_);have j:Hd (fx ((w2.alloc (.cells cs 34)).setCell ⟨g,133,none⟩ (.slice (some ⟨w2.heap.size,0,none⟩) 256 256)) g (c.blanked (.slice (some ⟨w2.heap.size,0,none⟩) 256 256))):=us (ab.alloc T.o _) A.o _;have HB:Hd (ar ((w2.alloc (.cells cs 34)).setCell ⟨g,133,none⟩ (.slice (some ⟨w2.heap.size,0,none⟩) 256 256)) w2.heap.size 34 (zs 8192)):=by
  have h1:ar (w2.alloc (.cells cs 34)) w2.heap.size 34 (zs 8192):=by rw[y.o];exact tv _ _ _
  exact ab.far h1 (by have:=T.o.lt;show _≠g;omega) _
 have HC:Hd (ar ((w2.alloc (.cells cs 34)).setCell ⟨g,133,none⟩ (.slice (some ⟨w2.heap.size,0,none⟩) 256 256)) w.heap.size 34 (zs 32)):=ab.far (ab.alloc HA.o _) (by have:=J.o;show _≠g;omega) _;have l:Hd (eY ((w2.alloc (.cells cs 34)).setCell ⟨g,133,none⟩ (.slice (some ⟨w2.heap.size,0,none⟩) 256 256))):=(((Z.o.below R.o)).below ((Below.refl _ _).alloc (Nat.le_refl _) _)).grown (ai _ 133 _) a.o.1 a.o.2;have HD:Hd (ae (fun B=>B=g) w ((w2.alloc (.cells cs 34)).setCell ⟨g,133,none⟩ (.slice (some ⟨w2.heap.size,0,none⟩) 256 256))):=((ae.ofBelow (R.o.alloc R.o.size _)).mono fun _ _ h=>h.elim).trans (ae.one (ai _ 133 _));have HF:Hd (((w2.alloc (.cells cs 34)).setCell ⟨g,133,none⟩ (.slice (some ⟨w2.heap.size,0,none⟩) 256 256)).heap.size=w2.heap.size+1):=by show _=_;simp
 have C:Hd (w2.heap.size=w.heap.size+1):=z.o;clear cb cb' fb c0 hmk hnn;generalize(w2.alloc (.cells cs 34)).setCell ⟨g,133,none⟩ (.slice (some ⟨w2.heap.size,0,none⟩) 256 256)=w3 at*;obtain⟨c0,_⟩:=bF j.o ⟨A.o.kl,A.o.kB,A.o.rl,A.o.rB,A.o.bl,A.o.bB,A.o.fl,A.o.fB⟩;refine aa ?_;go_wp2_with fail;refine(mY c.wd w3 l.o).mono ?_;rintro e w4⟨rfl,hb4⟩;have HG:=aa (ab.below j.o hb4);have HH:=dA HB hb4;have HJ:=dA HC hb4;have HK:Hd (eY w4):=l.o.below hb4;have HL:=aa (HD.o.trans ((ae.ofBelow hb4).mono fun _ _ h=>h.elim));have HM:Hd (w2.heap.size+1<=w4.heap.size):=by have h1:=HF.o;have h2:=hb4.size;show _<=_;omega
 clear hb4 c0;go_wp2_with(first|((with_reducible refine atS 5 ?_);refine aC (by rfl) 34 rfl _ _ aD ?_;intro w5 HN L Hg)|(refine aq (o:=⟨none,_,_,_,_,_⟩) (by rfl) 34 (.tmp 5) (.tmp 20) rfl 0 [] (bvs (zs 32)) (bvs (ay c.wd 0)) [] rfl rfl (bj HN.o) rfl (by simp[bvs,zs,al]) (by rw[ag];simp[bvs,al]) (fun u hu=>ah _ u hu) ?_;intro w6 h6 g6)|(with_reducible refine atS 24 ?_));have hSB:w2.heap.size<w4.heap.size:=by have:=HM.o;omega
 have hSG:g<w.heap.size:=J.o;have hS2:w2.heap.size=w.heap.size+1:=C.o;have m:Hd (fx w6 g (c.blanked (.slice (some ⟨w2.heap.size,0,none⟩) 256 256))):=(ae.one g6).blk (ab.below HG.o L.o) (by omega);have HO:Hd (ar w6 w2.heap.size 34 (zs 8192)):=(ae.one g6).blk (ab.below HH.o L.o) (by omega);have HP:Hd (ar w6 w.heap.size 34 (zs 32)):=(ae.one g6).blk (ab.below HJ.o L.o) (by omega);have HQ:Hd (ar w6 w4.heap.size 34 (ay c.wd 0)):=aN h6;have hbe:Below w4.heap.size w4 w6:=L.o.grown g6 L.o.size fun k hk=>by injection hk with hk;omega
 have HR:Hd (eY w6):=HK.o.below hbe;have HU:Hd (ae (fun B=>B=g) w w6):=HL.o.trans ((ae.ofBelow hbe).mono fun _ _ h=>h.elim);have E:Hd (Ck.Ok (c.blanked (.slice (some ⟨w2.heap.size,0,none⟩) 256 256))):=⟨A.o.kl,A.o.kB,A.o.rl,A.o.rB,A.o.bl,A.o.bB,A.o.fl,A.o.fB⟩;have HV:Hd ((c.blanked (.slice (some ⟨w2.heap.size,0,none⟩) 256 256)).wd=c.wd):=rfl;have U:Hd ((c.blanked (.slice (some ⟨w2.heap.size,0,none⟩) 256 256)).blank= .slice (some ⟨w2.heap.size,0,none⟩) 256 256):=rfl;clear g6 h6 hbe hS2;obtain⟨_,_,_,_,_,cb⟩:=bF m.o E.o;rw[U.o]at cb;refine aa ?_;go_wp2_with fail;clear cb;go_loopw[26](fun i wr=>∃k:Nat,k<=256/\i= .int .i64 k/\Hd (fx wr g (c.blanked (.slice (some ⟨w2.heap.size,0,none⟩) 256 256)))/\Hd (ar wr w2.heap.size 34 (dS c.wd k++zs (32*(256-k))))/\Hd (ar wr w.heap.size 34 (zs 32))/\Hd (ar wr w4.heap.size 34 (ay c.wd k))/\Hd (eY wr)/\Hd (ae (fun B=>B=g) w wr))(fun i _=>256-(intOf i).toNat)
 case atStart=>exact⟨0,by omega,rfl,m.o,HO.o,HP.o,HQ.o,HR.o,HU.o⟩
 case round=>
  obtain⟨k,hk,rfl,D,M,N,F,V,O⟩:=hrel;by_cases hlt:k<256
  ·have hlt':(k:Int)<256:=by omega
   have n:Hd (w4.heap.size<wr.heap.size):=F.o.lt;have Hh:Hd (g≠2/\g≠3):=a.o;obtain⟨wd0,_,_,_,_,cb⟩:=bF D.o E.o;rw[U.o]at cb;have HX:=aa wd0;have p:=aa cb;clear wd0 cb;go_wp2_with fail;rename_i K9 hK9 KK hKK;have q:=aa hKK;have r:=aa hK9;clear hKK hK9;have hu:=bE;have hsz:(Tryz.prog.info? 34).map (·.size)=some (bvs (ay c.wd k)).length:=by rw[ag];simp[bvs,al]
   refine wp_region_held_drew (S:=fun w'=>w'.cell? ⟨g,133,none⟩=some (.slice (some ⟨w2.heap.size,0,none⟩) 256 256)/\w'.rangeAt w4.heap.size 0 (bvs (ay c.wd k))) (by kernel_rfl) ⟨p.o,ab.range F.o⟩ fun hH=>?_;replace D:Hd (fx wr.drew g (c.blanked (.slice (some ⟨w2.heap.size,0,none⟩) 256 256))):=D.o;replace M:Hd (ar wr.drew w2.heap.size 34 (dS c.wd k++zs (32*(256-k)))):=M.o;replace N:Hd (ar wr.drew w.heap.size 34 (zs 32)):=N.o;replace F:Hd (ar wr.drew w4.heap.size 34 (ay c.wd k)):=F.o;replace V:Hd (eY wr.drew):=V.o.below (af (Below.refl _ _) 1);replace O:Hd (ae (fun B=>B=g) w wr.drew):=O.o.drewN 1;replace n:Hd (w4.heap.size<wr.drew.heap.size):=n.o;clear HX p;generalize wr.drew=w7 at*;refine tka 0 ?_;refine tka 1 ?_;refine tka 2 ?_;refine tka 3 ?_;refine tka 4 ?_;refine tkl 5 ?_;refine tka 6 ?_;have HY:=aa hH;clear hH;have s:Hd (dS c.wd k++zs (32*(256-k))=dS c.wd k++(zs 32++zs (32*(256-(k+1))))):=by
    show _=_;rw[EO,show 32+32*(256-(k+1))=32*(256-k)by omega]
   have hbin:ab w7 w2.heap.size 34 (bvs (dS c.wd k)++(bvs (zs 32)++bvs (zs (32*(256-(k+1)))))).toArray:=by
    have h1:ar w7 w2.heap.size 34 (dS c.wd k++zs (32*(256-k))):=M.o;rw[s.o]at h1;have h2:ab w7 w2.heap.size 34 (bvs (dS c.wd k++(zs 32++zs (32*(256-(k+1)))))).toArray:=h1;rwa[ip,ip]at h2
   refine rdy 7 fun K hK=>?_;refine aA (o:=⟨none,_,_,_,_,_⟩) (by rfl) 34 (.tmp 35) (.tmp 34) rfl (k*32) (bvs (dS c.wd k)) (bvs (zs 32)) (bvs (ay c.wd k)) (bvs (zs (32*(256-(k+1))))) rfl rfl hbin (by simp[bvs,eB];omega) (by simp[bvs,zs,al]) (by rw[ag];simp[bvs,al]) (fun u hu=>ah _ u hu) ?_;intro w8 hb8 hg8;have hgb:g≠w2.heap.size:=by have:=J.o;have:=C.o;omega
   have H:Hd (fx w8 g (c.blanked (.slice (some ⟨w2.heap.size,0,none⟩) 256 256))):=(ae.one hg8).blk D.o hgb;have W:Hd (ar w8 w2.heap.size 34 (dS c.wd (k+1)++zs (32*(256-(k+1))))):=by
    show ab _ _ _ (bvs (dS c.wd k++ay c.wd k++zs (32*(256-(k+1))))).toArray;rw[List.append_assoc,ip,ip];exact hb8
   have X:Hd (ar w8 w.heap.size 34 (zs 32)):=(ae.one hg8).blk N.o (by have:=C.o;omega);have I:Hd (ar w8 w4.heap.size 34 (ay c.wd k)):=(ae.one hg8).blk F.o (by omega);have htb:w2.heap.size≠2/\w2.heap.size≠3:=by
    have h1:=Z.o.lt;have:=C.o;omega
   have Q:Hd (eY w8):=V.o.grown hg8 htb.1 htb.2;have Y:Hd (ae (fun B=>B=g) w w8):=O.o.andThen (ae.one hg8) fun B hB e=>by have:=C.o;omega
   have hc8:w8.cell? ⟨g,133,none⟩=some (.slice (some ⟨w2.heap.size,0,none⟩) 256 256):=by
    obtain⟨_,_,_,_,_,cb⟩:=bF H.o E.o;rw[U.o]at cb;exact cb
   refine hK.out _ _ ⟨hc8,ab.range I.o⟩ (fun _=>?_);clear hK D M N F V O s hbin hb8 hg8 hgb htb hc8 HY;refine bN ?_;change KK _ _;refine q.o _ _ ?_;clear q;obtain⟨wd0,_⟩:=bF H.o E.o;rw[HV.o]at wd0;refine bA (S:=fun w'=>w'.cell? ⟨g,0,none⟩=some (.int .i64 c.wd)/\w'.rangeAt w4.heap.size 0 (bvs (ay c.wd k))) 7 (by kernel_rfl) ⟨wd0,ab.range I.o⟩ fun hH=>?_;clear wd0;replace H:Hd (fx w8.drew g (c.blanked (.slice (some ⟨w2.heap.size,0,none⟩) 256 256))):=H.o;replace W:Hd (ar w8.drew w2.heap.size 34 (dS c.wd (k+1)++zs (32*(256-(k+1))))):=W.o;replace X:Hd (ar w8.drew w.heap.size 34 (zs 32)):=X.o;replace I:Hd (ar w8.drew w4.heap.size 34 (ay c.wd k)):=I.o;replace Q:Hd (eY w8.drew):=Q.o.below (af (Below.refl _ _) 1);replace Y:Hd (ae (fun B=>B=g) w w8.drew):=Y.o.drewN 1;generalize w8.drew=w8 at*;refine tua 0 [1,2,3,6,7] ?_;refine tua 1 [2,3,6,7] ?_;refine tua 2 [3,6,7] ?_;refine tua 3 [6,7] ?_;refine tul 4 [6,7] ?_;refine tul 5 [6,7] ?_;clear hH hu hsz;refine rdu 6 fun K hK=>?_;go_simp;go_at_call 49;refine(jI c.wd (ay c.wd k) (ay c.wd k) w8 (bu _ _) (al _ _) (bu _ _) (al _ _) Q.o).mono ?_;rintro e w9⟨rfl,hb9⟩;have b:Hd (fx w9 g (c.blanked (.slice (some ⟨w2.heap.size,0,none⟩) 256 256))):=ab.below H.o hb9;have d:=dA I hb9;have hc9:w9.cell? ⟨g,0,none⟩=some (.int .i64 c.wd):=(bF b.o E.o).1;refine hK.out _ _ (fun _=>⟨hc9,ab.range d.o⟩) ?_;clear hK;refine b9 (i:=7) (o:=⟨none,_,_,_,_,_⟩) (by kernel_rfl) rfl (fun K hK=>?_);refine aA (o:=⟨none,_,_,_,_,_⟩) (by rfl) 34 (.tmp 5) (.tmp 42) rfl 0 [] (bvs (ay c.wd k)) (bvs (ay c.wd (k+1))) [] rfl rfl (bj d.o) rfl (by simp[bvs,al]) (by rw[ag];simp[bvs,al]) (fun u hu=>ah _ u hu) ?_;intro w10 h10 g10;have hwl:w4.heap.size≠w.heap.size/\w4.heap.size≠g/\w4.heap.size≠w2.heap.size:=by have:=J.o;have:=C.o;omega
   have htb:w4.heap.size≠2/\w4.heap.size≠3:=by
    have h1:=Z.o.lt;have:=C.o;omega
   refine hK.out _ _ (fun h=>by cases h) ?_;clear hK;refine co (by kernel_rfl) ?_ _;change K9 _ _;refine r.o _ _ ?_;have HZ:Hd (fx w10 g (c.blanked (.slice (some ⟨w2.heap.size,0,none⟩) 256 256))):=(ae.one g10).blk b.o (Ne.symm hwl.2.1);have Ha:Hd (ar w10 w2.heap.size 34 (dS c.wd (k+1)++zs (32*(256-(k+1))))):=(ae.one g10).blk (ab.below W.o hb9) (Ne.symm hwl.2.2);have Hb:Hd (ar w10 w.heap.size 34 (zs 32)):=(ae.one g10).blk (ab.below X.o hb9) (Ne.symm hwl.1);have Hc:Hd (ar w10 w4.heap.size 34 (ay c.wd (k+1))):=aN h10;have He:Hd (eY w10):=(Q.o.below hb9).grown g10 htb.1 htb.2;have Hf:Hd (ae (fun B=>B=g) w w10):=(Y.o.trans ((ae.ofBelow hb9).mono fun _ _ h=>h.elim)).andThen (ae.one g10) fun B hB e=>by have:=C.o;omega
   clear h10 g10 hwl htb hc9 hb9 H W X I Q Y b d r;go_wp2_with fail;go_roundw
   case rel=>exact⟨k+1,by omega,by go_num,HZ.o,Ha.o,Hb.o,Hc.o,He.o,Hf.o⟩
   case measure=>simp[intOf];omega
  ·have hk6:k=256:=by omega
   have hbr:ar wr w2.heap.size 34 (dS c.wd 256):=by
    have h1:=M.o;rw[hk6,show 32*(256-256)=0from rfl,show zs 0=[]from rfl,List.append_nil]at h1;exact h1
   have t:=aa hbr;have hlt':¬(k:Int)<256:=by omega
   clear hk6 hbr;obtain⟨_,_,_,_,_,cb⟩:=bF D.o E.o;rw[U.o]at cb;have HE:Hd (RB wr (some ⟨w2.heap.size,h*32,none⟩) 32 (ay c.wd h)):=by
    have h1:=(t.o.whole (qO _ _) (eB _ _)).drop (k:=32*h) (B:=some ⟨w2.heap.size,h*32,none⟩) (by omega) (fun _=>by
     show _=some (Addr.add ⟨w2.heap.size,0,none⟩ (32*h));rw[add_lit,Nat.zero_add,Nat.mul_comm]);have h2:=h1.take (k:=32) (by omega);rwa[pC _ hh]at h2
   go_wp2_with(first|(refine ac (o:=⟨some 50,_,_,_,_,_⟩) (by rfl) 34 (.tmp 49) rfl ⟨w2.heap.size,h*32,none⟩ 32 (ay c.wd h) rfl HE.o (by omega) (by kernel_rfl) (by kernel_rfl) ?_)|(refine aq (o:=⟨none,_,_,_,_,_⟩) (by rfl) 34 (.tmp 4) (.tmp 50) rfl 0 [] (bvs (zs 32)) (bvs (ay c.wd h)) [] rfl rfl (bj N.o) rfl (by simp[bvs,zs,al]) (by rw[ag];simp[bvs,al]) (fun u hu=>ah _ u hu) ?_;intro wf hf gf));have ht:ae (fun B=>B=w.heap.size) wr wf:=ae.one gf;have ht2:ae (fun B=>B=g) w wf:=O.o.andThen ht fun B hB e=>by omega
   exact bH rfl rfl (aN hf) (al _ _) aF ag rfl ⟨rfl, .slice (some ⟨w2.heap.size,0,none⟩) 256 256,ht.blk D.o (by have:=J.o;omega), .inr ⟨w2.heap.size,rfl,ht.blk t.o (by have:=C.o;omega)⟩,ht2, .inr ⟨w2.heap.size,by have:=C.o;omega,rfl⟩⟩
theorem CM(g:Nat)(c:Ck)(h:Nat)(w:World)(hi:fx w g c)(hc:c.Ok)(hb:dw w c.wd c.blank)(hh:h<256)(ht:eY w)(hg1:g≠2)(hg2:g≠3):Calls Tryz.prog 46 #[.pointer (some ⟨g,0,none⟩), .int .i64 h] w (Dw g c h w):=by
 rcases hb with hb|⟨B,hb,hB⟩
 ·exact CL g c h w hi hc hb hh ht hg1 hg2
 ·exact zT g c h B w hi hc hb hB hh
theorem jG{w w':World}{g o r:Nat}{v:Value}(hg:w.grownBy w' (some r))(hn:g≠r)(h:w.cell? ⟨g,o,none⟩=some v):w'.cell? ⟨g,o,none⟩=some v:=by
 rw[World.cell?_of_block (w:=w) (a:=⟨g,o,none⟩) (hg.block g (World.block_lt_of_cell? w ⟨g,o,none⟩ h) fun e=>by injection e with e;exact hn e)];exact h
def mz(w:World)(v:Value)(xs:List Nat):Prop:=∃A n k,v= .slice A n k/\RB w A n xs/\(A=none->k=0)/\n<=1073741824
theorem jc(g:Nat)(c:Ck)(xs:List Nat)(w:World)(hi:fx w g c)(hc:c.Ok)(hv:mz w c.v xs)(ht:eY w):Calls Tryz.prog 72 #[.pointer (some ⟨g,0,none⟩)] w fun e w'=>e= .returned (.agg (bvs (aZ c.wd (bQ c.key c.f xs))).toArray)/\Below w.heap.size w w':=by
 obtain⟨A,n,k,hv1,hx,hA,hn⟩:=hv;have T:=aa hi;have E:=aa hc;have U:=aa hv1;have V:=aa hx;have W:=aa hA;have X:=aa hn;have Y:=aa ht;have P:Hd (g<w.heap.size):=hi.lt;clear hi hc hv1 hx hA hn ht;go_enter Tryz.func72,Tryz.ntmps72;go_wp2_with(with_reducible refine atS 7 ?_);refine bh (G:=fun w2=>Hd (wpList _ _ _ _ _ w2)) fun w2 Q B L=>?_;have F:Hd (ar w2 w.heap.size 34 (zs 32)):=Q;clear Q;have R:Hd (fx w2 g c):=ab.below T.o B.o;have M:Hd (RB w2 A n xs):=V.o.below B.o;have H:Hd (eY w2):=Y.o.below B.o;obtain⟨c0,_,cf,cv,_,_⟩:=bF R.o E.o;rw[U.o]at cv;cases hf:c.f with
 |false=>
  rw[hf]at cf;have N:Hd (bQ c.key false xs=[2]):=rfl;clear cv;refine aa ?_;go_wp2_with fail;refine(mY c.wd w2 H.o).mono ?_;rintro e w3⟨rfl,hb3⟩;have O:=dA F hb3;have D:=aQ B hb3;clear hb3 c0 cf;go_wp2_with(refine aq (o:=⟨none,_,_,_,_,_⟩) (by rfl) 34 (.tmp 2) (.tmp 26) rfl 0 [] (bvs (zs 32)) (bvs (ay c.wd 0)) [] rfl rfl (bj O.o) rfl (by simp[bvs,zs,al]) (by rw[ag];simp[bvs,al]) (fun u hu=>ah _ u hu) ?_;intro w4 h4 g4);exact bH rfl rfl (aN h4) (al _ _) aF ag rfl ⟨by rw[hf,N.o];rfl,D.o.grown g4 D.o.size fun k hk=>by injection hk with hk;omega⟩
 |true=>
  rw[hf]at cf;have N:Hd (bQ c.key true xs=en c.key xs):=rfl;refine aa ?_;go_wp2_with fail;rename_i KK hKK;have Z:=aa hKK;clear hKK;have hu:=bW;have hsz:(Tryz.prog.info? 37).map (·.size)=some (bvs c.key).length:=by rw[aB];simp[bvs,E.o.kl]
  have hrk:w2.rangeAt g 1 (bvs c.key):=by
   have h:ab w2 g _ c.C.toArray:=R.o;rw[c.byKey]at h;exact h.rangeOf rfl
  refine wp_region_held_drew (S:=fun w'=>w'.cell? ⟨g,0,none⟩=some (.int .i64 c.wd)/\w'.rangeAt g 1 (bvs c.key)/\w'.cell? ⟨g,67,none⟩=some (.slice A n k)) (by kernel_rfl) ⟨c0,hrk,cv⟩ fun hH=>?_;clear c0 hrk cv cf;replace F:Hd (ar w2.drew w.heap.size 34 (zs 32)):=F.o;replace M:Hd (RB w2.drew A n xs):=M.o.below (af (Below.refl _ _) 1);replace H:Hd (eY w2.drew):=H.o.below (af (Below.refl _ _) 1);replace B:Hd (Below w.heap.size w w2.drew):=af B.o 1;replace L:Hd (w2.drew.heap.size=w.heap.size+1):=L.o;generalize w2.drew=w2 at*;refine tka 0 ?_;refine tka 1 ?_;refine tka 2 ?_;refine tka 3 ?_;refine tka 4 ?_;refine tka 5 ?_;refine tka 6 ?_;refine tkl 7 ?_;refine tka 8 ?_;refine tka 9 ?_;refine tka 10 ?_;refine tka 11 ?_;refine tka 12 ?_;have I:=aa hH;clear hH hu hsz;refine rdy 13 fun K hK=>?_;go_simp;go_at_call 51;refine(tU c.wd c.key A n k xs w2 E.o.kB E.o.kl M.o W.o X.o H.o).mono ?_;rintro e w3⟨rfl,hb3⟩;have O:=dA F hb3;have D:=aQ B hb3;have hgl:g<w2.heap.size:=by have:=P.o;have:=L.o;omega
  have J:Hd (w3.cell? ⟨g,0,none⟩=some (.int .i64 c.wd)/\w3.rangeAt g 1 (bvs c.key)/\w3.cell? ⟨g,67,none⟩=some (.slice A n k)):=⟨(hb3.cell (p:=⟨g,0,none⟩) hgl).trans I.o.1,fun j v hj=>(hb3.cell (p:=⟨g,1+j,none⟩) hgl).trans (I.o.2.1 j v hj),(hb3.cell (p:=⟨g,67,none⟩) hgl).trans I.o.2.2⟩;refine hK.out _ _ J.o (fun _=>?_);clear hK hb3 hgl I;refine rdy 14 fun K hK=>?_;refine aA (o:=⟨none,_,_,_,_,_⟩) (by rfl) 34 (.tmp 2) (.tmp 21) rfl 0 [] (bvs (zs 32)) (bvs (aZ c.wd (en c.key xs))) [] rfl rfl (bj O.o) rfl (by simp[bvs,zs,aw]) (by rw[ag];simp[bvs,aw]) (fun u hu=>ah _ u hu) ?_;intro w4 h4 g4;have hgn:g≠w.heap.size:=by have:=P.o;omega
  refine hK.out _ _ ⟨(jG g4 hgn J.o.1),bw J.o.2.1 g4 hgn,(jG g4 hgn J.o.2.2)⟩ (fun _=>?_);clear hK;refine bN ?_;change KK _ _;refine Z.o _ _ ?_;go_wp2_with fail;exact bH rfl rfl (aN h4) (aw _ _) aF ag rfl ⟨by rw[hf,N.o],D.o.grown g4 D.o.size fun k hk=>by injection hk with hk;omega⟩
end Go.Proofs.YtfnlhfaihoojfaaGreatDoor
