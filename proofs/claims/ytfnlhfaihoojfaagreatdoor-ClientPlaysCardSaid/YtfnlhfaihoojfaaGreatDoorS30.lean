/- Texts of the proof of ledgerlaw13.ClientPlays, part 30; no condition of its own. -/
import Derived.Test.YtfnlhfaihoojfaaGreatDoorS16
set_option maxRecDepth 100000
set_option maxHeartbeats 4000000
namespace Go.Proofs.YtfnlhfaihoojfaaGreatDoor
open Go.RowKit
structure Rws(w:World)(base:Nat)(v:Value)(ys:List Value)(zf:Nat->List Nat):Prop where
 row:w.ownsRow base 36 1 v ys.length ys
 own:∀(i:Nat)(y:Value),ys[i]?=some y->bn w base y (zf i)
 apart:∀(i:Nat)(y:Value),ys[i]?=some y->cM v y
def rJ(v:Value)(ys:List Value)(B:Nat):Prop:=v.ownBlock=some B∨∃(i:Nat)(y:Value),ys[i]?=some y/\y.ownBlock=some B
section
variable{w w':World}{base:Nat}{v v':Value}{ys:List Value}{zf:Nat->List Nat}{V:Nat->Prop}
theorem Rws.touch(h:Rws w base v ys zf)(ht:ae V w w')(hn:∀B,V B->¬rJ v ys B):Rws w' base v ys zf:=⟨ht.row h.row fun B hB hv=>hn B hv (.inl hB),fun i y hy=>ht.own (h.own i y hy) fun B hB hv=>hn B hv (.inr ⟨i,y,hy,hB⟩),h.apart⟩
theorem Rws.below(h:Rws w base v ys zf)(hb:Below w.heap.size w w'):Rws w' base v ys zf:=h.touch (ae.ofBelow hb) fun _ h=>h.elim
theorem Rws.lt(h:Rws w base v ys zf):∀B,rJ v ys B->base<=B/\B<w.heap.size:=fun B hB=>by
 rcases hB with hB|⟨i,y,hy,hB⟩
 ·exact di h.row hB
 ·exact(h.own i y hy).lt B hB
theorem Rws.push{y:Value}(h:Rws w base v ys zf)(hy:bn w base y (zf ys.length))(hn:cM v y)(hr:w'.ownsRow base 36 1 v' (ys++[y]).length (ys++[y]))(hg:w.grownBy w' v.ownBlock)(hl:iT w v v'):Rws w' base v' (ys++[y]) zf:=by
 have new:∀(i:Nat)(z:Value),(ys++[y])[i]?=some z->ys[i]?=some z∨i=ys.length/\z=y:=fun i z hz=>by
  rcases Nat.lt_or_ge i ys.length with h1|h1
  ·rw[List.getElem?_append_left h1]at hz;exact .inl hz
  ·rw[List.getElem?_append_right h1]at hz;rcases hi:i-ys.length with _|m
   ·rw[hi]at hz;exact .inr ⟨by omega,by simpa using hz.symm⟩
   ·rw[hi]at hz;simp at hz
 refine⟨hr,fun i z hz=>?_,fun i z hz=>?_⟩
 ·rcases new i z hz with hz|⟨rfl,rfl⟩
  ·exact(ae.grown hg).own (h.own i z hz) fun B hB e=>h.apart i z hz B e.symm hB
  ·exact(ae.grown hg).own hy fun B hB e=>hn B e.symm hB
 ·rcases new i z hz with hz|⟨rfl,rfl⟩
  ·exact da (h.apart i z hz) hl fun B hB=>((h.own i z hz).lt B hB).2
  ·exact da hn hl fun B hB=>(hy.lt B hB).2
theorem rJ.push{y:Value}(hl:iT w v v'):∀B,rJ v' (ys++[y]) B->rJ v ys B∨y.ownBlock=some B∨w.heap.size<=B:=fun B hB=>by
 rcases hB with hB|⟨i,z,hz,hB⟩
 ·rcases hl B hB with h1|h1
  ·exact .inl (.inl h1)
  ·exact .inr (.inr h1)
 ·rcases Nat.lt_or_ge i ys.length with h1|h1
  ·rw[List.getElem?_append_left h1]at hz;exact .inl (.inr ⟨i,z,hz,hB⟩)
  ·rw[List.getElem?_append_right h1]at hz;rcases hi:i-ys.length with _|m
   ·rw[hi]at hz;have:z=y:=by simpa using hz.symm
    exact .inr (.inl (this▸hB))
   ·rw[hi]at hz;simp at hz
end
theorem mK{w:World}{base size n B:Nat}{e t:TypeId}{v:Value}{xs:List Value}{cs:Array Value}(h:w.ownsRow base e size v n xs)(hb:ab w B t cs)(hne:e≠t):v.ownBlock≠some B:=fun hv=>by
 rcases h.2with⟨rfl,_⟩|⟨g,cap,cur,rfl,_,h2,_⟩
 ·cases hv
 ·have hg:g=B:=by injection hv
  subst hg;have h3:w.heap[g]?=some (.cells cs t (0,0)):=hb;rw[h3]at h2;injection h2 with h2;injection h2 with _ h2;exact hne h2.symm
theorem Rws.not{w:World}{base B:Nat}{v:Value}{ys:List Value}{zf:Nat->List Nat}{t:TypeId}{cs:Array Value}(h:Rws w base v ys zf)(hb:ab w B t cs)(h1:36≠t)(h2:5≠t):¬rJ v ys B:=fun hu=>by
 rcases hu with hu|⟨i,y,hy,hu⟩
 ·exact mK h.row hb h1 hu
 ·exact mK (h.own i y hy).1 hb h2 hu
section
variable{P:Program}
theorem nH{t e:TypeId}(ht:P.underlying t=some (.slice e))(hinfo:(P.info? e).map (fun i=>(i.zero,i.size,i.bytes))=some (some (.slice none 0 0),1,24)){ops:Array Oper}{Q:Exit->Act->World->Prop}{K:Act->World->Prop}{o:Oper}{a:Act}(hw:Region.wanted o (yielded ops a.tmps)=true)(w:World)(s x:Operand)(ho:o.op= .call {callee:= .builtin .append,args:=#[s,x],argTypes:=#[t,t]})(base:Nat)(v:Value)(xs:List Value)(hown:w.ownsRow base e 1 v xs.length xs)(y:Value)(hy:y.oneCell'=true)(hs:a.eval s=v)(k:Nat)(hk:k=w.heap.size)(hx:a.eval x= .slice (some ⟨k,0,none⟩) 1 1)(hlen:xs.length+1<=1073741825)(hbase:base<=w.heap.size)(h:∀v' w',w'.ownsRow base e 1 v' (xs++[y]).length (xs++[y])->w.grownBy w' v.ownBlock->iT w v v'->K (a.put o.dst v') w'):if Region.wanted o (yielded ops a.tmps)=true then o.wp P a (w.alloc (.cells #[y] e)) K Q else K (a.put o.dst undef) (w.alloc (.cells #[y] e)):=by
 subst hk;obtain⟨i,hi,hz0,hz1,hz2⟩:=info_parts hinfo;have hnews:∀(q:Nat)(u:Value),[y][q]?=some u->(w.alloc (.cells #[y] e)).cell? ((⟨w.heap.size,0,none⟩:Addr).add q)=some u:=fun q u hq=>by
  rw[add_lit,Nat.zero_add,ab.cell (ab.new w e #[y])];simpa using hq
 obtain⟨v',w',hrun,q1,q2,_,q4⟩:=run_append_own_at (P:=P) (w.alloc (.cells #[y] e)) base t o.type e i (.slice none 0 0) 1 24 ht hi hz0 hz1 hz2 rfl (by decide) v xs.length xs (hown.alloc _) ⟨w.heap.size,0,none⟩ 1 1 [y] (by simp) hnews (by simpa using hy) (by unfold maxLen;omega) (by omega) (by simp;omega);rw[if_pos hw];unfold Oper.wp execOp;simp only[ho,resolve,invoke,builtin,Sem.run_bind,Sem.run_pure,Result.andThen_ok,List.map_toArray,List.map_cons,List.map_nil,hs,hx,hrun];refine h v' w' (by rw[List.length_append];exact q1) (aE (World.grownBy_alloc _ _ _) q2) ?_;intro k hk;rcases q4 with h4|h4
 ·rw[h4]at hk;exact .inl hk
 ·rw[h4]at hk;injection hk with hk;simp at hk;exact .inr (by omega)
end
def TxJ(base B1 B4 g:Nat)(zf:Nat->List Nat)(h:Nat)(U:Nat->Prop)(w:World):Prop:=∃v ys,ab w B4 24 #[v]/\ab w B1 60 #[.pointer (some ⟨g,0,none⟩)]/\Rws w base v ys zf/\ys.length=h+1/\base<=B1/\base<=B4/\∀B,U B↔(B=B4∨B=B1∨rJ v ys B)
section
variable{base B1 B4 g h:Nat}{zf:Nat->List Nat}{U V:Nat->Prop}{w w':World}
theorem TxJ.lt(hj:TxJ base B1 B4 g zf h U w):∀B,U B->B<w.heap.size:=fun B hB=>by
 obtain⟨v,ys,h1,h2,h3,_,_,_,h4⟩:=hj;rcases(h4 B).1 hB with rfl|rfl|h5
 ·exact ab.lt h1
 ·exact ab.lt h2
 ·exact(h3.lt B h5).2
theorem TxJ.ge(hj:TxJ base B1 B4 g zf h U w):∀B,U B->base<=B:=fun B hB=>by
 obtain⟨v,ys,h1,h2,h3,_,h5,h6,h4⟩:=hj;rcases(h4 B).1 hB with rfl|rfl|h7
 ·exact h6
 ·exact h5
 ·exact(h3.lt B h7).1
theorem TxJ.keep(hj:TxJ base B1 B4 g zf h U w)(ht:ae V w w')(hn:∀B,V B->¬U B):TxJ base B1 B4 g zf h U w':=by
 obtain⟨v,ys,h1,h2,h3,h5,h6,h7,h4⟩:=hj;exact⟨v,ys,ht.blk h1 fun hv=>hn _ hv ((h4 _).2 (.inl rfl)),ht.blk h2 fun hv=>hn _ hv ((h4 _).2 (.inr (.inl rfl))),h3.touch ht fun B hB hu=>hn B hB ((h4 B).2 (.inr (.inr hu))),h5,h6,h7,h4⟩
end
theorem uY(wd:Int)(k:List Nat)(h:Nat)(d n:List Nat):aU wd (aI k h d n).1 (aI k h d n).2=upT wd k h d n:=rfl
theorem uO(base B1 B4 g:Nat)(zf:Nat->List Nat)(c:Ck)(p:Pr)(h:Nat)(U:Nat->Prop)(b:Value)(w:World)(d n:List Nat)(hh:h<256)(hd:IsB d)(hdl:d.length=32)(hn:IsB n)(hnl:n.length=32)(hz:zf (h+1)=upT c.wd c.key h d n)(hj:TxJ base B1 B4 g zf h U w)(hr:aX w g (c.blanked b) p)(hf:Far U g (c.blanked b)):Calls Tryz.prog 97 #[.int .i64 h, .agg (bvs d).toArray, .agg (bvs n).toArray, .pointer (some ⟨B1,0,none⟩), .pointer (some ⟨B4,0,none⟩)] w (EB g c p (TxJ base B1 B4 g zf) h U b w):=by
 have X:=aa (And.intro hdl hd);have Y:=aa (And.intro hnl hn);have HZ:=aa hz;have HJ:=aa hj;have u:=aa hr;have Z:=aa hf;have a:Hd (c.key.length=32/\IsB c.key):=⟨hr.ok.kl,hr.ok.kB⟩;have E:=aa (fu (k:=c.key) (h:=h) hd hdl hn hnl);clear hd hdl hn hnl hz hj hr hf;go_enter Tryz.func97,Tryz.ntmps97;go_upto_region 1with fail;refine bV (G:=fun w2=>Code.wp _ _ _ _ w2) fun w2 x z f HS=>?_;have HC:Hd (ar w2 w.heap.size 34 d):=x;have HE:Hd (ar w2 (w.heap.size+1) 34 n):=z;have J:Hd (aX w2 g (c.blanked b) p):=u.o.below f.o;have L:Hd (TxJ base B1 B4 g zf h U w2):=HJ.o.keep (ae.ofBelow f.o) fun _ h=>h.elim;clear x z;go_cut[8,9]from 10(fun s8 s9 wx=>∃a1 a2:Nat,s8= .pointer (some ⟨a1,0,none⟩)/\s9= .pointer (some ⟨a2,0,none⟩)/\Hd (w2.heap.size<=a1/\w2.heap.size<=a2)/\Hd (Below w2.heap.size w2 wx)/\Hd (ar wx a1 34 (aI c.key h d n).1)/\Hd (ar wx a2 34 (aI c.key h d n).2))
 case first=>
  have hu:=bE;have hszp:(Tryz.prog.info? 34).map (·.size)=some (bvs d).length:=by rw[ag];simp[bvs,X.o.1]
  have hszn:(Tryz.prog.info? 34).map (·.size)=some (bvs n).length:=by rw[ag];simp[bvs,Y.o.1]
  have huk:=bW;have hszk:(Tryz.prog.info? 37).map (·.size)=some (bvs c.key).length:=by rw[aB];simp[bvs,a.o.1]
  have hrk:w2.rangeAt g 1 (bvs c.key):=by
   have h:ab w2 g _ (c.blanked b).C.toArray:=J.o.ck;rw[Ck.byKey]at h;exact h.rangeOf rfl
  have hc1:w2.cell? ⟨B1,0,none⟩=some (.pointer (some ⟨g,0,none⟩))/\B1<w2.heap.size:=by
   obtain⟨v,ys,_,h2,_⟩:=L.o;exact⟨ab.cell h2 0,ab.lt h2⟩
  have F:Hd (∀wx,Below w2.heap.size w2 wx->wx.cell? ⟨B1,0,none⟩=some (.pointer (some ⟨g,0,none⟩))/\wx.rangeAt g 1 (bvs c.key)/\wx.rangeAt w.heap.size 0 (bvs d)/\wx.rangeAt (w.heap.size+1) 0 (bvs n)):=fun wx hb=>⟨(hb.cell (p:=⟨B1,0,none⟩) hc1.2).trans hc1.1,fun j v hj=>(hb.cell (p:=⟨g,1+j,none⟩) J.o.ck.lt).trans (hrk j v hj),ab.range (ab.below HC.o hb),ab.range (ab.below HE.o hb)⟩;clear hrk hc1;refine wp_region_held_drew (S:=fun w'=>w'.cell? ⟨B1,0,none⟩=some (.pointer (some ⟨g,0,none⟩))/\w'.rangeAt g 1 (bvs c.key)/\w'.rangeAt w.heap.size 0 (bvs d)/\w'.rangeAt (w.heap.size+1) 0 (bvs n)) (by kernel_rfl) (F.o _ (af (Below.refl _ _) 1)) fun hH=>?_;have M:Hd (Below w2.heap.size w2 w2.drew):=af (Below.refl _ _) 1;generalize w2.drew=w2d at*;refine tka 0 ?_;refine tka 1 ?_;refine tka 2 ?_;refine tkl 3 ?_;refine tka 4 ?_;refine tkl 5 ?_;refine tkl 6 ?_;clear hu hszp hszn huk hszk;refine i9 7 18 10 19 20 8 9 w2 _ _ E.o.2.1 E.o.2.2.2 M.o F.o (fun V w' A hb hA K hK=>?_) (fun V g1 g2 w' A hA e1 e2 hg hb h1 h2=>?_)
  ·simp only[fH,Act.put,LS]at hA;subst hA;go_simp;go_at_call 48;refine(mS c.key d n h w' a.o.2 a.o.1 X.o.2 X.o.1 Y.o.2 Y.o.1 hh).mono ?_;rintro e y⟨rfl,hb1⟩;exact hK.out _ hb1
  ·simp only[fH,Act.put,LS]at hA;subst hA;go_wp2_with fail;go_meet
   case rel=>exact⟨g1,g2,e1,e2,hg,hb,h1,h2⟩
 case rest=>
  obtain⟨a1,a2,rfl,rfl,HA,l,HG,HH⟩:=hcut;have N:Hd (aX wc g (c.blanked b) p):=J.o.below l.o;have HP:Hd (TxJ base B1 B4 g zf h U wc):=L.o.keep (ae.ofBelow l.o) fun _ h=>h.elim;have O:=aQ f l.o;have HI:Hd (∀B,U B->B<w2.heap.size):=L.o.lt;clear L J HC HE;obtain⟨v,ys,hb4,hb1,hrw,hyl,hg1,hg4,hU⟩:=HP.o;have H:=aa hb4;have P:=aa hb1;have I:=aa hrw;have m:=aa hyl;have Q:=aa hU;have R:=aa (And.intro hg1 hg4);clear hb4 hb1 hrw hyl hU hg1 hg4;obtain⟨va,vn,vc,hvf⟩:=db I.o.row;subst hvf;have hcw:=(bF (c:=c.blanked b) N.o.ck N.o.ok).1;rw[show(c.blanked b).wd=c.wd from rfl]at hcw;have F:Hd (∀wx,Below wc.heap.size wc wx->wx.cell? ⟨B4,0,none⟩=some (.slice va vn vc)/\wx.cell? ⟨B1,0,none⟩=some (.pointer (some ⟨g,0,none⟩))/\wx.cell? ⟨g,0,none⟩=some (.int .i64 c.wd)/\wx.rangeAt a1 0 (bvs (aI c.key h d n).1)/\wx.rangeAt a2 0 (bvs (aI c.key h d n).2)):=fun wx hb=>⟨ab.cell (ab.below H.o hb) 0,ab.cell (ab.below P.o hb) 0,(hb.cell (p:=⟨g,0,none⟩) N.o.ck.lt).trans hcw,ab.range (ab.below HG.o hb),ab.range (ab.below HH.o hb)⟩;clear hcw;go_upto_region 2with fail;have hu:=bE;have hsz1:(Tryz.prog.info? 34).map (·.size)=some (bvs (aI c.key h d n).1).length:=by rw[ag];simp[bvs,E.o.2.1]
  have hsz2:(Tryz.prog.info? 34).map (·.size)=some (bvs (aI c.key h d n).2).length:=by rw[ag];simp[bvs,E.o.2.2.2]
  refine bA (S:=fun w'=>w'.cell? ⟨B4,0,none⟩=some (.slice va vn vc)/\w'.cell? ⟨B1,0,none⟩=some (.pointer (some ⟨g,0,none⟩))/\w'.cell? ⟨g,0,none⟩=some (.int .i64 c.wd)/\w'.rangeAt a1 0 (bvs (aI c.key h d n).1)/\w'.rangeAt a2 0 (bvs (aI c.key h d n).2)) 10 (by kernel_rfl) (F.o _ (af (Below.refl _ _) 1)) fun hH=>?_;have M:Hd (Below wc.heap.size wc wc.drew):=af (Below.refl _ _) 1;generalize wc.drew=wd0 at*;refine tua 0 [9,10] ?_;refine tua 1 [2,3,4,7,8,9,10] ?_;refine tua 2 [3,4,7,8,9,10] ?_;refine tua 3 [4,7,8,9,10] ?_;refine tua 4 [7,8,9,10] ?_;refine tul 5 [7,8,9,10] ?_;refine tul 6 [7,8,9,10] ?_;clear hu hsz1 hsz2;refine rdu 7 fun K hK=>?_;go_simp;go_at_call 85;refine(jQ c.wd _ _ wd0 E.o.1 E.o.2.1 E.o.2.2.1 E.o.2.2.2).mono ?_;rintro e w3⟨V,rfl,ho,hb3⟩;have D:=aQ M hb3;rw[uY,<-HZ.o]at ho;have q:Hd (wc.heap.size<=wd0.heap.size):=M.o.size;obtain⟨Ay,cy,hv3,_⟩:=ho.form;subst hv3;have r:=aa ho;refine hK.out _ _ (fun _=>F.o _ D.o) ?_;clear hK hb3 ho hH;refine b9 (i:=8) (o:=⟨some 29,_,_,_,_,_⟩) (by kernel_rfl) rfl (fun K hK=>?_);go_simp;refine hK.out _ _ (fun _=>F.o _ (D.o.alloc D.o.size _)) ?_;clear hK;have HK:Hd (Rws w3 base (.slice va vn vc) ys zf):=I.o.below D.o;have HQ:Hd (bn w3 base (.slice Ay (zf (h+1)).length cy) (zf ys.length)):=by
   rw[m.o];exact r.o.mono (by have h1:=(I.o.lt);have h2:=R.o.2;have h3:=ab.lt H.o;have h4:=q.o;omega)
  have HT:Hd (cM (.slice va vn vc) (.slice Ay (zf (h+1)).length cy)):=fun B hB hB'=>by
   have h1:=(I.o.lt B (.inl hB)).2;have h2:=(r.o.lt B hB').1;have h3:=q.o;omega
  have HV:Hd (∀B,(Value.slice Ay (zf (h+1)).length cy).ownBlock=some B->w.heap.size<=B):=fun B hB=>by
   have h2:=(r.o.lt B hB).1;have h3:=q.o;have h4:=O.o.size;omega
  have hyl3:ys.length+1<=1073741825:=by rw[m.o];omega
  have hbs3:base<=w3.heap.size:=by have h1:=R.o.2;have h2:=ab.lt H.o;have h3:=D.o.size;omega
  refine b9 (i:=9) (o:=⟨some 30,_,_,_,_,_⟩) (by kernel_rfl) rfl (fun K hK=>?_);refine nH (t:=24) (e:=36) (o:=⟨some 30,_,_,_,_,_⟩) (by kernel_rfl) (by kernel_rfl) (by rfl) w3 (.tmp 21) (.tmp 29) rfl base (.slice va vn vc) ys HK.o.row (.slice Ay (zf (h+1)).length cy) rfl rfl w3.heap.size rfl rfl hyl3 hbs3 ?_;intro v4 w4 hr4 hg4 hl4;obtain⟨v4a,v4n,v4c,e4⟩:=db hr4;subst e4;have HL:Hd (Rws w4 base (.slice v4a v4n v4c) (ys++[.slice Ay (zf (h+1)).length cy]) zf):=HK.o.push HQ.o HT.o hr4 hg4 hl4;have HX:Hd (∀B,rJ (.slice v4a v4n v4c) (ys++[.slice Ay (zf (h+1)).length cy]) B->rJ (.slice va vn vc) ys B∨w.heap.size<=B):=fun B hB=>by
   rcases rJ.push hl4 B hB with h1|h1|h1
   ·exact .inl h1
   ·exact .inr (HV.o B h1)
   ·have h2:=D.o.size;have h3:=O.o.size;exact .inr (by omega)
  have hUv:∀B,some B=(Value.slice va vn vc).ownBlock->U B:=fun B hB=>(Q.o B).2 (.inr (.inr (.inl hB.symm)));have HM:Hd (ae U w3 w4):=(ae.grown hg4).mono fun B _ hB=>hUv B hB;have hn4:(Value.slice va vn vc).ownBlock≠some B4:=mK I.o.row H.o (by decide);have hn1:(Value.slice va vn vc).ownBlock≠some B1:=mK I.o.row P.o (by decide);have T:Hd (ab w4 B4 24 #[.slice va vn vc]):=(ae.grown hg4).blk (ab.below H.o D.o) fun e=>hn4 e.symm;have HO:Hd (ab w4 B1 60 #[.pointer (some ⟨g,0,none⟩)]):=(ae.grown hg4).blk (ab.below P.o D.o) fun e=>hn1 e.symm;have s:Hd (aX w4 g (c.blanked b) p):=(N.o.below D.o).far HM.o Z.o;have hr1:w4.rangeAt a1 0 (bvs (aI c.key h d n).1):=ab.range ((ae.grown hg4).blk (ab.below HG.o D.o) fun e=>by have h1:=HI.o _ (hUv _ e);have h2:=HA.o.1;omega);have hr2:w4.rangeAt a2 0 (bvs (aI c.key h d n).2):=ab.range ((ae.grown hg4).blk (ab.below HH.o D.o) fun e=>by have h1:=HI.o _ (hUv _ e);have h2:=HA.o.2;omega);have hc4:w4.cell? ⟨B4,0,none⟩=some (.slice va vn vc):=ab.cell T.o 0;have hf4:w4.frozen? ⟨B4,0,none⟩=false:=ab.frozen T.o 0;have hS4:w4.cell? ⟨B4,0,none⟩=some (.slice va vn vc)/\w4.cell? ⟨B1,0,none⟩=some (.pointer (some ⟨g,0,none⟩))/\w4.cell? ⟨g,0,none⟩=some (.int .i64 c.wd)/\w4.rangeAt a1 0 (bvs (aI c.key h d n).1)/\w4.rangeAt a2 0 (bvs (aI c.key h d n).2):=⟨hc4,ab.cell HO.o 0,(bF (c:=c.blanked b) s.o.ck s.o.ok).1,hr1,hr2⟩;refine hK.out _ _ (fun _=>hS4) ?_;clear hK hr1 hr2 hS4;have HY:Hd (ab (w4.setCell ⟨B4,0,none⟩ (.slice v4a v4n v4c)) B4 24 #[.slice v4a v4n v4c]):=ab.stored T.o 0 _;have W:Hd (ae (fun B=>B=B4) w4 (w4.setCell ⟨B4,0,none⟩ (.slice v4a v4n v4c))):=ae.one (ai _ _ _);refine rdu 10 fun K hK=>?_;go_simp;refine hK.out _ _ (fun h=>by cases h) ?_;refine co (by kernel_rfl) ?_ _;clear hK hc4 hf4;generalize w4.setCell ⟨B4,0,none⟩ (.slice v4a v4n v4c)=w5 at*;go_wp2_with fail;have hU4:U B4:=(Q.o B4).2 (.inl rfl);have hU1:U B1:=(Q.o B1).2 (.inr (.inl rfl));have ht35:ae U w3 w5:=HM.o.trans (W.o.mono fun B _ hB=>hB▸hU4);have hnu:mx w U (fun B=>B=B4∨B=B1∨rJ (.slice v4a v4n v4c) (ys++[.slice Ay (zf (h+1)).length cy]) B):=fun B hB=>by
   rcases hB with rfl|rfl|hB
   ·exact .inl hU4
   ·exact .inl hU1
   ·rcases HX.o B hB with h1|h1
    ·exact .inl ((Q.o B).2 (.inr (.inr h1)))
    ·exact .inr h1
  have hnt:∀B,B=B4->¬rJ (.slice v4a v4n v4c) (ys++[.slice Ay (zf (h+1)).length cy]) B:=fun B hB=>hB▸HL.o.not T.o (by decide) (by decide);have hb11:B1≠B4:=fun e=>by
   have h1:wc.heap[B4]?=_:=H.o;have h2:wc.heap[B1]?=_:=P.o;rw[e,h1]at h2;injection h2 with h2;injection h2 with _ h2;revert h2;decide
  have htw:ae U w w5:=(((ae.ofBelow (O.o.trans (D.o.mono O.o.size))).mono fun _ _ h=>h.elim)).trans ht35;exact bodyPost_end (results_none rfl _ _ _) rfl ⟨rfl,fun B=>B=B4∨B=B1∨rJ (.slice v4a v4n v4c) (ys++[.slice Ay (zf (h+1)).length cy]) B,b,⟨.slice v4a v4n v4c,ys++[.slice Ay (zf (h+1)).length cy],HY.o,W.o.blk HO.o hb11,HL.o.touch W.o hnt,by rw[List.length_append,m.o];rfl,R.o.1,R.o.2,fun B=>Iff.rfl⟩,s.o.far W.o (Z.o.mono fun B hB=>hB▸hU4), .inl rfl,htw.mono fun B _ h=> .inl h,hnu,Z.o.same u.o hnu⟩
theorem zg(base B1 B4 g:Nat)(c:Ck)(p:Pr):Eye 97 #[.pointer (some ⟨B1,0,none⟩), .pointer (some ⟨B4,0,none⟩)] g c p (bd c.wd c.key (aZ c.wd (bQ c.key p.found p.val)) (av c.wd p)) (TxJ base B1 B4 g (cY c.wd c.key p))where
 enters:=fN Tryz.func97 (by kernel_rfl) (by kernel_rfl)
 lt:=fun h B hB=>h.lt B hB
 keep:=fun h ht hn=>h.keep ht hn
 call:=fun h U b w hh hj hr hf=>by
  have h1:=dy c.wd c.key (av c.wd p) (aw c.wd (bQ c.key p.found p.val)) (aY c.wd (bQ c.key p.found p.val)) h;have h2:=aG (w:=c.wd) hr.pok hh;exact uO base B1 B4 g (cY c.wd c.key p) c p h U b w _ _ hh h1.2 h1.1 h2.2 h2.1 rfl hj hr hf
theorem tP{w:World}{g:Nat}{y:Value}{t:TypeId}(h:ab w g t #[y]):w.ownsRow g t 1 (.slice (some ⟨g,0,none⟩) 1 1) 1 [y]:=⟨rfl, .inr ⟨g,1,#[y],rfl,Nat.le_refl _,h,Nat.le_refl _,by simp[maxLen],rfl,rfl⟩⟩
theorem mz.below{w w':World}{v:Value}{xs:List Nat}(h:mz w v xs)(hb:Below w.heap.size w w'):mz w' v xs:=by
 obtain⟨A,n,k,h1,h2,h3⟩:=h;exact⟨A,n,k,h1,h2.below hb,h3⟩
def Fn(g:Nat)(c:Ck)(p:Pr)(w:World)(e:Ending)(w':World):Prop:=∃V ys b,e= .returned V/\Rws w' w.heap.size V ys (cY c.wd c.key p)/\ys.length=257/\aX w' g (c.blanked b) p/\me w c.blank b/\ae (fun B=>B=g) w w'
theorem qh(g:Nat)(c:Ck)(p:Pr)(w:World)(hr:aX w g c p)(hv:mz w c.v p.val):Calls Tryz.prog 64 #[.pointer (some ⟨g,0,none⟩)] w (Fn g c p w):=by
 have Y:=aa hr;have Z:=aa hv;clear hr hv;go_enter Tryz.func64,Tryz.ntmps64;go_wp2_with(with_reducible refine atS 5 ?_);refine bh (G:=fun w2=>Hd (wpList _ _ _ _ _ w2)) fun w2 E L HS=>?_;have a:Hd (ab w2 w.heap.size 60 #[.pointer (some ⟨g,0,none⟩)]):=E;have b:Hd (aX w2 g c p):=Y.o.below L.o;clear E;refine aa ?_;go_wp2_with(with_reducible refine atS 6 ?_);refine bh (G:=fun w3=>Hd (wpList _ _ _ _ _ w3)) fun w3 E M HZ=>?_;have d:Hd (bn w3 w2.heap.size (.slice (some ⟨w2.heap.size,0,none⟩) 1 1) [2]):=⟨tP E.o,fun x hx=>by simp at hx;omega⟩;have F:Hd (ab w3 w.heap.size 60 #[.pointer (some ⟨g,0,none⟩)]):=ab.below a.o M.o;have D:Hd (aX w3 g c p):=b.o.below M.o;have N:=aQ L M.o;have HG:Hd (w.heap.size<=w2.heap.size):=L.o.size;clear E b a;obtain⟨_,_,cf,cv,_,_⟩:=bF D.o.ck D.o.ok;rw[<-D.o.found]at cf;have c1:=ab.cell F.o 0;refine aa ?_;go_upto_if 10with fail;clear cf c1;go_cut[3]from 5(fun s3 wx=>∃(A:Option Addr)(m k:Nat),s3= .slice A m k/\Hd (bn wx w.heap.size (.slice A m k) (bQ c.key p.found p.val))/\Hd (ab wx w.heap.size 60 #[.pointer (some ⟨g,0,none⟩)])/\Hd (Below w3.heap.size w3 wx)/\Hd (∀B,(Value.slice A m k).ownBlock=some B->w.heap.size<B))
 case first=>
  cases hfd:p.found with
  |false=>
   go_wp2_with fail;go_meet
   case rel=>exact⟨_,_,_,rfl,by rw[hfd];exact d.o.mono HG.o,F.o,Below.refl _ _,fun B hB=>by injection hB with hB;have:=HS.o;have h2:w2.heap.size=B:=hB;omega⟩
  |true=>
   have hfd2:c.f=true:=by rw[<-D.o.found,hfd]
   obtain⟨Av,nv,kv,hcv,hxv,hnv,hlv⟩:=Z.o;rw[hcv]at cv;have hxv3:RB w3 Av nv p.val:=hxv.below N.o;have HH:=aa hxv3;have HI:=aa hnv;have HJ:=aa hlv;have hrk:w3.rangeAt g 1 (bvs c.key):=by
    have h:ab w3 g _ c.C.toArray:=D.o.ck;rw[Ck.byKey]at h;exact h.rangeOf rfl
   have l:Hd (∀wx,Below w3.heap.size w3 wx->wx.cell? ⟨w.heap.size,0,none⟩=some (.pointer (some ⟨g,0,none⟩))/\wx.rangeAt g 1 (bvs c.key)/\wx.cell? ⟨g,67,none⟩=some (.slice Av nv kv)):=fun wx hb=>⟨ab.cell (ab.below F.o hb) 0,fun j v hj=>(hb.cell (p:=⟨g,1+j,none⟩) D.o.ck.lt).trans (hrk j v hj),(hb.cell (p:=⟨g,67,none⟩) D.o.ck.lt).trans cv⟩;have O:Hd (c.key.length=32/\IsB c.key):=⟨D.o.ok.kl,D.o.ok.kB⟩;clear hrk cv hcv hxv hnv hlv hxv3;go_upto_region 3with fail;have huk:=bW;have hszk:(Tryz.prog.info? 37).map (·.size)=some (bvs c.key).length:=by rw[aB];simp[bvs,O.o.1]
   refine wp_region_held_drew (S:=fun w'=>w'.cell? ⟨w.heap.size,0,none⟩=some (.pointer (some ⟨g,0,none⟩))/\w'.rangeAt g 1 (bvs c.key)/\w'.cell? ⟨g,67,none⟩=some (.slice Av nv kv)) (by kernel_rfl) (l.o _ (af (Below.refl _ _) 1)) fun hH=>?_;have P:Hd (Below w3.heap.size w3 w3.drew):=af (Below.refl _ _) 1;generalize w3.drew=w3d at*;refine tka 0 ?_;refine tka 1 ?_;refine tka 2 ?_;refine tkl 3 ?_;refine tka 4 ?_;refine tka 5 ?_;refine tka 6 ?_;refine tka 7 ?_;refine tka 8 ?_;clear huk hszk hH;refine rdy 9 fun K hK=>?_;go_simp;go_at_call 87;refine(l9 c.key Av nv kv p.val w3d O.o.2 O.o.1 (HH.o.below P.o) HI.o HJ.o).mono ?_;rintro e w4⟨V,rfl,ho4,hb4⟩;have Q:=aQ P hb4;have I:Hd (bn w4 w3d.heap.size V (en c.key p.val)):=ho4;have n:Hd (w3.heap.size<=w3d.heap.size):=P.o.size;obtain⟨A4,c4,hv4,_⟩:=ho4.form;subst hv4;refine hK.out _ _ (l.o _ Q.o) (fun hH=>?_);clear hK hb4 ho4;refine tka 10 ?_;refine bN ?_;go_wp2_with fail;go_meet
   case rel=>exact⟨_,_,_,rfl,by rw[hfd];exact I.o.mono (by have:=n.o;have:=N.o.size;omega),ab.below F.o Q.o,Q.o,fun B hB=>by have:=(I.o.lt B hB).1;have:=n.o;have:=F.o.lt;omega⟩
 case rest=>
  obtain⟨A0,m0,k0,rfl,R,T,U,HK⟩:=hcut;have q:Hd (aX wc g c p):=D.o.below U.o;have HL:=aQ N U.o;clear F D d;go_upto_region 5with fail;refine bV (G:=fun w2=>Code.wp _ _ _ _ w2) fun w4 E r J Ha=>?_;have s:Hd (ab w4 wc.heap.size 36 #[.slice A0 m0 k0]):=E;have t:Hd (ab w4 (wc.heap.size+1) 24 #[.slice (some ⟨wc.heap.size,0,none⟩) 1 1]):=r;have u:=aQ HL J.o;have z:Hd (ab w4 w.heap.size 60 #[.pointer (some ⟨g,0,none⟩)]):=ab.below T.o J.o;have HM:Hd (aX w4 g c p):=q.o.below J.o;have I:Hd (bn w4 w.heap.size (.slice A0 m0 k0) (bQ c.key p.found p.val)):=R.o.below J.o;have HA:Hd (w.heap.size<wc.heap.size):=T.o.lt;have HB:Hd (Rws w4 w.heap.size (.slice (some ⟨wc.heap.size,0,none⟩) 1 1) [.slice A0 m0 k0] (cY c.wd c.key p)):=by
   refine⟨gG (tP s.o) (Nat.le_of_lt HA.o),fun i y hy=>?_,fun i y hy B hB hy'=>?_⟩
   ·match i,hy with
    |0,hy=>
     obtain rfl:Value.slice A0 m0 k0=y:=by simpa using hy
     exact I.o
    |i+1,hy=>simp at hy
   ·match i,hy with
    |0,hy=>
     obtain rfl:Value.slice A0 m0 k0=y:=by simpa using hy
     injection hB with hB;have h1:wc.heap.size=B:=hB;have h2:=(R.o.lt B hy').2;omega
    |i+1,hy=>simp at hy
  have HC:Hd (TxJ w.heap.size w.heap.size (wc.heap.size+1) g (cY c.wd c.key p) 0 (fun B=>B=wc.heap.size+1∨B=w.heap.size∨rJ (.slice (some ⟨wc.heap.size,0,none⟩) 1 1) [.slice A0 m0 k0] B) w4):=⟨_,_,t.o,z.o,HB.o,rfl,Nat.le_refl _,by have:=HA.o;omega,fun B=>Iff.rfl⟩;have HN:Hd (Far (fun B=>B=wc.heap.size+1∨B=w.heap.size∨rJ (.slice (some ⟨wc.heap.size,0,none⟩) 1 1) [.slice A0 m0 k0] B) g c):=Y.o.farNew.mono fun B hB=>HC.o.ge B hB;clear E r s t R T U HK q I HB;have hc1:w4.cell? ⟨w.heap.size,0,none⟩=some (.pointer (some ⟨g,0,none⟩)):=ab.cell z.o 0;refine wp_region_held_drew (S:=fun w'=>w'.cell? ⟨w.heap.size,0,none⟩=some (.pointer (some ⟨g,0,none⟩))) (by kernel_rfl) hc1 fun hH=>?_;clear hc1;have W:Hd (Below w4.heap.size w4 w4.drew):=af (Below.refl _ _) 1;have H:Hd (aX w4.drew g c p):=HM.o.below W.o;have HD:=aa (HC.o.keep (ae.ofBelow W.o) fun _ h=>h.elim);have HE:Hd (Below w.heap.size w w4.drew):=u.o.trans (W.o.mono u.o.size);generalize w4.drew=w5 at*;refine tka 0 ?_;refine tka 1 ?_;refine tka 3 ?_;clear hH;refine rdy 2 fun K hK=>?_;go_simp;go_at_call 72;refine(jc g c p.val w5 H.o.ck H.o.ok (Z.o.below HE.o) H.o.tabs).mono ?_;rintro e w6⟨rfl,hb6⟩;rw[<-H.o.found];have HP:Hd (aX w6 g c p):=H.o.below hb6;have X:=aa (HD.o.keep (ae.ofBelow hb6) fun _ h=>h.elim);have HF:=aQ HE hb6;have hcell:w6.cell? ⟨w.heap.size,0,none⟩=some (.pointer (some ⟨g,0,none⟩)):=by
   obtain⟨_,_,_,h2,_⟩:=X.o;exact ab.cell h2 0
  refine hK.out _ _ hcell (fun hH=>?_);clear hK hb6 hcell H HD;refine rdy 4 fun K hK=>?_;go_simp;go_at_call 21;refine(fX 97 #[.pointer (some ⟨w.heap.size,0,none⟩), .pointer (some ⟨wc.heap.size+1,0,none⟩)] g c p (aZ c.wd (bQ c.key p.found p.val)) _ _ c.blank w6 (zg w.heap.size w.heap.size (wc.heap.size+1) g c p) X.o HP.o HN.o (aw _ _) (aY _ _)).mono ?_;rintro e w7⟨rfl,U7,b7,hj7,hr7,hnb7,ht7,hnu7,hf7⟩;have HQ:Hd (aX w7 g (c.blanked b7) p):=hr7;have HT:Hd (me w c.blank b7):=by
   rcases hnb7 with h1|⟨B',h1,h2⟩
   ·exact .inl h1
   ·exact .inr ⟨B',Nat.le_trans HF.o.size h1,h2⟩
  have HU:Hd (ae (fun B=>B=g) w w7):=((ae.ofBelow HF.o).mono fun _ _ h=>h.elim).andThen ht7 fun B hB h=>by
   rcases h with h|h
   ·have:=X.o.ge B h;omega
   ·exact h
  obtain⟨v7,ys7,q1,q2,q3,q4,_,_,_⟩:=hj7;obtain⟨v7a,v7n,v7c,e7⟩:=db q3.row;subst e7;have HX:=aa q3;have HY:=aa q4;have hc2:=ab.cell q2 0;have hc4:w7.cell? ⟨wc.heap.size+1,0,none⟩=some (.slice v7a v7n v7c):=ab.cell q1 0;refine hK.out _ _ hc2 (fun hH=>?_);clear hK hr7 hnb7 ht7 hnu7 hf7 q1 q2 q3 q4 hc2;refine bN ?_;go_wp2_with fail;go_ret;exact⟨_,ys7,b7,rfl,HX.o,HY.o,HQ.o,HT.o,HU.o⟩
end Go.Proofs.YtfnlhfaihoojfaaGreatDoor
