/- TopErrorPrefix, part 15 of 41; no condition. (Printed from the session's own texts: what is not used left out, spaces spared.) -/
import Derived.Test.YtfnimdhghglanaaGreatQeAB
import Derived.Test.YtfnimdhghglanaaGreatQeAN
set_option maxRecDepth 100000
set_option maxHeartbeats 8000000
set_option linter.unusedVariables false
set_option linter.unusedSimpArgs false
section
namespace Go.Proofs.YtfnimdhghglanaaGreat.Hand
open Go.RowKit Go.Shelf Go.Proofs.YtfnimdhghglanaaGreatW.PrintWords Go.Proofs.YtfnimdhghglanaaGreatW.PrintLast Go.Proofs.YtfnimdhghglanaaGreatW.PrintMore
attribute [local go_sem] max2_int min2_int max_two min_two max_three min_three max_four min_four
def Still (b:Nat) (w w':World):Prop:=(w.heap.size≤w'.heap.size∧∀(k:Nat) (es:Array MapEntry) (n:Nat),w.heap[k]?=some (.map es n)→w'.heap[k]?=w.heap[k]?)∧∀(k:Nat) (cells:Array Value) (t:TypeId),w.heap[k]?=some (.cells cells t (0,0))→k≠b→t≠114→t≠49→t≠35→w'.heap[k]?=w.heap[k]?
theorem Still.of_below {b:Nat} {w w':World} (h:Below w.heap.size w w'):Still b w w':=⟨⟨h.size,fun k es n hk=>h.block k (blk_lt hk)⟩,fun k cells t hk _ _ _ _=>h.block k (blk_lt hk)⟩
theorem Still.trans {b:Nat} {w w' w2:World} (h:Still b w w') (k:Still b w' w2):Still b w w2:=⟨⟨Nat.le_trans h.1.1 k.1.1,fun j es n hj=>(k.1.2 j es n ((h.1.2 j es n hj).trans hj)).trans (h.1.2 j es n hj)⟩,fun j cells t hj h1 h2 h3 h4=>by
 have e:=h.2 j cells t hj h1 h2 h3 h4;exact(k.2 j cells t (e.trans hj) h1 h2 h3 h4).trans e⟩
theorem Still.put {b:Nat} (w:World) (j:Nat) (u:Value):Still b w (w.setCell ⟨b,j,none⟩ u):=⟨⟨by simp[World.setCell],fun k es n hk=>by
  by_cases e:k=b
  ·subst e;simp[World.setCell,Array.getElem?_modify,hk]
  ·exact Below.heap_setCell w ⟨b,j,none⟩ u k e⟩,fun k cells t hk h1 _ _ _=>Below.heap_setCell w ⟨b,j,none⟩ u k h1⟩
theorem Still.grown {b g:Nat} {w w':World} {t0:TypeId} {arr:Array Value} (hg:w.grownBy w' (some g)) (hh:w.heap[g]?=some (.cells arr t0 (0,0))) (ht:t0=114∨t0=49∨t0=35):Still b w w':=
 ⟨⟨hg.size,fun k es n hk=>hg.block k (blk_lt hk) fun e=>by
  cases e;rw[hh]at hk;cases hk⟩,fun k cells t hk _ h2 h3 h4=>hg.block k (blk_lt hk) fun e=>by
  cases e;rw[hh]at hk;cases hk;rcases ht with ht|ht|ht
  ·exact h2 ht
  ·exact h3 ht
  ·exact h4 ht⟩
theorem OwnAt.still {α β:Type} {d:Kd α} {e:TypeId} {R:(Nat→Prop)→World→α→β→Prop} {Mt:Nat→Prop} {B b:Nat} {w w':World} {h:SH} {xs:List β} (r:OwnAt d e R Mt B w h xs) (he:e=114∨e=49∨e=35) (hg:w.grownBy w' (Value.slice h.A h.n h.c).ownBlock):Still b w w':=by
 obtain⟨ss,h1,_⟩:=r.ex;cases ho:(Value.slice h.A h.n h.c).ownBlock with
 |none=>
  rw[ho]at hg;exact⟨⟨hg.size,fun k es n hk=>hg.block k (blk_lt hk) (fun e=>by cases e)⟩,fun k cells t hk _ _ _ _=>hg.block k (blk_lt hk) (fun e=>by cases e)⟩
 |some g=>
  rw[ho]at hg;obtain⟨cells,hc⟩:=Kd.R_typed h1 g ho;exact Still.grown hg hc he
def Ex.made (x:Ex) (d:Int) (e0:Ev):Ev:={e0 with t:=IntKind.i64.wrap (x.ev.t+d),k:=x.ev.k++[(x.n:Int)]}
def Ex.create (x:Ex) (d:Int) (e0:Ev):Ex:=if 1152921504606846976<(x.made d e0).t then{x with n:=x.n+1,ov:=true}else{x with n:=x.n+1,cr:=x.cr++[x.made d e0]}
theorem R_slice3 {α:Type} {d:Kd α} {e base:Nat} {ok:Nat→Prop} {w:World} {v:Value} {xs:List α} (h:d.R e w base ok v xs):∃A n c,n=xs.length∧v= .slice A n c:=by
 obtain⟨A,c,rfl⟩:=Kd.R_slice h;exact⟨A,_,c,rfl,rfl⟩
theorem box_free {w wx:World} {arr:Array Value} {t:TypeId} (hb:Below (w.alloc (.cells arr t)).heap.size (w.alloc (.cells arr t)) wx) (j:Nat):wx.frozen? ⟨w.heap.size,j,none⟩=false:=by
 have hlt:w.heap.size<(w.alloc (.cells arr t)).heap.size:=by rw[World.size_alloc];omega
 exact blk_frozen ((hb.block _ hlt).trans (World.alloc_heap_new _ _)) j
theorem create_calls {Mt:Nat→Prop} {W w:World} {b:Nat} {kh ph ch xh:SH} {x:Ex} (h:ExAt Mt W w b kh ph ch xh x) (hM:∀k,Mt k→k<W.heap.size) (d lp kd pr ar:Int) (hk:x.ev.k.length≤900000) (hc:x.cr.length≤100000) (hn:x.n≤100000):
  Calls Tryz.prog 153 #[.pointer (some ⟨b,0,none⟩),.int .i64 d,.agg #[.int .i64 0,.slice none 0 0,.int .i64 lp,.int .i64 kd,.int .i64 pr,.int .i64 ar]] w fun e w'=>
   ∃(s ch':SH),e= .returned (.slice s.A s.n s.c)∧KeyAt (Lm Mt W.heap.size w') w' s (x.ev.k++[(x.n:Int)])∧ExAt Mt W w' b kh ph ch' xh (x.create d ⟨0,[],lp,kd,pr,ar⟩)∧Still b w w':=by
 have H:=am h;have HM:=am hM;have hcl:=h.cells;have e4:w.cell? ⟨b,4,none⟩=some (.int .i64 x.ev.t):=hcl 4 _ rfl;have e5:w.cell? ⟨b,5,none⟩=some (.slice kh.A kh.n kh.c):=hcl 5 _ rfl;have e11:w.cell? ⟨b,11,none⟩=some (.int .i64 (x.n:Int)):=hcl 11 _ rfl;have hbw:b<w.heap.size:=blk_lt h.blk;have hkl:kh.n=x.ev.k.length:=h.p.key.len;have HKL:=am hkl;have HLT:=am (show∀w',Below w.heap.size w w'→∀j,w'.cell? ⟨b,j,none⟩=w.cell? ⟨b,j,none⟩from fun w' hb j=>hb.cell (p:=⟨b,j,none⟩) hbw)
 have HCH:=am (fun(w0:World) (hb:Below w.heap.size w w0)=>child_calls kh.A kh.n kh.c x.ev.k (x.n:Int) w0 ((h.p.key.below hb).here) (by omega));have HN:=am hn;have HK:=am hk;have HCR:=am hc;clear h hM hcl hkl hk hc hn;obtain⟨t,ht⟩:∃t,IntKind.i64.wrap (x.ev.t+d)=t:=⟨_,rfl⟩;go_enter Tryz.func153,Tryz.ntmps153;have hne:b≠w.heap.size:=by omega
 have hkb:∀(w':World) j u k,(w'.setCell ⟨w.heap.size,j,none⟩ u).cell? ⟨b,k,none⟩=w'.cell? ⟨b,k,none⟩:=fun w' j u k=>cell_far (p:=⟨w.heap.size,j,none⟩) (a:=⟨b,k,none⟩) hne u;go_upto_region 2 with (fail)
 go_region_held3 (fun w'=>w'.cell? ⟨b,5,none⟩=some (.slice kh.A kh.n kh.c)∧w'.cell? ⟨b,11,none⟩=some (.int .i64 (x.n:Int))) (first|go_keep|(simp only[hkb];exact⟨by assumption,by assumption⟩))
  (first|(go_at_call 75;(with_reducible refine(HCH.out _ (below_drew (below_alloc (Below.refl _ _) _))).mono ?_);rintro e wx ⟨v,rfl,hv,hb⟩;obtain⟨sA,sn,sc,hsn,rfl⟩:=R_slice3 hv;have hbd:=(below_drew (Below.refl (w.alloc (.cells #[.int .i64 t,.slice none 0 0,.int .i64 lp,.int .i64 kd,.int .i64 pr,.int .i64 ar] 49)).heap.size (w.alloc (.cells #[.int .i64 t,.slice none 0 0,.int .i64 lp,.int .i64 kd,.int .i64 pr,.int .i64 ar] 49)))).trans hb;obtain⟨hb2,c0,c1,c2,c3,c4,c5⟩:=boxed ⟨t,.nil,lp,kd,pr,ar⟩ hbd;have fr:=box_free hbd;have f5:=(HLT.out wx hb2 5).trans e5;have f11:=(HLT.out wx hb2 11).trans e11;have HV:=am hv;have HB2:=am hb2;have HBD:=am hbd;have HSN:=am hsn;clear hv hb hb2 hbd hsn))
 obtain⟨q,hq⟩:∃q,w.heap.size=q:=⟨_,rfl⟩;have hwb:=World.size_alloc w (.cells #[.int .i64 t,.slice none 0 0,.int .i64 lp,.int .i64 kd,.int .i64 pr,.int .i64 ar] 49);have hblk:wx.heap[q]?=some (.cells #[.int .i64 t,.slice none 0 0,.int .i64 lp,.int .i64 kd,.int .i64 pr,.int .i64 ar] 49 (0,0)):=by
  rw[←hq];exact(HBD.out.block _ (by omega)).trans (World.alloc_heap_new _ _)
 have hblk2:EvBox (wx.setCell ⟨q,1,none⟩ (.slice sA sn sc)) q ⟨t,⟨sA,sn,sc⟩,lp,kd,pr,ar⟩:=blk_put hblk 1 (.slice sA sn sc) rfl;have b2:Below w.heap.size w (wx.setCell ⟨q,1,none⟩ (.slice sA sn sc)):=HB2.out.setCell (p:=⟨q,1,none⟩) (by simp only;omega) _;have hv2:Kd.R (Kd.int .i64) 3 (wx.setCell ⟨q,1,none⟩ (.slice sA sn sc)) (w.heap.size+1) (fun _=>True) (.slice sA sn sc) (x.ev.k++[(x.n:Int)]):=by
  have h0:=HV.out;have h1:Kd.R (Kd.int .i64) 3 wx (w.heap.size+1) (fun _=>True) (.slice sA sn sc) (x.ev.k++[(x.n:Int)]):=by rw[←hwb];exact h0
  refine R_stay h1 rfl fun k hk=>Below.heap_setCell wx ⟨q,1,none⟩ _ k fun e=> ?_;have:=Kd.R_base h1 k hk;simp only at e;omega
 rw[hq];rw[hq]at hkb hne;clear c0 c1 c2 c3 c4 c5 fr f5 f11 HV HBD hblk;obtain⟨w2,hw2⟩:∃w2,wx.setCell ⟨q,1,none⟩ (.slice sA sn sc)=w2:=⟨_,rfl⟩;rw[hw2]at hblk2 b2 hv2 ⊢;have HE2:=am (H.out.more HM.out b2);have HWW:=am (Nat.le_trans H.out.p.below.size (Nat.le_refl w.heap.size));have HKEY:=am (show KeyAt (Lm Mt W.heap.size w2) w2 ⟨sA,sn,sc⟩ (x.ev.k++[(x.n:Int)])from Rd.of_R rfl hv2 fun k hk hm=>by
  have h1:=Kd.R_base hv2 k hk;rcases hm with hm|⟨_,hm⟩
  ·have:=HM.out k hm;have:=HWW.out;omega
  ·exact hm (Kd.R_typed hv2 k hk))
 have HBX:=am hblk2;have HST:=am (Still.of_below (b:=b) b2);obtain⟨q0,q1,q2,q3,q4,q5⟩:=hblk2.cells;simp only at q0 q1 q2 q3 q4 q5;have hkq:∀(w':World) j u k,(w'.setCell ⟨b,j,none⟩ u).cell? ⟨q,k,none⟩=w'.cell? ⟨q,k,none⟩:=fun w' j u k=>cell_far (p:=⟨b,j,none⟩) (a:=⟨q,k,none⟩) (Ne.symm hne) u;have g11:w2.cell? ⟨b,11,none⟩=some (.int .i64 (x.n:Int)):=HE2.out.cells 11 _ rfl;have gf:=HE2.out.free;have wn:IntKind.i64.wrap ((x.n:Int)+1)=((x.n+1:Nat):Int):=(i64_w _).trans (by unfold Go.RowKit.wrap64;have:=HN.out;omega);have HB0:=am H.out.hb
 have HE3:=am (show ExAt Mt W (w2.setCell ⟨b,11,none⟩ (.int .i64 ((x.n+1:Nat):Int))) b kh ph ch xh {x with n:=x.n+1}from
  HE2.out.put 11 _ rfl (by
   have hp:=HE2.out.p.put HM.out HB0.out HE2.out.blk 11 (.int .i64 ((x.n+1:Nat):Int));exact⟨hp.below,hp.key,hp.ps,hp.cr,hp.ca⟩))
 have HK3:=am (show Keep (Lm Mt W.heap.size w2) w2 (w2.setCell ⟨b,11,none⟩ (.int .i64 ((x.n+1:Nat):Int)))from Keep.grown_lm (grown_cells [_] w2 11) HB0.out HE2.out.blk (by decide));have HKEY3:=am (HKEY.out.lm HM.out HK3.out);have HST3:=am (HST.out.trans (Still.put w2 11 (.int .i64 ((x.n+1:Nat):Int))));have HMD:=am (show x.made d ⟨0,[],lp,kd,pr,ar⟩=⟨t,x.ev.k++[(x.n:Int)],lp,kd,pr,ar⟩by unfold Ex.made;rw[ht]);clear hw2 hblk2 b2 hv2 hkb hwb HLT HCH;by_cases hov:1152921504606846976<t
 ·have d1:decide ((1152921504606846976:Int)<t)=true:=decide_eq_true hov;have g13:w2.cell? ⟨b,13,none⟩=some (.bool x.ov):=HE2.out.cells 13 _ rfl
  go_wp2_with (fail)
  go_ret;have hE4:ExAt Mt W ((w2.setCell ⟨b,11,none⟩ (.int .i64 ((x.n+1:Nat):Int))).setCell ⟨b,13,none⟩ (.bool true)) b kh ph ch xh {x with n:=x.n+1,ov:=true}:=
   HE3.out.put 13 _ rfl (by
    have hp:=HE3.out.p.put HM.out HB0.out HE3.out.blk 13 (.bool true);exact⟨hp.below,hp.key,hp.ps,hp.cr,hp.ca⟩)
  refine⟨⟨sA,sn,sc⟩,ch,rfl,HKEY3.out.lm HM.out (Keep.grown_lm (grown_cells [_] _ 13) HB0.out HE3.out.blk (by decide)),?_,HST3.out.trans (Still.put _ 13 _)⟩;unfold Ex.create;rw[HMD.out,if_pos hov];exact hE4
 ·have d1:decide ((1152921504606846976:Int)<t)=false:=decide_eq_false hov;have HNQ:=am (show some q≠(Value.slice ch.A ch.n ch.c).ownBlock from fun e=>by
   obtain⟨ss,h1,_⟩:=H.out.p.cr.ex;have:=Kd.R_lt h1 q e.symm;omega)
  go_upto_region 6 with (fail)
  have hqw:q<w2.heap.size:=World.block_lt_of_cell? w2 ⟨q,0,none⟩ q0;obtain⟨w3,hw3⟩:∃w3,w2.setCell ⟨b,11,none⟩ (.int .i64 ((x.n:Int)+1))=w3:=⟨_,rfl⟩;have hw3':w2.setCell ⟨b,11,none⟩ (.int .i64 ((x.n+1:Nat):Int))=w3:=hw3;rw[hw3']at HE3 HKEY3 HST3;rw[hw3];have hq3:∀k,w3.cell? ⟨q,k,none⟩=w2.cell? ⟨q,k,none⟩:=fun k=>by rw[←hw3];exact hkq _ _ _ _
  have q0:=(hq3 0).trans q0;have q1:=(hq3 1).trans q1;have q2:=(hq3 2).trans q2;have q3:=(hq3 3).trans q3;have q4:=(hq3 4).trans q4;have q5:=(hq3 5).trans q5;have g10:w3.cell? ⟨b,10,none⟩=some (.slice ch.A ch.n ch.c):=HE3.out.cells 10 _ rfl;have hbl:b<w3.heap.size:=blk_lt HE3.out.blk;have hql:q<w3.heap.size:=World.block_lt_of_cell? w3 ⟨q,0,none⟩ q0;have HBL:=am hbl;have HQL:=am hql;have al:∀o j,(w3.drew.alloc o).cell? ⟨b,j,none⟩=w3.cell? ⟨b,j,none⟩:=fun o j=>(below_alloc (Below.refl w3.drew.heap.size w3.drew) o).cell (p:=⟨b,j,none⟩) hbl
  have aq:∀o j,(w3.drew.alloc o).cell? ⟨q,j,none⟩=w3.cell? ⟨q,j,none⟩:=fun o j=>(below_alloc (Below.refl w3.drew.heap.size w3.drew) o).cell (p:=⟨q,j,none⟩) hql;have a10:=fun o=>(al o 10).trans g10;have a0:=fun o=>(aq o 0).trans q0;have a1:=fun o=>(aq o 1).trans q1;have a2:=fun o=>(aq o 2).trans q2;have a3:=fun o=>(aq o 3).trans q3;have a4:=fun o=>(aq o 4).trans q4;have a5:=fun o=>(aq o 5).trans q5;obtain⟨se,hse,hse2⟩:=HE3.out.p.cr.ex;have HSE:=am hse;have HSE2:=am hse2;have HSL:=am (show se.length≤100000 by rw[hse2.len];exact HCR.out)
  have HSZ:=am (show W.heap.size≤w3.drew.heap.size from HE3.out.p.below.size);have HNB:=am (show some b≠(Value.slice ch.A ch.n ch.c).ownBlock from fun e=>by
   obtain⟨cells,hc⟩:=Kd.R_typed hse b e.symm;rw[HE3.out.blk]at hc;cases hc)
  have HF10:=am (HE3.out.free 10);have Q1:=am q1;clear al aq hse hse2 hbl hql hq3 gf;refine sz_ 11 (S:=fun w'=>w'.cell? ⟨b,10,none⟩=some (.slice ch.A ch.n ch.c)∧w'.cell? ⟨q,0,none⟩=some (.int .i64 t)∧w'.cell? ⟨q,1,none⟩=some (.slice sA sn sc)∧w'.cell? ⟨q,2,none⟩=some (.int .i64 lp)∧w'.cell? ⟨q,3,none⟩=some (.int .i64 kd)∧w'.cell? ⟨q,4,none⟩=some (.int .i64 pr)∧w'.cell? ⟨q,5,none⟩=some (.int .i64 ar)) (ds:=[7,10]) ⟨g10,q0,q1,q2,q3,q4,q5⟩ (fun hHeld=> ?_);refine pz_ 0 39 11 1 ?_;refine pz_ 1 40 11 3 ?_;refine pz_ 2 41 11 7 ?_;refine pz_ 3 42 11 15 ?_;refine tz_ 4 43 11 31 hHeld ?_
  refine tz_ 5 44 11 63 hHeld ?_;refine one_ (i:=6) (N:=some 45) (bv 11 127) rfl rfl (by kernel_rfl) (by decide) (fun K hK=> ?_);refine value_ (w1:= ?_) (v:= ?_) (by rfl) rfl ?_ ?_;rotate_left 2
  ·go_simp;constructor
   ·rfl
   ·rfl
  refine hK.out _ _ ⟨a10 _,a0 _,a1 _,a2 _,a3 _,a4 _,a5 _⟩ (fun hHeld=> ?_);clear hK K;refine norm_ (a':= ?_) ?_ ?_;rotate_left
  ·show Act.put _ (some 45) _=_;simp only[Act.put,List.setIfInBounds_toArray,List.set_cons_zero,List.set_cons_succ,i64_w,i32_w];rfl
  refine last_ (i:=7) (N:=some 46) (bv 11 255) rfl rfl (by kernel_rfl) (by decide) (fun K hK=> ?_)
  refine Kd.R_append_step kE (w0:=w3) W.heap.size (by rfl) (.tmp 43) (.tmp 45) 47 49 (.agg #[.int .i64 0,.slice none 0 0,.int .i64 0,.int .i64 0,.int .i64 0,.int .i64 0]) 64 rfl Tryz.underlying47 infoEv rfl (by decide) (by omega) (.slice ch.A ch.n ch.c) se ⟨t,⟨sA,sn,sc⟩,lp,kd,pr,ar⟩ [.int .i64 t,.slice sA sn sc,.int .i64 lp,.int .i64 kd,.int .i64 pr,.int .i64 ar] (fun _=>True) (fun _=>False) rfl rfl rfl (fun _ hk=>hk.elim) (fun _ _=>trivial) (Kd.R_drew HSE.out) (below_drew (Below.refl _ _)) HSZ.out (by have:=HSL.out;omega) ?_;intro v5 w5 hv5 hb5 hg5 hat5;obtain⟨A5,n5,c5',hn5,rfl⟩:=R_slice3 hv5
  have hx10:w5.cell? ⟨b,10,none⟩=some (.slice ch.A ch.n ch.c):=by simp only[World.cell?,hg5.block b HBL.out HNB.out];exact g10
  have hf10:w5.frozen? ⟨b,10,none⟩=false:=by simp only[World.frozen?,hg5.block b HBL.out HNB.out];exact HF10.out
  have HV5:=am hv5;have HG5:=am hg5;have HB5:=am hb5;have HN5:=am hn5;clear hv5 hg5 hb5 hat5 hn5;refine hK.out _ _ ?_;clear hK K;refine norm_ (a':= ?_) ?_ ?_;rotate_left
  ·show Act.put _ (some 46) _=_;simp only[Act.put,List.setIfInBounds_toArray,List.set_cons_zero,List.set_cons_succ,i64_w,i32_w];rfl
  refine pz_ 8 47 11 511 ?_;refine pz_ 9 48 11 1023 ?_;refine last_ (i:=10) (N:=none) (bv 11 2047) rfl rfl (by kernel_rfl) (by decide) (fun K hK=> ?_);refine skip_ (w1:= ?_) (by rfl) rfl ?_ ?_;rotate_left
  ·go_simp;rfl
  refine hK.out _ _ ?_;clear hK K;refine done_ (by kernel_rfl) ?_;have c1:w5.cell? ⟨q,1,none⟩=some (.slice sA sn sc):=by
   simp only[World.cell?,HG5.out.block q HQL.out HNQ.out];exact Q1.out
  go_wp2_with (fail)
  go_ret;have hE3d:=HE3.out.more HM.out (below_drew (Below.refl w3.heap.size w3));have hk5d:=hE3d.p.cr.grow (w':=w5) (by decide) HG5.out;have hk5:Keep (Lm Mt W.heap.size w3) w3 w5:=⟨hk5d.size,hk5d.block⟩;have hkey5:=HKEY3.out.lm HM.out hk5;have hp5:ExP Mt W w5 kh ph ⟨A5,n5,c5'⟩ xh {x with n:=x.n+1,cr:=x.cr++[⟨t,x.ev.k++[(x.n:Int)],lp,kd,pr,ar⟩]}:=
   ⟨HE3.out.p.below.trans HB5.out,HE3.out.p.key.lm HM.out hk5,hE3d.p.ps.beside rfl hE3d.p.cr (by decide) HG5.out (fun _ _ hs=>PcAt.lm hs HM.out hk5d),
    ⟨⟨_,HV5.out,(HSE2.out.imp fun _ _ hs=>EvAt.lm hs HM.out hk5).append (.cons ⟨rfl,rfl,rfl,rfl,rfl,hkey5⟩ .nil)⟩⟩,
    hE3d.p.ca.beside rfl hE3d.p.cr (by decide) HG5.out (fun _ _ hs=>Rd.lm hs HM.out hk5d)⟩
  have hblk5:w5.heap[b]?=some (.cells (exCells kh ph ch xh {x with n:=x.n+1}) TExec (0,0)):=(HG5.out.block b HBL.out HNB.out).trans HE3.out.blk;have hE9:ExAt Mt W (w5.setCell ⟨b,10,none⟩ (.slice A5 n5 c5')) b kh ph ⟨A5,n5,c5'⟩ xh {x with n:=x.n+1,cr:=x.cr++[⟨t,x.ev.k++[(x.n:Int)],lp,kd,pr,ar⟩]}:=
   ⟨hp5.put HM.out HB0.out hblk5 10 _,HB0.out,blk_put hblk5 10 _ rfl⟩
  have hst:Still b w3 w5:=⟨⟨(hE3d.p.cr.still (b:=b) (w':=w5) (.inr (.inl rfl)) HG5.out).1.1,(hE3d.p.cr.still (b:=b) (w':=w5) (.inr (.inl rfl)) HG5.out).1.2⟩,(hE3d.p.cr.still (b:=b) (w':=w5) (.inr (.inl rfl)) HG5.out).2⟩;refine⟨⟨sA,sn,sc⟩,rfl,hkey5.lm HM.out (Keep.grown_lm (grown_cells [.slice A5 n5 c5'] w5 10) HB0.out hblk5 (by decide)),⟨⟨A5,n5,c5'⟩,?_⟩,HST3.out.trans (hst.trans (Still.put w5 10 _))⟩;unfold Ex.create;rw[HMD.out,if_neg (by simpa using hov)];exact hE9
section
def OpC.v (o:OpC):Value:= .agg #[.int .i64 o.code,.int .i64 o.a,.int .i64 o.b,.int .i64 o.c]
structure Room (x:Ex):Prop where
 k:x.ev.k.length≤900000
 cr:x.cr.length≤100000
 n:x.n≤100000
 ca:x.ca.length≤100000
 ps:x.lp.ps.length≤8
structure Ran (Mt:Nat→Prop) (W w:World) (b:Nat) (kh:SH) (x':Ex) (w':World):Prop where
 ex:∃ph ch xh:SH,ExAt Mt W w' b kh ph ch xh x'
 still:Still b w w'
theorem op_box {w wx:World} (o:OpC) (hb:Below (w.alloc (.cells #[.int .i64 o.code,.int .i64 o.a,.int .i64 o.b,.int .i64 o.c] 93)).heap.size (w.alloc (.cells #[.int .i64 o.code,.int .i64 o.a,.int .i64 o.b,.int .i64 o.c] 93)) wx):
  Below w.heap.size w wx∧wx.heap[w.heap.size]?=some (.cells #[.int .i64 o.code,.int .i64 o.a,.int .i64 o.b,.int .i64 o.c] 93 (0,0)):=by
 have hlt:w.heap.size<(w.alloc (.cells #[.int .i64 o.code,.int .i64 o.a,.int .i64 o.b,.int .i64 o.c] 93)).heap.size:=by rw[World.size_alloc];omega
 exact⟨(below_alloc (Below.refl _ _) _).trans (hb.mono (Nat.le_of_lt hlt)),(hb.block _ hlt).trans (World.alloc_heap_new _ _)⟩
theorem op_cell {w:World} {q:Nat} {o:OpC} (h:w.heap[q]?=some (.cells #[.int .i64 o.code,.int .i64 o.a,.int .i64 o.b,.int .i64 o.c] 93 (0,0))):w.cell? ⟨q,1,none⟩=some (.int .i64 o.a)∧w.cell? ⟨q,2,none⟩=some (.int .i64 o.b)∧w.cell? ⟨q,3,none⟩=some (.int .i64 o.c):=by
 refine⟨?_,?_,?_⟩<;>simp[World.cell?,h]
section
variable {Mt:Nat→Prop} {W w:World} {b:Nat} {kh ph ch xh:SH} {x:Ex}
theorem end_calls (w:World) (b:Nat) (o:OpC):Calls Tryz.prog 148 #[.pointer (some ⟨b,0,none⟩),o.v] w fun e w'=>e= .returned (.int .i64 2)∧Below w.heap.size w w':=by
 simp only[OpC.v];go_enter Tryz.func148,Tryz.ntmps148
 go_wp2_with (fail)
 go_ret;exact⟨rfl,by go_grown⟩
theorem send_calls (h:ExAt Mt W w b kh ph ch xh x) (hM:∀k,Mt k→k<W.heap.size) (hr:Room x) (o:OpC):
  Calls Tryz.prog 142 #[.pointer (some ⟨b,0,none⟩),o.v] w fun e w'=>e= .returned (.int .i64 0)∧Ran Mt W w b kh (x.create o.c ⟨0,[],o.a,3,0,o.b⟩) w':=by
 have hb0:=fun ob=>below_alloc (Below.refl w.heap.size w) ob;have HC:=am (fun ob=>create_calls (h.more hM (hb0 ob)) hM o.c o.a 3 0 o.b hr.k hr.cr hr.n);have HB:=am hb0;obtain⟨oc,oa,ob,oe⟩:=o;simp only[OpC.v]at HC ⊢;clear h hM hr hb0;go_enter Tryz.func142,Tryz.ntmps142
 go_wp2_with (first|(go_at_call 153;(with_reducible refine(HC.out _).mono ?_);rintro e wx ⟨s,ch',rfl,_,hE,hS⟩;have HE:=am hE;have HS:=am hS;clear hE hS))
 go_ret;exact⟨rfl,⟨⟨ph,ch',xh,HE.out⟩,(Still.of_below (HB.out _)).trans HS.out⟩⟩
theorem hold_calls (h:ExAt Mt W w b kh ph ch xh x) (hM:∀k,Mt k→k<W.heap.size) (hr:Room x) (o:OpC):
  Calls Tryz.prog 141 #[.pointer (some ⟨b,0,none⟩),o.v] w fun e w'=>e= .returned (.int .i64 1)∧Ran Mt W w b kh (x.create o.a ⟨0,[],x.ev.lp,1,x.ev.pr,0⟩) w':=by
 have HC:=am (fun(w0:World) (hb:Below w.heap.size w w0)=>create_calls (h.more hM hb) hM o.a x.ev.lp 1 x.ev.pr 0 hr.k hr.cr hr.n);have HO:=am (fun(w0:World) (hb:Below w.heap.size w w0)=>own_calls (w:=w0) (b:=b) x.ev.lp 1 x.ev.pr 0 ((h.more hM hb).cells 6 _ rfl));have hbw:b<w.heap.size:=blk_lt h.blk;have HLT:=am (show∀w',Below w.heap.size w w'→∀j,w'.cell? ⟨b,j,none⟩=w.cell? ⟨b,j,none⟩from fun w' hb j=>hb.cell (p:=⟨b,j,none⟩) hbw);have e8:w.cell? ⟨b,8,none⟩=some (.int .i64 x.ev.pr):=h.cells 8 _ rfl;obtain⟨oc,oa,ob,oe⟩:=o;simp only[OpC.v]at HC ⊢;clear h hM hr
 have hq:b≠w.heap.size:=by omega
 go_enter Tryz.func141,Tryz.ntmps141;go_upto_region 1 with (fail)
 go_region_held3 (fun w'=>w'.cell? ⟨w.heap.size,1,none⟩=some (.int .i64 oa)∧w'.cell? ⟨b,8,none⟩=some (.int .i64 x.ev.pr)) (go_keep)
  (first
  |(go_at_call 154;(with_reducible refine(HO.out _ (below_drew (below_alloc (Below.refl _ _) _))).mono ?_);rintro e wx ⟨rfl,hb⟩;obtain⟨hb2,hbk⟩:=op_box ⟨oc,oa,ob,oe⟩ ((below_drew (Below.refl _ _)).trans hb);obtain⟨c1,_,_⟩:=op_cell hbk;have f8:=(HLT.out _ hb2 8).trans e8;have HB2:=am hb2;have HBK:=am hbk;clear hb hb2 hbk)
  |(go_at_call 153;(with_reducible refine(HC.out _ HB2.out).mono ?_);rintro e wy ⟨s,ch',rfl,_,hE,hS⟩;have hbk:=(hS.2 _ _ _ HBK.out (Ne.symm hq) (by decide) (by decide) (by decide)).trans HBK.out;obtain⟨c1,_,_⟩:=op_cell (o:=⟨oc,oa,ob,oe⟩) hbk;have HE:=am hE;have HS:=am hS;have f8:wy.cell? ⟨b,8,none⟩=some (.int .i64 x.ev.pr):=(by have:=hE.cells 8 _ rfl;unfold Ex.create at this;split at this<;>exact this);clear hE hS hbk))
 all_goals go_wp2_with (fail)
 all_goals go_ret
 all_goals exact⟨rfl,⟨⟨ph,ch',xh,HE.out⟩,(Still.of_below HB2.out).trans HS.out⟩⟩
end
end
section
def Pc.zero:Pc:=⟨0,0,false,[]⟩
def Ex.self (x:Ex):Pc:=x.lp.ps.getD x.ev.pr.toNat Pc.zero
def Ex.setSelf (x:Ex) (p:Pc):Ex:={x with lp:={x.lp with ps:=x.lp.ps.set x.ev.pr.toNat p}}
def Ex.reg (x:Ex) (a:Int):Int:=if a=0 then x.lp.r0 else x.lp.r1
def Ex.add (x:Ex) (a v:Int):Ex:=if a=0 then{x with lp:={x.lp with r0:=IntKind.i64.wrap (x.lp.r0+v)}}else{x with lp:={x.lp with r1:=IntKind.i64.wrap (x.lp.r1+v)}}
def Ex.less (x:Ex) (a v c:Int):Ex:=if x.reg a<v then x.setSelf {x.self with pc:=c}else x
structure Here (x:Ex):Prop where
 lo:0≤x.ev.pr
 hi:x.ev.pr.toNat<x.lp.ps.length
section
variable {Mt:Nat→Prop} {W w:World} {b:Nat} {kh ph ch xh:SH} {x:Ex}
theorem ExAt.setSelf (h:ExAt Mt W w b kh ph ch xh x) (hM:∀k,Mt k→k<W.heap.size) (hh:Here x) {g:Nat} (hA:ph.A=some ⟨g,0,none⟩) (hg:∃cells,w.heap[g]?=some (.cells cells 114 (0,0))) (j:Nat) (u:Value) (p':Pc)
  (hp:∀s,PcAt (Lm Mt W.heap.size w) w s x.self→Keep (Lm Mt W.heap.size w) w (w.setCell ⟨g,x.ev.pr.toNat*4+j,none⟩ u)→∃s',(SP.cells s).take j++[u]++(SP.cells s).drop (j+1)=SP.cells s'∧PcAt (Lm Mt W.heap.size (w.setCell ⟨g,x.ev.pr.toNat*4+j,none⟩ u)) (w.setCell ⟨g,x.ev.pr.toNat*4+j,none⟩ u) s' p') (hj:j<4):
  ExAt Mt W (w.setCell ⟨g,x.ev.pr.toNat*4+j,none⟩ u) b kh ph ch xh (x.setSelf p')∧Still b w (w.setCell ⟨g,x.ev.pr.toNat*4+j,none⟩ u):=by
 have hself:x.self=x.lp.ps[x.ev.pr.toNat]'hh.hi:=by simp[Ex.self,List.getD_eq_getElem?_getD,List.getElem?_eq_getElem hh.hi]
 rw[hself]at hp;obtain⟨h1,h2,h3⟩:=h.p.ps.put hM x.ev.pr.toNat hh.hi hA j u p' hp hj;obtain⟨cells,hc⟩:=hg;have hB:W.heap.size≤g:=by
  obtain⟨g',s,hA',hB,_⟩:=h.p.ps.get x.ev.pr.toNat hh.hi;rw[hA]at hA';cases hA';exact hB
 have hne:b≠g:=fun e=>by
  have:=h.blk;rw[e,hc]at this;cases this
 refine⟨⟨⟨h.p.below.trans ((Below.refl W.heap.size w).setCell (p:=⟨g,x.ev.pr.toNat*4+j,none⟩) hB u),h.p.key.lm hM h3,h1,h.p.cr.far rfl hc (by decide) h2 (fun _ _ hs=>EvAt.lm hs hM h3),h.p.ca.far rfl hc (by decide) h2 (fun _ _ hs=>Rd.lm hs hM h3)⟩,h.hb,?_⟩,Still.grown h2 hc (.inl rfl)⟩;exact(Below.heap_setCell w ⟨g,x.ev.pr.toNat*4+j,none⟩ u b hne).trans h.blk
theorem exAdd_calls (h:ExAt Mt W w b kh ph ch xh x) (hM:∀k,Mt k→k<W.heap.size) (o:OpC) (ha:o.a=0∨o.a=1):
  Calls Tryz.prog 146 #[.pointer (some ⟨b,0,none⟩),o.v] w fun e w'=>e= .returned (.int .i64 0)∧Ran Mt W w b kh (x.add o.a o.b) w':=by
 have hbw:b<w.heap.size:=blk_lt h.blk;obtain⟨oc,oa,ob,oe⟩:=o;simp only at ha;simp only[OpC.v];obtain⟨hb0,hbk⟩:=op_box (w:=w) ⟨oc,oa,ob,oe⟩ (Below.refl _ _);obtain⟨k1,k2,_⟩:=op_cell hbk;simp only at k1 k2 hb0;obtain⟨w1,hw1⟩:∃w1,w.alloc (.cells #[.int .i64 oc,.int .i64 oa,.int .i64 ob,.int .i64 oe] 93)=w1:=⟨_,rfl⟩;rw[hw1]at k1 k2 hb0;have HE1:=am (h.more hM hb0);have HS1:=am (Still.of_below (b:=b) hb0);have HM:=am hM;have e0:w1.cell? ⟨b,0,none⟩=some (.int .i64 x.lp.r0):=HE1.out.cells 0 _ rfl;have e1:w1.cell? ⟨b,1,none⟩=some (.int .i64 x.lp.r1):=HE1.out.cells 1 _ rfl
 have gf:=HE1.out.free;have HW1:=am hw1;clear h hM hbk hb0 hw1;rcases ha with rfl|rfl
 ·obtain⟨r,hr⟩:∃r,IntKind.i64.wrap (x.lp.r0+ob)=r:=⟨_,rfl⟩;go_enter Tryz.func146,Tryz.ntmps146;go_upto_region 1 with (fail)
  rw[HW1.out];refine sz_ 16 (S:=fun w'=>w'.cell? ⟨w.heap.size,1,none⟩=some (.int .i64 0)∧w'.cell? ⟨w.heap.size,2,none⟩=some (.int .i64 ob)∧w'.cell? ⟨b,0,none⟩=some (.int .i64 x.lp.r0)) (ds:=[15]) ⟨k1,k2,e0⟩ (fun hHeld=> ?_);refine pz_ 0 5 16 1 ?_;refine pz_ 1 6 16 3 ?_;refine pz_ 3 8 16 11 ?_;refine pz_ 4 9 16 27 ?_;refine pz_ 5 10 16 59 ?_;refine pz_ 8 13 16 315 ?_;refine pz_ 11 16 16 2363 ?_;refine pz_ 12 17 16 6459 ?_;refine pz_ 13 18 16 14651 ?_;refine tz_ 2 7 16 14655 hHeld ?_;refine pz_ 6 11 16 14719 ?_;refine tz_ 7 12 16 14847 hHeld ?_;refine tz_ 9 14 16 15359 hHeld ?_
  refine pz_ 10 15 16 16383 ?_;refine pz_ 14 19 16 32767 ?_;refine last_ (i:=15) (N:=none) (bv 16 65535) rfl rfl (by kernel_rfl) (by decide) (fun K hK=> ?_);refine skip_ (w1:= ?_) (by rfl) rfl ?_ ?_;rotate_left
  ·go_simp;rfl
  refine hK.out _ _ ?_;clear hK K;refine done_ (by kernel_rfl) ?_
  go_wp2_with (fail)
  go_ret;refine⟨rfl,⟨⟨ph,ch,xh,?_⟩,HS1.out.trans ((Still.put w1 0 _).trans (Still.of_below (below_drew (Below.refl _ _))))⟩⟩;unfold Ex.add;rw[if_pos rfl,hr];exact(HE1.out.put 0 (.int .i64 r) (kh':=kh) (ph':=ph) (ch':=ch) (xh':=xh) (x':={x with lp:={x.lp with r0:=r}}) rfl (by
   have hp:=HE1.out.p.put HM.out HE1.out.hb HE1.out.blk 0 (.int .i64 r);exact⟨hp.below,hp.key,hp.ps,hp.cr,hp.ca⟩)).more HM.out (below_drew (Below.refl _ _))
 ·obtain⟨r,hr⟩:∃r,IntKind.i64.wrap (x.lp.r1+ob)=r:=⟨_,rfl⟩;go_enter Tryz.func146,Tryz.ntmps146;go_upto_region 1 with (fail)
  rw[HW1.out];refine sz_ 16 (S:=fun w'=>w'.cell? ⟨w.heap.size,1,none⟩=some (.int .i64 1)∧w'.cell? ⟨w.heap.size,2,none⟩=some (.int .i64 ob)∧w'.cell? ⟨b,1,none⟩=some (.int .i64 x.lp.r1)) (ds:=[15]) ⟨k1,k2,e1⟩ (fun hHeld=> ?_);refine pz_ 0 5 16 1 ?_;refine pz_ 1 6 16 3 ?_;refine pz_ 3 8 16 11 ?_;refine pz_ 4 9 16 27 ?_;refine pz_ 5 10 16 59 ?_;refine pz_ 8 13 16 315 ?_;refine pz_ 11 16 16 2363 ?_;refine pz_ 12 17 16 6459 ?_;refine pz_ 13 18 16 14651 ?_;refine tz_ 2 7 16 14655 hHeld ?_;refine pz_ 6 11 16 14719 ?_;refine tz_ 7 12 16 14847 hHeld ?_;refine tz_ 9 14 16 15359 hHeld ?_
  refine pz_ 10 15 16 16383 ?_;refine pz_ 14 19 16 32767 ?_;refine last_ (i:=15) (N:=none) (bv 16 65535) rfl rfl (by kernel_rfl) (by decide) (fun K hK=> ?_);refine skip_ (w1:= ?_) (by rfl) rfl ?_ ?_;rotate_left
  ·go_simp;rfl
  refine hK.out _ _ ?_;clear hK K;refine done_ (by kernel_rfl) ?_
  go_wp2_with (fail)
  go_ret;refine⟨rfl,⟨⟨ph,ch,xh,?_⟩,HS1.out.trans ((Still.put w1 1 _).trans (Still.of_below (below_drew (Below.refl _ _))))⟩⟩;unfold Ex.add;rw[if_neg (by decide),hr];exact(HE1.out.put 1 (.int .i64 r) (kh':=kh) (ph':=ph) (ch':=ch) (xh':=xh) (x':={x with lp:={x.lp with r1:=r}}) rfl (by
   have hp:=HE1.out.p.put HM.out HE1.out.hb HE1.out.blk 1 (.int .i64 r);exact⟨hp.below,hp.key,hp.ps,hp.cr,hp.ca⟩)).more HM.out (below_drew (Below.refl _ _))
theorem exLess_calls (h:ExAt Mt W w b kh ph ch xh x) (hM:∀k,Mt k→k<W.heap.size) (hh:Here x) (o:OpC) (ha:o.a=0∨o.a=1):
  Calls Tryz.prog 147 #[.pointer (some ⟨b,0,none⟩),o.v] w fun e w'=>e= .returned (.int .i64 0)∧Ran Mt W w b kh (x.less o.a o.b o.c) w':=by
 have hbw:b<w.heap.size:=blk_lt h.blk;obtain⟨oc,oa,ob,oe⟩:=o;simp only at ha;simp only[OpC.v];obtain⟨hb0,hbk⟩:=op_box (w:=w) ⟨oc,oa,ob,oe⟩ (Below.refl _ _);obtain⟨k1,k2,k3⟩:=op_cell hbk;simp only at k1 k2 k3 hb0 hbk;obtain⟨q,hq⟩:∃q,w.heap.size=q:=⟨_,rfl⟩;obtain⟨w1,hw1⟩:∃w1,w.alloc (.cells #[.int .i64 oc,.int .i64 oa,.int .i64 ob,.int .i64 oe] 93)=w1:=⟨_,rfl⟩;rw[hw1]at k1 k2 k3 hb0 hbk;have hE1:=h.more hM hb0;have HE1:=am hE1;have HS1:=am (Still.of_below (b:=b) hb0);have HM:=am hM;have HH:=am hh
 obtain⟨g,s,hA,hB,⟨gc,hgc⟩,hpc,z0,z1,z2,z3,zf⟩:=hE1.p.ps.get x.ev.pr.toNat hh.hi;have e0:w1.cell? ⟨b,0,none⟩=some (.int .i64 x.lp.r0):=hE1.cells 0 _ rfl;have e1:w1.cell? ⟨b,1,none⟩=some (.int .i64 x.lp.r1):=hE1.cells 1 _ rfl;have e2:w1.cell? ⟨b,2,none⟩=some (.slice ph.A ph.n ph.c):=hE1.cells 2 _ rfl;have hpl:ph.n=x.lp.ps.length:=hE1.p.ps.len;obtain⟨i,hi⟩:∃i:Nat,x.ev.pr.toNat=i:=⟨_,rfl⟩;have hpr:x.ev.pr=(i:Int):=by have:=hh.lo;omega
 have e8:w1.cell? ⟨b,8,none⟩=some (.int .i64 (i:Int)):=by rw[←hpr];exact hE1.cells 8 _ rfl
 have hin:i<ph.n:=by rw[hpl,←hi];exact hh.hi
 rw[hA]at e2;rw[hq]at k1 k2 k3 hbk;rw[hi]at z0 z1 z2 z3;have hgb:g≠b:=fun e=>by
  have:=hE1.blk;rw[←e,hgc]at this;cases this
 have hgq:g≠q:=fun e=>by
  rw[e,hbk]at hgc;cases hgc
 have HSELF:=am (fun(w0:World) (h2:w0.cell? ⟨b,2,none⟩=some (.slice (some ⟨g,0,none⟩) ph.n ph.c)) (h8:w0.cell? ⟨b,8,none⟩=some (.int .i64 (i:Int)))=>self_calls (w:=w0) (b:=b) (g:=g) i h2 h8 hin);have HLT:=am (show∀w',Below w1.heap.size w1 w'→(∀j,w'.cell? ⟨b,j,none⟩=w1.cell? ⟨b,j,none⟩)∧(∀j,w'.cell? ⟨q,j,none⟩=w1.cell? ⟨q,j,none⟩)∧(∀j,w'.cell? ⟨g,j,none⟩=w1.cell? ⟨g,j,none⟩)∧∀j,w'.frozen? ⟨g,j,none⟩=w1.frozen? ⟨g,j,none⟩from fun w' hb=>
  ⟨fun j=>hb.cell (p:=⟨b,j,none⟩) (blk_lt hE1.blk),fun j=>hb.cell (p:=⟨q,j,none⟩) (blk_lt hbk),fun j=>hb.cell (p:=⟨g,j,none⟩) (blk_lt hgc),fun j=>by simp only[World.frozen?,hb.block g (blk_lt hgc)]⟩)
 have HSD:=am (HSELF.out w1.drew.drew e2 e8);have HA:=am hA;have HGC:=am hgc;have HW1:=am hw1;have HI:=am hi;have HQ:=am hq;clear h hM hh hbk hb0 hw1 hE1 hpc hpr hpl hA hgc hi hB;have hkq:∀(w':World) j u k,(w'.setCell ⟨g,j,none⟩ u).cell? ⟨q,k,none⟩=w'.cell? ⟨q,k,none⟩:=fun w' j u k=>cell_far (p:=⟨g,j,none⟩) (a:=⟨q,k,none⟩) (Ne.symm hgq) u;have hkb:∀(w':World) j u k,(w'.setCell ⟨g,j,none⟩ u).cell? ⟨b,k,none⟩=w'.cell? ⟨b,k,none⟩:=fun w' j u k=>cell_far (p:=⟨g,j,none⟩) (a:=⟨b,k,none⟩) (Ne.symm hgb) u;rcases ha with rfl|rfl
 ·have hx:x.reg 0=x.lp.r0:=rfl;obtain⟨r,hr⟩:∃r,x.lp.r0=r:=⟨_,rfl⟩;rw[hr]at e0;have HREG:=am (hx.trans hr);clear hx hr;by_cases hlt:r<ob
  ·have d1:decide (r<ob)=true:=decide_eq_true hlt;go_enter Tryz.func147,Tryz.ntmps147;go_upto_region 1 with (fail)
   first|rw[HW1.out,HQ.out]|rw[HW1.out]
   go_region
   go_upto_region 2 with (fail)
   go_region_held3 (fun w'=>w'.cell? ⟨q,3,none⟩=some (.int .i64 oe)∧w'.cell? ⟨b,2,none⟩=some (.slice (some ⟨g,0,none⟩) ph.n ph.c)∧w'.cell? ⟨b,8,none⟩=some (.int .i64 (i:Int))) (first|go_keep|(rw[hkq,hkb,hkb];exact⟨by assumption,by assumption,by assumption⟩))
    (first|(go_at_call 108;(with_reducible refine HSD.out.mono ?_);rintro e wx ⟨rfl,hb⟩;have hb1:Below w1.heap.size w1 wx:=⟨hb.os,hb.tape,hb.output,hb.size,hb.block⟩;obtain⟨l1,l2,l3,l4⟩:=HLT.out wx hb1;have y3:=(l2 3).trans k3;have y2:=(l1 2).trans e2;have y8:=(l1 8).trans e8;have yz:=(l3 (i*4+1)).trans z1;have yf:wx.frozen? ⟨g,i*4+1,none⟩=false:=(l4 (i*4+1)).trans (zf (i*4+1));have HB1:=am hb1;clear hb hb1 l1 l2 l3 l4))
   all_goals go_wp2_with (fail)
   all_goals go_ret
   all_goals
    have hE:=HE1.out.more HM.out HB1.out;have hgx:wx.heap[g]?=some (.cells gc 114 (0,0)):=(HB1.out.block g (blk_lt HGC.out)).trans HGC.out;have h9:=hE.setSelf HM.out HH.out HA.out ⟨gc,hgx⟩ 1 (.int .i64 oe) {x.self with pc:=oe} (fun s hs hk=>⟨{s with pc:=oe},rfl,⟨hs.pg,rfl,hs.al,hs.tm.lm HM.out hk⟩⟩) (by decide);rw[HI.out]at h9;refine⟨rfl,⟨⟨ph,ch,xh,?_⟩,HS1.out.trans ((Still.of_below HB1.out).trans h9.2)⟩⟩;unfold Ex.less;rw[HREG.out,if_pos hlt];exact h9.1
  ·have d1:decide (r<ob)=false:=decide_eq_false hlt;go_enter Tryz.func147,Tryz.ntmps147;go_upto_region 1 with (fail)
   first|rw[HW1.out,HQ.out]|rw[HW1.out]
   go_region
   go_wp2_with (fail)
   go_ret;refine⟨rfl,⟨⟨ph,ch,xh,?_⟩,HS1.out.trans (Still.of_below (below_drew (Below.refl _ _)))⟩⟩;unfold Ex.less;rw[HREG.out,if_neg (by omega)];exact HE1.out.more HM.out (below_drew (Below.refl _ _))
 ·have hx:x.reg 1=x.lp.r1:=rfl;obtain⟨r,hr⟩:∃r,x.lp.r1=r:=⟨_,rfl⟩;rw[hr]at e1;have HREG:=am (hx.trans hr);clear hx hr;by_cases hlt:r<ob
  ·have d1:decide (r<ob)=true:=decide_eq_true hlt;go_enter Tryz.func147,Tryz.ntmps147;go_upto_region 1 with (fail)
   first|rw[HW1.out,HQ.out]|rw[HW1.out]
   go_region
   go_upto_region 2 with (fail)
   go_region_held3 (fun w'=>w'.cell? ⟨q,3,none⟩=some (.int .i64 oe)∧w'.cell? ⟨b,2,none⟩=some (.slice (some ⟨g,0,none⟩) ph.n ph.c)∧w'.cell? ⟨b,8,none⟩=some (.int .i64 (i:Int))) (first|go_keep|(rw[hkq,hkb,hkb];exact⟨by assumption,by assumption,by assumption⟩))
    (first|(go_at_call 108;(with_reducible refine HSD.out.mono ?_);rintro e wx ⟨rfl,hb⟩;have hb1:Below w1.heap.size w1 wx:=⟨hb.os,hb.tape,hb.output,hb.size,hb.block⟩;obtain⟨l1,l2,l3,l4⟩:=HLT.out wx hb1;have y3:=(l2 3).trans k3;have y2:=(l1 2).trans e2;have y8:=(l1 8).trans e8;have yz:=(l3 (i*4+1)).trans z1;have yf:wx.frozen? ⟨g,i*4+1,none⟩=false:=(l4 (i*4+1)).trans (zf (i*4+1));have HB1:=am hb1;clear hb hb1 l1 l2 l3 l4))
   all_goals go_wp2_with (fail)
   all_goals go_ret
   all_goals
    have hE:=HE1.out.more HM.out HB1.out;have hgx:wx.heap[g]?=some (.cells gc 114 (0,0)):=(HB1.out.block g (blk_lt HGC.out)).trans HGC.out;have h9:=hE.setSelf HM.out HH.out HA.out ⟨gc,hgx⟩ 1 (.int .i64 oe) {x.self with pc:=oe} (fun s hs hk=>⟨{s with pc:=oe},rfl,⟨hs.pg,rfl,hs.al,hs.tm.lm HM.out hk⟩⟩) (by decide);rw[HI.out]at h9;refine⟨rfl,⟨⟨ph,ch,xh,?_⟩,HS1.out.trans ((Still.of_below HB1.out).trans h9.2)⟩⟩;unfold Ex.less;rw[HREG.out,if_pos hlt];exact h9.1
  ·have d1:decide (r<ob)=false:=decide_eq_false hlt;go_enter Tryz.func147,Tryz.ntmps147;go_upto_region 1 with (fail)
   first|rw[HW1.out,HQ.out]|rw[HW1.out]
   go_region
   go_wp2_with (fail)
   go_ret;refine⟨rfl,⟨⟨ph,ch,xh,?_⟩,HS1.out.trans (Still.of_below (below_drew (Below.refl _ _)))⟩⟩;unfold Ex.less;rw[HREG.out,if_neg (by omega)];exact HE1.out.more HM.out (below_drew (Below.refl _ _))
end
end
end Go.Proofs.YtfnimdhghglanaaGreat.Hand
end
