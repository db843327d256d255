/- TopScheduleIndependent, part 11 of 27; no condition.  -/
import Derived.Test.YtfnimdhghglanaaGreatQsAJ
set_option maxRecDepth 100000
set_option maxHeartbeats 8000000
set_option linter.unusedVariables false
set_option linter.unusedSimpArgs false
section
namespace Go.Proofs.YtfnimdhghglanaaGreat.Hand
open Go.RowKit Go.Shelf Go.Proofs.YtfnimdhghglanaaGreatW PrintWords PrintLast PrintMore
attribute [local go_sem] max2_int min2_int max_two min_two max_three min_three max_four min_four
def Still (b:Nat) (w w':World):Prop:=(w.heap.size≤w'.heap.size∧∀(k:Nat) (es:Array MapEntry) (n:Nat),w.heap[k]?=some (.map es n)→w'.heap[k]?=w.heap[k]?)∧∀(k:Nat) (cells:Array Value) (t:TypeId),w.heap[k]?=some (.cells cells t (0,0))→k≠b→t≠114→t≠49→t≠35→w'.heap[k]?=w.heap[k]?
theorem Still.of_below {b:Nat} {w w':World} (h:Below w.heap.size w w'):Still b w w':=⟨⟨h.size,fun k es n hk=>h.block k (blk_lt hk)⟩,fun k cells t hk _ _ _ _=>h.block k (blk_lt hk)⟩
theorem Still.trans {b:Nat} {w w' w2:World} (h:Still b w w') (k:Still b w' w2):Still b w w2:=⟨⟨Nat.le_trans h.1.1 k.1.1,fun j es n hj=>(k.1.2 j es n ((h.1.2 j es n hj).trans hj)).trans (h.1.2 j es n hj)⟩,fun j cells t hj h1 h2 h3 h4=>by
 have e:=h.2 j cells t hj h1 h2 h3 h4;exact(k.2 j cells t (e.trans hj) h1 h2 h3 h4).trans e⟩
theorem Still.put {b:Nat} (w:World) (j:Nat) (u:Value):Still b w (w.setCell ⟨b,j,none⟩ u):=⟨⟨by simp[World.setCell],fun k es n hk=>by
  by_cases e:k=b
  ·subst e;simp[World.setCell,Array.getElem?_modify,hk]
  ·exact Below.heap_setCell w ⟨b,j,none⟩ u k e⟩,fun k cells t hk h1 _ _ _=>Below.heap_setCell w ⟨b,j,none⟩ u k h1⟩
theorem Still.grown {b g:Nat} {w w':World} {t0:TypeId} {arr:Array Value} (hg:w.grownBy w' (some g)) (hh:w.heap[g]?=some (.cells arr t0 (0,0))) (ht:t0=114∨t0=49∨t0=35):Still b w w':=
 ⟨⟨hg.size,fun k es n hk=>hg.block k (blk_lt hk) fun e=>by
  cases e;rw[hh]at hk;cases hk⟩,fun k cells t hk _ h2 h3 h4=>hg.block k (blk_lt hk) fun e=>by
  cases e;rw[hh]at hk;cases hk;rcases ht with ht|ht|ht
  ·exact h2 ht
  ·exact h3 ht
  ·exact h4 ht⟩
theorem OwnAt.still {α β:Type} {d:Kd α} {e:TypeId} {R:(Nat→Prop)→World→α→β→Prop} {Mt:Nat→Prop} {B b:Nat} {w w':World} {h:SH} {xs:List β} (r:OwnAt d e R Mt B w h xs) (he:e=114∨e=49∨e=35) (hg:w.grownBy w' (Value.slice h.A h.n h.c).ownBlock):Still b w w':=by
 obtain⟨ss,h1,_⟩:=r.ex;cases ho:(Value.slice h.A h.n h.c).ownBlock with
 |none=>
  rw[ho]at hg;exact⟨⟨hg.size,fun k es n hk=>hg.block k (blk_lt hk) (fun e=>by cases e)⟩,fun k cells t hk _ _ _ _=>hg.block k (blk_lt hk) (fun e=>by cases e)⟩
 |some g=>
  rw[ho]at hg;obtain⟨cells,hc⟩:=Kd.R_typed h1 g ho;exact Still.grown hg hc he
def Ex.made (x:Ex) (d:Int) (e0:Ev):Ev:={e0 with t:=IntKind.i64.wrap (x.ev.t+d),k:=x.ev.k++[(x.n:Int)]}
def Ex.create (x:Ex) (d:Int) (e0:Ev):Ex:=if 1152921504606846976<(x.made d e0).t then{x with n:=x.n+1,ov:=true}else{x with n:=x.n+1,cr:=x.cr++[x.made d e0]}
theorem R_slice3 {α:Type} {d:Kd α} {e base:Nat} {ok:Nat→Prop} {w:World} {v:Value} {xs:List α} (h:d.R e w base ok v xs):∃A n c,n=xs.length∧v= .slice A n c:=by
 obtain⟨A,c,rfl⟩:=Kd.R_slice h;exact⟨A,_,c,rfl,rfl⟩
theorem box_free {w wx:World} {arr:Array Value} {t:TypeId} (hb:Below (w.alloc (.cells arr t)).heap.size (w.alloc (.cells arr t)) wx) (j:Nat):wx.frozen? ⟨w.heap.size,j,none⟩=false:=by
 have hlt:w.heap.size<(w.alloc (.cells arr t)).heap.size:=by rw[World.size_alloc];omega
 exact blk_frozen ((hb.block _ hlt).trans (World.alloc_heap_new _ _)) j
theorem create_calls {Mt:Nat→Prop} {W w:World} {b:Nat} {kh ph ch xh:SH} {x:Ex} (h:ExAt Mt W w b kh ph ch xh x) (hM:∀k,Mt k→k<W.heap.size) (d lp kd pr ar:Int) (hk:x.ev.k.length≤900000) (hc:x.cr.length≤100000) (hn:x.n≤100000):
  Calls Tryz.prog 153 #[.pointer (some ⟨b,0,none⟩),.int .i64 d,.agg #[.int .i64 0,.slice none 0 0,.int .i64 lp,.int .i64 kd,.int .i64 pr,.int .i64 ar]] w fun e w'=>
   ∃(s ch':SH),e= .returned (.slice s.A s.n s.c)∧KeyAt (Lm Mt W.heap.size w') w' s (x.ev.k++[(x.n:Int)])∧ExAt Mt W w' b kh ph ch' xh (x.create d ⟨0,[],lp,kd,pr,ar⟩)∧Still b w w':=by
 have H:=am h;have HM:=am hM;have hcl:=h.cells;have e4:w.cell? ⟨b,4,none⟩=some (.int .i64 x.ev.t):=hcl 4 _ rfl;have e5:w.cell? ⟨b,5,none⟩=some (.slice kh.A kh.n kh.c):=hcl 5 _ rfl;have e11:w.cell? ⟨b,11,none⟩=some (.int .i64 (x.n:Int)):=hcl 11 _ rfl;have hbw:b<w.heap.size:=blk_lt h.blk;have hkl:kh.n=x.ev.k.length:=h.p.key.len;have HKL:=am hkl;have HLT:=am (show∀w',Below w.heap.size w w'→∀j,w'.cell? ⟨b,j,none⟩=w.cell? ⟨b,j,none⟩from fun w' hb j=>hb.cell (p:=⟨b,j,none⟩) hbw)
 have HCH:=am (fun(w0:World) (hb:Below w.heap.size w w0)=>child_calls kh.A kh.n kh.c x.ev.k (x.n:Int) w0 ((h.p.key.below hb).here) (by omega));have HN:=am hn;have HK:=am hk;have HCR:=am hc;clear h hM hcl hkl hk hc hn;obtain⟨t,ht⟩:∃t,IntKind.i64.wrap (x.ev.t+d)=t:=⟨_,rfl⟩;go_enter Tryz.func153,Tryz.ntmps153;have hne:b≠w.heap.size:=by omega
 have hkb:∀(w':World) j u k,(w'.setCell ⟨w.heap.size,j,none⟩ u).cell? ⟨b,k,none⟩=w'.cell? ⟨b,k,none⟩:=fun w' j u k=>cell_far (p:=⟨w.heap.size,j,none⟩) (a:=⟨b,k,none⟩) hne u;go_upto_region 2 with (fail)
 go_region_held3 (fun w'=>w'.cell? ⟨b,5,none⟩=some (.slice kh.A kh.n kh.c)∧w'.cell? ⟨b,11,none⟩=some (.int .i64 (x.n:Int))) (first|go_keep|(simp only[hkb];exact⟨by assumption,by assumption⟩))
  (first|(go_at_call 75;(with_reducible refine(HCH.out _ (below_drew (below_alloc (Below.refl _ _) _))).mono ?_);rintro e wx ⟨v,rfl,hv,hb⟩;obtain⟨sA,sn,sc,hsn,rfl⟩:=R_slice3 hv;have hbd:=(below_drew (Below.refl (w.alloc (.cells #[.int .i64 t,.slice none 0 0,.int .i64 lp,.int .i64 kd,.int .i64 pr,.int .i64 ar] 49)).heap.size (w.alloc (.cells #[.int .i64 t,.slice none 0 0,.int .i64 lp,.int .i64 kd,.int .i64 pr,.int .i64 ar] 49)))).trans hb;obtain⟨hb2,c0,c1,c2,c3,c4,c5⟩:=boxed ⟨t,.nil,lp,kd,pr,ar⟩ hbd;have fr:=box_free hbd;have f5:=(HLT.out wx hb2 5).trans e5;have f11:=(HLT.out wx hb2 11).trans e11;have HV:=am hv;have HB2:=am hb2;have HBD:=am hbd;have HSN:=am hsn;clear hv hb hb2 hbd hsn))
 obtain⟨q,hq⟩:∃q,w.heap.size=q:=⟨_,rfl⟩;have hwb:=World.size_alloc w (.cells #[.int .i64 t,.slice none 0 0,.int .i64 lp,.int .i64 kd,.int .i64 pr,.int .i64 ar] 49);have hblk:wx.heap[q]?=some (.cells #[.int .i64 t,.slice none 0 0,.int .i64 lp,.int .i64 kd,.int .i64 pr,.int .i64 ar] 49 (0,0)):=by
  rw[←hq];exact(HBD.out.block _ (by omega)).trans (World.alloc_heap_new _ _)
 have hblk2:EvBox (wx.setCell ⟨q,1,none⟩ (.slice sA sn sc)) q ⟨t,⟨sA,sn,sc⟩,lp,kd,pr,ar⟩:=blk_put hblk 1 (.slice sA sn sc) rfl;have b2:Below w.heap.size w (wx.setCell ⟨q,1,none⟩ (.slice sA sn sc)):=HB2.out.setCell (p:=⟨q,1,none⟩) (by simp only;omega) _;have hv2:Kd.R (Kd.int .i64) 3 (wx.setCell ⟨q,1,none⟩ (.slice sA sn sc)) (w.heap.size+1) (fun _=>True) (.slice sA sn sc) (x.ev.k++[(x.n:Int)]):=by
  have h0:=HV.out;have h1:Kd.R (Kd.int .i64) 3 wx (w.heap.size+1) (fun _=>True) (.slice sA sn sc) (x.ev.k++[(x.n:Int)]):=by rw[←hwb];exact h0
  refine R_stay h1 rfl fun k hk=>Below.heap_setCell wx ⟨q,1,none⟩ _ k fun e=> ?_;have:=Kd.R_base h1 k hk;simp only at e;omega
 rw[hq];rw[hq]at hkb hne;clear c0 c1 c2 c3 c4 c5 fr f5 f11 HV HBD hblk;obtain⟨w2,hw2⟩:∃w2,wx.setCell ⟨q,1,none⟩ (.slice sA sn sc)=w2:=⟨_,rfl⟩;rw[hw2]at hblk2 b2 hv2 ⊢;have HE2:=am (H.out.more HM.out b2);have HWW:=am (Nat.le_trans H.out.p.below.size (Nat.le_refl w.heap.size));have HKEY:=am (show KeyAt (Lm Mt W.heap.size w2) w2 ⟨sA,sn,sc⟩ (x.ev.k++[(x.n:Int)])from Rd.of_R rfl hv2 fun k hk hm=>by
  have h1:=Kd.R_base hv2 k hk;rcases hm with hm|⟨_,hm⟩
  ·have:=HM.out k hm;have:=HWW.out;omega
  ·exact hm (Kd.R_typed hv2 k hk))
 have HBX:=am hblk2;have HST:=am (Still.of_below (b:=b) b2);obtain⟨q0,q1,q2,q3,q4,q5⟩:=hblk2.cells;simp only at q0 q1 q2 q3 q4 q5;have hkq:∀(w':World) j u k,(w'.setCell ⟨b,j,none⟩ u).cell? ⟨q,k,none⟩=w'.cell? ⟨q,k,none⟩:=fun w' j u k=>cell_far (p:=⟨b,j,none⟩) (a:=⟨q,k,none⟩) (Ne.symm hne) u;have g11:w2.cell? ⟨b,11,none⟩=some (.int .i64 (x.n:Int)):=HE2.out.cells 11 _ rfl;have gf:=HE2.out.free;have wn:IntKind.i64.wrap ((x.n:Int)+1)=((x.n+1:Nat):Int):=(i64_w _).trans (by unfold Go.RowKit.wrap64;have:=HN.out;omega);have HB0:=am H.out.hb
 have HE3:=am (show ExAt Mt W (w2.setCell ⟨b,11,none⟩ (.int .i64 ((x.n+1:Nat):Int))) b kh ph ch xh {x with n:=x.n+1}from
  HE2.out.put 11 _ rfl (by
   have hp:=HE2.out.p.put HM.out HB0.out HE2.out.blk 11 (.int .i64 ((x.n+1:Nat):Int));exact⟨hp.below,hp.key,hp.ps,hp.cr,hp.ca⟩))
 have HK3:=am (show Keep (Lm Mt W.heap.size w2) w2 (w2.setCell ⟨b,11,none⟩ (.int .i64 ((x.n+1:Nat):Int)))from Keep.grown_lm (grown_cells [_] w2 11) HB0.out HE2.out.blk (by decide));have HKEY3:=am (HKEY.out.lm HM.out HK3.out);have HST3:=am (HST.out.trans (Still.put w2 11 (.int .i64 ((x.n+1:Nat):Int))));have HMD:=am (show x.made d ⟨0,[],lp,kd,pr,ar⟩=⟨t,x.ev.k++[(x.n:Int)],lp,kd,pr,ar⟩by unfold Ex.made;rw[ht]);clear hw2 hblk2 b2 hv2 hkb hwb HLT HCH;by_cases hov:1152921504606846976<t
 ·have d1:decide ((1152921504606846976:Int)<t)=true:=decide_eq_true hov;have g13:w2.cell? ⟨b,13,none⟩=some (.bool x.ov):=HE2.out.cells 13 _ rfl
  go_wp2_with (fail)
  go_ret;have hE4:ExAt Mt W ((w2.setCell ⟨b,11,none⟩ (.int .i64 ((x.n+1:Nat):Int))).setCell ⟨b,13,none⟩ (.bool true)) b kh ph ch xh {x with n:=x.n+1,ov:=true}:=
   HE3.out.put 13 _ rfl (by
    have hp:=HE3.out.p.put HM.out HB0.out HE3.out.blk 13 (.bool true);exact⟨hp.below,hp.key,hp.ps,hp.cr,hp.ca⟩)
  refine⟨⟨sA,sn,sc⟩,ch,rfl,HKEY3.out.lm HM.out (Keep.grown_lm (grown_cells [_] _ 13) HB0.out HE3.out.blk (by decide)),?_,HST3.out.trans (Still.put _ 13 _)⟩;unfold Ex.create;rw[HMD.out,if_pos hov];exact hE4
 ·have d1:decide ((1152921504606846976:Int)<t)=false:=decide_eq_false hov;have HNQ:=am (show some q≠(Value.slice ch.A ch.n ch.c).ownBlock from fun e=>by
   obtain⟨ss,h1,_⟩:=H.out.p.cr.ex;have:=Kd.R_lt h1 q e.symm;omega)
  go_upto_region 6 with (fail)
  have hqw:q<w2.heap.size:=World.block_lt_of_cell? w2 ⟨q,0,none⟩ q0;obtain⟨w3,hw3⟩:∃w3,w2.setCell ⟨b,11,none⟩ (.int .i64 ((x.n:Int)+1))=w3:=⟨_,rfl⟩;have hw3':w2.setCell ⟨b,11,none⟩ (.int .i64 ((x.n+1:Nat):Int))=w3:=hw3;rw[hw3']at HE3 HKEY3 HST3;rw[hw3];have hq3:∀k,w3.cell? ⟨q,k,none⟩=w2.cell? ⟨q,k,none⟩:=fun k=>by rw[←hw3];exact hkq _ _ _ _
  have q0:=(hq3 0).trans q0;have q1:=(hq3 1).trans q1;have q2:=(hq3 2).trans q2;have q3:=(hq3 3).trans q3;have q4:=(hq3 4).trans q4;have q5:=(hq3 5).trans q5;have g10:w3.cell? ⟨b,10,none⟩=some (.slice ch.A ch.n ch.c):=HE3.out.cells 10 _ rfl;have hbl:b<w3.heap.size:=blk_lt HE3.out.blk;have hql:q<w3.heap.size:=World.block_lt_of_cell? w3 ⟨q,0,none⟩ q0;have HBL:=am hbl;have HQL:=am hql;have al:∀o j,(w3.drew.alloc o).cell? ⟨b,j,none⟩=w3.cell? ⟨b,j,none⟩:=fun o j=>(below_alloc (Below.refl w3.drew.heap.size w3.drew) o).cell (p:=⟨b,j,none⟩) hbl
  have aq:∀o j,(w3.drew.alloc o).cell? ⟨q,j,none⟩=w3.cell? ⟨q,j,none⟩:=fun o j=>(below_alloc (Below.refl w3.drew.heap.size w3.drew) o).cell (p:=⟨q,j,none⟩) hql;have a10:=fun o=>(al o 10).trans g10;have a0:=fun o=>(aq o 0).trans q0;have a1:=fun o=>(aq o 1).trans q1;have a2:=fun o=>(aq o 2).trans q2;have a3:=fun o=>(aq o 3).trans q3;have a4:=fun o=>(aq o 4).trans q4;have a5:=fun o=>(aq o 5).trans q5;obtain⟨se,hse,hse2⟩:=HE3.out.p.cr.ex;have HSE:=am hse;have HSE2:=am hse2;have HSL:=am (show se.length≤100000 by rw[hse2.len];exact HCR.out)
  have HSZ:=am (show W.heap.size≤w3.drew.heap.size from HE3.out.p.below.size);have HNB:=am (show some b≠(Value.slice ch.A ch.n ch.c).ownBlock from fun e=>by
   obtain⟨cells,hc⟩:=Kd.R_typed hse b e.symm;rw[HE3.out.blk]at hc;cases hc)
  have HF10:=am (HE3.out.free 10);have Q1:=am q1;clear al aq hse hse2 hbl hql hq3 gf;refine sz_ 11 (S:=fun w'=>w'.cell? ⟨b,10,none⟩=some (.slice ch.A ch.n ch.c)∧w'.cell? ⟨q,0,none⟩=some (.int .i64 t)∧w'.cell? ⟨q,1,none⟩=some (.slice sA sn sc)∧w'.cell? ⟨q,2,none⟩=some (.int .i64 lp)∧w'.cell? ⟨q,3,none⟩=some (.int .i64 kd)∧w'.cell? ⟨q,4,none⟩=some (.int .i64 pr)∧w'.cell? ⟨q,5,none⟩=some (.int .i64 ar)) (ds:=[7,10]) ⟨g10,q0,q1,q2,q3,q4,q5⟩ (fun hHeld=> ?_);refine pz_ 0 39 11 1 ?_;refine pz_ 1 40 11 3 ?_;refine pz_ 2 41 11 7 ?_;refine pz_ 3 42 11 15 ?_;refine tz_ 4 43 11 31 hHeld ?_
  refine tz_ 5 44 11 63 hHeld ?_;refine one_ (i:=6) (N:=some 45) (bv 11 127) rfl rfl (by kernel_rfl) (by decide) (fun K hK=> ?_);refine value_ (w1:= ?_) (v:= ?_) (by rfl) rfl ?_ ?_;rotate_left 2
  ·go_simp;constructor
   ·rfl
   ·rfl
  refine hK.out _ _ ⟨a10 _,a0 _,a1 _,a2 _,a3 _,a4 _,a5 _⟩ (fun hHeld=> ?_);clear hK K;refine norm_ (a':= ?_) ?_ ?_;rotate_left
  ·show Act.put _ (some 45) _=_;simp only[Act.put,List.setIfInBounds_toArray,List.set_cons_zero,List.set_cons_succ,i64_w,i32_w];rfl
  refine last_ (i:=7) (N:=some 46) (bv 11 255) rfl rfl (by kernel_rfl) (by decide) (fun K hK=> ?_)
  refine Kd.R_append_step kE (w0:=w3) W.heap.size (by rfl) (.tmp 43) (.tmp 45) 47 49 (.agg #[.int .i64 0,.slice none 0 0,.int .i64 0,.int .i64 0,.int .i64 0,.int .i64 0]) 64 rfl Tryz.underlying47 infoEv rfl (by decide) (by omega) (.slice ch.A ch.n ch.c) se ⟨t,⟨sA,sn,sc⟩,lp,kd,pr,ar⟩ [.int .i64 t,.slice sA sn sc,.int .i64 lp,.int .i64 kd,.int .i64 pr,.int .i64 ar] (fun _=>True) (fun _=>False) rfl rfl rfl (fun _ hk=>hk.elim) (fun _ _=>trivial) (Kd.R_drew HSE.out) (below_drew (Below.refl _ _)) HSZ.out (by have:=HSL.out;omega) ?_;intro v5 w5 hv5 hb5 hg5 hat5;obtain⟨A5,n5,c5',hn5,rfl⟩:=R_slice3 hv5
  have hx10:w5.cell? ⟨b,10,none⟩=some (.slice ch.A ch.n ch.c):=by simp only[World.cell?,hg5.block b HBL.out HNB.out];exact g10
  have hf10:w5.frozen? ⟨b,10,none⟩=false:=by simp only[World.frozen?,hg5.block b HBL.out HNB.out];exact HF10.out
  have HV5:=am hv5;have HG5:=am hg5;have HB5:=am hb5;have HN5:=am hn5;clear hv5 hg5 hb5 hat5 hn5;refine hK.out _ _ ?_;clear hK K;refine norm_ (a':= ?_) ?_ ?_;rotate_left
  ·show Act.put _ (some 46) _=_;simp only[Act.put,List.setIfInBounds_toArray,List.set_cons_zero,List.set_cons_succ,i64_w,i32_w];rfl
  refine pz_ 8 47 11 511 ?_;refine pz_ 9 48 11 1023 ?_;refine last_ (i:=10) (N:=none) (bv 11 2047) rfl rfl (by kernel_rfl) (by decide) (fun K hK=> ?_);refine skip_ (w1:= ?_) (by rfl) rfl ?_ ?_;rotate_left
  ·go_simp;rfl
  refine hK.out _ _ ?_;clear hK K;refine done_ (by kernel_rfl) ?_;have c1:w5.cell? ⟨q,1,none⟩=some (.slice sA sn sc):=by
   simp only[World.cell?,HG5.out.block q HQL.out HNQ.out];exact Q1.out
  go_wp2_with (fail)
  go_ret;have hE3d:=HE3.out.more HM.out (below_drew (Below.refl w3.heap.size w3));have hk5d:=hE3d.p.cr.grow (w':=w5) (by decide) HG5.out;have hk5:Keep (Lm Mt W.heap.size w3) w3 w5:=⟨hk5d.size,hk5d.block⟩;have hkey5:=HKEY3.out.lm HM.out hk5;have hp5:ExP Mt W w5 kh ph ⟨A5,n5,c5'⟩ xh {x with n:=x.n+1,cr:=x.cr++[⟨t,x.ev.k++[(x.n:Int)],lp,kd,pr,ar⟩]}:=
   ⟨HE3.out.p.below.trans HB5.out,HE3.out.p.key.lm HM.out hk5,hE3d.p.ps.beside rfl hE3d.p.cr (by decide) HG5.out (fun _ _ hs=>PcAt.lm hs HM.out hk5d),
    ⟨⟨_,HV5.out,(HSE2.out.imp fun _ _ hs=>EvAt.lm hs HM.out hk5).append (.cons ⟨rfl,rfl,rfl,rfl,rfl,hkey5⟩ .nil)⟩⟩,
    hE3d.p.ca.beside rfl hE3d.p.cr (by decide) HG5.out (fun _ _ hs=>Rd.lm hs HM.out hk5d)⟩
  have hblk5:w5.heap[b]?=some (.cells (exCells kh ph ch xh {x with n:=x.n+1}) TExec (0,0)):=(HG5.out.block b HBL.out HNB.out).trans HE3.out.blk;have hE9:ExAt Mt W (w5.setCell ⟨b,10,none⟩ (.slice A5 n5 c5')) b kh ph ⟨A5,n5,c5'⟩ xh {x with n:=x.n+1,cr:=x.cr++[⟨t,x.ev.k++[(x.n:Int)],lp,kd,pr,ar⟩]}:=
   ⟨hp5.put HM.out HB0.out hblk5 10 _,HB0.out,blk_put hblk5 10 _ rfl⟩
  have hst:Still b w3 w5:=⟨⟨(hE3d.p.cr.still (b:=b) (w':=w5) (.inr (.inl rfl)) HG5.out).1.1,(hE3d.p.cr.still (b:=b) (w':=w5) (.inr (.inl rfl)) HG5.out).1.2⟩,(hE3d.p.cr.still (b:=b) (w':=w5) (.inr (.inl rfl)) HG5.out).2⟩;refine⟨⟨sA,sn,sc⟩,rfl,hkey5.lm HM.out (Keep.grown_lm (grown_cells [.slice A5 n5 c5'] w5 10) HB0.out hblk5 (by decide)),⟨⟨A5,n5,c5'⟩,?_⟩,HST3.out.trans (hst.trans (Still.put w5 10 _))⟩;unfold Ex.create;rw[HMD.out,if_neg (by simpa using hov)];exact hE9
section
def OpC.v (o:OpC):Value:= .agg #[.int .i64 o.code,.int .i64 o.a,.int .i64 o.b,.int .i64 o.c]
structure Room (x:Ex):Prop where
 k:x.ev.k.length≤900000
 cr:x.cr.length≤100000
 n:x.n≤100000
 ca:x.ca.length≤100000
 ps:x.lp.ps.length≤8
structure Ran (Mt:Nat→Prop) (W w:World) (b:Nat) (kh:SH) (x':Ex) (w':World):Prop where
 ex:∃ph ch xh:SH,ExAt Mt W w' b kh ph ch xh x'
 still:Still b w w'
theorem op_box {w wx:World} (o:OpC) (hb:Below (w.alloc (.cells #[.int .i64 o.code,.int .i64 o.a,.int .i64 o.b,.int .i64 o.c] 93)).heap.size (w.alloc (.cells #[.int .i64 o.code,.int .i64 o.a,.int .i64 o.b,.int .i64 o.c] 93)) wx):
  Below w.heap.size w wx∧wx.heap[w.heap.size]?=some (.cells #[.int .i64 o.code,.int .i64 o.a,.int .i64 o.b,.int .i64 o.c] 93 (0,0)):=by
 have hlt:w.heap.size<(w.alloc (.cells #[.int .i64 o.code,.int .i64 o.a,.int .i64 o.b,.int .i64 o.c] 93)).heap.size:=by rw[World.size_alloc];omega
 exact⟨(below_alloc (Below.refl _ _) _).trans (hb.mono (Nat.le_of_lt hlt)),(hb.block _ hlt).trans (World.alloc_heap_new _ _)⟩
theorem op_cell {w:World} {q:Nat} {o:OpC} (h:w.heap[q]?=some (.cells #[.int .i64 o.code,.int .i64 o.a,.int .i64 o.b,.int .i64 o.c] 93 (0,0))):w.cell? ⟨q,1,none⟩=some (.int .i64 o.a)∧w.cell? ⟨q,2,none⟩=some (.int .i64 o.b)∧w.cell? ⟨q,3,none⟩=some (.int .i64 o.c):=by
 refine⟨?_,?_,?_⟩<;>simp[World.cell?,h]
section
variable {Mt:Nat→Prop} {W w:World} {b:Nat} {kh ph ch xh:SH} {x:Ex}
theorem end_calls (w:World) (b:Nat) (o:OpC):Calls Tryz.prog 148 #[.pointer (some ⟨b,0,none⟩),o.v] w fun e w'=>e= .returned (.int .i64 2)∧Below w.heap.size w w':=by
 simp only[OpC.v];go_enter Tryz.func148,Tryz.ntmps148
 go_wp2_with (fail)
 go_ret;exact⟨rfl,by go_grown⟩
theorem send_calls (h:ExAt Mt W w b kh ph ch xh x) (hM:∀k,Mt k→k<W.heap.size) (hr:Room x) (o:OpC):
  Calls Tryz.prog 142 #[.pointer (some ⟨b,0,none⟩),o.v] w fun e w'=>e= .returned (.int .i64 0)∧Ran Mt W w b kh (x.create o.c ⟨0,[],o.a,3,0,o.b⟩) w':=by
 have hb0:=fun ob=>below_alloc (Below.refl w.heap.size w) ob;have HC:=am (fun ob=>create_calls (h.more hM (hb0 ob)) hM o.c o.a 3 0 o.b hr.k hr.cr hr.n);have HB:=am hb0;obtain⟨oc,oa,ob,oe⟩:=o;simp only[OpC.v]at HC ⊢;clear h hM hr hb0;go_enter Tryz.func142,Tryz.ntmps142
 go_wp2_with (first|(go_at_call 153;(with_reducible refine(HC.out _).mono ?_);rintro e wx ⟨s,ch',rfl,_,hE,hS⟩;have HE:=am hE;have HS:=am hS;clear hE hS))
 go_ret;exact⟨rfl,⟨⟨ph,ch',xh,HE.out⟩,(Still.of_below (HB.out _)).trans HS.out⟩⟩
theorem hold_calls (h:ExAt Mt W w b kh ph ch xh x) (hM:∀k,Mt k→k<W.heap.size) (hr:Room x) (o:OpC):
  Calls Tryz.prog 141 #[.pointer (some ⟨b,0,none⟩),o.v] w fun e w'=>e= .returned (.int .i64 1)∧Ran Mt W w b kh (x.create o.a ⟨0,[],x.ev.lp,1,x.ev.pr,0⟩) w':=by
 have HC:=am (fun(w0:World) (hb:Below w.heap.size w w0)=>create_calls (h.more hM hb) hM o.a x.ev.lp 1 x.ev.pr 0 hr.k hr.cr hr.n);have HO:=am (fun(w0:World) (hb:Below w.heap.size w w0)=>own_calls (w:=w0) (b:=b) x.ev.lp 1 x.ev.pr 0 ((h.more hM hb).cells 6 _ rfl));have hbw:b<w.heap.size:=blk_lt h.blk;have HLT:=am (show∀w',Below w.heap.size w w'→∀j,w'.cell? ⟨b,j,none⟩=w.cell? ⟨b,j,none⟩from fun w' hb j=>hb.cell (p:=⟨b,j,none⟩) hbw);have e8:w.cell? ⟨b,8,none⟩=some (.int .i64 x.ev.pr):=h.cells 8 _ rfl;obtain⟨oc,oa,ob,oe⟩:=o;simp only[OpC.v]at HC ⊢;clear h hM hr
 have hq:b≠w.heap.size:=by omega
 go_enter Tryz.func141,Tryz.ntmps141;go_upto_region 1 with (fail)
 go_region_held3 (fun w'=>w'.cell? ⟨w.heap.size,1,none⟩=some (.int .i64 oa)∧w'.cell? ⟨b,8,none⟩=some (.int .i64 x.ev.pr)) (go_keep)
  (first
  |(go_at_call 154;(with_reducible refine(HO.out _ (below_drew (below_alloc (Below.refl _ _) _))).mono ?_);rintro e wx ⟨rfl,hb⟩;obtain⟨hb2,hbk⟩:=op_box ⟨oc,oa,ob,oe⟩ ((below_drew (Below.refl _ _)).trans hb);obtain⟨c1,_,_⟩:=op_cell hbk;have f8:=(HLT.out _ hb2 8).trans e8;have HB2:=am hb2;have HBK:=am hbk;clear hb hb2 hbk)
  |(go_at_call 153;(with_reducible refine(HC.out _ HB2.out).mono ?_);rintro e wy ⟨s,ch',rfl,_,hE,hS⟩;have hbk:=(hS.2 _ _ _ HBK.out (Ne.symm hq) (by decide) (by decide) (by decide)).trans HBK.out;obtain⟨c1,_,_⟩:=op_cell (o:=⟨oc,oa,ob,oe⟩) hbk;have HE:=am hE;have HS:=am hS;have f8:wy.cell? ⟨b,8,none⟩=some (.int .i64 x.ev.pr):=(by have:=hE.cells 8 _ rfl;unfold Ex.create at this;split at this<;>exact this);clear hE hS hbk))
 all_goals go_wp2_with (fail)
 all_goals go_ret
 all_goals exact⟨rfl,⟨⟨ph,ch',xh,HE.out⟩,(Still.of_below HB2.out).trans HS.out⟩⟩
end
end
section
def Pc.zero:Pc:=⟨0,0,false,[]⟩
def Ex.self (x:Ex):Pc:=x.lp.ps.getD x.ev.pr.toNat Pc.zero
def Ex.setSelf (x:Ex) (p:Pc):Ex:={x with lp:={x.lp with ps:=x.lp.ps.set x.ev.pr.toNat p}}
def Ex.reg (x:Ex) (a:Int):Int:=if a=0 then x.lp.r0 else x.lp.r1
def Ex.add (x:Ex) (a v:Int):Ex:=if a=0 then{x with lp:={x.lp with r0:=IntKind.i64.wrap (x.lp.r0+v)}}else{x with lp:={x.lp with r1:=IntKind.i64.wrap (x.lp.r1+v)}}
def Ex.less (x:Ex) (a v c:Int):Ex:=if x.reg a<v then x.setSelf {x.self with pc:=c}else x
structure Here (x:Ex):Prop where
 lo:0≤x.ev.pr
 hi:x.ev.pr.toNat<x.lp.ps.length
section
variable {Mt:Nat→Prop} {W w:World} {b:Nat} {kh ph ch xh:SH} {x:Ex}
theorem ExAt.setSelf (h:ExAt Mt W w b kh ph ch xh x) (hM:∀k,Mt k→k<W.heap.size) (hh:Here x) {g:Nat} (hA:ph.A=some ⟨g,0,none⟩) (hg:∃cells,w.heap[g]?=some (.cells cells 114 (0,0))) (j:Nat) (u:Value) (p':Pc)
  (hp:∀s,PcAt (Lm Mt W.heap.size w) w s x.self→Keep (Lm Mt W.heap.size w) w (w.setCell ⟨g,x.ev.pr.toNat*4+j,none⟩ u)→∃s',(SP.cells s).take j++[u]++(SP.cells s).drop (j+1)=SP.cells s'∧PcAt (Lm Mt W.heap.size (w.setCell ⟨g,x.ev.pr.toNat*4+j,none⟩ u)) (w.setCell ⟨g,x.ev.pr.toNat*4+j,none⟩ u) s' p') (hj:j<4):
  ExAt Mt W (w.setCell ⟨g,x.ev.pr.toNat*4+j,none⟩ u) b kh ph ch xh (x.setSelf p')∧Still b w (w.setCell ⟨g,x.ev.pr.toNat*4+j,none⟩ u):=by
 have hself:x.self=x.lp.ps[x.ev.pr.toNat]'hh.hi:=by simp[Ex.self,List.getD_eq_getElem?_getD,List.getElem?_eq_getElem hh.hi]
 rw[hself]at hp;obtain⟨h1,h2,h3⟩:=h.p.ps.put hM x.ev.pr.toNat hh.hi hA j u p' hp hj;obtain⟨cells,hc⟩:=hg;have hB:W.heap.size≤g:=by
  obtain⟨g',s,hA',hB,_⟩:=h.p.ps.get x.ev.pr.toNat hh.hi;rw[hA]at hA';cases hA';exact hB
 have hne:b≠g:=fun e=>by
  have:=h.blk;rw[e,hc]at this;cases this
 refine⟨⟨⟨h.p.below.trans ((Below.refl W.heap.size w).setCell (p:=⟨g,x.ev.pr.toNat*4+j,none⟩) hB u),h.p.key.lm hM h3,h1,h.p.cr.far rfl hc (by decide) h2 (fun _ _ hs=>EvAt.lm hs hM h3),h.p.ca.far rfl hc (by decide) h2 (fun _ _ hs=>Rd.lm hs hM h3)⟩,h.hb,?_⟩,Still.grown h2 hc (.inl rfl)⟩;exact(Below.heap_setCell w ⟨g,x.ev.pr.toNat*4+j,none⟩ u b hne).trans h.blk
theorem exAdd_calls (h:ExAt Mt W w b kh ph ch xh x) (hM:∀k,Mt k→k<W.heap.size) (o:OpC) (ha:o.a=0∨o.a=1):
  Calls Tryz.prog 146 #[.pointer (some ⟨b,0,none⟩),o.v] w fun e w'=>e= .returned (.int .i64 0)∧Ran Mt W w b kh (x.add o.a o.b) w':=by
 have hbw:b<w.heap.size:=blk_lt h.blk;obtain⟨oc,oa,ob,oe⟩:=o;simp only at ha;simp only[OpC.v];obtain⟨hb0,hbk⟩:=op_box (w:=w) ⟨oc,oa,ob,oe⟩ (Below.refl _ _);obtain⟨k1,k2,_⟩:=op_cell hbk;simp only at k1 k2 hb0;obtain⟨w1,hw1⟩:∃w1,w.alloc (.cells #[.int .i64 oc,.int .i64 oa,.int .i64 ob,.int .i64 oe] 93)=w1:=⟨_,rfl⟩;rw[hw1]at k1 k2 hb0;have HE1:=am (h.more hM hb0);have HS1:=am (Still.of_below (b:=b) hb0);have HM:=am hM;have e0:w1.cell? ⟨b,0,none⟩=some (.int .i64 x.lp.r0):=HE1.out.cells 0 _ rfl;have e1:w1.cell? ⟨b,1,none⟩=some (.int .i64 x.lp.r1):=HE1.out.cells 1 _ rfl
 have gf:=HE1.out.free;have HW1:=am hw1;clear h hM hbk hb0 hw1;rcases ha with rfl|rfl
 ·obtain⟨r,hr⟩:∃r,IntKind.i64.wrap (x.lp.r0+ob)=r:=⟨_,rfl⟩;go_enter Tryz.func146,Tryz.ntmps146;go_upto_region 1 with (fail)
  rw[HW1.out];refine sz_ 16 (S:=fun w'=>w'.cell? ⟨w.heap.size,1,none⟩=some (.int .i64 0)∧w'.cell? ⟨w.heap.size,2,none⟩=some (.int .i64 ob)∧w'.cell? ⟨b,0,none⟩=some (.int .i64 x.lp.r0)) (ds:=[15]) ⟨k1,k2,e0⟩ (fun hHeld=> ?_);refine pz_ 0 5 16 1 ?_;refine pz_ 1 6 16 3 ?_;refine pz_ 3 8 16 11 ?_;refine pz_ 4 9 16 27 ?_;refine pz_ 5 10 16 59 ?_;refine pz_ 8 13 16 315 ?_;refine pz_ 11 16 16 2363 ?_;refine pz_ 12 17 16 6459 ?_;refine pz_ 13 18 16 14651 ?_;refine tz_ 2 7 16 14655 hHeld ?_;refine pz_ 6 11 16 14719 ?_;refine tz_ 7 12 16 14847 hHeld ?_;refine tz_ 9 14 16 15359 hHeld ?_
  refine pz_ 10 15 16 16383 ?_;refine pz_ 14 19 16 32767 ?_;refine last_ (i:=15) (N:=none) (bv 16 65535) rfl rfl (by kernel_rfl) (by decide) (fun K hK=> ?_);refine skip_ (w1:= ?_) (by rfl) rfl ?_ ?_;rotate_left
  ·go_simp;rfl
  refine hK.out _ _ ?_;clear hK K;refine done_ (by kernel_rfl) ?_
  go_wp2_with (fail)
  go_ret;refine⟨rfl,⟨⟨ph,ch,xh,?_⟩,HS1.out.trans ((Still.put w1 0 _).trans (Still.of_below (below_drew (Below.refl _ _))))⟩⟩;unfold Ex.add;rw[if_pos rfl,hr];exact(HE1.out.put 0 (.int .i64 r) (kh':=kh) (ph':=ph) (ch':=ch) (xh':=xh) (x':={x with lp:={x.lp with r0:=r}}) rfl (by
   have hp:=HE1.out.p.put HM.out HE1.out.hb HE1.out.blk 0 (.int .i64 r);exact⟨hp.below,hp.key,hp.ps,hp.cr,hp.ca⟩)).more HM.out (below_drew (Below.refl _ _))
 ·obtain⟨r,hr⟩:∃r,IntKind.i64.wrap (x.lp.r1+ob)=r:=⟨_,rfl⟩;go_enter Tryz.func146,Tryz.ntmps146;go_upto_region 1 with (fail)
  rw[HW1.out];refine sz_ 16 (S:=fun w'=>w'.cell? ⟨w.heap.size,1,none⟩=some (.int .i64 1)∧w'.cell? ⟨w.heap.size,2,none⟩=some (.int .i64 ob)∧w'.cell? ⟨b,1,none⟩=some (.int .i64 x.lp.r1)) (ds:=[15]) ⟨k1,k2,e1⟩ (fun hHeld=> ?_);refine pz_ 0 5 16 1 ?_;refine pz_ 1 6 16 3 ?_;refine pz_ 3 8 16 11 ?_;refine pz_ 4 9 16 27 ?_;refine pz_ 5 10 16 59 ?_;refine pz_ 8 13 16 315 ?_;refine pz_ 11 16 16 2363 ?_;refine pz_ 12 17 16 6459 ?_;refine pz_ 13 18 16 14651 ?_;refine tz_ 2 7 16 14655 hHeld ?_;refine pz_ 6 11 16 14719 ?_;refine tz_ 7 12 16 14847 hHeld ?_;refine tz_ 9 14 16 15359 hHeld ?_
  refine pz_ 10 15 16 16383 ?_;refine pz_ 14 19 16 32767 ?_;refine last_ (i:=15) (N:=none) (bv 16 65535) rfl rfl (by kernel_rfl) (by decide) (fun K hK=> ?_);refine skip_ (w1:= ?_) (by rfl) rfl ?_ ?_;rotate_left
  ·go_simp;rfl
  refine hK.out _ _ ?_;clear hK K;refine done_ (by kernel_rfl) ?_
  go_wp2_with (fail)
  go_ret;refine⟨rfl,⟨⟨ph,ch,xh,?_⟩,HS1.out.trans ((Still.put w1 1 _).trans (Still.of_below (below_drew (Below.refl _ _))))⟩⟩;unfold Ex.add;rw[if_neg (by decide),hr];exact(HE1.out.put 1 (.int .i64 r) (kh':=kh) (ph':=ph) (ch':=ch) (xh':=xh) (x':={x with lp:={x.lp with r1:=r}}) rfl (by
   have hp:=HE1.out.p.put HM.out HE1.out.hb HE1.out.blk 1 (.int .i64 r);exact⟨hp.below,hp.key,hp.ps,hp.cr,hp.ca⟩)).more HM.out (below_drew (Below.refl _ _))
theorem exLess_calls (h:ExAt Mt W w b kh ph ch xh x) (hM:∀k,Mt k→k<W.heap.size) (hh:Here x) (o:OpC) (ha:o.a=0∨o.a=1):
  Calls Tryz.prog 147 #[.pointer (some ⟨b,0,none⟩),o.v] w fun e w'=>e= .returned (.int .i64 0)∧Ran Mt W w b kh (x.less o.a o.b o.c) w':=by
 have hbw:b<w.heap.size:=blk_lt h.blk;obtain⟨oc,oa,ob,oe⟩:=o;simp only at ha;simp only[OpC.v];obtain⟨hb0,hbk⟩:=op_box (w:=w) ⟨oc,oa,ob,oe⟩ (Below.refl _ _);obtain⟨k1,k2,k3⟩:=op_cell hbk;simp only at k1 k2 k3 hb0 hbk;obtain⟨q,hq⟩:∃q,w.heap.size=q:=⟨_,rfl⟩;obtain⟨w1,hw1⟩:∃w1,w.alloc (.cells #[.int .i64 oc,.int .i64 oa,.int .i64 ob,.int .i64 oe] 93)=w1:=⟨_,rfl⟩;rw[hw1]at k1 k2 k3 hb0 hbk;have hE1:=h.more hM hb0;have HE1:=am hE1;have HS1:=am (Still.of_below (b:=b) hb0);have HM:=am hM;have HH:=am hh
 obtain⟨g,s,hA,hB,⟨gc,hgc⟩,hpc,z0,z1,z2,z3,zf⟩:=hE1.p.ps.get x.ev.pr.toNat hh.hi;have e0:w1.cell? ⟨b,0,none⟩=some (.int .i64 x.lp.r0):=hE1.cells 0 _ rfl;have e1:w1.cell? ⟨b,1,none⟩=some (.int .i64 x.lp.r1):=hE1.cells 1 _ rfl;have e2:w1.cell? ⟨b,2,none⟩=some (.slice ph.A ph.n ph.c):=hE1.cells 2 _ rfl;have hpl:ph.n=x.lp.ps.length:=hE1.p.ps.len;obtain⟨i,hi⟩:∃i:Nat,x.ev.pr.toNat=i:=⟨_,rfl⟩;have hpr:x.ev.pr=(i:Int):=by have:=hh.lo;omega
 have e8:w1.cell? ⟨b,8,none⟩=some (.int .i64 (i:Int)):=by rw[←hpr];exact hE1.cells 8 _ rfl
 have hin:i<ph.n:=by rw[hpl,←hi];exact hh.hi
 rw[hA]at e2;rw[hq]at k1 k2 k3 hbk;rw[hi]at z0 z1 z2 z3;have hgb:g≠b:=fun e=>by
  have:=hE1.blk;rw[←e,hgc]at this;cases this
 have hgq:g≠q:=fun e=>by
  rw[e,hbk]at hgc;cases hgc
 have HSELF:=am (fun(w0:World) (h2:w0.cell? ⟨b,2,none⟩=some (.slice (some ⟨g,0,none⟩) ph.n ph.c)) (h8:w0.cell? ⟨b,8,none⟩=some (.int .i64 (i:Int)))=>self_calls (w:=w0) (b:=b) (g:=g) i h2 h8 hin);have HLT:=am (show∀w',Below w1.heap.size w1 w'→(∀j,w'.cell? ⟨b,j,none⟩=w1.cell? ⟨b,j,none⟩)∧(∀j,w'.cell? ⟨q,j,none⟩=w1.cell? ⟨q,j,none⟩)∧(∀j,w'.cell? ⟨g,j,none⟩=w1.cell? ⟨g,j,none⟩)∧∀j,w'.frozen? ⟨g,j,none⟩=w1.frozen? ⟨g,j,none⟩from fun w' hb=>
  ⟨fun j=>hb.cell (p:=⟨b,j,none⟩) (blk_lt hE1.blk),fun j=>hb.cell (p:=⟨q,j,none⟩) (blk_lt hbk),fun j=>hb.cell (p:=⟨g,j,none⟩) (blk_lt hgc),fun j=>by simp only[World.frozen?,hb.block g (blk_lt hgc)]⟩)
 have HSD:=am (HSELF.out w1.drew.drew e2 e8);have HA:=am hA;have HGC:=am hgc;have HW1:=am hw1;have HI:=am hi;have HQ:=am hq;clear h hM hh hbk hb0 hw1 hE1 hpc hpr hpl hA hgc hi hB;have hkq:∀(w':World) j u k,(w'.setCell ⟨g,j,none⟩ u).cell? ⟨q,k,none⟩=w'.cell? ⟨q,k,none⟩:=fun w' j u k=>cell_far (p:=⟨g,j,none⟩) (a:=⟨q,k,none⟩) (Ne.symm hgq) u;have hkb:∀(w':World) j u k,(w'.setCell ⟨g,j,none⟩ u).cell? ⟨b,k,none⟩=w'.cell? ⟨b,k,none⟩:=fun w' j u k=>cell_far (p:=⟨g,j,none⟩) (a:=⟨b,k,none⟩) (Ne.symm hgb) u;rcases ha with rfl|rfl
 ·have hx:x.reg 0=x.lp.r0:=rfl;obtain⟨r,hr⟩:∃r,x.lp.r0=r:=⟨_,rfl⟩;rw[hr]at e0;have HREG:=am (hx.trans hr);clear hx hr;by_cases hlt:r<ob
  ·have d1:decide (r<ob)=true:=decide_eq_true hlt;go_enter Tryz.func147,Tryz.ntmps147;go_upto_region 1 with (fail)
   first|rw[HW1.out,HQ.out]|rw[HW1.out]
   go_region
   go_upto_region 2 with (fail)
   go_region_held3 (fun w'=>w'.cell? ⟨q,3,none⟩=some (.int .i64 oe)∧w'.cell? ⟨b,2,none⟩=some (.slice (some ⟨g,0,none⟩) ph.n ph.c)∧w'.cell? ⟨b,8,none⟩=some (.int .i64 (i:Int))) (first|go_keep|(rw[hkq,hkb,hkb];exact⟨by assumption,by assumption,by assumption⟩))
    (first|(go_at_call 108;(with_reducible refine HSD.out.mono ?_);rintro e wx ⟨rfl,hb⟩;have hb1:Below w1.heap.size w1 wx:=⟨hb.os,hb.tape,hb.output,hb.size,hb.block⟩;obtain⟨l1,l2,l3,l4⟩:=HLT.out wx hb1;have y3:=(l2 3).trans k3;have y2:=(l1 2).trans e2;have y8:=(l1 8).trans e8;have yz:=(l3 (i*4+1)).trans z1;have yf:wx.frozen? ⟨g,i*4+1,none⟩=false:=(l4 (i*4+1)).trans (zf (i*4+1));have HB1:=am hb1;clear hb hb1 l1 l2 l3 l4))
   all_goals go_wp2_with (fail)
   all_goals go_ret
   all_goals
    have hE:=HE1.out.more HM.out HB1.out;have hgx:wx.heap[g]?=some (.cells gc 114 (0,0)):=(HB1.out.block g (blk_lt HGC.out)).trans HGC.out;have h9:=hE.setSelf HM.out HH.out HA.out ⟨gc,hgx⟩ 1 (.int .i64 oe) {x.self with pc:=oe} (fun s hs hk=>⟨{s with pc:=oe},rfl,⟨hs.pg,rfl,hs.al,hs.tm.lm HM.out hk⟩⟩) (by decide);rw[HI.out]at h9;refine⟨rfl,⟨⟨ph,ch,xh,?_⟩,HS1.out.trans ((Still.of_below HB1.out).trans h9.2)⟩⟩;unfold Ex.less;rw[HREG.out,if_pos hlt];exact h9.1
  ·have d1:decide (r<ob)=false:=decide_eq_false hlt;go_enter Tryz.func147,Tryz.ntmps147;go_upto_region 1 with (fail)
   first|rw[HW1.out,HQ.out]|rw[HW1.out]
   go_region
   go_wp2_with (fail)
   go_ret;refine⟨rfl,⟨⟨ph,ch,xh,?_⟩,HS1.out.trans (Still.of_below (below_drew (Below.refl _ _)))⟩⟩;unfold Ex.less;rw[HREG.out,if_neg (by omega)];exact HE1.out.more HM.out (below_drew (Below.refl _ _))
 ·have hx:x.reg 1=x.lp.r1:=rfl;obtain⟨r,hr⟩:∃r,x.lp.r1=r:=⟨_,rfl⟩;rw[hr]at e1;have HREG:=am (hx.trans hr);clear hx hr;by_cases hlt:r<ob
  ·have d1:decide (r<ob)=true:=decide_eq_true hlt;go_enter Tryz.func147,Tryz.ntmps147;go_upto_region 1 with (fail)
   first|rw[HW1.out,HQ.out]|rw[HW1.out]
   go_region
   go_upto_region 2 with (fail)
   go_region_held3 (fun w'=>w'.cell? ⟨q,3,none⟩=some (.int .i64 oe)∧w'.cell? ⟨b,2,none⟩=some (.slice (some ⟨g,0,none⟩) ph.n ph.c)∧w'.cell? ⟨b,8,none⟩=some (.int .i64 (i:Int))) (first|go_keep|(rw[hkq,hkb,hkb];exact⟨by assumption,by assumption,by assumption⟩))
    (first|(go_at_call 108;(with_reducible refine HSD.out.mono ?_);rintro e wx ⟨rfl,hb⟩;have hb1:Below w1.heap.size w1 wx:=⟨hb.os,hb.tape,hb.output,hb.size,hb.block⟩;obtain⟨l1,l2,l3,l4⟩:=HLT.out wx hb1;have y3:=(l2 3).trans k3;have y2:=(l1 2).trans e2;have y8:=(l1 8).trans e8;have yz:=(l3 (i*4+1)).trans z1;have yf:wx.frozen? ⟨g,i*4+1,none⟩=false:=(l4 (i*4+1)).trans (zf (i*4+1));have HB1:=am hb1;clear hb hb1 l1 l2 l3 l4))
   all_goals go_wp2_with (fail)
   all_goals go_ret
   all_goals
    have hE:=HE1.out.more HM.out HB1.out;have hgx:wx.heap[g]?=some (.cells gc 114 (0,0)):=(HB1.out.block g (blk_lt HGC.out)).trans HGC.out;have h9:=hE.setSelf HM.out HH.out HA.out ⟨gc,hgx⟩ 1 (.int .i64 oe) {x.self with pc:=oe} (fun s hs hk=>⟨{s with pc:=oe},rfl,⟨hs.pg,rfl,hs.al,hs.tm.lm HM.out hk⟩⟩) (by decide);rw[HI.out]at h9;refine⟨rfl,⟨⟨ph,ch,xh,?_⟩,HS1.out.trans ((Still.of_below HB1.out).trans h9.2)⟩⟩;unfold Ex.less;rw[HREG.out,if_pos hlt];exact h9.1
  ·have d1:decide (r<ob)=false:=decide_eq_false hlt;go_enter Tryz.func147,Tryz.ntmps147;go_upto_region 1 with (fail)
   first|rw[HW1.out,HQ.out]|rw[HW1.out]
   go_region
   go_wp2_with (fail)
   go_ret;refine⟨rfl,⟨⟨ph,ch,xh,?_⟩,HS1.out.trans (Still.of_below (below_drew (Below.refl _ _)))⟩⟩;unfold Ex.less;rw[HREG.out,if_neg (by omega)];exact HE1.out.more HM.out (below_drew (Below.refl _ _))
end
end
section
theorem infoKey:(Tryz.prog.info? 35).map (fun i=>(i.zero,i.size,i.bytes))=some (some (.slice none 0 0),1,24):=by kernel_rfl
section
variable {Mt:Nat→Prop} {W w:World} {b:Nat} {kh ph ch xh:SH} {x:Ex}
theorem ExAt.pushCa (h:ExAt Mt W w b kh ph ch xh x) (hM:∀k,Mt k→k<W.heap.size) {ss:List SH} (hss:All2 (KeyAt (Lm Mt W.heap.size w) w) ss x.ca) {s:SH} {k:List Int} (hs:KeyAt (Lm Mt W.heap.size w) w s k) {w5:World} {A:Option Addr} {n c:Nat}
  (hv:Kd.R kH 35 w5 W.heap.size (fun _=>True) (.slice A n c) (ss++[s])) (hg:w.grownBy w5 (Value.slice xh.A xh.n xh.c).ownBlock) (hb:Below W.heap.size w w5):
  ExAt Mt W (w5.setCell ⟨b,12,none⟩ (.slice A n c)) b kh ph ch ⟨A,n,c⟩ {x with ca:=x.ca++[k]}∧Still b w (w5.setCell ⟨b,12,none⟩ (.slice A n c))∧(∀(g:Nat) (cells:Array Value),w.heap[g]?=some (Obj.cells cells 114 (0,0))→w5.heap[g]?=w.heap[g]?)∧w5.cell? ⟨b,12,none⟩=w.cell? ⟨b,12,none⟩∧w5.frozen? ⟨b,12,none⟩=false:=by
 obtain⟨s0,h0,_⟩:=h.p.ca.ex;have hne:∀(g:Nat) (cells:Array Value) (t:TypeId),w.heap[g]?=some (Obj.cells cells t (0,0))→t≠35→w5.heap[g]?=w.heap[g]?:=fun g cells t hc ht=>hg.block g (blk_lt hc) fun e=>by
  obtain⟨c2,hc2⟩:=Kd.R_typed h0 g e.symm;rw[hc]at hc2;cases hc2;exact ht rfl
 have hk5:Keep (Lm Mt W.heap.size w) w w5:=h.p.ca.grow (by decide) hg;have hblk:w5.heap[b]?=some (.cells (exCells kh ph ch xh x) TExec (0,0)):=(hne b _ TExec h.blk (by decide)).trans h.blk;have hp5:ExP Mt W w5 kh ph ch ⟨A,n,c⟩ {x with ca:=x.ca++[k]}:=
  ⟨h.p.below.trans hb,h.p.key.lm hM hk5,h.p.ps.beside rfl h.p.ca (by decide) hg (fun _ _ hs=>PcAt.lm hs hM hk5),h.p.cr.beside rfl h.p.ca (by decide) hg (fun _ _ hs=>EvAt.lm hs hM hk5),
   ⟨⟨_,hv,(hss.imp fun _ _ hs=>Rd.lm hs hM hk5).append (.cons (hs.lm hM hk5) .nil)⟩⟩⟩
 exact⟨⟨hp5.put hM h.hb hblk 12 _,h.hb,blk_put hblk 12 _ rfl⟩,(h.p.ca.still (.inr (.inr rfl)) hg).trans (Still.put w5 12 _),fun g cells hc=>hne g cells _ hc (by decide),
  by simp only[World.cell?,hne b _ TExec h.blk (by decide)],blk_frozen hblk 12⟩
def Ex.stop (x:Ex):Ex:=if x.self.tm=[]then x else Ex.setSelf {x with ca:=x.ca++[x.self.tm]} {x.self with tm:=[]}
theorem exStop_calls (h:ExAt Mt W w b kh ph ch xh x) (hM:∀k,Mt k→k<W.heap.size) (hh:Here x) (hr:x.ca.length≤100000) (o:OpC):
  Calls Tryz.prog 144 #[.pointer (some ⟨b,0,none⟩),o.v] w fun e w'=>e= .returned (.int .i64 0)∧Ran Mt W w b kh x.stop w':=by
 have hbw:b<w.heap.size:=blk_lt h.blk;obtain⟨oc,oa,ob,oe⟩:=o;simp only[OpC.v];obtain⟨hb0,hbk⟩:=op_box (w:=w) ⟨oc,oa,ob,oe⟩ (Below.refl _ _);obtain⟨k1,k2,k3⟩:=op_cell hbk;simp only at k1 k2 k3 hb0 hbk;obtain⟨q,hq⟩:∃q,w.heap.size=q:=⟨_,rfl⟩;obtain⟨w1,hw1⟩:∃w1,w.alloc (.cells #[.int .i64 oc,.int .i64 oa,.int .i64 ob,.int .i64 oe] 93)=w1:=⟨_,rfl⟩;rw[hw1]at k1 k2 k3 hb0 hbk;have hE1:=h.more hM hb0;have HE1:=am hE1;have HS1:=am (Still.of_below (b:=b) hb0);have HM:=am hM;have HH:=am hh
 have hself:x.self=x.lp.ps[x.ev.pr.toNat]'hh.hi:=by simp[Ex.self,List.getD_eq_getElem?_getD,List.getElem?_eq_getElem hh.hi]
 obtain⟨g,s,hA,hB,⟨gc,hgc⟩,hpc,z0,z1,z2,z3,zf⟩:=hE1.p.ps.get x.ev.pr.toNat hh.hi;rw[←hself]at hpc;have HPC:=am hpc;have e2:w1.cell? ⟨b,2,none⟩=some (.slice ph.A ph.n ph.c):=hE1.cells 2 _ rfl;have e12:w1.cell? ⟨b,12,none⟩=some (.slice xh.A xh.n xh.c):=hE1.cells 12 _ rfl;have hpl:ph.n=x.lp.ps.length:=hE1.p.ps.len;obtain⟨i,hi⟩:∃i:Nat,x.ev.pr.toNat=i:=⟨_,rfl⟩;have hpr:x.ev.pr=(i:Int):=by have:=hh.lo;omega
 have e8:w1.cell? ⟨b,8,none⟩=some (.int .i64 (i:Int)):=by rw[←hpr];exact hE1.cells 8 _ rfl
 have hin:i<ph.n:=by rw[hpl,←hi];exact hh.hi
 rw[hA]at e2;rw[hq]at k1 k2 k3 hbk;rw[hi]at z0 z1 z2 z3;have hgb:g≠b:=fun e=>by
  have:=hE1.blk;rw[←e,hgc]at this;cases this
 have hgq:g≠q:=fun e=>by
  rw[e,hbk]at hgc;cases hgc
 have HSELF:=am (fun(w0:World) (h2:w0.cell? ⟨b,2,none⟩=some (.slice (some ⟨g,0,none⟩) ph.n ph.c)) (h8:w0.cell? ⟨b,8,none⟩=some (.int .i64 (i:Int)))=>self_calls (w:=w0) (b:=b) (g:=g) i h2 h8 hin);have HLT:=am (show∀w',Below w1.heap.size w1 w'→(∀j,w'.cell? ⟨b,j,none⟩=w1.cell? ⟨b,j,none⟩)∧(∀j,w'.cell? ⟨q,j,none⟩=w1.cell? ⟨q,j,none⟩)∧(∀j,w'.cell? ⟨g,j,none⟩=w1.cell? ⟨g,j,none⟩)∧∀j,w'.frozen? ⟨g,j,none⟩=w1.frozen? ⟨g,j,none⟩from fun w' hb=>
  ⟨fun j=>hb.cell (p:=⟨b,j,none⟩) (blk_lt hE1.blk),fun j=>hb.cell (p:=⟨q,j,none⟩) (blk_lt hbk),fun j=>hb.cell (p:=⟨g,j,none⟩) (blk_lt hgc),fun j=>by simp only[World.frozen?,hb.block g (blk_lt hgc)]⟩)
 have HA:=am hA;have HGC:=am hgc;have HW1:=am hw1;have HI:=am hi;have HQ:=am hq;have HQK:=am hbk;have HPR:=am hpr;have HPL:=am hpl;have htl:=hpc.tm.len;have HSD:=am (HSELF.out w1 e2 e8);have HCA:=am hr;obtain⟨sp,sc,sal,⟨tA,tn,tc⟩⟩:=s;simp only at z0 z1 z2 z3 htl;have HTL:=am htl;clear h hM hh hbk hb0 hw1 hE1 hpc hpr hpl hA hgc hi hB hr hself k1 k2 k3 htl;by_cases ht:x.self.tm=[]
 ·obtain rfl:tn=0:=by rw[HTL.out,ht];rfl
  have HT:=am ht;clear ht;go_enter Tryz.func144,Tryz.ntmps144;go_upto_region 1 with (fail)
  first|rw[HW1.out,HQ.out]|rw[HW1.out]
  go_wp2_with (first|(go_at_call 108;(with_reducible refine HSD.out.mono ?_);rintro e wx ⟨rfl,hb⟩;obtain⟨l1,l2,l3,l4⟩:=HLT.out wx hb;have yz:=(l3 (i*4+3)).trans z3;have HB1:=am hb;clear hb l1 l2 l3 l4))
  go_ret;refine⟨rfl,⟨⟨ph,ch,xh,?_⟩,HS1.out.trans (Still.of_below HB1.out)⟩⟩;unfold Ex.stop;rw[if_pos HT.out];exact HE1.out.more HM.out HB1.out
 ·have htn:0<tn:=by rw[HTL.out];exact List.length_pos_iff.2 ht
  have HT:=am ht;clear ht;have htn2:decide ((0:Int)<(tn:Int))=true:=dt (by omega);have htn3:decide (0<tn)=true:=decide_eq_true htn;go_enter Tryz.func144,Tryz.ntmps144;go_upto_region 1 with (fail)
  first|rw[HW1.out,HQ.out]|rw[HW1.out]
  go_upto_region 3 with (first|(go_at_call 108;(with_reducible refine HSD.out.mono ?_);rintro e wx ⟨rfl,hb⟩;obtain⟨l1,l2,l3,l4⟩:=HLT.out wx hb;have yz:=(l3 (i*4+3)).trans z3;have y12:=(l1 12).trans e12;have HB1:=am hb;clear hb l1 l2 l3 l4))
  have hEx:=HE1.out.more HM.out HB1.out;have hEd:=hEx.more HM.out (below_drew (Below.refl _ _));have hgx:wx.heap[g]?=some (.cells gc 114 (0,0)):=(HB1.out.block g (blk_lt HGC.out)).trans HGC.out;obtain⟨ss,hss,hss2⟩:=hEd.p.ca.ex;have HSS:=am hss;have HSS2:=am hss2;have HED:=am hEd;have HGX:=am hgx;have HSL:=am (show ss.length≤100000 by rw[hss2.len];exact HCA.out);have HKT:=am ((HPC.out.tm.lm HM.out (Keep.of_below HB1.out)).lm HM.out (Keep.of_below (below_drew (Below.refl _ _))))
  have ab:∀o j,(wx.drew.alloc o).cell? ⟨b,j,none⟩=wx.cell? ⟨b,j,none⟩:=fun o j=>(below_alloc (Below.refl wx.drew.heap.size wx.drew) o).cell (p:=⟨b,j,none⟩) (blk_lt hEd.blk);have ag:∀o j,(wx.drew.alloc o).cell? ⟨g,j,none⟩=wx.cell? ⟨g,j,none⟩:=fun o j=>(below_alloc (Below.refl wx.drew.heap.size wx.drew) o).cell (p:=⟨g,j,none⟩) (blk_lt hgx);have a12:=fun o=>(ab o 12).trans y12;have az:=fun o=>(ag o (i*4+3)).trans yz;have Y12:=am y12;have YZ:=am yz;clear ab ag hss hss2 hEd hEx hgx
  refine sz_ 14 (S:=fun w'=>w'.cell? ⟨b,12,none⟩=some (.slice xh.A xh.n xh.c)∧w'.cell? ⟨g,i*4+3,none⟩=some (.slice tA tn tc)) (ds:=[10,13]) ⟨y12,yz⟩ (fun hHeld=> ?_);refine pz_ 0 14 14 1 ?_;refine pz_ 1 15 14 3 ?_;refine pz_ 2 16 14 7 ?_;refine pz_ 3 17 14 15 ?_;refine pz_ 5 19 14 47 ?_;refine pz_ 6 20 14 111 ?_;refine pz_ 7 21 14 239 ?_;refine tz_ 4 18 14 255 hHeld ?_;refine tz_ 8 22 14 511 hHeld ?_;refine one_ (i:=9) (N:=some 23) (bv 14 1023) rfl rfl (by kernel_rfl) (by decide) (fun K hK=> ?_);refine value_ (w1:= ?_) (v:= ?_) (by rfl) rfl ?_ ?_;rotate_left 2
  ·go_simp;constructor
   ·rfl
   ·rfl
  refine hK.out _ _ ⟨a12 _,az _⟩ (fun hHeld=> ?_);clear hK K;refine norm_ (a':= ?_) ?_ ?_;rotate_left
  ·show Act.put _ (some 23) _=_;simp only[Act.put,List.setIfInBounds_toArray,List.set_cons_zero,List.set_cons_succ,i64_w,i32_w];rfl
  refine last_ (i:=10) (N:=some 24) (bv 14 2047) rfl rfl (by kernel_rfl) (by decide) (fun K hK=> ?_);refine Kd.R_append_step kH (w0:=wx.drew) W.heap.size (by rfl) (.tmp 18) (.tmp 23) 134 35 (.slice none 0 0) 24 rfl Tryz.underlying134 infoKey rfl (by decide) (by omega) (.slice xh.A xh.n xh.c) ss ⟨tA,tn,tc⟩ [.slice tA tn tc] (fun _=>True) (fun _=>False) rfl rfl rfl (fun _ hk=>hk.elim) (fun _ _=>trivial) HSS.out (Below.refl _ _) HED.out.p.below.size (by have:=HSL.out;omega) ?_;intro v5 w5 hv5 hb5 hg5 hat5;obtain⟨A5,n5,c5',hn5,rfl⟩:=R_slice3 hv5
  have hpu:=HED.out.pushCa HM.out HSS2.out HKT.out hv5 hg5 hb5;have hx12:=hpu.2.2.2.1.trans Y12.out;have hf12:=hpu.2.2.2.2;have HPU:=am hpu;clear hv5 hg5 hb5 hat5 hn5 hpu;refine hK.out _ _ ?_;clear hK K;refine norm_ (a':= ?_) ?_ ?_;rotate_left
  ·show Act.put _ (some 24) _=_;simp only[Act.put,List.setIfInBounds_toArray,List.set_cons_zero,List.set_cons_succ,i64_w,i32_w];rfl
  refine pz_ 11 25 14 4095 ?_;refine pz_ 12 26 14 8191 ?_;refine last_ (i:=13) (N:=none) (bv 14 16383) rfl rfl (by kernel_rfl) (by decide) (fun K hK=> ?_);refine skip_ (w1:= ?_) (by rfl) rfl ?_ ?_;rotate_left
  ·go_simp;rfl
  refine hK.out _ _ ?_;clear hK K;refine done_ (by kernel_rfl) ?_;have hg5:w5.heap[g]?=some (.cells gc 114 (0,0)):=(HPU.out.2.2.1 g gc HGX.out).trans HGX.out;have hgz:w5.cell? ⟨g,i*4+3,none⟩=some (.slice tA tn tc):=by
   have h1:w5.cell? ⟨g,i*4+3,none⟩=wx.cell? ⟨g,i*4+3,none⟩:=by simp only[World.cell?,hg5,show wx.heap[g]?=some (.cells gc 114 (0,0))from HGX.out]
   exact h1.trans YZ.out
  have hfz:∀j,w5.frozen? ⟨g,j,none⟩=false:=fun j=>blk_frozen hg5 j;have hkg:∀(w':World) j u k,(w'.setCell ⟨b,j,none⟩ u).cell? ⟨g,k,none⟩=w'.cell? ⟨g,k,none⟩:=fun w' j u k=>cell_far (p:=⟨b,j,none⟩) (a:=⟨g,k,none⟩) hgb u;have HG5:=am hg5;clear hg5 a12 az
  go_wp2_with (fail)
  go_ret;have hE6:=HPU.out.1;have hg6:(w5.setCell ⟨b,12,none⟩ (.slice A5 n5 c5')).heap[g]?=some (.cells gc 114 (0,0)):=(Below.heap_setCell w5 ⟨b,12,none⟩ _ g hgb).trans HG5.out;have h9:=hE6.setSelf HM.out ⟨HH.out.lo,HH.out.hi⟩ HA.out ⟨gc,hg6⟩ 3 (.slice none 0 0) {x.self with tm:=[]} (fun s hs hk=>⟨{s with tm:= .nil},rfl,⟨hs.pg,hs.pc,hs.al,Rd.nil _ _ _⟩⟩) (by decide);simp only at h9;rw[HI.out]at h9;refine⟨rfl,⟨⟨ph,ch,⟨A5,n5,c5'⟩,?_⟩,HS1.out.trans (((Still.of_below HB1.out).trans (Still.of_below (below_drew (Below.refl _ _)))).trans (HPU.out.2.1.trans h9.2))⟩⟩;unfold Ex.stop;rw[if_neg HT.out]
  exact h9.1
end
end
section
section
variable {Mt:Nat→Prop} {W w:World} {b:Nat} {kh ph ch xh:SH} {x:Ex}
theorem ExAt.pushPs (h:ExAt Mt W w b kh ph ch xh x) (hM:∀k,Mt k→k<W.heap.size) {ss:List SP} (hss:All2 (PcAt (Lm Mt W.heap.size w) w) ss x.lp.ps) {s:SP} {p:Pc} (hs:PcAt (Lm Mt W.heap.size w) w s p) {w5:World} {A:Option Addr} {n c:Nat}
  (hv:Kd.R kPr 114 w5 W.heap.size (fun _=>True) (.slice A n c) (ss++[s])) (hg:w.grownBy w5 (Value.slice ph.A ph.n ph.c).ownBlock) (hb:Below W.heap.size w w5):
  ExAt Mt W (w5.setCell ⟨b,2,none⟩ (.slice A n c)) b kh ⟨A,n,c⟩ ch xh {x with lp:={x.lp with ps:=x.lp.ps++[p]}}∧Still b w (w5.setCell ⟨b,2,none⟩ (.slice A n c))∧(∀(g:Nat) (cells:Array Value) (t:TypeId),w.heap[g]?=some (Obj.cells cells t (0,0))→t≠114→w5.heap[g]?=w.heap[g]?)∧w5.cell? ⟨b,2,none⟩=w.cell? ⟨b,2,none⟩∧w5.frozen? ⟨b,2,none⟩=false:=by
 obtain⟨s0,h0,_⟩:=h.p.ps.ex;have hne:∀(g:Nat) (cells:Array Value) (t:TypeId),w.heap[g]?=some (Obj.cells cells t (0,0))→t≠114→w5.heap[g]?=w.heap[g]?:=fun g cells t hc ht=>hg.block g (blk_lt hc) fun e=>by
  obtain⟨c2,hc2⟩:=Kd.R_typed h0 g e.symm;rw[hc]at hc2;cases hc2;exact ht rfl
 have hk5:Keep (Lm Mt W.heap.size w) w w5:=h.p.ps.grow (by decide) hg;have hblk:w5.heap[b]?=some (.cells (exCells kh ph ch xh x) TExec (0,0)):=(hne b _ TExec h.blk (by decide)).trans h.blk;have hp5:ExP Mt W w5 kh ⟨A,n,c⟩ ch xh {x with lp:={x.lp with ps:=x.lp.ps++[p]}}:=
  ⟨h.p.below.trans hb,h.p.key.lm hM hk5,⟨⟨_,hv,(hss.imp fun _ _ hs=>PcAt.lm hs hM hk5).append (.cons (hs.lm hM hk5) .nil)⟩⟩,h.p.cr.beside rfl h.p.ps (by decide) hg (fun _ _ hs=>EvAt.lm hs hM hk5),
   h.p.ca.beside rfl h.p.ps (by decide) hg (fun _ _ hs=>Rd.lm hs hM hk5)⟩
 exact⟨⟨hp5.put hM h.hb hblk 2 _,h.hb,blk_put hblk 2 _ rfl⟩,(h.p.ps.still (.inl rfl) hg).trans (Still.put w5 2 _),hne,
  by simp only[World.cell?,hne b _ TExec h.blk (by decide)],blk_frozen hblk 2⟩
def Ex.spawn (x:Ex) (a d:Int):Ex:=
 if (x.lp.ps.length:Int)<8 then Ex.create {x with lp:={x.lp with ps:=x.lp.ps++[⟨a,0,true,[]⟩]}} d ⟨0,[],x.ev.lp,1,(x.lp.ps.length:Int),0⟩else x
theorem exSpawn_calls (h:ExAt Mt W w b kh ph ch xh x) (hM:∀k,Mt k→k<W.heap.size) (hr:Room x) (o:OpC):
  Calls Tryz.prog 145 #[.pointer (some ⟨b,0,none⟩),o.v] w fun e w'=>e= .returned (.int .i64 0)∧Ran Mt W w b kh (x.spawn o.a o.b) w':=by
 have hbw:b<w.heap.size:=blk_lt h.blk;obtain⟨oc,oa,ob,oe⟩:=o;simp only[OpC.v];obtain⟨hb0,hbk⟩:=op_box (w:=w) ⟨oc,oa,ob,oe⟩ (Below.refl _ _);obtain⟨k1,k2,k3⟩:=op_cell hbk;simp only at k1 k2 k3 hb0 hbk;obtain⟨q,hq⟩:∃q,w.heap.size=q:=⟨_,rfl⟩;obtain⟨w1,hw1⟩:∃w1,w.alloc (.cells #[.int .i64 oc,.int .i64 oa,.int .i64 ob,.int .i64 oe] 93)=w1:=⟨_,rfl⟩;rw[hw1]at k1 k2 k3 hb0 hbk;rw[hq]at k1 k2 k3 hbk;have hE1:=h.more hM hb0;have HE1:=am hE1;have HS1:=am (Still.of_below (b:=b) hb0);have HM:=am hM;have HR:=am hr
 have e2:w1.cell? ⟨b,2,none⟩=some (.slice ph.A ph.n ph.c):=hE1.cells 2 _ rfl;have HPL:=am (show ph.n=x.lp.ps.length from hE1.p.ps.len);have HW1:=am hw1;have HQ:=am hq;have HQK:=am hbk;have hqb:q≠b:=by omega
 have hbl:b<w1.heap.size:=blk_lt hE1.blk;have hql:q<w1.heap.size:=blk_lt hbk;clear h hM hr hbk hb0 hw1 hE1 k3;by_cases hn:ph.n<8
 ·have d1:decide ((ph.n:Int)<8)=true:=dt (by omega);have d2:decide (ph.n<8)=true:=decide_eq_true hn;have hEd:=HE1.out.more HM.out (below_drew (Below.refl _ _));obtain⟨ss,hss,hss2⟩:=hEd.p.ps.ex;have HSS:=am hss;have HSS2:=am hss2;have HED:=am hEd;have HSL:=am (show ss.length≤100000 by rw[hss2.len];have:=HR.out.ps;omega);have ab:∀o j,(w1.drew.alloc o).cell? ⟨b,j,none⟩=w1.cell? ⟨b,j,none⟩:=fun o j=>(below_alloc (Below.refl w1.drew.heap.size w1.drew) o).cell (p:=⟨b,j,none⟩) hbl
  have aq:∀o j,(w1.drew.alloc o).cell? ⟨q,j,none⟩=w1.cell? ⟨q,j,none⟩:=fun o j=>(below_alloc (Below.refl w1.drew.heap.size w1.drew) o).cell (p:=⟨q,j,none⟩) hql;have a2:=fun o=>(ab o 2).trans e2;have a1:=fun o=>(aq o 1).trans k1;have E2:=am e2;have K2:=am k2;clear ab aq hss hss2 hEd;go_enter Tryz.func145,Tryz.ntmps145;go_upto_region 1 with (fail)
  first|rw[HW1.out,HQ.out]|rw[HW1.out]
  go_upto_region 3 with (fail)
  refine sz_ 15 (S:=fun w'=>w'.cell? ⟨b,2,none⟩=some (.slice ph.A ph.n ph.c)∧w'.cell? ⟨q,1,none⟩=some (.int .i64 oa)) (ds:=[10,14]) ⟨e2,k1⟩ (fun hHeld=> ?_);refine pz_ 0 14 15 1 ?_;refine pz_ 1 15 15 3 ?_;refine pz_ 2 16 15 7 ?_;refine pz_ 3 17 15 15 ?_;refine pz_ 4 18 15 31 ?_;refine pz_ 6 20 15 95 ?_;refine tz_ 5 19 15 127 hHeld ?_;refine tz_ 7 21 15 255 hHeld ?_;refine pz_ 8 22 15 511 ?_;refine one_ (i:=9) (N:=some 23) (bv 15 1023) rfl rfl (by kernel_rfl) (by decide) (fun K hK=> ?_);refine value_ (w1:= ?_) (v:= ?_) (by rfl) rfl ?_ ?_;rotate_left 2
  ·go_simp;constructor
   ·rfl
   ·rfl
  refine hK.out _ _ ⟨a2 _,a1 _⟩ (fun hHeld=> ?_);clear hK K;refine norm_ (a':= ?_) ?_ ?_;rotate_left
  ·show Act.put _ (some 23) _=_;simp only[Act.put,List.setIfInBounds_toArray,List.set_cons_zero,List.set_cons_succ,i64_w,i32_w];rfl
  refine last_ (i:=10) (N:=some 24) (bv 15 2047) rfl rfl (by kernel_rfl) (by decide) (fun K hK=> ?_);refine Kd.R_append_step kPr (w0:=w1.drew) W.heap.size (by rfl) (.tmp 19) (.tmp 23) 89 114 (.agg #[.int .i64 0,.int .i64 0,.bool false,.slice none 0 0]) 48 rfl Tryz.underlying89 infoProc rfl (by decide) (by omega) (.slice ph.A ph.n ph.c) ss ⟨oa,0,true,.nil⟩ [.int .i64 oa,.int .i64 0,.bool true,.slice none 0 0] (fun _=>True) (fun _=>False) rfl rfl rfl (fun _ hk=>hk.elim) (fun _ _=>trivial) HSS.out (Below.refl _ _) HED.out.p.below.size (by have:=HSL.out;omega) ?_;intro v5 w5 hv5 hb5 hg5 hat5
  obtain⟨A5,n5,c5',hn5,rfl⟩:=R_slice3 hv5;have hpu:=HED.out.pushPs HM.out HSS2.out (s:=⟨oa,0,true,.nil⟩) (p:=⟨oa,0,true,[]⟩) ⟨rfl,rfl,rfl,Rd.nil _ _ _⟩ hv5 hg5 hb5;have hx2:=hpu.2.2.2.1.trans E2.out;have hf2:=hpu.2.2.2.2;have HPU:=am hpu;clear hv5 hat5 hpu hn5;refine hK.out _ _ ?_;clear hK K;refine norm_ (a':= ?_) ?_ ?_;rotate_left
  ·show Act.put _ (some 24) _=_;simp only[Act.put,List.setIfInBounds_toArray,List.set_cons_zero,List.set_cons_succ,i64_w,i32_w];rfl
  refine pz_ 11 25 15 4095 ?_;refine pz_ 12 26 15 8191 ?_;refine pz_ 13 27 15 16383 ?_;refine last_ (i:=14) (N:=none) (bv 15 32767) rfl rfl (by kernel_rfl) (by decide) (fun K hK=> ?_);refine skip_ (w1:= ?_) (by rfl) rfl ?_ ?_;rotate_left
  ·go_simp;rfl
  refine hK.out _ _ ?_;clear hK K;refine done_ (by kernel_rfl) ?_;obtain⟨w6,hw6⟩:∃w6,w5.setCell ⟨b,2,none⟩ (.slice A5 n5 c5')=w6:=⟨_,rfl⟩;have hpu:=HPU.out;rw[hw6]at hpu ⊢;have hq6:w6.heap[q]?=some (.cells #[.int .i64 oc,.int .i64 oa,.int .i64 ob,.int .i64 oe] 93 (0,0)):=(hpu.2.1.2 q _ _ HQK.out hqb (by decide) (by decide) (by decide)).trans HQK.out;obtain⟨_,m2,_⟩:=op_cell (o:=⟨oc,oa,ob,oe⟩) hq6;have HQ6:=am hq6;have HE6:=am hpu.1;have HS6:=am hpu.2.1
  have HO:=am (fun(w0:World) (hb:Below w6.heap.size w6 w0)=>own_calls (w:=w0) (b:=b) x.ev.lp 1 (ph.n:Int) 0 ((hpu.1.more HM.out hb).cells 6 _ rfl));have HC:=am (fun(w0:World) (hb:Below w6.heap.size w6 w0)=>create_calls (hpu.1.more HM.out hb) HM.out ob x.ev.lp 1 (ph.n:Int) 0 HR.out.k HR.out.cr HR.out.n);have HLQ:=am (show∀w',Below w6.heap.size w6 w'→w'.heap[q]?=some (.cells #[.int .i64 oc,.int .i64 oa,.int .i64 ob,.int .i64 oe] 93 (0,0))from fun w' hb=>(hb.block q (blk_lt hq6)).trans hq6);have HO1:=am (HO.out w6.drew (below_drew (Below.refl _ _)))
  clear hpu hq6 hw6 a1 a2 hb5 hg5;go_upto_region 4 with (fail)
  go_region_held3 (fun w'=>w'.cell? ⟨q,2,none⟩=some (.int .i64 ob)) (go_keep)
   (first
   |(go_at_call 154;(with_reducible refine HO1.out.mono ?_);rintro e wx ⟨rfl,hb⟩;have hb1:Below w6.heap.size w6 wx:=⟨hb.os,hb.tape,hb.output,hb.size,hb.block⟩;obtain⟨_,c2,_⟩:=op_cell (o:=⟨oc,oa,ob,oe⟩) (HLQ.out _ hb1);have HBO:=am hb1;have HQO:=am (HLQ.out _ hb1);clear hb hb1)
   |(go_at_call 153;(with_reducible refine(HC.out _ HBO.out).mono ?_);rintro e wy ⟨s,ch',rfl,_,hE,hS⟩;obtain⟨_,c2,_⟩:=op_cell (o:=⟨oc,oa,ob,oe⟩) ((hS.2 q _ _ HQO.out hqb (by decide) (by decide) (by decide)).trans HQO.out);have HE:=am hE;have HS:=am hS;clear hE hS))
  all_goals go_wp2_with (fail)
  all_goals go_ret
  all_goals
   refine⟨rfl,⟨⟨⟨A5,n5,c5'⟩,ch',xh,?_⟩,HS1.out.trans (((Still.of_below (below_drew (Below.refl _ _))).trans HS6.out).trans ((Still.of_below HBO.out).trans HS.out))⟩⟩;unfold Ex.spawn;rw[if_pos (by rw[←HPL.out];omega)];have:=HE.out;rw[HPL.out]at this;exact this
 ·have d1:decide ((ph.n:Int)<8)=false:=df (by omega);have d2:decide (ph.n<8)=false:=decide_eq_false hn;go_enter Tryz.func145,Tryz.ntmps145;go_upto_region 1 with (fail)
  first|rw[HW1.out,HQ.out]|rw[HW1.out]
  go_wp2_with (fail)
  go_ret;refine⟨rfl,⟨⟨ph,ch,xh,?_⟩,HS1.out⟩⟩;unfold Ex.spawn;rw[if_neg (by rw[←HPL.out];omega)];exact HE1.out
end
end
section
theorem create_ev (x:Ex) (d:Int) (e:Ev):(x.create d e).ev=x.ev:=by unfold Ex.create;split<;>rfl
theorem create_lp (x:Ex) (d:Int) (e:Ev):(x.create d e).lp=x.lp:=by unfold Ex.create;split<;>rfl
theorem stop_ev (x:Ex):x.stop.ev=x.ev:=by unfold Ex.stop;split<;>rfl
theorem stop_len (x:Ex):x.stop.lp.ps.length=x.lp.ps.length:=by unfold Ex.stop;split<;>simp[Ex.setSelf]
theorem stop_cr (x:Ex):x.stop.cr=x.cr:=by unfold Ex.stop;split<;>rfl
theorem stop_n (x:Ex):x.stop.n=x.n:=by unfold Ex.stop;split<;>rfl
def Ex.timer (x:Ex) (a v:Int):Ex:=(x.stop.create a ⟨0,[],x.stop.ev.lp,2,x.stop.ev.pr,v⟩).setSelf {(x.stop.create a ⟨0,[],x.stop.ev.lp,2,x.stop.ev.pr,v⟩).self with tm:=x.stop.ev.k++[(x.stop.n:Int)]}
section
variable {Mt:Nat→Prop} {W w:World} {b:Nat} {kh ph ch xh:SH} {x:Ex}
theorem exTimer_calls (h:ExAt Mt W w b kh ph ch xh x) (hM:∀k,Mt k→k<W.heap.size) (hh:Here x) (hr:Room x) (o:OpC):
  Calls Tryz.prog 143 #[.pointer (some ⟨b,0,none⟩),o.v] w fun e w'=>e= .returned (.int .i64 0)∧Ran Mt W w b kh (x.timer o.a o.b) w':=by
 have hbw:b<w.heap.size:=blk_lt h.blk;obtain⟨oc,oa,ob,oe⟩:=o;obtain⟨hb0,hbk⟩:=op_box (w:=w) ⟨oc,oa,ob,oe⟩ (Below.refl _ _);have k0:(w.alloc (.cells #[.int .i64 oc,.int .i64 oa,.int .i64 ob,.int .i64 oe] 93)).cell? ⟨w.heap.size,0,none⟩=some (.int .i64 oc):=cell_new _ _ _ _ 0 _ rfl rfl;obtain⟨k1,k2,k3⟩:=op_cell hbk;simp only at k1 k2 k3 hb0 hbk;obtain⟨q,hq⟩:∃q,w.heap.size=q:=⟨_,rfl⟩;obtain⟨w1,hw1⟩:∃w1,w.alloc (.cells #[.int .i64 oc,.int .i64 oa,.int .i64 ob,.int .i64 oe] 93)=w1:=⟨_,rfl⟩;rw[hw1]at k0 k1 k2 k3 hb0 hbk;rw[hq]at k0 k1 k2 k3 hbk;have hqb:q≠b:=by omega
 have HSTOP:=am (exStop_calls (h.more hM hb0) hM hh hr.ca ⟨oc,oa,ob,oe⟩);have HS1:=am (Still.of_below (b:=b) hb0);have HM:=am hM;have HH2:=am (show Here x.stop from⟨by rw[stop_ev];exact hh.lo,by rw[stop_ev,stop_len];exact hh.hi⟩);have HB1:=am (show x.stop.ev.k.length≤900000 by rw[stop_ev];exact hr.k);have HB2:=am (show x.stop.cr.length≤100000 by rw[stop_cr];exact hr.cr);have HB3:=am (show x.stop.n≤100000 by rw[stop_n];exact hr.n);have HW1:=am hw1;have HQ:=am hq;have HQK:=am hbk;obtain⟨x2,hx2⟩:∃x2,x.stop=x2:=⟨_,rfl⟩
 rw[hx2]at HSTOP HH2 HB1 HB2 HB3;have HX2:=am hx2;simp only[OpC.v]at HSTOP ⊢;clear h hM hh hr hbk hb0 hw1 hx2;go_enter Tryz.func143,Tryz.ntmps143;go_upto_region 1 with (fail)
 first|rw[HW1.out,HQ.out]|rw[HW1.out]
 go_upto_region 2 with (first|(go_at_call 144;(with_reducible refine HSTOP.out.mono ?_);rintro e w2 ⟨rfl,⟨⟨ph2,ch2,xh2,hE⟩,hS⟩⟩;have HE2:=am hE;have HS2:=am hS;clear hE hS))
 clear k0 k1 k2 k3 hq;have hE2:=HE2.out;have hqk:w2.heap[q]?=some (.cells #[.int .i64 oc,.int .i64 oa,.int .i64 ob,.int .i64 oe] 93 (0,0)):=(HS2.out.2 q _ _ HQK.out hqb (by decide) (by decide) (by decide)).trans HQK.out;obtain⟨g,s,hA,_,⟨gc,hgc⟩,_,_,_,_,_,_⟩:=hE2.p.ps.get x2.ev.pr.toNat HH2.out.hi;obtain⟨i,hi⟩:∃i:Nat,x2.ev.pr.toNat=i:=⟨_,rfl⟩;have hpr:x2.ev.pr=(i:Int):=by have:=HH2.out.lo;omega
 have hin:i<ph2.n:=by rw[hE2.p.ps.len,←hi];exact HH2.out.hi
 have hgb:g≠b:=fun e=>by
  have:=hE2.blk;rw[←e,hgc]at this;cases this
 have hgq:g≠q:=fun e=>by
  rw[e,hqk]at hgc;cases hgc
 have HF:=am (show∀(w':World) (ch' xh':SH) (y:Ex),ExAt Mt W w' b kh ph2 ch' xh' y→y.ev=x2.ev→w'.cell? ⟨b,2,none⟩=some (.slice (some ⟨g,0,none⟩) ph2.n ph2.c)∧w'.cell? ⟨b,8,none⟩=some (.int .i64 (i:Int))from fun w' ch' xh' y hy hev=>
  ⟨by rw[←hA];exact hy.cells 2 _ rfl,by
   have this:w'.cell? ⟨b,8,none⟩=some (.int .i64 y.ev.pr):=hy.cells 8 _ rfl;rw[hev,hpr]at this;exact this⟩)
 have HG:=am (show∀(w':World) (ch' xh':SH) (y:Ex),ExAt Mt W w' b kh ph2 ch' xh' y→y.ev=x2.ev→y.lp.ps.length=x2.lp.ps.length→(∃A n c,w'.cell? ⟨g,i*4+3,none⟩=some (.slice A n c))∧(∀j,w'.frozen? ⟨g,j,none⟩=false)∧∃cells,w'.heap[g]?=some (.cells cells 114 (0,0))from fun w' ch' xh' y hy hev hln=>by
  obtain⟨g',s',hA',_,⟨gc',hgc'⟩,_,_,_,_,z3,zf⟩:=hy.p.ps.get i (by rw[hln,←hi];exact HH2.out.hi);rw[hA]at hA';cases hA';exact⟨⟨_,_,_,z3⟩,zf,gc',hgc'⟩)
 have HSELF:=am (fun(w0:World) (h2:w0.cell? ⟨b,2,none⟩=some (.slice (some ⟨g,0,none⟩) ph2.n ph2.c)) (h8:w0.cell? ⟨b,8,none⟩=some (.int .i64 (i:Int)))=>self_calls (w:=w0) (b:=b) (g:=g) i h2 h8 hin);have HO:=am (fun(w0:World) (hb:Below w2.heap.size w2 w0)=>own_calls (w:=w0) (b:=b) x2.ev.lp 2 (i:Int) ob ((HE2.out.more HM.out hb).cells 6 _ rfl));have HC:=am (fun(w0:World) (hb:Below w2.heap.size w2 w0)=>create_calls (HE2.out.more HM.out hb) HM.out oa x2.ev.lp 2 (i:Int) ob HB1.out HB2.out HB3.out)
 have HLQ:=am (show∀w',Below w2.heap.size w2 w'→w'.cell? ⟨q,1,none⟩=some (.int .i64 oa)∧w'.cell? ⟨q,2,none⟩=some (.int .i64 ob)∧w'.cell? ⟨b,8,none⟩=some (.int .i64 (i:Int))∧w'.cell? ⟨b,2,none⟩=some (.slice (some ⟨g,0,none⟩) ph2.n ph2.c)∧w'.heap[q]?=some (.cells #[.int .i64 oc,.int .i64 oa,.int .i64 ob,.int .i64 oe] 93 (0,0))from fun w' hb=>by
  have hqk':=(hb.block q (blk_lt hqk)).trans hqk;obtain⟨m1,m2,_⟩:=op_cell (o:=⟨oc,oa,ob,oe⟩) hqk';obtain⟨f2,f8⟩:=HF.out _ _ _ _ (HE2.out.more HM.out hb) rfl;exact⟨m1,m2,f8,f2,hqk'⟩)
 have HSD1:=am (HSELF.out w2.drew (HLQ.out _ (below_drew (Below.refl _ _))).2.2.2.1 (HLQ.out _ (below_drew (Below.refl _ _))).2.2.1);have HO1:=am (HO.out w2.drew (below_drew (Below.refl _ _)));obtain⟨p1,p2,p8,p2',_⟩:=HLQ.out _ (Below.refl _ _);have HA:=am hA;have HI:=am hi;have HPR:=am hpr;have hkg:∀(w':World) j u k,(w'.setCell ⟨g,j,none⟩ u).cell? ⟨b,k,none⟩=w'.cell? ⟨b,k,none⟩:=fun w' j u k=>cell_far (p:=⟨g,j,none⟩) (a:=⟨b,k,none⟩) (Ne.symm hgb) u
 have hkq:∀(w':World) j u k,(w'.setCell ⟨g,j,none⟩ u).cell? ⟨q,k,none⟩=w'.cell? ⟨q,k,none⟩:=fun w' j u k=>cell_far (p:=⟨g,j,none⟩) (a:=⟨q,k,none⟩) (Ne.symm hgq) u;have HHI:=am HH2.out.hi;clear hE2 hqk hA hgc hi hpr hin
 go_region_held3 (fun w'=>w'.cell? ⟨q,1,none⟩=some (.int .i64 oa)∧w'.cell? ⟨q,2,none⟩=some (.int .i64 ob)∧w'.cell? ⟨b,8,none⟩=some (.int .i64 (i:Int))) (first|go_keep|(simp only[hkg,hkq];exact⟨by assumption,by assumption,by assumption⟩))
  (first
  |(go_at_call 108;(first
    |((with_reducible refine HSD1.out.mono ?_);rintro e ws ⟨rfl,hb⟩;have hb1:Below w2.heap.size w2 ws:=⟨hb.os,hb.tape,hb.output,hb.size,hb.block⟩;obtain⟨s1,s2,s8,s22,_⟩:=HLQ.out ws hb1;have HBS:=am hb1;clear hb hb1)
    |((with_reducible refine(HSELF.out wo o22 o8).mono ?_);rintro e ws ⟨rfl,hb⟩;have hb1:=HBO.out.trans (hb.mono HBO.out.size);obtain⟨s1,s2,s8,s22,_⟩:=HLQ.out ws hb1;have HBS:=am hb1;clear hb hb1)
    |((with_reducible refine(HSELF.out wc c22 c8).mono ?_);rintro e ws ⟨rfl,hb⟩;have hE:=HEC.out.more HM.out hb;have hqs:=(hb.block q (blk_lt HQC.out)).trans HQC.out;obtain⟨s1,s2,_⟩:=op_cell (o:=⟨oc,oa,ob,oe⟩) hqs;obtain⟨s22,s8⟩:=HF.out _ _ _ _ hE (create_ev _ _ _);obtain⟨⟨yA,yn,yc,yz⟩,yf,hgf⟩:=HG.out _ _ _ _ hE (create_ev _ _ _) (by rw[create_lp]);have HEF:=am hE;have HKF:=am (HKC.out.lm HM.out (Keep.of_below hb));have HSF:=am (HSC.out.trans (Still.of_below hb));have HGF:=am hgf;clear hb hE hqs hgf)))
  |(go_at_call 154;(first
    |((with_reducible refine HO1.out.mono ?_);rintro e wo ⟨rfl,hb⟩;have hb1:Below w2.heap.size w2 wo:=⟨hb.os,hb.tape,hb.output,hb.size,hb.block⟩;obtain⟨o1,o2,o8,o22,_⟩:=HLQ.out wo hb1;have HBO:=am hb1;clear hb hb1)
    |((with_reducible refine(HO.out ws HBS.out).mono ?_);rintro e wo ⟨rfl,hb⟩;have hb1:=HBS.out.trans (hb.mono HBS.out.size);obtain⟨o1,o2,o8,o22,_⟩:=HLQ.out wo hb1;have HBO:=am hb1;clear hb hb1)))
  |(go_at_call 153;(first
    |((with_reducible refine(HC.out wo HBO.out).mono ?_);rintro e wc ⟨⟨sA,sn,sc⟩,ch',rfl,hK,hE,hS⟩;have hSt:=(Still.of_below (b:=b) HBO.out).trans hS;have hqc:=(hS.2 q _ _ (HLQ.out wo HBO.out).2.2.2.2 hqb (by decide) (by decide) (by decide)).trans (HLQ.out wo HBO.out).2.2.2.2;obtain⟨c1,c2,_⟩:=op_cell (o:=⟨oc,oa,ob,oe⟩) hqc;obtain⟨c22,c8⟩:=HF.out _ _ _ _ hE (create_ev _ _ _);obtain⟨⟨yA,yn,yc,yz⟩,yf,hgf⟩:=HG.out _ _ _ _ hE (create_ev _ _ _) (by rw[create_lp]);have HEC:=am hE;have HKC:=am hK;have HSC:=am hSt;have HQC:=am hqc;have HEF:=am hE;have HKF:=am hK;have HSF:=am hSt;have HGF:=am hgf;clear hE hK hS hSt hqc hgf)
    |((with_reducible refine(HC.out ws HBS.out).mono ?_);rintro e wc ⟨⟨sA,sn,sc⟩,ch',rfl,hK,hE,hS⟩;have hSt:=(Still.of_below (b:=b) HBS.out).trans hS;have hqc:=(hS.2 q _ _ (HLQ.out ws HBS.out).2.2.2.2 hqb (by decide) (by decide) (by decide)).trans (HLQ.out ws HBS.out).2.2.2.2;obtain⟨c1,c2,_⟩:=op_cell (o:=⟨oc,oa,ob,oe⟩) hqc;obtain⟨c22,c8⟩:=HF.out _ _ _ _ hE (create_ev _ _ _);obtain⟨⟨yA,yn,yc,yz⟩,yf,hgf⟩:=HG.out _ _ _ _ hE (create_ev _ _ _) (by rw[create_lp]);have HEC:=am hE;have HKC:=am hK;have HSC:=am hSt;have HQC:=am hqc;have HEF:=am hE;have HKF:=am hK;have HSF:=am hSt;have HGF:=am hgf;clear hE hK hS hSt hqc hgf))))
 all_goals go_wp2_with (fail)
 all_goals go_ret
 all_goals
  have hE:=HEF.out;have hi:=HI.out;have hpr:=HPR.out;have h9:=hE.setSelf HM.out (by exact⟨by rw[create_ev];exact HH2.out.lo,by rw[create_ev,create_lp];exact HH2.out.hi⟩) HA.out HGF.out 3 (.slice sA sn sc) {(x2.create oa ⟨0,[],x2.ev.lp,2,(i:Int),ob⟩).self with tm:=x2.ev.k++[(x2.n:Int)]} (fun s hs hk=>⟨{s with tm:=⟨sA,sn,sc⟩},rfl,⟨hs.pg,hs.pc,hs.al,HKF.out.lm HM.out hk⟩⟩) (by decide);rw[create_ev,hi]at h9;refine⟨rfl,⟨⟨ph2,ch',xh2,?_⟩,HS1.out.trans (HS2.out.trans (HSF.out.trans h9.2))⟩⟩;unfold Ex.timer;rw[HX2.out,hpr];exact h9.1
end
end
end Go.Proofs.YtfnimdhghglanaaGreat.Hand
end
section
namespace Go.Proofs.YtfnimdhghglanaaGreat.Hand
open Go.RowKit Go.Shelf Go.Proofs.YtfnimdhghglanaaGreatW PrintWords PrintLast PrintMore
def fnV (f:Nat):Value:= .func (.func f) #[] #[]
theorem under189:Tryz.prog.underlying 189=some (.map 3 192):=by kernel_rfl
theorem under3:Tryz.prog.underlying 3=some (.int .i64):=by kernel_rfl
theorem put_run (w:World) (r:Nat) (es:Array MapEntry) (clock:Nat) (i:Int) (v:Value) (hb:w.heap[r]?=some (.map es clock)) (hn:Instr.findNow (.int .i64) (.int .i64 i) es.toList 0=some none):
  (Instr.mapUpdate 189 (.map (some r)) (.int .i64 i) v).run Tryz.prog w= .ok () {w with heap:=w.heap.setIfInBounds r (.map (es.push ⟨.int .i64 i,v,clock⟩) (clock+1))}:=by
 have hc:(Instr.checkKey false 10000 3 (.int .i64 i)).run Tryz.prog w= .ok () w:=MapKept.run_checkKey (k:= .int .i64 i) under3 (by simp[MapKept.IsKey]) false 9999;simp[Instr.mapUpdate,run_underlying under189,MapKept.run_getObj_map hb,hc,MapKept.run_findKey under3 hn,MapKept.run_setObj_map _ hb,Result.andThen]
def tab:List MapEntry:=[⟨.int .i64 1,fnV 141,0⟩,⟨.int .i64 2,fnV 142,1⟩,⟨.int .i64 3,fnV 143,2⟩,⟨.int .i64 4,fnV 144,3⟩,
 ⟨.int .i64 5,fnV 145,4⟩,⟨.int .i64 6,fnV 146,5⟩,⟨.int .i64 7,fnV 147,6⟩,⟨.int .i64 8,fnV 148,7⟩]
def tabN (n:Nat):Obj:= .map (tab.take n).toArray n
theorem tab_put (w:World) (r n:Nat) (i:Int) (v:Value) (hb:w.heap[r]?=some (tabN n)) (hi:i=n+1) (hn:n<8) (hv:tab[n]?=some ⟨.int .i64 i,v,n⟩):∃w',(Instr.mapUpdate 189 (.map (some r)) (.int .i64 i) v).run Tryz.prog w= .ok () w'∧
  w'.heap[r]?=some (tabN (n+1))∧(∀B,B≤r→B≤w.heap.size→Below B w w')∧w'.heap.size=w.heap.size:=by
 have hr:r<w.heap.size:=blk_lt hb;have hx:(tab.take n).toArray.push ⟨.int .i64 i,v,n⟩=(tab.take (n+1)).toArray:=by
  rw[List.push_toArray,List.take_add_one,hv];rfl
 have hf:Instr.findNow (.int .i64) (.int .i64 i) ((tab.take n).toArray).toList 0=some none:=by
  subst hi
  match n,hn with
  |0,_=>rfl
  |1,_=>rfl
  |2,_=>rfl
  |3,_=>rfl
  |4,_=>rfl
  |5,_=>rfl
  |6,_=>rfl
  |7,_=>rfl
 refine⟨_,put_run w r _ n i v hb hf,?_,fun B h1 h2=>⟨rfl,rfl,rfl,by simp,fun b hlt=> ?_⟩,by simp⟩
 ·simp only[hx];simp[Array.getElem?_setIfInBounds,hr,tabN]
 ·simp only;rw[Array.getElem?_setIfInBounds_ne (by omega)]
theorem table_calls (w:World):Calls Tryz.prog 127 #[] w fun e w'=>e= .returned (.map (some w.heap.size))∧w'.heap[w.heap.size]?=some (tabN 8)∧Below w.heap.size w w':=by
 have hmm:= @run_makeMap Tryz.prog 189 w;obtain⟨q,hq⟩:∃q,w.heap.size=q:=⟨_,rfl⟩;obtain⟨w0,hw0⟩:∃w0,w.alloc (.map #[] 0)=w0:=⟨_,rfl⟩;have b0:w0.heap[q]?=some (tabN 0):=by subst hw0 hq;exact Array.getElem?_push_size
 have c0:Below q w w0:=by subst hw0 hq;exact(Below.refl _ _).alloc (Nat.le_refl _) _
 rw[hw0,hq]at hmm;rw[hq];obtain⟨w1,r1,b1,d1,s1⟩:=tab_put w0 q 0 1 (fnV 141) b0 rfl (by decide) rfl;have c1:Below q w w1:=c0.trans (d1 q (Nat.le_refl _) (Nat.le_of_lt (blk_lt b0)));obtain⟨w2,r2,b2,d2,s2⟩:=tab_put w1 q 1 2 (fnV 142) b1 rfl (by decide) rfl;have c2:Below q w w2:=c1.trans (d2 q (Nat.le_refl _) (Nat.le_of_lt (blk_lt b1)));obtain⟨w3,r3,b3,d3,s3⟩:=tab_put w2 q 2 3 (fnV 143) b2 rfl (by decide) rfl;have c3:Below q w w3:=c2.trans (d3 q (Nat.le_refl _) (Nat.le_of_lt (blk_lt b2)));obtain⟨w4,r4,b4,d4,s4⟩:=tab_put w3 q 3 4 (fnV 144) b3 rfl (by decide) rfl
 have c4:Below q w w4:=c3.trans (d4 q (Nat.le_refl _) (Nat.le_of_lt (blk_lt b3)));obtain⟨w5,r5,b5,d5,s5⟩:=tab_put w4 q 4 5 (fnV 145) b4 rfl (by decide) rfl;have c5:Below q w w5:=c4.trans (d5 q (Nat.le_refl _) (Nat.le_of_lt (blk_lt b4)));obtain⟨w6,r6,b6,d6,s6⟩:=tab_put w5 q 5 6 (fnV 146) b5 rfl (by decide) rfl;have c6:Below q w w6:=c5.trans (d6 q (Nat.le_refl _) (Nat.le_of_lt (blk_lt b5)));obtain⟨w7,r7,b7,d7,s7⟩:=tab_put w6 q 6 7 (fnV 147) b6 rfl (by decide) rfl;have c7:Below q w w7:=c6.trans (d7 q (Nat.le_refl _) (Nat.le_of_lt (blk_lt b6)))
 obtain⟨w8,r8,b8,d8,s8⟩:=tab_put w7 q 7 8 (fnV 148) b7 rfl (by decide) rfl;have c8:Below q w w8:=c7.trans (d8 q (Nat.le_refl _) (Nat.le_of_lt (blk_lt b7)));have B8:=am b8;have C8:=am c8;simp only[fnV]at r1 r2 r3 r4 r5 r6 r7 r8;clear hq hw0 b0 c0 b1 c1 b2 c2 b3 c3 b4 c4 b5 c5 b6 c6 b7 c7 b8 c8 d1 s1 d2 s2 d3 s3 d4 s4 d5 s5 d6 s6 d7 s7 d8 s8;go_enter Tryz.func127,Tryz.ntmps127
 go_wp2_with (fail)
 go_ret;exact⟨rfl,B8.out,C8.out⟩
theorem tab_look (w:World) (q:Nat) (hb:w.heap[q]?=some (tabN 8)) (i:Int) (v:Value) (k:Nat) (hf:Instr.findNow (.int .i64) (.int .i64 i) tab 0=some (some (k,v))):
  (Instr.lookup 189 (.map (some q)) (.int .i64 i) false).run Tryz.prog w= .ok v w:=by
 have hb':w.heap[q]?=some (.map tab.toArray 8):=hb;have hc:(Instr.checkKey false 10000 3 (.int .i64 i)).run Tryz.prog w= .ok () w:=MapKept.run_checkKey (k:= .int .i64 i) under3 (by simp[MapKept.IsKey]) false 9999;have he:(tab.toArray).isEmpty=false:=rfl;have hf':(Instr.findKey 3 (.int .i64 i) tab).run Tryz.prog w= .ok (some (k,v)) w:=MapKept.run_findKey under3 hf;simp[Instr.lookup,run_underlying under189,MapKept.run_getObj_map hb',he,hc,hf',Result.andThen]
end Go.Proofs.YtfnimdhghglanaaGreat.Hand
end
