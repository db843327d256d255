/- TopScheduleIndependent, part 14 of 27; no condition.  -/
import Derived.Test.YtfnimdhghglanaaGreatQsAM
import Derived.Deep.DeepMust
import Derived.Handy
set_option maxRecDepth 100000
set_option maxHeartbeats 8000000
set_option linter.unusedVariables false
set_option linter.unusedSimpArgs false
section
namespace Go.Proofs.YtfnimdhghglanaaGreat.Hand
open Go.RowKit Go.Shelf Go.Proofs.YtfnimdhghglanaaGreatW PrintWords PrintLast PrintMore
attribute [local go_sem] max2_int min2_int max_two min_two max_three min_three max_four min_four
def Mq (M:Nat→Prop) (q k:Nat):Prop:=M k∨k=q
structure Res2 (M:Nat→Prop) (W:World) (r:Lp×List Ev×List (List Int)×Bool) (q:Nat) (s:SLp) (ch xh:SH) (w':World):Prop where
 below:Below W.heap.size W w'
 lp:LpAt (Mq M q) w' s r.1
 cr:EvsAt (Mq M q) w' ch r.2.1
 ca:KeysAt (Mq M q) w' xh r.2.2.1
 new:W.heap.size≤q
 blk:w'.heap[q]?=some (.cells #[.int .i64 0,.int .i64 0,.slice none 0 0,.int .i64 0] 91 (0,0))
structure ExecRaw (Mt:Nat→Prop) (w w':World) (x:Lp×List Ev×List (List Int)×Bool) (r:Ending):Prop where
 ex:∃(s:SLp) (ch xh:SH),r= .returned (.tuple #[.agg #[.int .i64 s.r0,.int .i64 s.r1,.slice s.ps.A s.ps.n s.ps.c,.int .i64 s.sum],.slice ch.A ch.n ch.c,.slice xh.A xh.n xh.c,.bool x.2.2.2])∧LpAt Mt w' s x.1∧EvsAt Mt w' ch x.2.1∧KeysAt Mt w' xh x.2.2.1
 below:Below w.heap.size w w'
theorem ExecTo.raw {Mt:Nat→Prop} {w w':World} {x:Lp×List Ev×List (List Int)×Bool} {r:Ending} (h:ExecTo Mt w w' x r):ExecRaw Mt w w' x r:=⟨h.ex,h.below⟩
theorem res2_call {M:Nat→Prop} {W w0 w3:World} {r:Lp×List Ev×List (List Int)×Bool} {s:SLp} {ch xh:SH} (h0:Below W.heap.size W w0) (h1:LpAt M w3 s r.1) (h2:EvsAt M w3 ch r.2.1) (h3:KeysAt M w3 xh r.2.2.1) (hb:Below w0.heap.size w0 w3):
  Res2 M W r w3.heap.size s ch xh (w3.alloc (.cells #[.int .i64 0,.int .i64 0,.slice none 0 0,.int .i64 0] 91)):=by
 have hb2:=below_alloc (Below.refl w3.heap.size w3) (.cells #[.int .i64 0,.int .i64 0,.slice none 0 0,.int .i64 0] 91);have hb3:=h0.trans (hb.mono h0.size);have hm:∀k,k<w3.heap.size→Mq M w3.heap.size k→M k:=fun k hk h=>by
  rcases h with h|rfl
  ·exact h
  ·omega
 exact⟨hb3.trans (hb2.mono hb3.size),h1.fresh (Keep.of_below hb2) hm,h2.fresh (Keep.of_below hb2) hm,h3.fresh (Keep.of_below hb2) hm,hb3.size,World.alloc_heap_new _ _⟩
theorem res2_alloc {M:Nat→Prop} {W w0 w3:World} {r:Lp×List Ev×List (List Int)×Bool} {s:SLp} {ch xh:SH} (h0:Below W.heap.size W w0) (h1:LpAt (Mq M w0.heap.size) w3 s r.1) (h2:EvsAt (Mq M w0.heap.size) w3 ch r.2.1) (h3:KeysAt (Mq M w0.heap.size) w3 xh r.2.2.1)
  (hb:Below (w0.alloc (.cells #[.int .i64 0,.int .i64 0,.slice none 0 0,.int .i64 0] 91)).heap.size (w0.alloc (.cells #[.int .i64 0,.int .i64 0,.slice none 0 0,.int .i64 0] 91)) w3):
  Res2 M W r w0.heap.size s ch xh w3:=by
 have hb2:=below_alloc (Below.refl w0.heap.size w0) (.cells #[.int .i64 0,.int .i64 0,.slice none 0 0,.int .i64 0] 91);have hlt:w0.heap.size<(w0.alloc (.cells #[.int .i64 0,.int .i64 0,.slice none 0 0,.int .i64 0] 91)).heap.size:=by rw[World.size_alloc];omega
 have hb3:=h0.trans ((hb2.trans (hb.mono (Nat.le_of_lt hlt))).mono h0.size);exact⟨hb3,h1,h2,h3,h0.size,(hb.block _ hlt).trans (World.alloc_heap_new _ _)⟩
theorem mq_lt {M:Nat→Prop} {w:World} {o:Obj} (h:∀k,M k→k<w.heap.size):∀k,Mq M w.heap.size k→k<(w.alloc o).drew.heap.size:=fun k hk=>by
 have h1:(w.alloc o).drew.heap.size=w.heap.size+1:=World.size_alloc _ _;rcases hk with hk|rfl
 ·have:=h k hk;omega
 ·omega
theorem drew_lt {M:Nat→Prop} {w:World} (h:∀k,M k→k<w.heap.size):∀k,M k→k<w.drew.heap.size:=h
theorem mq_old {M:Nat→Prop} {n k:Nat} (hk:k<n) (h:Mq M n k):M k:=by
 rcases h with h|rfl
 ·exact h
 ·omega
theorem box2 {w w1:World} {o1 o2:Obj} (hw:(w.alloc o1).alloc o2=w1):Below w.heap.size w w1∧w1.heap[w.heap.size]?=some o1∧w1.heap[w.heap.size+1]?=some o2:=by
 have h1:(w.alloc o1).heap.size=w.heap.size+1:=World.size_alloc _ _;have b1:=below_alloc (Below.refl w.heap.size w) o1;have b2:=below_alloc (Below.refl (w.alloc o1).heap.size (w.alloc o1)) o2;subst hw;refine⟨b1.trans (b2.mono b1.size),(b2.block _ (by omega)).trans (World.alloc_heap_new _ _),?_⟩;rw[←h1];exact World.alloc_heap_new _ _
theorem OutAt.putLp {Mt:Nat→Prop} {B:Nat} {w:World} {b:Nat} {ph bh ch sh:SH} {o:Oc} (h:OutAt Mt B w b ph bh ch sh o) {s:SLp} {l:Lp} (hl:LpAt (Mo Mt b ch sh) w s l):
  OutAt Mt B ((((w.setCell ⟨b,0,none⟩ (.int .i64 s.r0)).setCell ⟨b,1,none⟩ (.int .i64 s.r1)).setCell ⟨b,2,none⟩ (.slice s.ps.A s.ps.n s.ps.c)).setCell ⟨b,3,none⟩ (.int .i64 s.sum)) b s.ps bh ch sh {o with lp:=l}∧
  OutTo Mt B w b ch sh ((((w.setCell ⟨b,0,none⟩ (.int .i64 s.r0)).setCell ⟨b,1,none⟩ (.int .i64 s.r1)).setCell ⟨b,2,none⟩ (.slice s.ps.A s.ps.n s.ps.c)).setCell ⟨b,3,none⟩ (.int .i64 s.sum)) ch sh:=by
 obtain⟨h1,k1⟩:=h.put 0 (.int .i64 s.r0) (o':={o with lp:={o.lp with r0:=s.r0}}) rfl h.ps h.box rfl rfl;obtain⟨h2,k2⟩:=h1.put 1 (.int .i64 s.r1) (o':={o with lp:={o.lp with r0:=s.r0,r1:=s.r1}}) rfl h1.ps h1.box rfl rfl;obtain⟨h3,k3⟩:=h2.put 2 (.slice s.ps.A s.ps.n s.ps.c) (ph':=s.ps) (o':={o with lp:={o.lp with r0:=s.r0,r1:=s.r1,ps:=l.ps}}) rfl ((hl.ps.keep k1).keep k2) h2.box rfl rfl;obtain⟨h4,k4⟩:=h3.put 3 (.int .i64 s.sum) (o':={o with lp:={r0:=s.r0,r1:=s.r1,ps:=l.ps,sum:=s.sum}}) rfl h3.ps h3.box rfl rfl;have e:({r0:=s.r0,r1:=s.r1,ps:=l.ps,sum:=s.sum}:Lp)=l:=by rw[hl.r0,hl.r1,hl.sum]
 rw[e]at h4;exact⟨h4,(((OutTo.put 0 _).trans (OutTo.put 1 _)).trans (OutTo.put 2 _)).trans (OutTo.put 3 _)⟩
structure ExecBd (r:Lp×List Ev×List (List Int)×Bool):Prop where
 cr:r.2.1.length≤16
 crk:∀f∈r.2.1,f.k.length≤1000000
 ca:r.2.2.1.length≤16
 cak:∀k∈r.2.2.1,k.length≤1000000
structure OutBd (o:Oc):Prop where
 so:SortedE o.box
 bn:o.box.length≤500000
 bk:∀f∈o.box,f.k.length≤1000000
 cn:o.com.length≤500000
 sn:o.sent.length≤500000
theorem put_bd (l:Int) {m:Nat}:∀(cr:List Ev) {o:Oc},SortedE o.box→o.box.length≤m→(∀f∈o.box,f.k.length≤1000000)→o.sent.length≤m→(∀f∈cr,f.k.length≤1000000)→
  SortedE (cr.foldl (Oc.put l) o).box∧(cr.foldl (Oc.put l) o).box.length≤m+cr.length∧(∀f∈(cr.foldl (Oc.put l) o).box,f.k.length≤1000000)∧(cr.foldl (Oc.put l) o).sent.length≤m+cr.length
 |cr,o,h1,h2,h3,h4,h5=>by
  obtain⟨_,_,_,g4,g5,g6⟩:=Oc.puts l cr o;refine⟨g5 h1,?_,fun f hf=> ?_,?_⟩
  ·rw[g4.length_eq,List.length_append];have:=List.length_filter_le (fun f:Ev=>decide (f.lp=l)) cr;omega
  ·rcases List.mem_append.1 (g4.subset hf)with h|h
   ·exact h3 f h
   ·exact h5 f (List.mem_filter.1 h).1
  ·rw[g6,List.length_append];have:=List.length_filter_le (fun f:Ev=> !decide (f.lp=l)) cr;omega
theorem foldl_next {α β:Type} (f:β→α→β) (o:β) (l:List α) (k:Nat) (hk:k<l.length):(l.take (k+1)).foldl f o=f ((l.take k).foldl f o) l[k]:=by
 rw[←List.take_append_getElem hk,List.foldl_append];rfl
theorem foldl_sub:∀(ks:List (List Int)) (l:List Ev),(ks.foldl (fun l k=>l.eraseP (fun e=>decide (e.k=k))) l).Sublist l
 | [],l=>List.Sublist.refl l
 |k::ks,l=>(foldl_sub ks _).trans List.eraseP_sublist
theorem oexec_calls {Mt:Nat→Prop} {B:Nat} {w:World} {b:Nat} {ph bh ch sh:SH} {o:Oc} (h:OutAt Mt B w b ph bh ch sh o) (hM:∀k,Mt k→k<w.heap.size) (c:SCf) (x:SE) {ev:Ev} {progs:List (List OpC)} (hc:PgsAt (Mo Mt b ch sh) w c.pgs progs) (hx:EvAt (Mo Mt b ch sh) w x ev)
  (hpre:ExecPre progs.length o.lp ev) (hpg:PgsOk progs) (hbd:ExecBd (exec progs o.lp ev)) (hob:OutBd o):
  Calls Tryz.prog 105 #[.pointer (some ⟨b,0,none⟩),c.v,x.v] w fun r w'=>r= .returned (.tuple #[])∧∃ph' bh' ch' sh',OutAt Mt B w' b ph' bh' ch' sh' (Oc.exec progs o ev)∧OutTo Mt B w b ch sh w' ch' sh':=by
 obtain⟨⟨lA,ln,lc⟩,⟨pA,pn,pc⟩,la,en,cp⟩:=c;obtain⟨et,⟨eA,eN,ec⟩,el,ek,ep,ea⟩:=x;have H:=am h;have HM:=am hM;have HC:=am hc;have HX:=am hx;have HP:=am hpre;have HPG:=am hpg;have HBD:=am hbd;have HOB:=am hob;have HEL:=am (show el=ev.lp from hx.lp);clear h hM hc hx hpre hpg hbd hob;simp only[SCf.v,SE.v];go_enter Tryz.func105,Tryz.ntmps105;go_upto_region 1 with (fail)
 obtain⟨q,hq⟩:∃q,w.heap.size=q:=⟨_,rfl⟩;obtain⟨w1,hw1⟩:∃w1,(w.alloc (.cells #[.slice lA ln lc,.slice pA pn pc,.int .i64 la,.int .i64 en,.int .i64 cp] 25)).alloc (.cells #[.int .i64 et,.slice eA eN ec,.int .i64 el,.int .i64 ek,.int .i64 ep,.int .i64 ea] 49)=w1:=⟨_,rfl⟩;obtain⟨hb1,hbc,hbe⟩:=box2 hw1;obtain⟨q1,hq1⟩:∃q1,w.heap.size+1=q1:=⟨_,rfl⟩;rw[hq1]at hbe;rw[hw1,hq1];rw[hq]at hbc ⊢;have hO1:=H.out.more hb1;have g9:w1.cell? ⟨b,5,none⟩=some (.slice ch.A ch.n ch.c):=hO1.cells 5 _ rfl;have e0:w1.cell? ⟨q1,0,none⟩=some (.int .i64 et):=by simp[World.cell?,hbe]
 have e1:w1.cell? ⟨q1,1,none⟩=some (.slice eA eN ec):=by simp[World.cell?,hbe]
 have e2:w1.cell? ⟨q1,2,none⟩=some (.int .i64 el):=by simp[World.cell?,hbe]
 have e3:w1.cell? ⟨q1,3,none⟩=some (.int .i64 ek):=by simp[World.cell?,hbe]
 have e4:w1.cell? ⟨q1,4,none⟩=some (.int .i64 ep):=by simp[World.cell?,hbe]
 have e5:w1.cell? ⟨q1,5,none⟩=some (.int .i64 ea):=by simp[World.cell?,hbe]
 have hbl:b<w1.heap.size:=blk_lt hO1.blk;have hql:q1<w1.heap.size:=blk_lt hbe;have al:∀ob j,(w1.drew.alloc ob).cell? ⟨b,j,none⟩=w1.cell? ⟨b,j,none⟩:=fun ob j=>(below_alloc (Below.refl w1.drew.heap.size w1.drew) ob).cell (p:=⟨b,j,none⟩) hbl;have aq:∀ob j,(w1.drew.alloc ob).cell? ⟨q1,j,none⟩=w1.cell? ⟨q1,j,none⟩:=fun ob j=>(below_alloc (Below.refl w1.drew.heap.size w1.drew) ob).cell (p:=⟨q1,j,none⟩) hql;have a9:=fun ob=>(al ob 5).trans g9;have a0:=fun ob=>(aq ob 0).trans e0;have a1:=fun ob=>(aq ob 1).trans e1;have a2:=fun ob=>(aq ob 2).trans e2;have a3:=fun ob=>(aq ob 3).trans e3
 have a4:=fun ob=>(aq ob 4).trans e4;have a5:=fun ob=>(aq ob 5).trans e5;obtain⟨ss,hse,hse2⟩:=hO1.com;have HSL:=am (show ss.length≤500000 by rw[hse2.len];exact HOB.out.cn);have HNB:=am (show some b≠(Value.slice ch.A ch.n ch.c).ownBlock from fun e=>by
  obtain⟨cells,hc⟩:=Kd.R_typed hse b e.symm;rw[hO1.blk]at hc;cases hc)
 have HSE:=am hse;have HSE2:=am hse2;have HF9:=am (hO1.free 5);have HSZ:=am (show B≤w1.drew.heap.size from hO1.base);have HBL:=am hbl;have HO1:=am hO1;have HBC:=am hbc;have HBE:=am hbe;have HB1:=am hb1;have HQ:=am hq;have HQ1:=am hq1;clear al aq hse hse2 hbl hql hO1 hbc hbe hb1 hw1 hq hq1
 ·focus
  refine sz_ 11 (S:=fun w'=>w'.cell? ⟨b,5,none⟩=some (.slice ch.A ch.n ch.c)∧w'.cell? ⟨q1,0,none⟩=some (.int .i64 et)∧w'.cell? ⟨q1,1,none⟩=some (.slice eA eN ec)∧w'.cell? ⟨q1,2,none⟩=some (.int .i64 el)∧w'.cell? ⟨q1,3,none⟩=some (.int .i64 ek)∧w'.cell? ⟨q1,4,none⟩=some (.int .i64 ep)∧w'.cell? ⟨q1,5,none⟩=some (.int .i64 ea)) (ds:=[7,10]) ⟨g9,e0,e1,e2,e3,e4,e5⟩ (fun hHeld=> ?_);refine pz_ 0 14 11 1 ?_;refine pz_ 1 15 11 3 ?_;refine pz_ 2 16 11 7 ?_;refine pz_ 3 17 11 15 ?_;refine tz_ 4 18 11 31 hHeld ?_;refine tz_ 5 19 11 63 hHeld ?_
  refine one_ (i:=6) (N:=some 20) (bv 11 127) rfl rfl (by kernel_rfl) (by decide) (fun K hK=> ?_);refine value_ (w1:= ?_) (v:= ?_) (by rfl) rfl ?_ ?_;rotate_left 2
  ·go_simp;constructor
   ·rfl
   ·rfl
  refine hK.out _ _ ⟨a9 _,a0 _,a1 _,a2 _,a3 _,a4 _,a5 _⟩ (fun hHeld=> ?_);clear hK K;refine norm_ (a':= ?_) ?_ ?_;rotate_left
  ·show Act.put _ (some 20) _=_;simp only[Act.put,List.setIfInBounds_toArray,List.set_cons_zero,List.set_cons_succ,i64_w,i32_w];rfl
  refine last_ (i:=7) (N:=some 21) (bv 11 255) rfl rfl (by kernel_rfl) (by decide) (fun K hK=> ?_)
  refine Kd.R_append_step kE (w0:=w1) B (by rfl) (.tmp 18) (.tmp 20) 47 49 (.agg #[.int .i64 0,.slice none 0 0,.int .i64 0,.int .i64 0,.int .i64 0,.int .i64 0]) 64 rfl Tryz.underlying47 infoEv rfl (by decide) (by omega) (.slice ch.A ch.n ch.c) ss ⟨et,⟨eA,eN,ec⟩,el,ek,ep,ea⟩ [.int .i64 et,.slice eA eN ec,.int .i64 el,.int .i64 ek,.int .i64 ep,.int .i64 ea] (fun _=>True) (fun _=>False) rfl rfl rfl (fun _ hk=>hk.elim) (fun _ _=>trivial) (Kd.R_drew HSE.out) (below_drew (Below.refl _ _)) HSZ.out (by have:=HSL.out;omega) ?_;intro v5 w5 hv5 hb5 hg5 hat5;obtain⟨A5,n5,c5',hn5,rfl⟩:=R_slice3 hv5
  have hx10:w5.cell? ⟨b,5,none⟩=some (.slice ch.A ch.n ch.c):=by simp only[World.cell?,hg5.block b HBL.out HNB.out];exact g9
  have hf10:w5.frozen? ⟨b,5,none⟩=false:=by simp only[World.frozen?,hg5.block b HBL.out HNB.out];exact HF9.out
  have HV5:=am hv5;have HG5:=am hg5;have HAT5:=am hat5;clear hv5 hg5 hb5 hat5 hn5;refine hK.out _ _ ?_;clear hK K;refine norm_ (a':= ?_) ?_ ?_;rotate_left
  ·show Act.put _ (some 21) _=_;simp only[Act.put,List.setIfInBounds_toArray,List.set_cons_zero,List.set_cons_succ,i64_w,i32_w];rfl
  refine pz_ 8 22 11 511 ?_;refine pz_ 9 23 11 1023 ?_;refine last_ (i:=10) (N:=none) (bv 11 2047) rfl rfl (by kernel_rfl) (by decide) (fun K hK=> ?_);refine skip_ (w1:= ?_) (by rfl) rfl ?_ ?_;rotate_left
  ·go_simp;rfl
  refine hK.out _ _ ?_;clear hK K;refine done_ (by kernel_rfl) ?_;have hd1:=below_drew (Below.refl w1.heap.size w1);obtain⟨hO6,_,hbb⟩:=(HO1.out.more hd1).pushCom (HSE2.out.imp fun _ _ h=>h.keep (Keep.of_below hd1)) (((HX.out.below HB1.out)).below hd1) HV5.out HG5.out HAT5.out;have hT6:=((OutTo.more (Mt:=Mt) (B:=B) (b:=b) (ch:=ch) (sh:=sh) HB1.out).trans (OutTo.more hd1)).trans (OutTo.pushCom (HO1.out.more hd1) HG5.out HAT5.out 5 (.slice A5 n5 c5'));have hmo:=fun k=>H.out.mo HM.out k
  have hnq:∀k,w.heap.size≤k→k<w1.heap.size→(w5.setCell ⟨b,5,none⟩ (.slice A5 n5 c5')).heap[k]?=w1.heap[k]?:=fun k hk hl=>
   ((OutTo.more (Mt:=Mt) (B:=B) (b:=b) (ch:=ch) (sh:=sh) hd1).trans (OutTo.pushCom (HO1.out.more hd1) HG5.out HAT5.out 5 (.slice A5 n5 c5'))).keep.block k hl fun hm=>by
    have:=hmo k hm;omega
  have k0:=(hnq q (by have:=HQ.out;omega) (blk_lt HBC.out)).trans HBC.out;have k1:=(hnq q1 (by have:=HQ1.out;omega) (blk_lt HBE.out)).trans HBE.out;obtain⟨w6,hw6⟩:∃w6,w5.setCell ⟨b,5,none⟩ (.slice A5 n5 c5')=w6:=⟨_,rfl⟩;rw[hw6]at hO6 hT6 k0 k1 ⊢;have hlb6:=blk_lt hO6.blk;have hc6:=hO6.cells
  have HLS:=am (show∀w',Below w6.heap.size w6 w'→w'.cell? ⟨q,0,none⟩=some (.slice lA ln lc)∧w'.cell? ⟨q,1,none⟩=some (.slice pA pn pc)∧w'.cell? ⟨q,2,none⟩=some (.int .i64 la)∧w'.cell? ⟨q,3,none⟩=some (.int .i64 en)∧w'.cell? ⟨q,4,none⟩=some (.int .i64 cp)∧w'.cell? ⟨b,0,none⟩=some (.int .i64 o.lp.r0)∧w'.cell? ⟨b,1,none⟩=some (.int .i64 o.lp.r1)∧w'.cell? ⟨b,2,none⟩=some (.slice ph.A ph.n ph.c)∧w'.cell? ⟨b,3,none⟩=some (.int .i64 o.lp.sum)∧w'.cell? ⟨q1,0,none⟩=some (.int .i64 et)∧w'.cell? ⟨q1,1,none⟩=some (.slice eA eN ec)∧w'.cell? ⟨q1,2,none⟩=some (.int .i64 el)∧w'.cell? ⟨q1,3,none⟩=some (.int .i64 ek)∧w'.cell? ⟨q1,4,none⟩=some (.int .i64 ep)∧w'.cell? ⟨q1,5,none⟩=some (.int .i64 ea)from fun w' hb=>by
   have t0:=box_more hb k0;have t1:=box_more hb k1;have t2:=box_more hb hO6.blk;refine⟨?_,?_,?_,?_,?_,?_,?_,?_,?_,?_,?_,?_,?_,?_,?_⟩<;>simp[World.cell?,t0,t1,t2,outCells])
  have hC6:PgsAt (Mo Mt b ⟨A5,n5,c5'⟩ sh) w6 ⟨pA,pn,pc⟩ progs:=by
   obtain⟨hs,h1,h2⟩:=HC.out;exact⟨hs,h1.fresh hT6.keep hT6.old,h2.imp fun _ _ h=>h.fresh hT6.keep hT6.old⟩
  have hX6:EvAt (Mo Mt b ⟨A5,n5,c5'⟩ sh) w6 ⟨et,⟨eA,eN,ec⟩,el,ek,ep,ea⟩ ev:=HX.out.fresh hT6.keep hT6.old;have hM6:=hO6.mo (fun k hk=>Nat.lt_of_lt_of_le (HM.out k hk) hT6.keep0.size)
  have HEX:=am (show∀(w0:World) (M':Nat→Prop),Below w6.heap.size w6 w0→(∀k,M' k→k<w0.heap.size)→(∀k,k<w6.heap.size→M' k→Mo Mt b ⟨A5,n5,c5'⟩ sh k)→Calls Tryz.prog 84 #[.agg #[.slice lA ln lc,.slice pA pn pc,.int .i64 la,.int .i64 en,.int .i64 cp],.agg #[.int .i64 o.lp.r0,.int .i64 o.lp.r1,.slice ph.A ph.n ph.c,.int .i64 o.lp.sum],.agg #[.int .i64 et,.slice eA eN ec,.int .i64 el,.int .i64 ek,.int .i64 ep,.int .i64 ea]] w0 (fun r w'=>ExecRaw M' w0 w' (exec progs o.lp ev) r)from fun w0 M' hb hM' hm=>
   Calls.mono (exec_calls (Mt:=M') (w:=w0) hM' ⟨⟨lA,ln,lc⟩,⟨pA,pn,pc⟩,la,en,cp⟩ ⟨o.lp.r0,o.lp.r1,ph,o.lp.sum⟩ ⟨et,⟨eA,eN,ec⟩,el,ek,ep,ea⟩
   (lp:=o.lp) (ev:=ev) (progs:=progs) ⟨rfl,rfl,hO6.ps.fresh (Keep.of_below hb) hm,rfl⟩ (hX6.fresh (Keep.of_below hb) hm) (by
    obtain⟨hs,h1,h2⟩:=hC6;exact⟨hs,h1.fresh (Keep.of_below hb) hm,h2.imp fun _ _ h=>h.fresh (Keep.of_below hb) hm⟩) HP.out HPG.out) (fun _ _ h=>h.raw))
  have HM6:=am hM6;have HQM:=am (show¬Mo Mt b ⟨A5,n5,c5'⟩ sh q1 from fun hm=>by
   have h2:=mo_com (HO1.out.more hd1) HAT5.out q1 (blk_lt HBE.out) hm;have h3:=hmo q1 h2;have:=HQ1.out;omega)
  have HO6:=am hO6;have HT6:=am hT6;have HK1:=am k1;clear hd1 hO6 hbb hT6 hmo hnq k0 k1 hw6 hlb6 hc6 hC6 hX6 hM6 g9 e0 e1 e2 e3 e4 e5 a9 a0 a1 a2 a3 a4 a5 hx10 hf10;go_upto_region 2 with (fail)
  refine sz_ 17 (S:=fun w'=>w'.cell? ⟨q,0,none⟩=some (.slice lA ln lc)∧w'.cell? ⟨q,1,none⟩=some (.slice pA pn pc)∧w'.cell? ⟨q,2,none⟩=some (.int .i64 la)∧w'.cell? ⟨q,3,none⟩=some (.int .i64 en)∧w'.cell? ⟨q,4,none⟩=some (.int .i64 cp)∧w'.cell? ⟨b,0,none⟩=some (.int .i64 o.lp.r0)∧w'.cell? ⟨b,1,none⟩=some (.int .i64 o.lp.r1)∧w'.cell? ⟨b,2,none⟩=some (.slice ph.A ph.n ph.c)∧w'.cell? ⟨b,3,none⟩=some (.int .i64 o.lp.sum)∧w'.cell? ⟨q1,0,none⟩=some (.int .i64 et)∧w'.cell? ⟨q1,1,none⟩=some (.slice eA eN ec)∧w'.cell? ⟨q1,2,none⟩=some (.int .i64 el)∧w'.cell? ⟨q1,3,none⟩=some (.int .i64 ek)∧w'.cell? ⟨q1,4,none⟩=some (.int .i64 ep)∧w'.cell? ⟨q1,5,none⟩=some (.int .i64 ea)) (ds:=[13]) ⟨(HLS.out _ (below_drew (Below.refl w6.heap.size w6))).1,(HLS.out _ (below_drew (Below.refl w6.heap.size w6))).2.1,(HLS.out _ (below_drew (Below.refl w6.heap.size w6))).2.2.1,(HLS.out _ (below_drew (Below.refl w6.heap.size w6))).2.2.2.1,(HLS.out _ (below_drew (Below.refl w6.heap.size w6))).2.2.2.2.1,(HLS.out _ (below_drew (Below.refl w6.heap.size w6))).2.2.2.2.2.1,(HLS.out _ (below_drew (Below.refl w6.heap.size w6))).2.2.2.2.2.2.1,(HLS.out _ (below_drew (Below.refl w6.heap.size w6))).2.2.2.2.2.2.2.1,(HLS.out _ (below_drew (Below.refl w6.heap.size w6))).2.2.2.2.2.2.2.2.1,(HLS.out _ (below_drew (Below.refl w6.heap.size w6))).2.2.2.2.2.2.2.2.2.1,(HLS.out _ (below_drew (Below.refl w6.heap.size w6))).2.2.2.2.2.2.2.2.2.2.1,(HLS.out _ (below_drew (Below.refl w6.heap.size w6))).2.2.2.2.2.2.2.2.2.2.2.1,(HLS.out _ (below_drew (Below.refl w6.heap.size w6))).2.2.2.2.2.2.2.2.2.2.2.2.1,(HLS.out _ (below_drew (Below.refl w6.heap.size w6))).2.2.2.2.2.2.2.2.2.2.2.2.2.1,(HLS.out _ (below_drew (Below.refl w6.heap.size w6))).2.2.2.2.2.2.2.2.2.2.2.2.2.2⟩ (fun hHeld=> ?_)
  refine pz_ 1 26 17 2 ?_;refine pz_ 2 27 17 6 ?_;refine pz_ 3 28 17 14 ?_;refine tz_ 0 25 17 15 hHeld ?_;refine tz_ 4 29 17 31 hHeld ?_;refine tz_ 5 30 17 63 hHeld ?_
  refine join_ (σ:=Nat×SLp×SH×SH) 4 (bv 17 8191) (fun s=>[(31,.tuple #[.agg #[.int .i64 s.2.1.r0,.int .i64 s.2.1.r1,.slice s.2.1.ps.A s.2.1.ps.n s.2.1.ps.c,.int .i64 s.2.1.sum],.slice s.2.2.1.A s.2.2.1.n s.2.2.1.c,.slice s.2.2.2.A s.2.2.2.n s.2.2.2.c,.bool (exec progs o.lp ev).2.2.2]),(6,.pointer (some ⟨s.1,0,none⟩)),(24,.tuple #[.agg #[.int .i64 s.2.1.r0,.int .i64 s.2.1.r1,.slice s.2.1.ps.A s.2.1.ps.n s.2.1.ps.c,.int .i64 s.2.1.sum],.slice s.2.2.1.A s.2.2.1.n s.2.2.1.c,.slice s.2.2.2.A s.2.2.2.n s.2.2.2.c,.bool (exec progs o.lp ev).2.2.2]),(32,.agg #[.int .i64 s.2.1.r0,.int .i64 s.2.1.r1,.slice s.2.1.ps.A s.2.1.ps.n s.2.1.ps.c,.int .i64 s.2.1.sum]),(33,.slice s.2.2.1.A s.2.2.1.n s.2.2.1.c),(34,.slice s.2.2.2.A s.2.2.2.n s.2.2.2.c),(35,.bool (exec progs o.lp ev).2.2.2)]) (fun s w'=>Res2 (Mo Mt b ⟨A5,n5,c5'⟩ sh) w6 (exec progs o.lp ev) s.1 s.2.1 s.2.2.1 s.2.2.2 w') ?_ ?_
  rotate_left
  ·intro hCont;refine two_ (i:=6) (j:=12) (Ni:=some 31) (Nj:=some 6) (bv 17 127) (bv 17 4159) rfl rfl rfl rfl (by kernel_rfl) (by decide) (by decide) (fun K hK=> ?_) (fun K hK=> ?_)
   ·skip
    refine goes_ Tryz.func84 (by kernel_rfl) rfl #[.agg #[.slice lA ln lc,.slice pA pn pc,.int .i64 la,.int .i64 en,.int .i64 cp],.agg #[.int .i64 o.lp.r0,.int .i64 o.lp.r1,.slice ph.A ph.n ph.c,.int .i64 o.lp.sum],.agg #[.int .i64 et,.slice eA eN ec,.int .i64 el,.int .i64 ek,.int .i64 ep,.int .i64 ea]] (by rfl) rfl rfl (by simp only[List.map_toArray,List.map_cons,List.map_nil];rfl) ?_;with_reducible refine(HEX.out _ (Mo Mt b ⟨A5,n5,c5'⟩ sh) (below_drew (Below.refl _ _)) (drew_lt HM6.out) (fun _ _ h=>h)).mono ?_
    rintro e w3 ⟨⟨sx,chx,xhx,rfl,hL,hE,hK3⟩,hb3⟩;refine⟨_,rfl,?_⟩;have hb4:=(below_drew (Below.refl w6.heap.size w6)).trans (hb3.mono (Nat.le_refl _))
    refine hK.out _ _ ⟨(HLS.out _ hb4).1,(HLS.out _ hb4).2.1,(HLS.out _ hb4).2.2.1,(HLS.out _ hb4).2.2.2.1,(HLS.out _ hb4).2.2.2.2.1,(HLS.out _ hb4).2.2.2.2.2.1,(HLS.out _ hb4).2.2.2.2.2.2.1,(HLS.out _ hb4).2.2.2.2.2.2.2.1,(HLS.out _ hb4).2.2.2.2.2.2.2.2.1,(HLS.out _ hb4).2.2.2.2.2.2.2.2.2.1,(HLS.out _ hb4).2.2.2.2.2.2.2.2.2.2.1,(HLS.out _ hb4).2.2.2.2.2.2.2.2.2.2.2.1,(HLS.out _ hb4).2.2.2.2.2.2.2.2.2.2.2.2.1,(HLS.out _ hb4).2.2.2.2.2.2.2.2.2.2.2.2.2.1,(HLS.out _ hb4).2.2.2.2.2.2.2.2.2.2.2.2.2.2⟩ (fun hHeld=> ?_);clear hK K;refine norm_ (a':= ?_) ?_ ?_;rotate_left
    ·show Act.put _ (some 31) _=_;simp only[Act.put,List.setIfInBounds_toArray,List.set_cons_zero,List.set_cons_succ,i64_w,i32_w];rfl
    refine pz_ 7 24 17 255 ?_;refine pz_ 8 32 17 511 ?_;refine pz_ 9 33 17 1023 ?_;refine pz_ 10 34 17 2047 ?_;refine pz_ 11 35 17 4095 ?_;refine one_ (i:=12) (N:=some 6) (bv 17 8191) rfl rfl (by kernel_rfl) (by decide) (fun K hK=> ?_);refine value_ (w1:= ?_) (v:= ?_) (by rfl) rfl ?_ ?_;rotate_left 2
    ·go_simp;constructor
     ·rfl
     ·rfl
    refine hK.out _ _ ⟨(HLS.out _ (below_alloc hb4 _)).1,(HLS.out _ (below_alloc hb4 _)).2.1,(HLS.out _ (below_alloc hb4 _)).2.2.1,(HLS.out _ (below_alloc hb4 _)).2.2.2.1,(HLS.out _ (below_alloc hb4 _)).2.2.2.2.1,(HLS.out _ (below_alloc hb4 _)).2.2.2.2.2.1,(HLS.out _ (below_alloc hb4 _)).2.2.2.2.2.2.1,(HLS.out _ (below_alloc hb4 _)).2.2.2.2.2.2.2.1,(HLS.out _ (below_alloc hb4 _)).2.2.2.2.2.2.2.2.1,(HLS.out _ (below_alloc hb4 _)).2.2.2.2.2.2.2.2.2.1,(HLS.out _ (below_alloc hb4 _)).2.2.2.2.2.2.2.2.2.2.1,(HLS.out _ (below_alloc hb4 _)).2.2.2.2.2.2.2.2.2.2.2.1,(HLS.out _ (below_alloc hb4 _)).2.2.2.2.2.2.2.2.2.2.2.2.1,(HLS.out _ (below_alloc hb4 _)).2.2.2.2.2.2.2.2.2.2.2.2.2.1,(HLS.out _ (below_alloc hb4 _)).2.2.2.2.2.2.2.2.2.2.2.2.2.2⟩ (fun hHeld=> ?_)
    clear hK K;refine norm_ (a':= ?_) ?_ ?_;rotate_left
    ·show Act.put _ (some 6) _=_;simp only[Act.put,List.setIfInBounds_toArray,List.set_cons_zero,List.set_cons_succ,i64_w,i32_w];rfl
    exact norm_ (by simp only[putAll,Act.put,List.setIfInBounds_toArray,List.set_cons_zero,List.set_cons_succ]) (hCont (w3.heap.size,sx,chx,xhx) _ (res2_call (below_drew (Below.refl w6.heap.size w6)) hL hE hK3 hb3))
   ·skip
    refine value_ (w1:= ?_) (v:= ?_) (by rfl) rfl ?_ ?_;rotate_left 2
    ·go_simp;constructor
     ·rfl
     ·rfl
    refine hK.out _ _ ⟨(HLS.out _ (below_drew (below_alloc (Below.refl w6.heap.size w6) _))).1,(HLS.out _ (below_drew (below_alloc (Below.refl w6.heap.size w6) _))).2.1,(HLS.out _ (below_drew (below_alloc (Below.refl w6.heap.size w6) _))).2.2.1,(HLS.out _ (below_drew (below_alloc (Below.refl w6.heap.size w6) _))).2.2.2.1,(HLS.out _ (below_drew (below_alloc (Below.refl w6.heap.size w6) _))).2.2.2.2.1,(HLS.out _ (below_drew (below_alloc (Below.refl w6.heap.size w6) _))).2.2.2.2.2.1,(HLS.out _ (below_drew (below_alloc (Below.refl w6.heap.size w6) _))).2.2.2.2.2.2.1,(HLS.out _ (below_drew (below_alloc (Below.refl w6.heap.size w6) _))).2.2.2.2.2.2.2.1,(HLS.out _ (below_drew (below_alloc (Below.refl w6.heap.size w6) _))).2.2.2.2.2.2.2.2.1,(HLS.out _ (below_drew (below_alloc (Below.refl w6.heap.size w6) _))).2.2.2.2.2.2.2.2.2.1,(HLS.out _ (below_drew (below_alloc (Below.refl w6.heap.size w6) _))).2.2.2.2.2.2.2.2.2.2.1,(HLS.out _ (below_drew (below_alloc (Below.refl w6.heap.size w6) _))).2.2.2.2.2.2.2.2.2.2.2.1,(HLS.out _ (below_drew (below_alloc (Below.refl w6.heap.size w6) _))).2.2.2.2.2.2.2.2.2.2.2.2.1,(HLS.out _ (below_drew (below_alloc (Below.refl w6.heap.size w6) _))).2.2.2.2.2.2.2.2.2.2.2.2.2.1,(HLS.out _ (below_drew (below_alloc (Below.refl w6.heap.size w6) _))).2.2.2.2.2.2.2.2.2.2.2.2.2.2⟩ (fun hHeld=> ?_)
    clear hK K;refine norm_ (a':= ?_) ?_ ?_;rotate_left
    ·show Act.put _ (some 6) _=_;simp only[Act.put,List.setIfInBounds_toArray,List.set_cons_zero,List.set_cons_succ,i64_w,i32_w];rfl
    refine one_ (i:=6) (N:=some 31) (bv 17 4223) rfl rfl (by kernel_rfl) (by decide) (fun K hK=> ?_);refine goes_ Tryz.func84 (by kernel_rfl) rfl #[.agg #[.slice lA ln lc,.slice pA pn pc,.int .i64 la,.int .i64 en,.int .i64 cp],.agg #[.int .i64 o.lp.r0,.int .i64 o.lp.r1,.slice ph.A ph.n ph.c,.int .i64 o.lp.sum],.agg #[.int .i64 et,.slice eA eN ec,.int .i64 el,.int .i64 ek,.int .i64 ep,.int .i64 ea]] (by rfl) rfl rfl (by simp only[List.map_toArray,List.map_cons,List.map_nil];rfl) ?_
    with_reducible refine(HEX.out _ (Mq (Mo Mt b ⟨A5,n5,c5'⟩ sh) w6.heap.size) (below_drew (below_alloc (Below.refl _ _) _)) (mq_lt HM6.out) (fun _ hk h=>mq_old hk h)).mono ?_
    rintro e w3 ⟨⟨sx,chx,xhx,rfl,hL,hE,hK3⟩,hb3⟩;refine⟨_,rfl,?_⟩;have hb4:=(below_drew (below_alloc (Below.refl w6.heap.size w6) _)).trans (hb3.mono ((below_drew (below_alloc (Below.refl w6.heap.size w6) _)).size))
    refine hK.out _ _ ⟨(HLS.out _ hb4).1,(HLS.out _ hb4).2.1,(HLS.out _ hb4).2.2.1,(HLS.out _ hb4).2.2.2.1,(HLS.out _ hb4).2.2.2.2.1,(HLS.out _ hb4).2.2.2.2.2.1,(HLS.out _ hb4).2.2.2.2.2.2.1,(HLS.out _ hb4).2.2.2.2.2.2.2.1,(HLS.out _ hb4).2.2.2.2.2.2.2.2.1,(HLS.out _ hb4).2.2.2.2.2.2.2.2.2.1,(HLS.out _ hb4).2.2.2.2.2.2.2.2.2.2.1,(HLS.out _ hb4).2.2.2.2.2.2.2.2.2.2.2.1,(HLS.out _ hb4).2.2.2.2.2.2.2.2.2.2.2.2.1,(HLS.out _ hb4).2.2.2.2.2.2.2.2.2.2.2.2.2.1,(HLS.out _ hb4).2.2.2.2.2.2.2.2.2.2.2.2.2.2⟩ (fun hHeld=> ?_);clear hK K;refine norm_ (a':= ?_) ?_ ?_;rotate_left
    ·show Act.put _ (some 31) _=_;simp only[Act.put,List.setIfInBounds_toArray,List.set_cons_zero,List.set_cons_succ,i64_w,i32_w];rfl
    refine pz_ 7 24 17 4351 ?_;refine pz_ 8 32 17 4607 ?_;refine pz_ 9 33 17 5119 ?_;refine pz_ 10 34 17 6143 ?_;refine pz_ 11 35 17 8191 ?_;exact norm_ (by simp only[putAll,Act.put,List.setIfInBounds_toArray,List.set_cons_zero,List.set_cons_succ]) (hCont (w6.heap.size,sx,chx,xhx) _ (res2_alloc (Below.refl w6.heap.size w6) hL hE hK3 ((below_drew (Below.refl _ _)).trans hb3)))
  rintro⟨q6,sx,crh,xh⟩ w7 hR
  have hHeld:w7.cell? ⟨q,0,none⟩=some (.slice lA ln lc)∧w7.cell? ⟨q,1,none⟩=some (.slice pA pn pc)∧w7.cell? ⟨q,2,none⟩=some (.int .i64 la)∧w7.cell? ⟨q,3,none⟩=some (.int .i64 en)∧w7.cell? ⟨q,4,none⟩=some (.int .i64 cp)∧w7.cell? ⟨b,0,none⟩=some (.int .i64 o.lp.r0)∧w7.cell? ⟨b,1,none⟩=some (.int .i64 o.lp.r1)∧w7.cell? ⟨b,2,none⟩=some (.slice ph.A ph.n ph.c)∧w7.cell? ⟨b,3,none⟩=some (.int .i64 o.lp.sum)∧w7.cell? ⟨q1,0,none⟩=some (.int .i64 et)∧w7.cell? ⟨q1,1,none⟩=some (.slice eA eN ec)∧w7.cell? ⟨q1,2,none⟩=some (.int .i64 el)∧w7.cell? ⟨q1,3,none⟩=some (.int .i64 ek)∧w7.cell? ⟨q1,4,none⟩=some (.int .i64 ep)∧w7.cell? ⟨q1,5,none⟩=some (.int .i64 ea):=HLS.out w7 hR.below
  have HR:=am hR;have hbk:=hR.blk;simp only at hbk;have z0:w7.cell? ⟨q6,0,none⟩=some (.int .i64 0):=by simp[World.cell?,hbk]
  have z1:w7.cell? ⟨q6,1,none⟩=some (.int .i64 0):=by simp[World.cell?,hbk]
  have z2:w7.cell? ⟨q6,2,none⟩=some (.slice none 0 0):=by simp[World.cell?,hbk]
  have z3:w7.cell? ⟨q6,3,none⟩=some (.int .i64 0):=by simp[World.cell?,hbk]
  have y0:w7.frozen? ⟨q6,0,none⟩=false:=blk_frozen hbk 0;have y1:w7.frozen? ⟨q6,1,none⟩=false:=blk_frozen hbk 1;have y2:w7.frozen? ⟨q6,2,none⟩=false:=blk_frozen hbk 2;have y3:w7.frozen? ⟨q6,3,none⟩=false:=blk_frozen hbk 3;clear hR;refine norm_ (a':= ?_) ?_ ?_;rotate_left
  ·simp only[putAll,Act.put,List.setIfInBounds_toArray,List.set_cons_zero,List.set_cons_succ];rfl
  refine last_ (i:=13) (N:=none) (bv 17 16383) rfl rfl (by kernel_rfl) (by decide) (fun K hK=> ?_);refine skip_ (w1:= ?_) (by rfl) rfl ?_ ?_;rotate_left
  ·go_simp;rfl
  refine hK.out _ _ ?_;clear hK K;refine pz_ 14 7 17 32767 ?_;refine pz_ 15 8 17 65535 ?_;refine pz_ 16 9 17 131071 ?_;refine done_ (by kernel_rfl) ?_;obtain⟨w8,hw8⟩:∃w8,(((w7.setCell ⟨q6,0,none⟩ (.int .i64 sx.r0)).setCell ⟨q6,1,none⟩ (.int .i64 sx.r1)).setCell ⟨q6,2,none⟩ (.slice sx.ps.A sx.ps.n sx.ps.c)).setCell ⟨q6,3,none⟩ (.int .i64 sx.sum)=w8:=⟨_,rfl⟩;rw[hw8];have p4:w8.heap[q6]?=some (.cells #[.int .i64 sx.r0,.int .i64 sx.r1,.slice sx.ps.A sx.ps.n sx.ps.c,.int .i64 sx.sum] 91 (0,0)):=by
   rw[←hw8];exact blk_put (blk_put (blk_put (blk_put hbk 0 (.int .i64 sx.r0) rfl) 1 (.int .i64 sx.r1) rfl) 2 (.slice sx.ps.A sx.ps.n sx.ps.c) rfl) 3 (.int .i64 sx.sum) rfl
  have hg8:w7.grownBy w8 (some q6):=by
   rw[←hw8];exact grown_cells [.int .i64 sx.r0,.int .i64 sx.r1,.slice sx.ps.A sx.ps.n sx.ps.c,.int .i64 sx.sum] w7 0
  have hR7:=HR.out;have hb8:Below w6.heap.size w6 w8:=hR7.below.trans ⟨hg8.os,hg8.tape,hg8.output,hg8.size,fun k hk=>hg8.block k (Nat.lt_of_lt_of_le hk hR7.below.size) fun e=>by
   cases e;have:=hR7.new;simp only at this;omega⟩
  have hk8:Keep (Mq (Mo Mt b ⟨A5,n5,c5'⟩ sh) q6) w7 w8:=Keep.grown hg8 fun k hk=>by
   cases hk;exact .inr rfl
  have hin:∀k,k<w7.heap.size→Mo Mt b ⟨A5,n5,c5'⟩ sh k→Mq (Mo Mt b ⟨A5,n5,c5'⟩ sh) q6 k:=fun _ _ h=> .inl h;have hL8:LpAt (Mo Mt b ⟨A5,n5,c5'⟩ sh) w8 sx (exec progs o.lp ev).1:=hR7.lp.fresh hk8 hin;have hE8:EvsAt (Mo Mt b ⟨A5,n5,c5'⟩ sh) w8 crh (exec progs o.lp ev).2.1:=hR7.cr.fresh hk8 hin;have hK8:KeysAt (Mo Mt b ⟨A5,n5,c5'⟩ sh) w8 xh (exec progs o.lp ev).2.2.1:=hR7.ca.fresh hk8 hin;have hO8:=HO6.out.more hb8;have x1:=box_more hb8 HK1.out;obtain⟨hO9,hT9⟩:=hO8.putLp hL8;have u0:w8.cell? ⟨q6,0,none⟩=some (.int .i64 sx.r0):=by simp[World.cell?,p4]
  have u1:w8.cell? ⟨q6,1,none⟩=some (.int .i64 sx.r1):=by simp[World.cell?,p4]
  have u2:w8.cell? ⟨q6,2,none⟩=some (.slice sx.ps.A sx.ps.n sx.ps.c):=by simp[World.cell?,p4]
  have u3:w8.cell? ⟨q6,3,none⟩=some (.int .i64 sx.sum):=by simp[World.cell?,p4]
  have v0:=hO8.cells 0 _ rfl;have v1:=hO8.cells 1 _ rfl;have v2:=hO8.cells 2 _ rfl;have v3:=hO8.cells 3 _ rfl;have f0:=hO8.free 0;have f1:=hO8.free 1;have f2:=hO8.free 2;have f3:=hO8.free 3;have HT9:=am ((HT6.out.trans (OutTo.more hb8)).trans hT9);have hq1m:¬Mo Mt b ⟨A5,n5,c5'⟩ sh q1:=HQM.out;have HE9:=am (hE8.keep hT9.keep);have HK9:=am (hK8.keep hT9.keep);have HX9:=am ((hT9.keep.block q1 (blk_lt x1) hq1m).trans x1);go_upto_region 4 with (fail)
  obtain⟨w9,hw9⟩:∃w9,(((w8.setCell ⟨b,0,none⟩ (.int .i64 sx.r0)).setCell ⟨b,1,none⟩ (.int .i64 sx.r1)).setCell ⟨b,2,none⟩ (.slice sx.ps.A sx.ps.n sx.ps.c)).setCell ⟨b,3,none⟩ (.int .i64 sx.sum)=w9:=⟨_,rfl⟩;rw[hw9]at hO9 HT9 HE9 HK9 HX9 ⊢;obtain⟨ov,hov⟩:∃ov,o.ov=ov:=⟨_,rfl⟩;obtain⟨ro,hro⟩:∃ro,(exec progs o.lp ev).2.2.2=ro:=⟨_,rfl⟩;have v7:w9.cell? ⟨b,7,none⟩=some (.bool ov):=by rw[←hov];exact hO9.cells 7 _ rfl
  have f7:=hO9.free 7;have h10:=hO9.put 7 (.bool (ov||ro)) (o':={{o with com:=o.com++[ev]}with lp:=(exec progs o.lp ev).1,ov:=ov||ro}) rfl hO9.ps hO9.box rfl rfl;have hbeg:({{o with com:=o.com++[ev]}with lp:=(exec progs o.lp ev).1,ov:=ov||ro}:Oc)=o.begin progs ev:=by
   unfold Oc.begin;rw[hov,hro]
  rw[hbeg]at h10;have HO10:=am h10.1;have HT10:=am (HT9.out.trans (OutTo.put 7 (.bool (ov||ro))));have HE10:=am (HE9.out.keep h10.2);have HK10:=am (HK9.out.keep h10.2);have HX10:=am ((h10.2.block q1 (blk_lt HX9.out) hq1m).trans HX9.out);clear hO9 h10 hbeg hw9 hov x1 hq1m hO8 hL8 hE8 hK8 hin hk8 hb8 hR7 hg8 p4 hw8 u0 u1 u2 u3 v0 v1 v2 v3 f0 f1 f2 f3 z0 z1 z2 z3 y0 y1 y2 y3 hbk hT9;rw[hro];clear hro
  go_cut [] (fun wx=>wx=w9.setCell ⟨b,7,none⟩ (.bool (ov||ro)))
  case first=>
   cases ov
   all_goals
    go_wp2_with (fail)
    go_meet;exact rfl
  case rest=>
  obtain⟨w10,hw10⟩:∃w10,w9.setCell ⟨b,7,none⟩ (.bool (ov||ro))=w10:=⟨_,rfl⟩;rw[hw10]at hcut HO10 HT10 HE10 HK10 HX10;subst hcut;clear hw10 f7;obtain⟨cr,hcr⟩:∃cr,(exec progs o.lp ev).2.1=cr:=⟨_,rfl⟩;obtain⟨ca,hca⟩:∃ca,(exec progs o.lp ev).2.2.1=ca:=⟨_,rfl⟩;have HCR:=am hcr;have HCA:=am hca;have hb1:=HBD.out.cr;have hb2:=HBD.out.crk;have hb3:=HBD.out.ca;have hb4:=HBD.out.cak;rw[hcr]at HE10 hb1 hb2;rw[hca]at HK10 hb3 hb4;have HB1':=am hb1;have HB2':=am hb2;have HB3':=am hb3;have HB4':=am hb4;clear hcr hca hb1 hb2 hb3 hb4;obtain⟨crA,crn,crc⟩:=crh
  obtain⟨xA,xn,xc⟩:=xh;have hcn:crn=cr.length:=HE10.out.len;have hxn:xn=ca.length:=HK10.out.len;have HCN:=am hcn;have HXN:=am hxn;clear hcn hxn;have HQM0:=am (show¬Mo Mt b ⟨A5,n5,c5'⟩ sh q1 from HQM.out);have HBK:=am (fun k=>put_bd ev.lp (m:=500000) (cr.take k) (o:=o.begin progs ev) HOB.out.so HOB.out.bn HOB.out.bk HOB.out.sn (fun f hf=>HB2'.out f (List.mem_of_mem_take hf)));have HTK:=am (fun k=>(show(cr.take k).length≤16 by have:=HB1'.out;rw[List.length_take];omega))
  go_wp2_with (fail)
  go_loopw [52] (fun j wr=>∃k:Nat,k≤crn∧j= .int .i64 k∧∃bhk shk:SH,Aside0 (OutAt Mt B wr b sx.ps bhk ⟨A5,n5,c5'⟩ shk ((cr.take k).foldl (Oc.put ev.lp) (o.begin progs ev)))∧Aside0 (OutTo Mt B w b ch sh wr ⟨A5,n5,c5'⟩ shk)∧Aside0 (EvsAt (Mo Mt b ⟨A5,n5,c5'⟩ shk) wr ⟨crA,crn,crc⟩ cr)∧Aside0 (KeysAt (Mo Mt b ⟨A5,n5,c5'⟩ shk) wr ⟨xA,xn,xc⟩ ca)∧
   Aside0 (wr.heap[q1]?=some (.cells #[.int .i64 et,.slice eA eN ec,.int .i64 el,.int .i64 ek,.int .i64 ep,.int .i64 ea] 49 (0,0)))∧Aside0 (¬Mo Mt b ⟨A5,n5,c5'⟩ shk q1)) (fun j _=>crn-(intOf j).toNat)
  case atStart=>exact⟨0,Nat.zero_le _,rfl,bh,sh,HO10,HT10,HE10,HK10,HX10,HQM0⟩
  case round=>
   obtain⟨k,hk,rfl,bhk,shk,HO,HT,HE,HK,HX,HQ9⟩:=hrel;by_cases hkn:k<crn
   ·have d1:decide ((k:Int)<(crn:Int))=true:=dt (by omega);have d1':decide (k<crn)=true:=decide_eq_true hkn;have m1:(k:Int)<(crn:Nat):=by omega
    have m0:(0:Int)≤(k:Int):=by omega
    have hkb:k≤1000000:=by have:=HCN.out;have:=HB1'.out;omega
    obtain⟨ssr,hr1,hr2⟩:=HE.out;obtain⟨ad,⟨nt,⟨nA,nN,nc⟩,nl,nk,np,na⟩,e0,⟨hl1,hx1⟩,p0,p1,p2,p3,p4,p5⟩:=ev_cells hr1.here k hkn;simp only at e0 p0 p1 p2 p3 p4 p5;subst e0;have hl2:k<cr.length:=by have:=HCN.out;omega
    have hN:=hr2.get k hl1 hl2;rw[hx1]at hN;have HNX:=foldl_next (Oc.put ev.lp) (o.begin progs ev) cr k hl2;obtain⟨n,hn⟩:∃n,cr[k]=n:=⟨_,rfl⟩;rw[hn]at hN HNX;obtain⟨ok,hok⟩:∃ok,(cr.take k).foldl (Oc.put ev.lp) (o.begin progs ev)=ok:=⟨_,rfl⟩;rw[hok]at HNX HO;have HNX:=am HNX;have HNK:=am (show n.k.length≤1000000 from hn▸HB2'.out _ (List.getElem_mem hl2));have HBKK:=am (hok▸HBK.out k);have HTKK:=am (HTK.out k);have hqe:wr.cell? ⟨q1,2,none⟩=some (.int .i64 el):=by simp[World.cell?,HX.out]
    have hqel:q1<wr.heap.size:=blk_lt HX.out;have hb8:=below_alloc (Below.refl wr.heap.size wr) (.cells #[.int .i64 nt,.slice nA nN nc,.int .i64 nl,.int .i64 nk,.int .i64 np,.int .i64 na] 49);have hbox:(wr.alloc (.cells #[.int .i64 nt,.slice nA nN nc,.int .i64 nl,.int .i64 nk,.int .i64 np,.int .i64 na] 49)).heap[wr.heap.size]?=some (.cells #[.int .i64 nt,.slice nA nN nc,.int .i64 nl,.int .i64 nk,.int .i64 np,.int .i64 na] 49 (0,0)):=World.alloc_heap_new _ _;have HB8:=am hb8;have HBOX:=am hbox;have HN:=am (hN.below hb8);have hnl:nl=n.lp:=hN.lp;have HNL:=am hnl
    clear hr1 hr2 hl1 hx1 hN hn hok hb8 hbox hnl;go_upto_region 8 with (fail)
    obtain⟨w8,hw8⟩:∃w8,wr.alloc (.cells #[.int .i64 nt,.slice nA nN nc,.int .i64 nl,.int .i64 nk,.int .i64 np,.int .i64 na] 49)=w8:=⟨_,rfl⟩;obtain⟨qn,hqn⟩:∃qn,wr.heap.size=qn:=⟨_,rfl⟩;rw[hw8]at HB8 HBOX HN ⊢;rw[hqn]at HBOX ⊢;have hO8:=HO.out.more HB8.out;have hX8:=box_more HB8.out HX.out;have n0:w8.cell? ⟨qn,0,none⟩=some (.int .i64 nt):=by simp[World.cell?,HBOX.out]
    have n1:w8.cell? ⟨qn,1,none⟩=some (.slice nA nN nc):=by simp[World.cell?,HBOX.out]
    have n2:w8.cell? ⟨qn,2,none⟩=some (.int .i64 nl):=by simp[World.cell?,HBOX.out]
    have n3:w8.cell? ⟨qn,3,none⟩=some (.int .i64 nk):=by simp[World.cell?,HBOX.out]
    have n4:w8.cell? ⟨qn,4,none⟩=some (.int .i64 np):=by simp[World.cell?,HBOX.out]
    have n5':w8.cell? ⟨qn,5,none⟩=some (.int .i64 na):=by simp[World.cell?,HBOX.out]
    have hq2:w8.cell? ⟨q1,2,none⟩=some (.int .i64 el):=by simp[World.cell?,hX8]
    have HO8:=am hO8;have HX8:=am hX8;have HT8:=am (HT.out.trans (OutTo.more HB8.out));have HE8:=am (HE.out.below HB8.out);have HK8:=am (HK.out.below HB8.out);clear hw8 hqn hO8 hX8 hqe hqel p0 p1 p2 p3 p4 p5;by_cases heq:nl=el
    ·have d2:(nl==el)=true:=by simp[heq]
     have HEQ:=am heq;clear heq;have HL8:=am (show∀w',Below w8.heap.size w8 w'→w'.cell? ⟨b,4,none⟩=some (.slice bhk.A bhk.n bhk.c)∧w'.cell? ⟨qn,0,none⟩=some (.int .i64 nt)∧w'.cell? ⟨qn,1,none⟩=some (.slice nA nN nc)∧w'.cell? ⟨qn,2,none⟩=some (.int .i64 nl)∧w'.cell? ⟨qn,3,none⟩=some (.int .i64 nk)∧w'.cell? ⟨qn,4,none⟩=some (.int .i64 np)∧w'.cell? ⟨qn,5,none⟩=some (.int .i64 na)from fun w' hb=>by
      have t1:=box_more hb HBOX.out;have t2:=box_more hb HO8.out.blk;refine⟨?_,?_,?_,?_,?_,?_,?_⟩<;>simp[World.cell?,t1,t2,outCells])
     have HF8:=am (show∀w',Below w8.heap.size w8 w'→w'.frozen? ⟨b,4,none⟩=false from fun w' hb=>blk_frozen (box_more hb HO8.out.blk) 4);have HINS:=am (show∀w0,Below w8.heap.size w8 w0→Calls Tryz.prog 125 #[.slice bhk.A bhk.n bhk.c,.agg #[.int .i64 nt,.slice nA nN nc,.int .i64 nl,.int .i64 nk,.int .i64 np,.int .i64 na]] w0 (fun e' w'=>∃h':SH,e'= .returned (.slice h'.A h'.n h'.c)∧EvsAt (Mo Mt b ⟨A5,n5,c5'⟩ shk) w' h' (insE ok.box n)∧Below w0.heap.size w0 w')from fun w0 hb=>
      mbInsert_calls (x:=⟨nt,⟨nA,nN,nc⟩,nl,nk,np,na⟩) (HO8.out.box.below hb) (HN.out.below hb) (fun k hk=>Nat.lt_of_lt_of_le (HO8.out.mo (fun k hk=>Nat.lt_of_lt_of_le (HM.out k hk) HT8.out.keep0.size) k hk) hb.size) HBKK.out.1 (by have:=HBKK.out.2.1;have:=HTKK.out;omega) HBKK.out.2.2.1 HNK.out)
     go_upto_region 9 with (fail)
     refine sz_ 10 (S:=fun w'=>w'.cell? ⟨b,4,none⟩=some (.slice bhk.A bhk.n bhk.c)∧w'.cell? ⟨qn,0,none⟩=some (.int .i64 nt)∧w'.cell? ⟨qn,1,none⟩=some (.slice nA nN nc)∧w'.cell? ⟨qn,2,none⟩=some (.int .i64 nl)∧w'.cell? ⟨qn,3,none⟩=some (.int .i64 nk)∧w'.cell? ⟨qn,4,none⟩=some (.int .i64 np)∧w'.cell? ⟨qn,5,none⟩=some (.int .i64 na)) (ds:=[9]) ⟨(HL8.out _ (below_drew (Below.refl w8.heap.size w8))).1,(HL8.out _ (below_drew (Below.refl w8.heap.size w8))).2.1,(HL8.out _ (below_drew (Below.refl w8.heap.size w8))).2.2.1,(HL8.out _ (below_drew (Below.refl w8.heap.size w8))).2.2.2.1,(HL8.out _ (below_drew (Below.refl w8.heap.size w8))).2.2.2.2.1,(HL8.out _ (below_drew (Below.refl w8.heap.size w8))).2.2.2.2.2.1,(HL8.out _ (below_drew (Below.refl w8.heap.size w8))).2.2.2.2.2.2⟩ (fun hHeld=> ?_)
     refine pz_ 0 61 10 1 ?_;refine pz_ 1 62 10 3 ?_;refine pz_ 2 63 10 7 ?_;refine pz_ 3 64 10 15 ?_;refine tz_ 4 65 10 31 hHeld ?_;refine tz_ 5 66 10 63 hHeld ?_;refine one_ (i:=6) (N:=some 67) (bv 10 127) rfl rfl (by kernel_rfl) (by decide) (fun K hK=> ?_);refine goes_ Tryz.func125 (by kernel_rfl) rfl #[.slice bhk.A bhk.n bhk.c,.agg #[.int .i64 nt,.slice nA nN nc,.int .i64 nl,.int .i64 nk,.int .i64 np,.int .i64 na]] (by rfl) rfl rfl (by simp only[List.map_toArray,List.map_cons,List.map_nil];rfl) ?_;with_reducible refine(HINS.out _ (below_drew (Below.refl _ _))).mono ?_
     rintro e w9 ⟨h9,rfl,hbx,hb9⟩;refine⟨_,rfl,?_⟩;have hb10:=(below_drew (Below.refl w8.heap.size w8)).trans hb9;have HBX:=am hbx;have HB9:=am hb10;have hx4:=(HL8.out w9 hb10).1;have hf4:=(HF8.out w9 hb10);refine hK.out _ _ ⟨(HL8.out w9 hb10).1,(HL8.out w9 hb10).2.1,(HL8.out w9 hb10).2.2.1,(HL8.out w9 hb10).2.2.2.1,(HL8.out w9 hb10).2.2.2.2.1,(HL8.out w9 hb10).2.2.2.2.2.1,(HL8.out w9 hb10).2.2.2.2.2.2⟩ (fun hHeld=> ?_);clear hK K;refine norm_ (a':= ?_) ?_ ?_;rotate_left
     ·show Act.put _ (some 67) _=_;simp only[Act.put,List.setIfInBounds_toArray,List.set_cons_zero,List.set_cons_succ,i64_w,i32_w];rfl
     refine pz_ 7 68 10 255 ?_;refine pz_ 8 69 10 511 ?_;refine last_ (i:=9) (N:=none) (bv 10 1023) rfl rfl (by kernel_rfl) (by decide) (fun K hK=> ?_);refine skip_ (w1:= ?_) (by rfl) rfl ?_ ?_;rotate_left
     ·go_simp;rfl
     refine hK.out _ _ ?_;clear hK K;refine done_ (by kernel_rfl) ?_;have hO9:=HO8.out.more HB9.out;have h10:=hO9.put 4 (.slice h9.A h9.n h9.c) (bh':=h9) (o':={ok with box:=insE ok.box n}) rfl hO9.ps HBX.out rfl rfl;have hput:ok.put ev.lp n={ok with box:=insE ok.box n}:=if_pos (by rw[←HNL.out,HEQ.out,HEL.out]);have hE10:=(HE8.out.below HB9.out).keep h10.2;have hK10:=(HK8.out.below HB9.out).keep h10.2;have hX9:=box_more HB9.out HX8.out;have hX10:=(h10.2.block q1 (blk_lt hX9) HQ9.out).trans hX9;have hT10:=(HT8.out.trans (OutTo.more HB9.out)).trans (OutTo.put 4 (.slice h9.A h9.n h9.c))
     have h11:=h10.1;rw[←hput,←HNX.out]at h11;have HO11:=am h11;have HT11:=am hT10;have HE11:=am hE10;have HK11:=am hK10;have HX11:=am hX10;clear hO9 h10 hput hE10 hK10 hX9 hX10 hT10 h11 hx4 hf4 n0 n1 n2 n3 n4 n5' hq2
     go_wp2_with (fail)
     go_roundw
     case rel=>exact⟨k+1,Nat.succ_le_of_lt hkn,by go_num,h9,shk,HO11,HT11,HE11,HK11,HX11,HQ9⟩
     case measure=>simp[intOf];omega
    ·have d2:(nl==el)=false:=by simp[heq]
     have HEQ:=am heq;clear heq;go_upto_region 10 with (fail)
     have g9:w8.cell? ⟨b,6,none⟩=some (.slice shk.A shk.n shk.c):=HO8.out.cells 6 _ rfl;have hbl:b<w8.heap.size:=blk_lt HO8.out.blk;have hql:qn<w8.heap.size:=blk_lt HBOX.out;have al:∀ob j,(w8.drew.alloc ob).cell? ⟨b,j,none⟩=w8.cell? ⟨b,j,none⟩:=fun ob j=>(below_alloc (Below.refl w8.drew.heap.size w8.drew) ob).cell (p:=⟨b,j,none⟩) hbl;have aq:∀ob j,(w8.drew.alloc ob).cell? ⟨qn,j,none⟩=w8.cell? ⟨qn,j,none⟩:=fun ob j=>(below_alloc (Below.refl w8.drew.heap.size w8.drew) ob).cell (p:=⟨qn,j,none⟩) hql;have a9:=fun ob=>(al ob 6).trans g9;have a0:=fun ob=>(aq ob 0).trans n0
     have a1:=fun ob=>(aq ob 1).trans n1;have a2:=fun ob=>(aq ob 2).trans n2;have a3:=fun ob=>(aq ob 3).trans n3;have a4:=fun ob=>(aq ob 4).trans n4;have a5:=fun ob=>(aq ob 5).trans n5';obtain⟨ss,hse,hse2⟩:=HO8.out.sent;have HSL:=am (show ss.length≤500016 by rw[hse2.len];have:=HBKK.out.2.2.2;have:=HTKK.out;omega);have HNB:=am (show some b≠(Value.slice shk.A shk.n shk.c).ownBlock from fun e=>by
      obtain⟨cells,hc⟩:=Kd.R_typed hse b e.symm;rw[HO8.out.blk]at hc;cases hc)
     have HSE:=am hse;have HSE2:=am hse2;have HF9:=am (HO8.out.free 6);have HSZ:=am (show B≤w8.drew.heap.size from HO8.out.base);have HBL:=am hbl;clear al aq hse hse2 hbl hql hq2;refine sz_ 11 (S:=fun w'=>w'.cell? ⟨b,6,none⟩=some (.slice shk.A shk.n shk.c)∧w'.cell? ⟨qn,0,none⟩=some (.int .i64 nt)∧w'.cell? ⟨qn,1,none⟩=some (.slice nA nN nc)∧w'.cell? ⟨qn,2,none⟩=some (.int .i64 nl)∧w'.cell? ⟨qn,3,none⟩=some (.int .i64 nk)∧w'.cell? ⟨qn,4,none⟩=some (.int .i64 np)∧w'.cell? ⟨qn,5,none⟩=some (.int .i64 na)) (ds:=[7,10]) ⟨g9,n0,n1,n2,n3,n4,n5'⟩ (fun hHeld=> ?_)
     refine pz_ 0 70 11 1 ?_;refine pz_ 1 71 11 3 ?_;refine pz_ 2 72 11 7 ?_;refine pz_ 3 73 11 15 ?_;refine tz_ 4 74 11 31 hHeld ?_;refine tz_ 5 75 11 63 hHeld ?_;refine one_ (i:=6) (N:=some 76) (bv 11 127) rfl rfl (by kernel_rfl) (by decide) (fun K hK=> ?_);refine value_ (w1:= ?_) (v:= ?_) (by rfl) rfl ?_ ?_;rotate_left 2
     ·go_simp;constructor
      ·rfl
      ·rfl
     refine hK.out _ _ ⟨a9 _,a0 _,a1 _,a2 _,a3 _,a4 _,a5 _⟩ (fun hHeld=> ?_);clear hK K;refine norm_ (a':= ?_) ?_ ?_;rotate_left
     ·show Act.put _ (some 76) _=_;simp only[Act.put,List.setIfInBounds_toArray,List.set_cons_zero,List.set_cons_succ,i64_w,i32_w];rfl
     refine last_ (i:=7) (N:=some 77) (bv 11 255) rfl rfl (by kernel_rfl) (by decide) (fun K hK=> ?_)
     refine Kd.R_append_step kE (w0:=w8) B (by rfl) (.tmp 74) (.tmp 76) 47 49 (.agg #[.int .i64 0,.slice none 0 0,.int .i64 0,.int .i64 0,.int .i64 0,.int .i64 0]) 64 rfl Tryz.underlying47 infoEv rfl (by decide) (by omega) (.slice shk.A shk.n shk.c) ss ⟨nt,⟨nA,nN,nc⟩,nl,nk,np,na⟩ [.int .i64 nt,.slice nA nN nc,.int .i64 nl,.int .i64 nk,.int .i64 np,.int .i64 na] (fun _=>True) (fun _=>False) rfl rfl rfl (fun _ hk=>hk.elim) (fun _ _=>trivial) (Kd.R_drew HSE.out) (below_drew (Below.refl _ _)) HSZ.out (by have:=HSL.out;omega) ?_;intro v5 w5 hv5 hb5 hg5 hat5;obtain⟨Z5,z5,zc5,hn5,rfl⟩:=R_slice3 hv5
     have hx10:w5.cell? ⟨b,6,none⟩=some (.slice shk.A shk.n shk.c):=by simp only[World.cell?,hg5.block b HBL.out HNB.out];exact g9
     have hf10:w5.frozen? ⟨b,6,none⟩=false:=by simp only[World.frozen?,hg5.block b HBL.out HNB.out];exact HF9.out
     have HV5:=am hv5;have HG5:=am hg5;have HAT5:=am hat5;clear hv5 hg5 hb5 hat5 hn5;refine hK.out _ _ ?_;clear hK K;refine norm_ (a':= ?_) ?_ ?_;rotate_left
     ·show Act.put _ (some 77) _=_;simp only[Act.put,List.setIfInBounds_toArray,List.set_cons_zero,List.set_cons_succ,i64_w,i32_w];rfl
     refine pz_ 8 78 11 511 ?_;refine pz_ 9 79 11 1023 ?_;refine last_ (i:=10) (N:=none) (bv 11 2047) rfl rfl (by kernel_rfl) (by decide) (fun K hK=> ?_);refine skip_ (w1:= ?_) (by rfl) rfl ?_ ?_;rotate_left
     ·go_simp;rfl
     refine hK.out _ _ ?_;clear hK K;refine done_ (by kernel_rfl) ?_;have hd1:=below_drew (Below.refl w8.heap.size w8);obtain⟨h11,hkp,_⟩:=(HO8.out.more hd1).pushSent (HSE2.out.imp fun _ _ h=>h.keep (Keep.of_below hd1)) (HN.out.below hd1) HV5.out HG5.out HAT5.out;have hT1:=(OutTo.more (Mt:=Mt) (B:=B) (b:=b) (ch:=⟨A5,n5,c5'⟩) (sh:=shk) hd1).trans (OutTo.pushSent (HO8.out.more hd1) HG5.out HAT5.out 6 (.slice Z5 z5 zc5));have hput:ok.put ev.lp n={ok with sent:=ok.sent++[n]}:=if_neg (by rw[←HNL.out,←HEL.out];exact HEQ.out);rw[←hput,←HNX.out]at h11;have hE10:=HE8.out.fresh hT1.keep hT1.old
     have hK10:=HK8.out.fresh hT1.keep hT1.old;have hX9:=box_more hd1 HX8.out;have hX10:=(hkp.block q1 (blk_lt hX9) HQ9.out).trans hX9;have HQ11:=am (show¬Mo Mt b ⟨A5,n5,c5'⟩ ⟨Z5,z5,zc5⟩ q1 from fun hm=>HQ9.out (hT1.old q1 (blk_lt HX8.out) hm));have HT11:=am (HT8.out.trans hT1);have HO11:=am h11;have HE11:=am hE10;have HK11:=am hK10;have HX11:=am hX10;clear hd1 h11 hkp hT1 hput hE10 hK10 hX9 hX10 hx10 hf10 g9 a9 a0 a1 a2 a3 a4 a5 n0 n1 n2 n3 n4 n5'
     go_wp2_with (fail)
     go_roundw
     case rel=>exact⟨k+1,Nat.succ_le_of_lt hkn,by go_num,bhk,⟨Z5,z5,zc5⟩,HO11,HT11,HE11,HK11,HX11,HQ11⟩
     case measure=>simp[intOf];omega
   ·obtain rfl:k=crn:=by omega
    have d1:decide ((k:Int)<(k:Int))=false:=df (by omega);have d1':decide (k<k)=false:=df (by omega);have hall:cr.take k=cr:=List.take_of_length_le (by have:=HCN.out;omega);rw[hall]at HO;obtain⟨o2,ho2⟩:∃o2,cr.foldl (Oc.put ev.lp) (o.begin progs ev)=o2:=⟨_,rfl⟩;have hbk2:=HBK.out k;rw[hall]at hbk2;rw[ho2]at HO hbk2;have HO2:=am ho2;have HBK2:=am hbk2;clear hall ho2 hbk2 hkn hk
    go_wp2_with (fail)
    go_loopw [83] (fun j wr=>∃i:Nat,i≤xn∧j= .int .i64 i∧∃bhi:SH,Aside0 (OutAt Mt B wr b sx.ps bhi ⟨A5,n5,c5'⟩ shk ((ca.take i).foldl Oc.del o2))∧Aside0 (OutTo Mt B w b ch sh wr ⟨A5,n5,c5'⟩ shk)∧Aside0 (KeysAt (Mo Mt b ⟨A5,n5,c5'⟩ shk) wr ⟨xA,xn,xc⟩ ca)) (fun j _=>xn-(intOf j).toNat)
    case atStart=>exact⟨0,Nat.zero_le _,rfl,bhk,HO,HT,HK⟩
    case round=>
     obtain⟨i,hi,rfl,bhi,HOI,HTI,HKI⟩:=hrel;by_cases hin:i<xn
     ·have d3:decide ((i:Int)<(xn:Int))=true:=dt (by omega);have d3':decide (i<xn)=true:=decide_eq_true hin;have m1:(i:Int)<(xn:Nat):=by omega
      have m0:(0:Int)≤(i:Int):=by omega
      have hib:i≤1000000:=by have:=HXN.out;have:=HB3'.out;omega
      obtain⟨hs,hr1,hr2⟩:=HKI.out;obtain⟨ad2,⟨kA,kN,kc⟩,e0,⟨hl1,hx1⟩,p0⟩:=hd_cells hr1.here i hin;simp only at e0 p0;subst e0;have hl2:i<ca.length:=by have:=HXN.out;omega
      have hN:=hr2.get i hl1 hl2;rw[hx1]at hN;have HNX:=foldl_next Oc.del o2 ca i hl2;obtain⟨kk,hkk⟩:∃kk,ca[i]=kk:=⟨_,rfl⟩;rw[hkk]at hN HNX;obtain⟨oi,hoi⟩:∃oi,(ca.take i).foldl Oc.del o2=oi:=⟨_,rfl⟩;rw[hoi]at HNX HOI;have HNX:=am HNX;have hob:=Oc.dels (ca.take i) o2;rw[hoi]at hob;have HKK:=am (show kk.length≤1000000 from hkk▸HB4'.out _ (List.getElem_mem hl2));have hsub:=foldl_sub (ca.take i) o2.box;rw[←hob.2.2.2.2]at hsub
      have HCAN:=am (mbCancel_calls HOI.out.box hN (HOI.out.mo (fun k hk=>Nat.lt_of_lt_of_le (HM.out k hk) HTI.out.keep0.size)) (by have:=hsub.length_le;have:=HBK2.out.2.1;have:=HB1'.out;have:=HTK.out k;rw[List.length_take]at*;omega) (fun f hf=>HBK2.out.2.2.1 f (hsub.subset hf)) HKK.out);have b4:wr.cell? ⟨b,4,none⟩=some (.slice bhi.A bhi.n bhi.c):=HOI.out.cells 4 _ rfl;clear hr1 hr2 hl1 hx1 hN hkk hoi hob hsub
      go_wp2_with (first|(go_at_call 126;(with_reducible refine HCAN.out.mono ?_);rintro e w9 ⟨h9,bb,rfl,hbx,hb9⟩;have HBX:=am hbx;have HB9:=am hb9;have b9:w9.cell? ⟨b,4,none⟩=some (.slice bhi.A bhi.n bhi.c):=(HOI.out.more hb9).cells 4 _ rfl;have f9:=(HOI.out.more hb9).free 4;clear hbx hb9))
      have hO9:=HOI.out.more HB9.out;have h10:=hO9.put 4 (.slice h9.A h9.n h9.c) (bh':=h9) (o':=oi.del kk) rfl hO9.ps HBX.out rfl rfl;have h11:=h10.1;rw[←HNX.out]at h11;have HO11:=am h11;have HT11:=am ((HTI.out.trans (OutTo.more HB9.out)).trans (OutTo.put 4 (.slice h9.A h9.n h9.c)));have HK11:=am ((HKI.out.below HB9.out).keep h10.2);clear hO9 h10 h11 b9 f9 b4 p0
      go_roundw
      case rel=>exact⟨i+1,Nat.succ_le_of_lt hin,by go_num,h9,HO11,HT11,HK11⟩
      case measure=>simp[intOf];omega
     ·obtain rfl:i=xn:=by omega
      have d3:decide ((i:Int)<(i:Int))=false:=df (by omega);have d3':decide (i<i)=false:=df (by omega);have hall:ca.take i=ca:=List.take_of_length_le (by have:=HXN.out;omega);rw[hall]at HOI;have HFIN:=am (show ca.foldl Oc.del o2=Oc.exec progs o ev by
       unfold Oc.exec;rw[HCR.out,HCA.out,HO2.out])
      rw[HFIN.out]at HOI;clear hall
      go_wp2_with (fail)
      go_end0
      exact⟨rfl,_,_,_,_,HOI.out,HTI.out⟩
def PutSafe {β:Type} (l:Nat) (I:β→World→Prop):Prop:=∀(s:β) (W:World) (o o':Obj),I s W→W.heap[l]?=some o→o.isCells=false→I s (W.putObj l o')
theorem range_put {F:Fence} {n:Nat} {P:Program} {σ:Type} {g:Operand} {ps:Array Tmp} {assign body:Code} {Q:Exit→Act→World→Prop} {a:Act} {w:World}
  (hro:F.round=none) (h1:1≤n) {gf:Nat} {lb:Array Value} (hg:a.eval g= .func (.func gf) #[] lb) (hFg:F.fn gf) (eg:∀args w,(callFunc gf args).run P w= .ok (.enter gf args) w)
  (args:σ→Array Value) (hps:∀s,(args s).size=ps.size)
  (Pre Post:σ→World→Prop) (Fin:World→Prop) (hPost:PutSafe (w.heap.size+1) Post) (hFin:PutSafe (w.heap.size+1) (fun(_:Unit) W=>Fin W))
  (hiter:∀(l:Nat) (Rc:World→Prop) (W1:World),Below w.heap.size w W1→w.heap.size+2≤W1.heap.size→(∀A B,Rc A→Keep (·<w.heap.size) A B→Rc B)→
   (∀s W,Pre s W→Rc W→YieldAt F (n-1-1) P l (args s) W fun e W'=>e= .returned (.bool true)∧Post s W'∧Rc W')→Rc W1→
   CallsIn F (n-1) P gf (#[.func (.yield l) #[] #[]]++lb) W1 fun e W'=>(∃v,e= .returned v)∧Fin W'∧Rc W')
  (Ax:σ→Act→World→Prop) (hAx:∀s a',PutSafe (w.heap.size+1) (fun(_:Unit) W=>Ax s a' W))
  (hassign:∀(l:Nat) (s:σ) (W:World) (K:Act→World→Prop),Pre s W→(∀a' W',KeepsFrom w.heap.size W W'→Ax s a' W'→K a' W')→
   assign.wpIn (F.inRound l) (n-1-1) P (Exit.then K (fun _ _ _=>False)) {tmps:=(ps.zip (args s)).foldl (fun t (p,v)=>t.setIfInBounds p v) a.tmps,defers:=[]} W)
  (hbody:∀(l:Nat) (s:σ) (a':Act) (W:World),Ax s a' W→body.wpIn (F.inRound l) (n-1-1) P (roundEnd w.heap.size Post s W) a' W)
  (hdone:∀(W:World),Fin W→W.heap[w.heap.size]?=some (.deferred (some []))→Q .normal {a with defers:={target:= .collected w.heap.size,args:= #[]}::a.defers} W):
  (Code.rangeFunc g ps assign body).wpIn F n P Q a w:=by
 refine wpIn_rangeFunc ?_;intro fn hfn;rw[hro];obtain⟨rec,hrec⟩:∃rec:LoopState→Option Code→Loop,rec=fun st pe=>{state:=st,pending:=pe,fn,tmps:=a.tmps,params:=ps,assign,body,defers:=w.heap.size}:=⟨_,rfl⟩;obtain⟨W1,hW1⟩:∃W1,(w.alloc (.deferred (some []))).alloc (.loop (rec .ready none))=W1:=⟨_,rfl⟩;have hL1:W1.heap[w.heap.size+1]?=some (.loop (rec .ready none)):=by
  rw[←hW1];have:=World.alloc_heap_new (w.alloc (.deferred (some []))) (.loop (rec .ready none));rwa [World.size_alloc]at this
 have hK1:W1.heap[w.heap.size]?=some (.deferred (some [])):=by
  rw[←hW1];exact(Below.heap_alloc _ _ _ (by simp)).trans (World.alloc_heap_new w _)
 have hb1:Below w.heap.size w W1:=by
  rw[←hW1];exact(((Below.refl _ w).alloc (Nat.le_refl _) _).alloc (by simp) _)
 refine⟨w.heap.size+1,[{target:= .collected w.heap.size,args:= #[]}],W1,{target:= .fn (.func gf) lb,args:= #[.func (.yield (w.heap.size+1)) #[] #[]]},W1,gf,
  #[.func (.yield (w.heap.size+1)) #[] #[]]++lb,W1,?_,?_,?_,?_,fun _=>h1,?_⟩
 ·rw[←hW1,hrec];exact run_enterLoop_outer _ _ _ _ _
 ·simp only[resolve,hg];simp[go_sem]
 ·intro f' hf';simp[Target.leads]at hf';subst hf';exact hFg
 ·simp[invoke,go_sem,eg]
 ·refine(hiter (w.heap.size+1)
   (fun W=>W.heap[w.heap.size+1]?=some (.loop (rec .ready none))∧W.heap[w.heap.size]?=some (.deferred (some [])))
   W1 hb1 (by rw[←hW1];simp only[World.size_alloc];omega)
   (fun A B hs hk=>⟨(hk.block _ (Array.getElem?_eq_some_iff.1 hs.1).1 (by omega)).trans hs.1,(hk.block _ (Array.getElem?_eq_some_iff.1 hs.2).1 (by omega)).trans hs.2⟩)
   ?_ ⟨hL1,hK1⟩).mono ?_
  ·rintro s W hi ⟨hl,hk⟩;have hlt:w.heap.size+1<W.heap.size:=(Array.getElem?_eq_some_iff.1 hl).1;have hy:=run_yield (P:=P) (args:=args s) hl (by rw[hrec];exact hps s);rw[hrec]at hy;refine⟨fn,_,assign,body,hy,roundIn_of_wpIn hfn (hassign _ s W _ hi ?_)⟩;clear hy;intro a' Wa hkfa hax
   replace hl:=hkfa.same _ _ (by omega) hl rfl
   replace hk:=hkfa.same _ _ (Nat.le_refl _) hk rfl
   replace hlt:w.heap.size+1<Wa.heap.size:=(Array.getElem?_eq_some_iff.1 hl).1
   clear hi;refine⟨_,run_beginRound hl (by rw[hrec]),?_⟩;have hl2:(Wa.putObj (w.heap.size+1) (.loop {rec .ready none with state:= .busy})).heap[w.heap.size+1]?=some (.loop {rec .ready none with state:= .busy}):=World.putObj_heap_same hlt;have hk2:(Wa.putObj (w.heap.size+1) (.loop {rec .ready none with state:= .busy})).heap[w.heap.size]?=some (.deferred (some [])):=(World.putObj_heap_other (by omega)).trans hk;refine wpIn_mono (hbody _ s a' _ (hAx s a' () _ _ _ hax hl rfl)) ?_;rintro e a3 W3 hp;cases e with
   |normal=>
    obtain⟨hk3,hi3⟩:=hp;have hl3:=hk3.same _ _ (by omega) hl2 rfl;have hr:=run_endRound (P:=P) none hl3;rw[hrec]at hr hl3;refine⟨_,_,hr,rfl,hPost _ _ _ _ hi3 hl3 rfl,?_,?_⟩
    ·rw[hrec];exact World.putObj_heap_same (Array.getElem?_eq_some_iff.1 hl3).1
    ·exact(World.putObj_heap_other (by omega)).trans (hk3.same _ _ (Nat.le_refl _) hk2 rfl)
   |ret=>exact hp.elim
   |exit id=>exact hp.elim
   |goto t=>exact hp.elim
   |panic ch=>exact hp.elim
   |outgrown=>exact hp.elim
  ·rintro e W2 ⟨⟨v,rfl⟩,hF,hl,hk⟩;exact⟨none,_,by have:=run_endLoop (P:=P) hl (by rw[hrec];simp);rw[hrec]at this;exact this,hdone _ (hFin () _ _ _ hF hl rfl) ((World.putObj_heap_other (by omega)).trans hk)⟩
end Go.Proofs.YtfnimdhghglanaaGreat.Hand
end
