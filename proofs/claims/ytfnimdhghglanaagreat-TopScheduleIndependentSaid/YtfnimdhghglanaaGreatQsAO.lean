/- TopScheduleIndependent, part 15 of 27; no condition.  -/
import Derived.Test.YtfnimdhghglanaaGreatQsAN
import Derived.Handy
set_option maxRecDepth 100000
set_option maxHeartbeats 8000000
set_option linter.unusedVariables false
set_option linter.unusedSimpArgs false
section
namespace Go.Proofs.YtfnimdhghglanaaGreat.Hand
open Go.RowKit Go.Shelf Go.Proofs.YtfnimdhghglanaaGreatW PrintWords PrintLast PrintMore
attribute [local go_sem] max2_int min2_int max_two min_two max_three min_three max_four min_four
attribute [local go_sem] Oper.semAt_some
theorem Oc.run_add (pgs:List (List OpC)) (h:Int):∀(m n:Nat) (o:Oc),Oc.run pgs h (m+n) o=Oc.run pgs h n (Oc.run pgs h m o)
 |0,n,o=>by rw[Nat.zero_add];rfl
 |m+1,n,o=>by
  have hstop:o.rest h→Oc.run pgs h (m+1+n) o=Oc.run pgs h n (Oc.run pgs h (m+1) o):=fun hr=>by rw[Oc.run_rest hr,Oc.run_rest hr,Oc.run_rest hr]
  cases hb:o.box with
  |nil=>exact hstop (fun e he=>by simp[hb]at he)
  |cons e b=>
   by_cases hlt:e.t<h
   ·have h1:∀k,Oc.run pgs h (k+1) o=Oc.run pgs h k (Oc.exec pgs {o with box:=b} e):=fun k=>by
     conv=>lhs;unfold Oc.run
     rw[hb];simp only;rw[if_pos hlt]
    rw[show m+1+n=(m+n)+1 by omega,h1,h1,Oc.run_add pgs h m n]
   ·exact hstop (fun f hf=>by
     rw[hb]at hf;simp only[List.head?_cons,Option.mem_some_iff]at hf;subst hf;exact hlt)
theorem Oc.run_next {pgs:List (List OpC)} {h:Int} {n:Nat} {o:Oc} {e:Ev} {b:List Ev} (hb:(Oc.run pgs h n o).box=e::b) (hlt:e.t<h):Oc.run pgs h (n+1) o=Oc.exec pgs {Oc.run pgs h n o with box:=b} e:=by
 rw[Oc.run_add]
 conv=>lhs;unfold Oc.run
 rw[hb];simp only;rw[if_pos hlt];rfl
theorem Oc.exec_com (pgs:List (List OpC)) (o:Oc) (e:Ev):(Oc.exec pgs o e).com=o.com++[e]:=by
 unfold Oc.exec;obtain⟨_,h2,_⟩:=Oc.dels (Hand.exec pgs o.lp e).2.2.1 ((Hand.exec pgs o.lp e).2.1.foldl (Oc.put e.lp) (o.begin pgs e));obtain⟨_,g2,_⟩:=Oc.puts e.lp (Hand.exec pgs o.lp e).2.1 (o.begin pgs e);rw[h2,g2];rfl
structure OutOk (progs:List (List OpC)) (hz:Int) (o:Oc):Prop where
 bd:OutBd o
 pre:∀e b,o.box=e::b→e.t<hz→ExecPre progs.length o.lp e∧ExecBd (exec progs o.lp e)
theorem OutBd.tail {o:Oc} (h:OutBd o) {e:Ev} {b:List Ev} (hb:o.box=e::b):OutBd {o with box:=b}:=
 ⟨SortedE.tail (hb▸h.so),by have:=h.bn;rw[hb]at this;simp at this;simp only;omega,fun f hf=>h.bk f (hb▸List.mem_cons_of_mem _ hf),h.cn,h.sn⟩
structure OutW (Mt:Nat→Prop) (B:Nat) (w0:World) (b:Nat) (o:Oc) (W:World):Prop where
 ex:∃ph bh ch sh:SH,OutAt Mt B W b ph bh ch sh o∧OutTo Mt B w0 b .nil .nil W ch sh
 mt:∀k,Mt k→k<W.heap.size
structure EvW (Mt:Nat→Prop) (B:Nat) (w0:World) (b:Nat) (o:Oc) (x:SE) (e:Ev) (W:World):Prop where
 ex:∃ph bh ch sh:SH,OutAt Mt B W b ph bh ch sh o∧OutTo Mt B w0 b .nil .nil W ch sh∧EvAt (Mo Mt b ch sh) W x e
 mt:∀k,Mt k→k<W.heap.size
structure Res5 (M:Nat→Prop) (W:World) (bx:List Ev) (e:Ev) (q:Nat) (h:SH) (x:SE) (w':World):Prop where
 below:Below W.heap.size W w'
 bx:EvsAt (Mq M q) w' h bx
 x:EvAt (Mq M q) w' x e
 new:W.heap.size≤q
 blk:w'.heap[q]?=some (.cells #[.int .i64 0,.slice none 0 0,.int .i64 0,.int .i64 0,.int .i64 0,.int .i64 0] 49 (0,0))
structure Res5n (W:World) (q:Nat) (w':World):Prop where
 below:Below W.heap.size W w'
 new:W.heap.size≤q
 blk:w'.heap[q]?=some (.cells #[.int .i64 0,.slice none 0 0,.int .i64 0,.int .i64 0,.int .i64 0,.int .i64 0] 49 (0,0))
theorem res5n_call {W w0 w3:World} (h0:Below W.heap.size W w0) (hb:Below w0.heap.size w0 w3):Res5n W w3.heap.size (w3.alloc (.cells #[.int .i64 0,.slice none 0 0,.int .i64 0,.int .i64 0,.int .i64 0,.int .i64 0] 49)):=by
 have hb2:=below_alloc (Below.refl w3.heap.size w3) (.cells #[.int .i64 0,.slice none 0 0,.int .i64 0,.int .i64 0,.int .i64 0,.int .i64 0] 49);have hb3:=h0.trans (hb.mono h0.size);exact⟨hb3.trans (hb2.mono hb3.size),hb3.size,World.alloc_heap_new _ _⟩
theorem res5n_alloc {W w0 w3:World} (h0:Below W.heap.size W w0) (hb:Below (w0.alloc (.cells #[.int .i64 0,.slice none 0 0,.int .i64 0,.int .i64 0,.int .i64 0,.int .i64 0] 49)).heap.size (w0.alloc (.cells #[.int .i64 0,.slice none 0 0,.int .i64 0,.int .i64 0,.int .i64 0,.int .i64 0] 49)) w3):Res5n W w0.heap.size w3:=by
 have hb2:=below_alloc (Below.refl w0.heap.size w0) (.cells #[.int .i64 0,.slice none 0 0,.int .i64 0,.int .i64 0,.int .i64 0,.int .i64 0] 49);have hlt:w0.heap.size<(w0.alloc (.cells #[.int .i64 0,.slice none 0 0,.int .i64 0,.int .i64 0,.int .i64 0,.int .i64 0] 49)).heap.size:=by rw[World.size_alloc];omega
 exact⟨h0.trans ((hb2.trans (hb.mono (Nat.le_of_lt hlt))).mono h0.size),h0.size,(hb.block _ hlt).trans (World.alloc_heap_new _ _)⟩
theorem res5_call {M:Nat→Prop} {W w0 w3:World} {bx:List Ev} {e:Ev} {h:SH} {x:SE} (h0:Below W.heap.size W w0) (h1:EvsAt M w3 h bx) (h2:EvAt M w3 x e) (hb:Below w0.heap.size w0 w3):
  Res5 M W bx e w3.heap.size h x (w3.alloc (.cells #[.int .i64 0,.slice none 0 0,.int .i64 0,.int .i64 0,.int .i64 0,.int .i64 0] 49)):=by
 have hb2:=below_alloc (Below.refl w3.heap.size w3) (.cells #[.int .i64 0,.slice none 0 0,.int .i64 0,.int .i64 0,.int .i64 0,.int .i64 0] 49);have hm:∀k,k<w3.heap.size→Mq M w3.heap.size k→M k:=fun k hk h=>mq_old hk h;have h9:=res5n_call h0 hb;exact⟨h9.below,h1.fresh (Keep.of_below hb2) hm,h2.fresh (Keep.of_below hb2) hm,h9.new,h9.blk⟩
theorem res5_alloc {M:Nat→Prop} {W w0 w3:World} {bx:List Ev} {e:Ev} {h:SH} {x:SE} (h0:Below W.heap.size W w0) (h1:EvsAt (Mq M w0.heap.size) w3 h bx) (h2:EvAt (Mq M w0.heap.size) w3 x e)
  (hb:Below (w0.alloc (.cells #[.int .i64 0,.slice none 0 0,.int .i64 0,.int .i64 0,.int .i64 0,.int .i64 0] 49)).heap.size (w0.alloc (.cells #[.int .i64 0,.slice none 0 0,.int .i64 0,.int .i64 0,.int .i64 0,.int .i64 0] 49)) w3):Res5 M W bx e w0.heap.size h x w3:=
 have h9:=res5n_alloc h0 hb
 ⟨h9.below,h1,h2,h9.new,h9.blk⟩
def lenC (w:World) (b:Nat):Nat:=match w.cell? ⟨b,5,none⟩with|some (.slice _ n _)=>n|_=>0
theorem OutW.lenC {Mt:Nat→Prop} {B:Nat} {w0:World} {b:Nat} {o:Oc} {W:World} (h:OutW Mt B w0 b o W):Hand.lenC W b=o.com.length:=by
 obtain⟨ph,bh,ch,sh,hO,_⟩:=h.ex;have h5:W.cell? ⟨b,5,none⟩=some (.slice ch.A ch.n ch.c):=hO.cells 5 _ rfl;obtain⟨ss,h1,h2⟩:=hO.com;unfold Hand.lenC;rw[h5];simp only;rw[(Kd.R_reads' h1).1,h2.len]
theorem nil_m0 {b k:Nat} (h:M0 b .nil .nil k):k=b:=by
 rcases h with h|h|h|h
 ·exact h.elim
 ·exact h
 ·cases h
 ·cases h
theorem events_in {Mt:Nat→Prop} {B:Nat} {w0:World} {b qo qh m l:Nat} {hz:Int} {progs:List (List OpC)} {o0:Oc} (hqo:w0.cell? ⟨qo,0,none⟩=some (.pointer (some ⟨b,0,none⟩))) (hqh:w0.cell? ⟨qh,0,none⟩=some (.int .i64 hz)) (hob:qo≠b) (hhb:qh≠b)
  (hok:∀n,n≤2000→OutOk progs hz (Oc.run progs hz n o0)) (hc0:o0.com=[]) (Rc:World→Prop) (hRc:∀A C,Rc A→Keep (fun k=>k=b) A C→Rc C)
  (hY:∀n e bx x W,n<2000→(Oc.run progs hz n o0).box=e::bx→e.t<hz→(Oc.run progs hz n o0).com.length=n→EvW Mt B w0 b {Oc.run progs hz n o0 with box:=bx} x e W→Rc W→YieldAt Fence.wide m Tryz.prog l #[x.v] W fun e W'=>e= .returned (.bool true)∧OutW Mt B w0 b (Oc.run progs hz (n+1) o0) W'∧Rc W')
  {W:World} (h0:OutW Mt B w0 b o0 W) (hr:Rc W):
  CallsIn Fence.wide (m+1) Tryz.prog 123 #[.func (.yield l) #[] #[],.pointer (some ⟨qo,0,none⟩),.pointer (some ⟨qh,0,none⟩)] W fun e W'=>(∃v,e= .returned v)∧OutW Mt B w0 b (Oc.run progs hz 2000 o0) W'∧Rc W':=by
 have HRC:=am hRc;have HY:=am hY;have H0:=am h0;have HR:=am hr;have HOK:=am hok;have HC0:=am hc0;have HQ:=am (show∀W',Keep (M0 b .nil .nil) w0 W'→W'.cell? ⟨qo,0,none⟩=some (.pointer (some ⟨b,0,none⟩))∧W'.cell? ⟨qh,0,none⟩=some (.int .i64 hz)from fun W' hk=>
  ⟨(mut_cell hk (fun h=>hob (nil_m0 h)) (World.block_lt_of_cell? w0 _ hqo) 0).trans hqo,(mut_cell hk (fun h=>hhb (nil_m0 h)) (World.block_lt_of_cell? w0 _ hqh) 0).trans hqh⟩)
 clear hRc hY h0 hr hok hc0 hqo hqh;refine callsIn_of_wp Tryz.func123 rfl trivial ?_ rfl;simp only[Tryz.ntmps123,List.size_toArray,List.length_cons,List.length_nil,Nat.reduceAdd,Nat.reduceSub,Array.replicate_succ,Array.replicate_zero,List.push_toArray,List.append_toArray,List.nil_append,List.cons_append]
 gi_wp2
 gi_loopw [] (fun wr=>∃n:Nat,n≤2000∧Aside0 ((Oc.run progs hz n o0).com.length=n)∧Aside0 (OutW Mt B w0 b (Oc.run progs hz n o0) wr)∧Aside0 (Rc wr)) (fun wr=>2000-lenC wr b)
 case atStart=>exact⟨0,Nat.zero_le _,⟨by rw[show Oc.run progs hz 0 o0=o0 from rfl,HC0.out];rfl⟩,H0,HR⟩
 case round=>
  clear H0 HR;obtain⟨n,hn,HL,HW,HR⟩:=hrel;obtain⟨on,hon⟩:∃on,Oc.run progs hz n o0=on:=⟨_,rfl⟩;rw[hon]at HL HW;have HON:=am hon;clear hon;obtain⟨ph,bh,ch,sh,hO,hT⟩:=HW.out.ex;obtain⟨co,ch0⟩:=HQ.out _ hT.keep0;have c5:wr.cell? ⟨b,5,none⟩=some (.slice ch.A ch.n ch.c):=hO.cells 5 _ rfl;have c4:wr.cell? ⟨b,4,none⟩=some (.slice bh.A bh.n bh.c):=hO.cells 4 _ rfl;have hcn:ch.n=n:=by
   obtain⟨ss,h1,h2⟩:=hO.com;rw[(Kd.R_reads' h1).1,h2.len,HL.out]
  have hLC:=HW.out.lenC;rw[HL.out]at hLC;have HLC:=am hLC;have HO:=am hO;have HT:=am hT;have HRR:=HR;have HBOK:=am (HON.out▸HOK.out n hn);have HMO:=am (hO.mo HW.out.mt);obtain⟨chA,chn,chc⟩:=ch;simp only at hcn c5;subst hcn;clear hO hT hLC;by_cases hlt:chn<2000
  ·have d1:decide ((chn:Int)<2000)=true:=dt (by omega);have d1':decide (chn<2000)=true:=decide_eq_true hlt;have HLS:=am (show∀w',Below wr.heap.size wr w'→w'.cell? ⟨qo,0,none⟩=some (.pointer (some ⟨b,0,none⟩))∧w'.cell? ⟨b,4,none⟩=some (.slice bh.A bh.n bh.c)∧w'.cell? ⟨qh,0,none⟩=some (.int .i64 hz)from fun w' hb=>by
    have t0:=box_more hb HO.out.blk;have l1:=World.block_lt_of_cell? wr _ co;have l2:=World.block_lt_of_cell? wr _ ch0;exact⟨(hb.cell (p:=⟨qo,0,none⟩) l1).trans co,by simp[World.cell?,t0,outCells],(hb.cell (p:=⟨qh,0,none⟩) l2).trans ch0⟩)
   by_cases hhd:∃e bx,on.box=e::bx∧e.t<hz
   ·obtain⟨ev,bx,hbx,het⟩:=hhd;have hbox:=HO.out.box;rw[hbx]at hbox;have hbn:=HBOK.out.bd.bn;rw[hbx]at hbn;simp only[List.length_cons]at hbn
    have HTK:=am (show∀(w1:World) (M':Nat→Prop),Below wr.heap.size wr w1→(∀k,M' k→k<w1.heap.size)→(∀k,k<wr.heap.size→M' k→Mo Mt b ⟨chA,chn,chc⟩ sh k)→Calls Tryz.prog 124 #[.slice bh.A bh.n bh.c,.int .i64 hz] w1 (fun r w'=>∃(h':SH) (x:SE),r= .returned (.tuple #[.slice h'.A h'.n h'.c,.agg #[.int .i64 x.t,.slice x.k.A x.k.n x.k.c,.int .i64 x.lp,.int .i64 x.kd,.int .i64 x.pr,.int .i64 x.ar],.bool true])∧EvsAt M' w' h' bx∧EvAt M' w' x ev∧Below w1.heap.size w1 w')from fun w1 M' hb hM' hm=>
     take_yes hz (hbox.fresh (Keep.of_below hb) hm) hM' het (by omega))
    have HBX:=am hbx;have HET:=am het;clear hbox hbn hbx het
    gi_upto_region 1 with (fail)
    refine wpIn_wide.2 ?_;refine sz_ 14 (S:=fun w'=>w'.cell? ⟨qo,0,none⟩=some (.pointer (some ⟨b,0,none⟩))∧w'.cell? ⟨b,4,none⟩=some (.slice bh.A bh.n bh.c)∧w'.cell? ⟨qh,0,none⟩=some (.int .i64 hz)) (ds:=[12]) ⟨(HLS.out _ (below_drew (Below.refl wr.heap.size wr))).1,(HLS.out _ (below_drew (Below.refl wr.heap.size wr))).2.1,(HLS.out _ (below_drew (Below.refl wr.heap.size wr))).2.2⟩ (fun hHeld=> ?_);refine tz_ 0 14 14 1 hHeld ?_;refine pz_ 1 15 14 3 ?_;refine pz_ 2 16 14 7 ?_;refine tz_ 3 17 14 15 hHeld ?_;refine tz_ 4 18 14 31 hHeld ?_
    refine join_ (σ:=Nat×SH×SE) 3 (bv 14 2047) (fun s=>[(19,.tuple #[.slice s.2.1.A s.2.1.n s.2.1.c,.agg #[.int .i64 s.2.2.t,.slice s.2.2.k.A s.2.2.k.n s.2.2.k.c,.int .i64 s.2.2.lp,.int .i64 s.2.2.kd,.int .i64 s.2.2.pr,.int .i64 s.2.2.ar],.bool true]),(5,.pointer (some ⟨s.1,0,none⟩)),(13,.tuple #[.slice s.2.1.A s.2.1.n s.2.1.c,.agg #[.int .i64 s.2.2.t,.slice s.2.2.k.A s.2.2.k.n s.2.2.k.c,.int .i64 s.2.2.lp,.int .i64 s.2.2.kd,.int .i64 s.2.2.pr,.int .i64 s.2.2.ar],.bool true]),(20,.slice s.2.1.A s.2.1.n s.2.1.c),(21,.agg #[.int .i64 s.2.2.t,.slice s.2.2.k.A s.2.2.k.n s.2.2.k.c,.int .i64 s.2.2.lp,.int .i64 s.2.2.kd,.int .i64 s.2.2.pr,.int .i64 s.2.2.ar]),(22,.bool true)]) (fun s w'=>Res5 (Mo Mt b ⟨chA,chn,chc⟩ sh) wr bx ev s.1 s.2.1 s.2.2 w') ?_ ?_
    rotate_left
    ·intro hCont;refine two_ (i:=5) (j:=10) (Ni:=some 19) (Nj:=some 5) (bv 14 63) (bv 14 1055) rfl rfl rfl rfl (by kernel_rfl) (by decide) (by decide) (fun K hK=> ?_) (fun K hK=> ?_)
     ·skip
      refine goes_ Tryz.func124 (by kernel_rfl) rfl #[.slice bh.A bh.n bh.c,.int .i64 hz] (by rfl) rfl rfl (by simp only[List.map_toArray,List.map_cons,List.map_nil];rfl) ?_;with_reducible refine(HTK.out _ (Mo Mt b ⟨chA,chn,chc⟩ sh) (below_drew (Below.refl _ _)) (drew_lt HMO.out) (fun _ _ h=>h)).mono ?_
      rintro e w3 ⟨hx,x,rfl,hE,hX,hb3⟩;refine⟨_,rfl,?_⟩;have hb4:=(below_drew (Below.refl wr.heap.size wr)).trans (hb3.mono (Nat.le_refl _));refine hK.out _ _ ⟨(HLS.out _ hb4).1,(HLS.out _ hb4).2.1,(HLS.out _ hb4).2.2⟩ (fun hHeld=> ?_);clear hK K;refine norm_ (a':= ?_) ?_ ?_;rotate_left
      ·show Act.put _ (some 19) _=_;simp only[Act.put,List.setIfInBounds_toArray,List.set_cons_zero,List.set_cons_succ,i64_w,i32_w];rfl
      refine pz_ 6 13 14 127 ?_;refine pz_ 7 20 14 255 ?_;refine pz_ 8 21 14 511 ?_;refine pz_ 9 22 14 1023 ?_;refine one_ (i:=10) (N:=some 5) (bv 14 2047) rfl rfl (by kernel_rfl) (by decide) (fun K hK=> ?_);refine value_ (w1:= ?_) (v:= ?_) (by rfl) rfl ?_ ?_;rotate_left 2
      ·go_simp;constructor
       ·rfl
       ·rfl
      refine hK.out _ _ ⟨(HLS.out _ (below_alloc hb4 _)).1,(HLS.out _ (below_alloc hb4 _)).2.1,(HLS.out _ (below_alloc hb4 _)).2.2⟩ (fun hHeld=> ?_);clear hK K;refine norm_ (a':= ?_) ?_ ?_;rotate_left
      ·show Act.put _ (some 5) _=_;simp only[Act.put,List.setIfInBounds_toArray,List.set_cons_zero,List.set_cons_succ,i64_w,i32_w];rfl
      exact norm_ (by simp only[putAll,Act.put,List.setIfInBounds_toArray,List.set_cons_zero,List.set_cons_succ]) (hCont (w3.heap.size,hx,x) _ (res5_call (below_drew (Below.refl wr.heap.size wr)) hE hX hb3))
     ·skip
      refine value_ (w1:= ?_) (v:= ?_) (by rfl) rfl ?_ ?_;rotate_left 2
      ·go_simp;constructor
       ·rfl
       ·rfl
      refine hK.out _ _ ⟨(HLS.out _ (below_drew (below_alloc (Below.refl wr.heap.size wr) _))).1,(HLS.out _ (below_drew (below_alloc (Below.refl wr.heap.size wr) _))).2.1,(HLS.out _ (below_drew (below_alloc (Below.refl wr.heap.size wr) _))).2.2⟩ (fun hHeld=> ?_);clear hK K;refine norm_ (a':= ?_) ?_ ?_;rotate_left
      ·show Act.put _ (some 5) _=_;simp only[Act.put,List.setIfInBounds_toArray,List.set_cons_zero,List.set_cons_succ,i64_w,i32_w];rfl
      refine one_ (i:=5) (N:=some 19) (bv 14 1087) rfl rfl (by kernel_rfl) (by decide) (fun K hK=> ?_);refine goes_ Tryz.func124 (by kernel_rfl) rfl #[.slice bh.A bh.n bh.c,.int .i64 hz] (by rfl) rfl rfl (by simp only[List.map_toArray,List.map_cons,List.map_nil];rfl) ?_;with_reducible refine(HTK.out _ (Mq (Mo Mt b ⟨chA,chn,chc⟩ sh) wr.heap.size) (below_drew (below_alloc (Below.refl _ _) _)) (mq_lt HMO.out) (fun _ hk h=>mq_old hk h)).mono ?_
      rintro e w3 ⟨hx,x,rfl,hE,hX,hb3⟩;refine⟨_,rfl,?_⟩;have hb4:=(below_drew (below_alloc (Below.refl wr.heap.size wr) _)).trans (hb3.mono ((below_drew (below_alloc (Below.refl wr.heap.size wr) _)).size));refine hK.out _ _ ⟨(HLS.out _ hb4).1,(HLS.out _ hb4).2.1,(HLS.out _ hb4).2.2⟩ (fun hHeld=> ?_);clear hK K;refine norm_ (a':= ?_) ?_ ?_;rotate_left
      ·show Act.put _ (some 19) _=_;simp only[Act.put,List.setIfInBounds_toArray,List.set_cons_zero,List.set_cons_succ,i64_w,i32_w];rfl
      refine pz_ 6 13 14 1151 ?_;refine pz_ 7 20 14 1279 ?_;refine pz_ 8 21 14 1535 ?_;refine pz_ 9 22 14 2047 ?_;exact norm_ (by simp only[putAll,Act.put,List.setIfInBounds_toArray,List.set_cons_zero,List.set_cons_succ]) (hCont (wr.heap.size,hx,x) _ (res5_alloc (Below.refl wr.heap.size wr) hE hX ((below_drew (Below.refl _ _)).trans hb3)))
    rintro⟨q5,hx,x⟩ w7 hR;have hHeld:w7.cell? ⟨qo,0,none⟩=some (.pointer (some ⟨b,0,none⟩))∧w7.cell? ⟨b,4,none⟩=some (.slice bh.A bh.n bh.c)∧w7.cell? ⟨qh,0,none⟩=some (.int .i64 hz):=HLS.out w7 hR.below;have HR:=am hR;have hbk:=hR.blk;simp only at hbk;have z0:w7.cell? ⟨q5,0,none⟩=some (.int .i64 0):=by simp[World.cell?,hbk]
    have z1:w7.cell? ⟨q5,1,none⟩=some (.slice none 0 0):=by simp[World.cell?,hbk]
    have z2:w7.cell? ⟨q5,2,none⟩=some (.int .i64 0):=by simp[World.cell?,hbk]
    have z3:w7.cell? ⟨q5,3,none⟩=some (.int .i64 0):=by simp[World.cell?,hbk]
    have z4:w7.cell? ⟨q5,4,none⟩=some (.int .i64 0):=by simp[World.cell?,hbk]
    have z5:w7.cell? ⟨q5,5,none⟩=some (.int .i64 0):=by simp[World.cell?,hbk]
    have y0:w7.frozen? ⟨q5,0,none⟩=false:=blk_frozen hbk 0;have y1:w7.frozen? ⟨q5,1,none⟩=false:=blk_frozen hbk 1;have y2:w7.frozen? ⟨q5,2,none⟩=false:=blk_frozen hbk 2;have y3:w7.frozen? ⟨q5,3,none⟩=false:=blk_frozen hbk 3;have y4:w7.frozen? ⟨q5,4,none⟩=false:=blk_frozen hbk 4;have y5:w7.frozen? ⟨q5,5,none⟩=false:=blk_frozen hbk 5;clear hR;refine norm_ (a':= ?_) ?_ ?_;rotate_left
    ·simp only[putAll,Act.put,List.setIfInBounds_toArray,List.set_cons_zero,List.set_cons_succ];rfl
    refine pz_ 11 4 14 4095 ?_;refine last_ (i:=12) (N:=none) (bv 14 8191) rfl rfl (by kernel_rfl) (by decide) (fun K hK=> ?_);refine skip_ (w1:= ?_) (by rfl) rfl ?_ ?_;rotate_left
    ·go_simp;rfl
    refine hK.out _ _ ?_;clear hK K;refine pz_ 13 6 14 16383 ?_;refine done_ (by kernel_rfl) ?_;obtain⟨xt,⟨xA,xn,xc⟩,xl,xd,xp,xa⟩:=x;obtain⟨w8,hw8⟩:∃w8,(((((w7.setCell ⟨q5,0,none⟩ (.int .i64 xt)).setCell ⟨q5,1,none⟩ (.slice xA xn xc)).setCell ⟨q5,2,none⟩ (.int .i64 xl)).setCell ⟨q5,3,none⟩ (.int .i64 xd)).setCell ⟨q5,4,none⟩ (.int .i64 xp)).setCell ⟨q5,5,none⟩ (.int .i64 xa)=w8:=⟨_,rfl⟩;rw[hw8];have hbx8:EvBox w8 q5 ⟨xt,⟨xA,xn,xc⟩,xl,xd,xp,xa⟩:=by
     rw[←hw8];exact blk_put (blk_put (blk_put (blk_put (blk_put (blk_put hbk 0 (.int .i64 xt) rfl) 1 (.slice xA xn xc) rfl) 2 (.int .i64 xl) rfl) 3 (.int .i64 xd) rfl) 4 (.int .i64 xp) rfl) 5 (.int .i64 xa) rfl
    have hg8:w7.grownBy w8 (some q5):=by
     rw[←hw8];exact grown_cells [.int .i64 xt,.slice xA xn xc,.int .i64 xl,.int .i64 xd,.int .i64 xp,.int .i64 xa] w7 0
    have hR7:=HR.out;have hb8:Below wr.heap.size wr w8:=hR7.below.trans ⟨hg8.os,hg8.tape,hg8.output,hg8.size,fun k hk=>hg8.block k (Nat.lt_of_lt_of_le hk hR7.below.size) fun e=>by
     cases e;have:=hR7.new;simp only at this;omega⟩
    have hk8:Keep (Mq (Mo Mt b ⟨chA,chn,chc⟩ sh) q5) w7 w8:=Keep.grown hg8 fun k hk=>by
     cases hk;exact .inr rfl
    have hin:∀k,k<w7.heap.size→Mo Mt b ⟨chA,chn,chc⟩ sh k→Mq (Mo Mt b ⟨chA,chn,chc⟩ sh) q5 k:=fun _ _ h=> .inl h;have hB8:EvsAt (Mo Mt b ⟨chA,chn,chc⟩ sh) w8 hx bx:=hR7.bx.fresh hk8 hin;have hX8:EvAt (Mo Mt b ⟨chA,chn,chc⟩ sh) w8 ⟨xt,⟨xA,xn,xc⟩,xl,xd,xp,xa⟩ ev:=hR7.x.fresh hk8 hin;have hO8:=HO.out.more hb8;obtain⟨hO9,hK9⟩:=hO8.put 4 (.slice hx.A hx.n hx.c) (bh':=hx) (o':={on with box:=bx}) rfl hO8.ps hB8 rfl rfl;have hT9:OutTo Mt B w0 b .nil .nil (w8.setCell ⟨b,4,none⟩ (.slice hx.A hx.n hx.c)) ⟨chA,chn,chc⟩ sh:=(HT.out.trans (OutTo.more hb8)).trans (OutTo.put 4 _);have hX9:=hX8.keep hK9
    have hKR:Keep (fun k=>k=b) wr (w8.setCell ⟨b,4,none⟩ (.slice hx.A hx.n hx.c)):=(Keep.of_below hb8).trans (Keep.set (Mt:=fun k=>k=b) (b:=b) rfl _);have hqb:q5≠b:=fun e=>by
     have h1:w8.heap[q5]?=_:=hbx8;rw[e,hO8.blk]at h1;cases h1
    have hbx9:EvBox (w8.setCell ⟨b,4,none⟩ (.slice hx.A hx.n hx.c)) q5 ⟨xt,⟨xA,xn,xc⟩,xl,xd,xp,xa⟩:=(Below.heap_setCell w8 ⟨b,4,none⟩ _ q5 hqb).trans hbx8;have co8:=(HQ.out _ (HT.out.trans (OutTo.more hb8)).keep0).1;have c48:w8.cell? ⟨b,4,none⟩=some (.slice bh.A bh.n bh.c):=hO8.cells 4 _ rfl;have f48:=hO8.free 4;obtain⟨w9,hw9⟩:∃w9,w8.setCell ⟨b,4,none⟩ (.slice hx.A hx.n hx.c)=w9:=⟨_,rfl⟩;have HW9:=am hw9;rw[hw9]at hO9 hT9 hX9 hKR hbx9;have HBX9:=am hbx9
    obtain⟨fn,tmps,assign,body,hy,hRR⟩:=HY.out chn ev bx ⟨xt,⟨xA,xn,xc⟩,xl,xd,xp,xa⟩ w9 hlt (by rw[HON.out];exact HBX.out) HET.out (by rw[HON.out];exact HL.out) (by
     rw[HON.out];exact⟨⟨_,_,_,_,hO9,hT9,hX9⟩,fun k hk=>Nat.lt_of_lt_of_le (HW.out.mt k hk) hKR.size⟩) (HRC.out _ _ HRR.out hKR)
    simp only[SE.v]at hy;have HBX8:=am hbx8;clear hbx8 hg8 hR7 hb8 hk8 hin hB8 hX8 hO8 hO9 hK9 hT9 hX9 hKR hqb hbx9 hbk z0 z1 z2 z3 z4 z5 y0 y1 y2 y3 y4 y5 hw8 hw9;obtain⟨e0,e1,e2,e3,e4,e5⟩:=HBX9.out.cells;simp only at e0 e1 e2 e3 e4 e5
    gi_upto_region 4 with (fail)
    rw[HW9.out]
    gi_wp2
    refine hRR.mono ?_;rintro e W3 ⟨rfl,hW3,hR3⟩;have HW3:=am hW3;have HR3:=am hR3;have HNX:=am (show(Oc.run progs hz (chn+1) o0).com.length=chn+1 by
     rw[Oc.run_next (by rw[HON.out];exact HBX.out) HET.out,Oc.exec_com,List.length_append];simp only[HON.out];have:=HL.out;simp;omega)
    have HL3:=am (hW3.lenC.trans HNX.out);clear hRR hW3 hR3 hy e0 e1 e2 e3 e4 e5 co8 c48 f48 c4 c5 co ch0
    gi_wp2
    go_roundw
    case rel=>exact⟨chn+1,Nat.succ_le_of_lt hlt,HNX,HW3,HR3⟩
    case measure=>
     have h1:=HL3.out;have h2:=HLC.out;simp only[h1,h2];omega
   ·have hne:on.rest hz:=fun e he hlt=>hhd ⟨e,on.box.tail,by
     cases hb:on.box with
     |nil=>simp[hb]at he
     |cons f l=>simp[hb]at he;subst he;rfl,hlt⟩
    have hbox:=HO.out.box;have HTK:=am (show∀(w1:World) (M':Nat→Prop),Below wr.heap.size wr w1→(∀k,M' k→k<w1.heap.size)→(∀k,k<wr.heap.size→M' k→Mo Mt b ⟨chA,chn,chc⟩ sh k)→Calls Tryz.prog 124 #[.slice bh.A bh.n bh.c,.int .i64 hz] w1 (fun r w'=>r= .returned (.tuple #[.slice bh.A bh.n bh.c,.agg #[.int .i64 0,.slice none 0 0,.int .i64 0,.int .i64 0,.int .i64 0,.int .i64 0],.bool false])∧Below w1.heap.size w1 w')from fun w1 M' hb hM' hm=>
     take_no hz (hbox.fresh (Keep.of_below hb) hm) (fun e he=>hne e he))
    have HNE:=am hne;clear hhd hne hbox
    gi_upto_region 1 with (fail)
    refine wpIn_wide.2 ?_;refine sz_ 14 (S:=fun w'=>w'.cell? ⟨qo,0,none⟩=some (.pointer (some ⟨b,0,none⟩))∧w'.cell? ⟨b,4,none⟩=some (.slice bh.A bh.n bh.c)∧w'.cell? ⟨qh,0,none⟩=some (.int .i64 hz)) (ds:=[12]) ⟨(HLS.out _ (below_drew (Below.refl wr.heap.size wr))).1,(HLS.out _ (below_drew (Below.refl wr.heap.size wr))).2.1,(HLS.out _ (below_drew (Below.refl wr.heap.size wr))).2.2⟩ (fun hHeld=> ?_);refine tz_ 0 14 14 1 hHeld ?_;refine pz_ 1 15 14 3 ?_;refine pz_ 2 16 14 7 ?_;refine tz_ 3 17 14 15 hHeld ?_;refine tz_ 4 18 14 31 hHeld ?_
    refine join_ (σ:=Nat) 3 (bv 14 2047) (fun s=>[(19,.tuple #[.slice bh.A bh.n bh.c,.agg #[.int .i64 0,.slice none 0 0,.int .i64 0,.int .i64 0,.int .i64 0,.int .i64 0],.bool false]),(5,.pointer (some ⟨s,0,none⟩)),(13,.tuple #[.slice bh.A bh.n bh.c,.agg #[.int .i64 0,.slice none 0 0,.int .i64 0,.int .i64 0,.int .i64 0,.int .i64 0],.bool false]),(20,.slice bh.A bh.n bh.c),(21,.agg #[.int .i64 0,.slice none 0 0,.int .i64 0,.int .i64 0,.int .i64 0,.int .i64 0]),(22,.bool false)]) (fun s w'=>Res5n wr s w') ?_ ?_;rotate_left
    ·intro hCont;refine two_ (i:=5) (j:=10) (Ni:=some 19) (Nj:=some 5) (bv 14 63) (bv 14 1055) rfl rfl rfl rfl (by kernel_rfl) (by decide) (by decide) (fun K hK=> ?_) (fun K hK=> ?_)
     ·skip
      refine goes_ Tryz.func124 (by kernel_rfl) rfl #[.slice bh.A bh.n bh.c,.int .i64 hz] (by rfl) rfl rfl (by simp only[List.map_toArray,List.map_cons,List.map_nil];rfl) ?_;with_reducible refine(HTK.out _ (Mo Mt b ⟨chA,chn,chc⟩ sh) (below_drew (Below.refl _ _)) (drew_lt HMO.out) (fun _ _ h=>h)).mono ?_
      rintro e w3 ⟨rfl,hb3⟩;refine⟨_,rfl,?_⟩;have hb4:=(below_drew (Below.refl wr.heap.size wr)).trans (hb3.mono (Nat.le_refl _));refine hK.out _ _ ⟨(HLS.out _ hb4).1,(HLS.out _ hb4).2.1,(HLS.out _ hb4).2.2⟩ (fun hHeld=> ?_);clear hK K;refine norm_ (a':= ?_) ?_ ?_;rotate_left
      ·show Act.put _ (some 19) _=_;simp only[Act.put,List.setIfInBounds_toArray,List.set_cons_zero,List.set_cons_succ,i64_w,i32_w];rfl
      refine pz_ 6 13 14 127 ?_;refine pz_ 7 20 14 255 ?_;refine pz_ 8 21 14 511 ?_;refine pz_ 9 22 14 1023 ?_;refine one_ (i:=10) (N:=some 5) (bv 14 2047) rfl rfl (by kernel_rfl) (by decide) (fun K hK=> ?_);refine value_ (w1:= ?_) (v:= ?_) (by rfl) rfl ?_ ?_;rotate_left 2
      ·go_simp;constructor
       ·rfl
       ·rfl
      refine hK.out _ _ ⟨(HLS.out _ (below_alloc hb4 _)).1,(HLS.out _ (below_alloc hb4 _)).2.1,(HLS.out _ (below_alloc hb4 _)).2.2⟩ (fun hHeld=> ?_);clear hK K;refine norm_ (a':= ?_) ?_ ?_;rotate_left
      ·show Act.put _ (some 5) _=_;simp only[Act.put,List.setIfInBounds_toArray,List.set_cons_zero,List.set_cons_succ,i64_w,i32_w];rfl
      exact norm_ (by simp only[putAll,Act.put,List.setIfInBounds_toArray,List.set_cons_zero,List.set_cons_succ]) (hCont w3.heap.size _ (res5n_call (below_drew (Below.refl wr.heap.size wr)) hb3))
     ·skip
      refine value_ (w1:= ?_) (v:= ?_) (by rfl) rfl ?_ ?_;rotate_left 2
      ·go_simp;constructor
       ·rfl
       ·rfl
      refine hK.out _ _ ⟨(HLS.out _ (below_drew (below_alloc (Below.refl wr.heap.size wr) _))).1,(HLS.out _ (below_drew (below_alloc (Below.refl wr.heap.size wr) _))).2.1,(HLS.out _ (below_drew (below_alloc (Below.refl wr.heap.size wr) _))).2.2⟩ (fun hHeld=> ?_);clear hK K;refine norm_ (a':= ?_) ?_ ?_;rotate_left
      ·show Act.put _ (some 5) _=_;simp only[Act.put,List.setIfInBounds_toArray,List.set_cons_zero,List.set_cons_succ,i64_w,i32_w];rfl
      refine one_ (i:=5) (N:=some 19) (bv 14 1087) rfl rfl (by kernel_rfl) (by decide) (fun K hK=> ?_);refine goes_ Tryz.func124 (by kernel_rfl) rfl #[.slice bh.A bh.n bh.c,.int .i64 hz] (by rfl) rfl rfl (by simp only[List.map_toArray,List.map_cons,List.map_nil];rfl) ?_;with_reducible refine(HTK.out _ (Mq (Mo Mt b ⟨chA,chn,chc⟩ sh) wr.heap.size) (below_drew (below_alloc (Below.refl _ _) _)) (mq_lt HMO.out) (fun _ hk h=>mq_old hk h)).mono ?_
      rintro e w3 ⟨rfl,hb3⟩;refine⟨_,rfl,?_⟩;have hb4:=(below_drew (below_alloc (Below.refl wr.heap.size wr) _)).trans (hb3.mono ((below_drew (below_alloc (Below.refl wr.heap.size wr) _)).size));refine hK.out _ _ ⟨(HLS.out _ hb4).1,(HLS.out _ hb4).2.1,(HLS.out _ hb4).2.2⟩ (fun hHeld=> ?_);clear hK K;refine norm_ (a':= ?_) ?_ ?_;rotate_left
      ·show Act.put _ (some 19) _=_;simp only[Act.put,List.setIfInBounds_toArray,List.set_cons_zero,List.set_cons_succ,i64_w,i32_w];rfl
      refine pz_ 6 13 14 1151 ?_;refine pz_ 7 20 14 1279 ?_;refine pz_ 8 21 14 1535 ?_;refine pz_ 9 22 14 2047 ?_;exact norm_ (by simp only[putAll,Act.put,List.setIfInBounds_toArray,List.set_cons_zero,List.set_cons_succ]) (hCont wr.heap.size _ (res5n_alloc (Below.refl wr.heap.size wr) ((below_drew (Below.refl _ _)).trans hb3)))
    rintro q5 w7 hR;have hHeld:w7.cell? ⟨qo,0,none⟩=some (.pointer (some ⟨b,0,none⟩))∧w7.cell? ⟨b,4,none⟩=some (.slice bh.A bh.n bh.c)∧w7.cell? ⟨qh,0,none⟩=some (.int .i64 hz):=HLS.out w7 hR.below;have HR:=am hR;have hbk:=hR.blk;have z0:w7.cell? ⟨q5,0,none⟩=some (.int .i64 0):=by simp[World.cell?,hbk]
    have z1:w7.cell? ⟨q5,1,none⟩=some (.slice none 0 0):=by simp[World.cell?,hbk]
    have z2:w7.cell? ⟨q5,2,none⟩=some (.int .i64 0):=by simp[World.cell?,hbk]
    have z3:w7.cell? ⟨q5,3,none⟩=some (.int .i64 0):=by simp[World.cell?,hbk]
    have z4:w7.cell? ⟨q5,4,none⟩=some (.int .i64 0):=by simp[World.cell?,hbk]
    have z5:w7.cell? ⟨q5,5,none⟩=some (.int .i64 0):=by simp[World.cell?,hbk]
    have y0:w7.frozen? ⟨q5,0,none⟩=false:=blk_frozen hbk 0;have y1:w7.frozen? ⟨q5,1,none⟩=false:=blk_frozen hbk 1;have y2:w7.frozen? ⟨q5,2,none⟩=false:=blk_frozen hbk 2;have y3:w7.frozen? ⟨q5,3,none⟩=false:=blk_frozen hbk 3;have y4:w7.frozen? ⟨q5,4,none⟩=false:=blk_frozen hbk 4;have y5:w7.frozen? ⟨q5,5,none⟩=false:=blk_frozen hbk 5;clear hR;refine norm_ (a':= ?_) ?_ ?_;rotate_left
    ·simp only[putAll,Act.put,List.setIfInBounds_toArray,List.set_cons_zero,List.set_cons_succ];rfl
    refine pz_ 11 4 14 4095 ?_;refine last_ (i:=12) (N:=none) (bv 14 8191) rfl rfl (by kernel_rfl) (by decide) (fun K hK=> ?_);refine skip_ (w1:= ?_) (by rfl) rfl ?_ ?_;rotate_left
    ·go_simp;rfl
    refine hK.out _ _ ?_;clear hK K;refine pz_ 13 6 14 16383 ?_;refine done_ (by kernel_rfl) ?_;obtain⟨w8,hw8⟩:∃w8,(((((w7.setCell ⟨q5,0,none⟩ (.int .i64 0)).setCell ⟨q5,1,none⟩ (.slice none 0 0)).setCell ⟨q5,2,none⟩ (.int .i64 0)).setCell ⟨q5,3,none⟩ (.int .i64 0)).setCell ⟨q5,4,none⟩ (.int .i64 0)).setCell ⟨q5,5,none⟩ (.int .i64 0)=w8:=⟨_,rfl⟩;rw[hw8];have hg8:w7.grownBy w8 (some q5):=by
     rw[←hw8];exact grown_cells [.int .i64 0,.slice none 0 0,.int .i64 0,.int .i64 0,.int .i64 0,.int .i64 0] w7 0
    have hR7:=HR.out;have hb8:Below wr.heap.size wr w8:=hR7.below.trans ⟨hg8.os,hg8.tape,hg8.output,hg8.size,fun k hk=>hg8.block k (Nat.lt_of_lt_of_le hk hR7.below.size) fun e=>by
     cases e;have:=hR7.new;omega⟩
    have hF:Oc.run progs hz 2000 o0=on:=by
     rw[show 2000=chn+(2000-chn)by omega,Oc.run_add,HON.out,Oc.run_rest HNE.out]
    have HFIN:=am (show OutW Mt B w0 b (Oc.run progs hz 2000 o0) w8 by
     rw[hF];exact⟨⟨_,_,_,_,HO.out.more hb8,HT.out.trans (OutTo.more hb8)⟩,fun k hk=>Nat.lt_of_lt_of_le (HW.out.mt k hk) hb8.size⟩)
    have HRF:=am (HRC.out _ _ HRR.out (Keep.of_below hb8));clear hg8 hR7 hb8 hF hw8 z0 z1 z2 z3 z4 z5 y0 y1 y2 y3 y4 y5 hbk
    gi_wp2
    exact bodyPost_ret (results_none rfl _ _ _) rfl ⟨⟨_,rfl⟩,HFIN.out,HRF.out⟩
  ·obtain rfl:chn=2000:=by omega
   have d1:decide ((2000:Int)<2000)=false:=rfl;have HFIN:=am (show OutW Mt B w0 b (Oc.run progs hz 2000 o0) wr by rw[HON.out];exact HW.out)
   gi_wp2
   go_end0
   exact⟨⟨_,rfl⟩,HFIN.out,HR.out⟩
end Go.Proofs.YtfnimdhghglanaaGreat.Hand
end
section
namespace Go.Proofs.YtfnimdhghglanaaGreat.Hand
open Go.RowKit Go.Shelf Go.Proofs.YtfnimdhghglanaaGreatW PrintWords PrintLast PrintMore
attribute [local go_sem] max2_int min2_int max_two min_two max_three min_three max_four min_four
theorem lp_stored {w w7:World} {q:Nat} (hbk:w7.heap[q]?=some (.cells #[.int .i64 0,.int .i64 0,.slice none 0 0,.int .i64 0] 91 (0,0))) (s:SLp) (hw:(((w7.setCell ⟨q,0,none⟩ (.int .i64 s.r0)).setCell ⟨q,1,none⟩ (.int .i64 s.r1)).setCell ⟨q,2,none⟩ (.slice s.ps.A s.ps.n s.ps.c)).setCell ⟨q,3,none⟩ (.int .i64 s.sum)=w):
  w.heap[q]?=some (.cells #[.int .i64 s.r0,.int .i64 s.r1,.slice s.ps.A s.ps.n s.ps.c,.int .i64 s.sum] 91 (0,0))∧w7.grownBy w (some q):=by
 subst hw;exact⟨blk_put (blk_put (blk_put (blk_put hbk 0 (.int .i64 s.r0) rfl) 1 (.int .i64 s.r1) rfl) 2 (.slice s.ps.A s.ps.n s.ps.c) rfl) 3 (.int .i64 s.sum) rfl,grown_cells [.int .i64 s.r0,.int .i64 s.r1,.slice s.ps.A s.ps.n s.ps.c,.int .i64 s.sum] w7 0⟩
theorem below_grown {W w w':World} {q:Nat} (h:Below W.heap.size W w) (hg:w.grownBy w' (some q)) (hq:W.heap.size≤q):Below W.heap.size W w':=
 h.trans ⟨hg.os,hg.tape,hg.output,hg.size,fun k hk=>hg.block k (Nat.lt_of_lt_of_le hk h.size) fun e=>by cases e;omega⟩
theorem unpack_calls {Mt:Nat→Prop} {B:Nat} {w:World} {b:Nat} {ph bh ch sh:SH} {o:Oc} (h:OutAt Mt B w b ph bh ch sh o):
  Calls Tryz.prog 106 #[.pointer (some ⟨b,0,none⟩)] w fun r w'=>r= .returned (.tuple #[.agg #[.int .i64 o.lp.r0,.int .i64 o.lp.r1,.slice ph.A ph.n ph.c,.int .i64 o.lp.sum],.slice bh.A bh.n bh.c,.slice ch.A ch.n ch.c,.slice sh.A sh.n sh.c,.bool o.ov])∧Below w.heap.size w w':=by
 have H:=am h;clear h;go_enter Tryz.func106,Tryz.ntmps106;go_upto_region 1 with (fail)
 obtain⟨q,hq⟩:∃q,w.heap.size=q:=⟨_,rfl⟩;obtain⟨w1,hw1⟩:∃w1,w.alloc (.cells #[.int .i64 0,.int .i64 0,.slice none 0 0,.int .i64 0] 91)=w1:=⟨_,rfl⟩;have hb1:Below w.heap.size w w1:=by rw[←hw1];exact below_alloc (Below.refl _ _) _
 have hbk:w1.heap[q]?=some (.cells #[.int .i64 0,.int .i64 0,.slice none 0 0,.int .i64 0] 91 (0,0)):=by rw[←hw1,←hq];exact World.alloc_heap_new _ _
 rw[hw1,hq];have hO:=H.out.more hb1;have c0:=hO.cells 0 _ rfl;have c1:=hO.cells 1 _ rfl;have c2:=hO.cells 2 _ rfl;have c3:=hO.cells 3 _ rfl;have c4:=hO.cells 4 _ rfl;have c5:=hO.cells 5 _ rfl;have c6:=hO.cells 6 _ rfl;have c7:=hO.cells 7 _ rfl;have z0:w1.cell? ⟨q,0,none⟩=some (.int .i64 0):=by simp[World.cell?,hbk]
 have z1:w1.cell? ⟨q,1,none⟩=some (.int .i64 0):=by simp[World.cell?,hbk]
 have z2:w1.cell? ⟨q,2,none⟩=some (.slice none 0 0):=by simp[World.cell?,hbk]
 have z3:w1.cell? ⟨q,3,none⟩=some (.int .i64 0):=by simp[World.cell?,hbk]
 have y0:w1.frozen? ⟨q,0,none⟩=false:=blk_frozen hbk 0;have y1:w1.frozen? ⟨q,1,none⟩=false:=blk_frozen hbk 1;have y2:w1.frozen? ⟨q,2,none⟩=false:=blk_frozen hbk 2;have y3:w1.frozen? ⟨q,3,none⟩=false:=blk_frozen hbk 3;have HBK:=am hbk;have HB1:=am hb1;have HQ:=am hq;have hqb:b≠q:=fun e=>by
  have:=H.out.blk;have:=blk_lt this;omega
 have hfar:∀j,((((w1.setCell ⟨q,0,none⟩ (.int .i64 o.lp.r0)).setCell ⟨q,1,none⟩ (.int .i64 o.lp.r1)).setCell ⟨q,2,none⟩ (.slice ph.A ph.n ph.c)).setCell ⟨q,3,none⟩ (.int .i64 o.lp.sum)).drew.cell? ⟨b,j,none⟩=w1.cell? ⟨b,j,none⟩:=fun j=>
  (((cell_far (p:=⟨q,3,none⟩) (a:=⟨b,j,none⟩) hqb _).trans (cell_far (p:=⟨q,2,none⟩) (a:=⟨b,j,none⟩) hqb _)).trans (cell_far (p:=⟨q,1,none⟩) (a:=⟨b,j,none⟩) hqb _)).trans (cell_far (p:=⟨q,0,none⟩) (a:=⟨b,j,none⟩) hqb _)
 clear hbk hb1 hw1 hq hO;refine sz_ 25 (S:=fun w'=>w'.cell? ⟨b,0,none⟩=some (.int .i64 o.lp.r0)∧w'.cell? ⟨b,1,none⟩=some (.int .i64 o.lp.r1)∧w'.cell? ⟨b,2,none⟩=some (.slice ph.A ph.n ph.c)∧w'.cell? ⟨b,3,none⟩=some (.int .i64 o.lp.sum)∧w'.cell? ⟨b,4,none⟩=some (.slice bh.A bh.n bh.c)∧w'.cell? ⟨b,5,none⟩=some (.slice ch.A ch.n ch.c)∧w'.cell? ⟨b,6,none⟩=some (.slice sh.A sh.n sh.c)∧w'.cell? ⟨b,7,none⟩=some (.bool o.ov)) (ds:=[]) ⟨c0,c1,c2,c3,c4,c5,c6,c7⟩ (fun hHeld=> ?_);refine pz_ 0 7 25 1 ?_;refine pz_ 1 8 25 3 ?_;refine pz_ 2 9 25 7 ?_;refine pz_ 4 11 25 23 ?_;refine pz_ 5 12 25 55 ?_
 refine pz_ 6 13 25 119 ?_;refine pz_ 8 15 25 375 ?_;refine pz_ 9 16 25 887 ?_;refine pz_ 10 17 25 1911 ?_;refine pz_ 12 19 25 6007 ?_;refine pz_ 13 20 25 14199 ?_;refine pz_ 14 21 25 30583 ?_;refine pz_ 16 23 25 96119 ?_;refine pz_ 17 24 25 227191 ?_;refine pz_ 18 25 25 489335 ?_;refine tz_ 3 10 25 489343 hHeld ?_;refine tz_ 7 14 25 489471 hHeld ?_;refine tz_ 11 18 25 491519 hHeld ?_;refine tz_ 15 22 25 524287 hHeld ?_;refine tz_ 19 26 25 1048575 hHeld ?_;refine one_ (i:=20) (N:=none) (bv 25 2097151) rfl rfl (by kernel_rfl) (by decide) (fun K hK=> ?_);refine skip_ (w1:= ?_) (by rfl) rfl ?_ ?_
 rotate_left
 ·go_simp;rfl
 refine hK.out _ _ ⟨(hfar 0).trans c0,(hfar 1).trans c1,(hfar 2).trans c2,(hfar 3).trans c3,(hfar 4).trans c4,(hfar 5).trans c5,(hfar 6).trans c6,(hfar 7).trans c7⟩ (fun hHeld=> ?_);clear hK K;refine pz_ 21 3 25 4194303 ?_;refine pz_ 22 4 25 8388607 ?_;refine pz_ 23 5 25 16777215 ?_;refine pz_ 24 6 25 33554431 ?_;refine done_ (by kernel_rfl) ?_;obtain⟨w6,hw6⟩:∃w6,((((w1.setCell ⟨q,0,none⟩ (.int .i64 o.lp.r0)).setCell ⟨q,1,none⟩ (.int .i64 o.lp.r1)).setCell ⟨q,2,none⟩ (.slice ph.A ph.n ph.c)).setCell ⟨q,3,none⟩ (.int .i64 o.lp.sum)).drew=w6:=⟨_,rfl⟩;rw[hw6]
 obtain⟨p4,hg4⟩:=lp_stored (w7:=w1) HBK.out ⟨o.lp.r0,o.lp.r1,ph,o.lp.sum⟩ rfl;simp only at p4 hg4;have p5:w6.heap[q]?=some (.cells #[.int .i64 o.lp.r0,.int .i64 o.lp.r1,.slice ph.A ph.n ph.c,.int .i64 o.lp.sum] 91 (0,0)):=by rw[←hw6];exact p4
 have hg:w1.grownBy w6 (some q):=by rw[←hw6];exact grown_trans hg4 (grown_drew _ _)
 have o0:w6.cell? ⟨q,0,none⟩=some (.int .i64 o.lp.r0):=by simp[World.cell?,p5]
 have o1:w6.cell? ⟨q,1,none⟩=some (.int .i64 o.lp.r1):=by simp[World.cell?,p5]
 have o2:w6.cell? ⟨q,2,none⟩=some (.slice ph.A ph.n ph.c):=by simp[World.cell?,p5]
 have o3:w6.cell? ⟨q,3,none⟩=some (.int .i64 o.lp.sum):=by simp[World.cell?,p5]
 have hb6:=below_grown HB1.out hg (by have:=HQ.out;omega);rename_i Q9 K9 hK9 hHx;refine hK9 _ _ ?_;apply wp_ret;show bodyPost Tryz.prog Tryz.f106 _ Exit.ret _ _;exact bodyPost_ret (v:= .tuple #[.agg #[.int .i64 o.lp.r0,.int .i64 o.lp.r1,.slice ph.A ph.n ph.c,.int .i64 o.lp.sum],.slice bh.A bh.n bh.c,.slice ch.A ch.n ch.c,.slice sh.A sh.n sh.c,.bool o.ov]) (by simp[results,Tryz.results106,go_sem,o0,o1,o2,o3]) rfl ⟨rfl,hb6⟩
end Go.Proofs.YtfnimdhghglanaaGreat.Hand
end
section
namespace Go.Proofs.YtfnimdhghglanaaGreat.Hand
open Go.RowKit Go.Shelf Go.Proofs.YtfnimdhghglanaaGreatW PrintWords PrintLast PrintMore
attribute [local go_sem] max2_int min2_int max_two min_two max_three min_three max_four min_four
attribute [local go_sem] Oper.semAt_some
theorem eventsF_calls (W:World) (b:Nat) (hz:Int):Calls Tryz.prog 104 #[.pointer (some ⟨b,0,none⟩),.int .i64 hz] W fun e w'=>
  e= .returned (.func (.func 123) #[] #[.pointer (some ⟨W.heap.size,0,none⟩),.pointer (some ⟨W.heap.size+1,0,none⟩)])∧w'=(W.alloc (.cells #[.pointer (some ⟨b,0,none⟩)] 160)).alloc (.cells #[.int .i64 hz] 3):=by
 go_enter Tryz.func104,Tryz.ntmps104
 go_wp2_with (fail)
 go_ret;exact⟨rfl,rfl⟩
def allocs (w:World) (os:List Obj):World:=os.foldl World.alloc w
theorem allocs_below:∀(os:List Obj) (w:World),Below w.heap.size w (allocs w os)∧(allocs w os).heap.size=w.heap.size+os.length
 | [],w=>⟨Below.refl _ _,rfl⟩
 |o::os,w=>by
  obtain⟨h1,h2⟩:=allocs_below os (w.alloc o);have h3:=below_alloc (Below.refl w.heap.size w) o;have h4:=World.size_alloc w o;refine⟨h3.trans (h1.mono h3.size),?_⟩;show(allocs (w.alloc o) os).heap.size=_;rw[h2,h4];simp only[List.length_cons];omega
theorem allocs_at:∀(os:List Obj) (w:World) (i:Nat) (o:Obj),os[i]?=some o→(allocs w os).heap[w.heap.size+i]?=some o
 | [],_,i,_,h=>by simp at h
 |o::os,w,0,o',h=>by
  simp at h;subst h;have h4:=World.size_alloc w o;exact((allocs_below os (w.alloc o)).1.block w.heap.size (by omega)).trans (World.alloc_heap_new w o)
 |o::os,w,i+1,o',h=>by
  have h1:=allocs_at os (w.alloc o) i o' (by simpa using h);rw[World.size_alloc]at h1;rw[show w.heap.size+(i+1)=w.heap.size+1+i by omega];exact h1
def Ml (Mt:Nat→Prop) (L k:Nat):Prop:=Mt k∨k=L∨k=L+1
theorem OutAt.lift {Mt:Nat→Prop} {B:Nat} {w0 W:World} {b:Nat} {ph bh ch sh:SH} {o:Oc} (h:OutAt Mt B W b ph bh ch sh o) {l:Nat} {ob ob':Obj} (hl:W.heap[l]?=some ob) (hc:ob.isCells=false) (hm:Mt l):OutAt Mt B (W.putObj l ob') b ph bh ch sh o:=by
 have hg:=grownBy_putObj' W l ob';refine h.mtKeep (Keep.grown hg fun k hk=>by cases hk;exact hm) fun j hj=> ?_;have hjc:∃cells t,W.heap[j]?=some (Obj.cells cells t (0,0)):=by
  rcases hj with rfl|hj|hj
  ·exact⟨_,_,h.blk⟩
  ·obtain⟨c,hc⟩:=(h.com.typed j hj).1;exact⟨c,_,hc⟩
  ·obtain⟨c,hc⟩:=(h.sent.typed j hj).1;exact⟨c,_,hc⟩
 obtain⟨c,t,hjc⟩:=hjc;refine hg.block j (blk_lt hjc) fun e=> ?_;cases e;rw[hl]at hjc;cases hjc;cases hc
theorem OutTo.lift {Mt:Nat→Prop} {B:Nat} {w0 W:World} {b:Nat} {ch sh ch' sh':SH} (h:OutTo Mt B w0 b ch sh W ch' sh') {l:Nat} (ob':Obj) (hl:w0.heap.size≤l):OutTo Mt B w0 b ch sh (W.putObj l ob') ch' sh':=by
 have hg:=grownBy_putObj' W l ob';exact⟨⟨Nat.le_trans h.keep0.size hg.size,fun k hk hm=>(hg.block k (Nat.lt_of_lt_of_le hk h.keep0.size) (fun e=>by cases e;omega)).trans (h.keep0.block k hk hm)⟩,h.old0,hg.os.trans h.os,hg.tape.trans h.tape,hg.output.trans h.output⟩
theorem OutW.lift {Mt:Nat→Prop} {B:Nat} {w0 W:World} {b:Nat} {o:Oc} (h:OutW (Ml Mt w0.heap.size) B w0 b o W) {l:Nat} {ob ob':Obj} (hl:W.heap[l]?=some ob) (hc:ob.isCells=false) (hL:l=w0.heap.size∨l=w0.heap.size+1):OutW (Ml Mt w0.heap.size) B w0 b o (W.putObj l ob'):=by
 obtain⟨⟨ph,bh,ch,sh,h1,h2⟩,h3⟩:=h;exact⟨⟨ph,bh,ch,sh,h1.lift (w0:=w0) hl hc (.inr hL),h2.lift ob' (by omega)⟩,fun k hk=>Nat.lt_of_lt_of_le (h3 k hk) (grownBy_putObj' W l ob').size⟩
theorem EvW.lift {Mt:Nat→Prop} {B:Nat} {w0 W:World} {b:Nat} {o:Oc} {x:SE} {e:Ev} (h:EvW (Ml Mt w0.heap.size) B w0 b o x e W) {l:Nat} {ob ob':Obj} (hl:W.heap[l]?=some ob) (hc:ob.isCells=false) (hL:l=w0.heap.size∨l=w0.heap.size+1):EvW (Ml Mt w0.heap.size) B w0 b o x e (W.putObj l ob'):=by
 obtain⟨⟨ph,bh,ch,sh,h1,h2,h4⟩,h3⟩:=h;have hg:=grownBy_putObj' W l ob';exact⟨⟨ph,bh,ch,sh,h1.lift (w0:=w0) hl hc (.inr hL),h2.lift ob' (by omega),h4.keep (Keep.grown hg fun k hk=>by cases hk;exact .inl (.inr hL))⟩,fun k hk=>Nat.lt_of_lt_of_le (h3 k hk) hg.size⟩
theorem EvW.more {Mt:Nat→Prop} {B:Nat} {w0 W W':World} {b:Nat} {o:Oc} {x:SE} {e:Ev} (h:EvW Mt B w0 b o x e W) (k:Below W.heap.size W W'):EvW Mt B w0 b o x e W':=by
 obtain⟨⟨ph,bh,ch,sh,h1,h2,h4⟩,h3⟩:=h;exact⟨⟨ph,bh,ch,sh,h1.more k,h2.trans (OutTo.more k),h4.below k⟩,fun j hj=>Nat.lt_of_lt_of_le (h3 j hj) k.size⟩
structure Rd4 where
 n:Nat
 e:Ev
 bx:List Ev
 x:SE
structure PreR (Mt:Nat→Prop) (B:Nat) (w0:World) (b:Nat) (hz:Int) (progs:List (List OpC)) (o0:Oc) (s:Rd4) (W:World):Prop where
 n:s.n<2000
 box:(Oc.run progs hz s.n o0).box=s.e::s.bx
 lt:s.e.t<hz
 com:(Oc.run progs hz s.n o0).com.length=s.n
 ev:EvW Mt B w0 b {Oc.run progs hz s.n o0 with box:=s.bx} s.x s.e W
theorem OwnEv.read {Mt:Nat→Prop} {B:Nat} {w:World} {h:SH} {es:List Ev} (r:OwnEv Mt B w h es) {w':World} {Mt':Nat→Prop} (hk:Keep Mt w w') (hm:∀k,k<w.heap.size→Mt' k→Mt k) (hb:∀j,h.own=some j→w'.heap[j]?=w.heap[j]?) (hB:∀k,Mt' k→k<B):EvsAt Mt' w' h es:=by
 obtain⟨ss,h1,h2⟩:=r;have h3:Kd.R kE 49 w' B (fun _=>True) (.slice h.A h.n h.c) ss:=R_stay h1 rfl fun j hj=>hb j hj;exact⟨ss,Rd.of_R rfl h3 (fun k hk hm=>by have:=Kd.R_base h3 k hk;have:=hB k hm;omega),h2.imp fun _ _ h=>h.fresh hk hm⟩
structure ProcTo (Mt:Nat→Prop) (w w':World) (o:Oc) (r:Ending):Prop where
 ex:∃(s:SLp) (bh ch sh:SH),r= .returned (.tuple #[.agg #[.int .i64 s.r0,.int .i64 s.r1,.slice s.ps.A s.ps.n s.ps.c,.int .i64 s.sum],.slice bh.A bh.n bh.c,.slice ch.A ch.n ch.c,.slice sh.A sh.n sh.c,.bool o.ov])∧LpAt Mt w' s o.lp∧EvsAt Mt w' bh o.box∧EvsAt Mt w' ch o.com∧EvsAt Mt w' sh o.sent
 below:Below w.heap.size w w'
theorem process_calls {Mt:Nat→Prop} {w:World} (hM:∀k,Mt k→k<w.heap.size) (c:SCf) (x:SLp) (bx:SH) (hz:Int) {lp:Lp} {box:List Ev} {progs:List (List OpC)} (hx:LpAt Mt w x lp) (hb:EvsAt Mt w bx box) (hc:PgsAt Mt w c.pgs progs) (hp:PgsOk progs)
  (hok:∀n,n≤2000→OutOk progs hz (Oc.run progs hz n ⟨lp,box,[],[],false⟩)):
  Calls Tryz.prog 81 #[c.v,x.v,.slice bx.A bx.n bx.c,.int .i64 hz] w fun r w'=>ProcTo Mt w w' (Oc.run progs hz 2000 ⟨lp,box,[],[],false⟩) r:=by
 obtain⟨⟨lA,ln,lc⟩,⟨pA,pn,pc⟩,la,en,cp⟩:=c;obtain⟨r0,r1,⟨sA,sn,sc⟩,sum⟩:=x;obtain⟨bA,bn,bc⟩:=bx;have HM:=am hM;have HX:=am hx;have HB:=am hb;have HC:=am hc;have HP:=am hp;have HOK:=am hok;clear hM hx hb hc hp hok;simp only[SCf.v,SLp.v];refine(callsIn_wide (n:=3)).1 ?_;refine callsIn_of_wp_marks Tryz.func81 rfl trivial ?_ rfl;simp only[Tryz.ntmps81,List.size_toArray,List.length_cons,List.length_nil,Nat.reduceAdd,Nat.reduceSub,Array.replicate_succ,Array.replicate_zero,List.push_toArray,List.append_toArray,List.nil_append,List.cons_append]
 gi_wp2_with (refine⟨trivial,?_⟩;gi_at_call 104;refine(callsIn_wide.2 (eventsF_calls _ _ _)).mono ?_;rintro e w' ⟨rfl,rfl⟩)
 obtain⟨w7,hw7⟩:∃w7,allocs w [.cells #[.slice lA ln lc,.slice pA pn pc,.int .i64 la,.int .i64 en,.int .i64 cp] 25,.cells #[.int .i64 r0,.int .i64 r1,.slice sA sn sc,.int .i64 sum] 91,.cells #[.int .i64 0,.int .i64 0,.slice none 0 0,.int .i64 0] 91,
  .cells #[.int .i64 r0,.int .i64 r1,.slice sA sn sc,.int .i64 sum,.slice bA bn bc,.slice none 0 0,.slice none 0 0,.bool false] TOut,.cells #[.pointer (some ⟨w.heap.size+1+1+1,0,none⟩)] 160,.cells #[.pointer (some ⟨w.heap.size+1+1+1,0,none⟩)] 160,.cells #[.int .i64 hz] 3]=w7:=⟨_,rfl⟩
 show Code.wpIn _ _ _ _ _ _ (allocs w [.cells #[.slice lA ln lc,.slice pA pn pc,.int .i64 la,.int .i64 en,.int .i64 cp] 25,.cells #[.int .i64 r0,.int .i64 r1,.slice sA sn sc,.int .i64 sum] 91,.cells #[.int .i64 0,.int .i64 0,.slice none 0 0,.int .i64 0] 91,
  .cells #[.int .i64 r0,.int .i64 r1,.slice sA sn sc,.int .i64 sum,.slice bA bn bc,.slice none 0 0,.slice none 0 0,.bool false] TOut,.cells #[.pointer (some ⟨w.heap.size+1+1+1,0,none⟩)] 160,.cells #[.pointer (some ⟨w.heap.size+1+1+1,0,none⟩)] 160,.cells #[.int .i64 hz] 3])
 have ha:=fun i o h=>hw7▸allocs_at [.cells #[.slice lA ln lc,.slice pA pn pc,.int .i64 la,.int .i64 en,.int .i64 cp] 25,.cells #[.int .i64 r0,.int .i64 r1,.slice sA sn sc,.int .i64 sum] 91,.cells #[.int .i64 0,.int .i64 0,.slice none 0 0,.int .i64 0] 91,
  .cells #[.int .i64 r0,.int .i64 r1,.slice sA sn sc,.int .i64 sum,.slice bA bn bc,.slice none 0 0,.slice none 0 0,.bool false] TOut,.cells #[.pointer (some ⟨w.heap.size+1+1+1,0,none⟩)] 160,.cells #[.pointer (some ⟨w.heap.size+1+1+1,0,none⟩)] 160,.cells #[.int .i64 hz] 3] w i o h
 have hbs:=hw7▸allocs_below [.cells #[.slice lA ln lc,.slice pA pn pc,.int .i64 la,.int .i64 en,.int .i64 cp] 25,.cells #[.int .i64 r0,.int .i64 r1,.slice sA sn sc,.int .i64 sum] 91,.cells #[.int .i64 0,.int .i64 0,.slice none 0 0,.int .i64 0] 91,
  .cells #[.int .i64 r0,.int .i64 r1,.slice sA sn sc,.int .i64 sum,.slice bA bn bc,.slice none 0 0,.slice none 0 0,.bool false] TOut,.cells #[.pointer (some ⟨w.heap.size+1+1+1,0,none⟩)] 160,.cells #[.pointer (some ⟨w.heap.size+1+1+1,0,none⟩)] 160,.cells #[.int .i64 hz] 3] w
 rw[hw7];have k0:w7.heap[w.heap.size]?=_:=ha 0 _ rfl;have k2:w7.heap[w.heap.size+1+1]?=_:=ha 2 _ rfl;have k3:w7.heap[w.heap.size+1+1+1]?=_:=ha 3 _ rfl;have k4:w7.heap[w.heap.size+1+1+1+1]?=_:=ha 4 _ rfl;have k5:w7.heap[w.heap.size+1+1+1+1+1]?=_:=ha 5 _ rfl;have k6:w7.heap[w.heap.size+1+1+1+1+1+1]?=_:=ha 6 _ rfl;obtain⟨hb7,hs7⟩:=hbs;simp only[List.length_cons,List.length_nil]at hs7;clear ha hw7;have HM7:=am (show∀k,Ml (Mq Mt (w.heap.size+1+1)) w7.heap.size k→k<w.heap.size→Mt k from fun k hk hl=>by
  rcases hk with (hk|rfl)|rfl|rfl
  ·exact hk
  ·omega
  ·omega
  ·omega)
 have hmw:∀k,k<w.heap.size→Mo (Ml (Mq Mt (w.heap.size+1+1)) w7.heap.size) (w.heap.size+1+1+1) .nil .nil k→Mt k:=fun k hk hm=>by
  rcases hm with hm|hm|hm|hm
  ·exact HM7.out k hm hk
  ·omega
  ·cases hm
  ·cases hm
 have hO7:OutAt (Ml (Mq Mt (w.heap.size+1+1)) w7.heap.size) w.heap.size w7 (w.heap.size+1+1+1) ⟨sA,sn,sc⟩ ⟨bA,bn,bc⟩ .nil .nil ⟨lp,box,[],[],false⟩:=
  ⟨hb7.size,by omega,by
   have h1:r0=lp.r0:=HX.out.r0;have h2:r1=lp.r1:=HX.out.r1;have h3:sum=lp.sum:=HX.out.sum;rw[k3,h1,h2,h3];rfl,HX.out.ps.fresh (Keep.of_below hb7) hmw,HB.out.fresh (Keep.of_below hb7) hmw,⟨[],Kd.R_nil _ _ _ _ _,.nil⟩,⟨[],Kd.R_nil _ _ _ _ _,.nil⟩,fun k hk=>by cases hk⟩
 have HO7:=am hO7;have HK0:=am k0;have HK2:=am k2;have HK4:=am k4;have HK5:=am k5;have HK6:=am k6;have HB7:=am hb7;have HS7:=am hs7;clear hO7 k0 k2 k3 k4 k5 k6 hb7 hmw;refine range_put (F:=Fence.wide) (n:=3) rfl (by omega) (gf:=123) (lb:= #[.pointer (some ⟨w.heap.size+1+1+1+1+1,0,none⟩),.pointer (some ⟨w.heap.size+1+1+1+1+1+1,0,none⟩)]) rfl trivial (enters_of Tryz.func123 (by kernel_rfl) rfl) (σ:=Rd4) (fun s=> #[s.x.v]) (fun _=>rfl)
  (fun s W'=>PreR (Ml (Mq Mt (w.heap.size+1+1)) w7.heap.size) w.heap.size w7 (w.heap.size+1+1+1) hz progs ⟨lp,box,[],[],false⟩ s W')
  (fun s W'=>OutW (Ml (Mq Mt (w.heap.size+1+1)) w7.heap.size) w.heap.size w7 (w.heap.size+1+1+1) (Oc.run progs hz (s.n+1) ⟨lp,box,[],[],false⟩) W')
  (fun W'=>OutW (Ml (Mq Mt (w.heap.size+1+1)) w7.heap.size) w.heap.size w7 (w.heap.size+1+1+1) (Oc.run progs hz 2000 ⟨lp,box,[],[],false⟩) W')
  (fun s W' o o' hs hl hc=>hs.lift hl hc (.inr rfl)) (fun s W' o o' hs hl hc=>hs.lift hl hc (.inr rfl)) ?iter
  (fun s a' W'=>∃Bx,w7.heap.size≤Bx∧EvBox W' Bx s.x∧PreR (Ml (Mq Mt (w.heap.size+1+1)) w7.heap.size) w.heap.size w7 (w.heap.size+1+1+1) hz progs ⟨lp,box,[],[],false⟩ s W'∧a'={tmps:= #[.agg #[.slice lA ln lc,.slice pA pn pc,.int .i64 la,.int .i64 en,.int .i64 cp],.agg #[.int .i64 r0,.int .i64 r1,.slice sA sn sc,.int .i64 sum],.slice bA bn bc,.int .i64 hz,.pointer (some ⟨w.heap.size,0,none⟩),.pointer (some ⟨w.heap.size+1,0,none⟩),undef,undef,.pointer (some ⟨w.heap.size+1+1,0,none⟩),.slice none 0 0,.slice none 0 0,.slice none 0 0,.bool false,.pointer (some ⟨w.heap.size+1+1+1+1,0,none⟩),.pointer (some ⟨Bx,0,none⟩),.agg #[.int .i64 r0,.int .i64 r1,.slice sA sn sc,.int .i64 sum],.slice bA bn bc,.agg #[.int .i64 r0,.int .i64 r1,.slice sA sn sc,.int .i64 sum,.slice bA bn bc,.slice none 0 0,.slice none 0 0,.bool false],.pointer (some ⟨w.heap.size+1+1+1,0,none⟩),.pointer (some ⟨w.heap.size+1+1+1,0,none⟩),.int .i64 hz,.func (.func 123) #[] #[.pointer (some ⟨w.heap.size+1+1+1+1+1,0,none⟩),.pointer (some ⟨w.heap.size+1+1+1+1+1+1,0,none⟩)],s.x.v,undef,undef,undef,undef,undef,undef,undef,undef,undef,undef,undef],defers:=[]})
  ?hax ?assign ?body ?done
 case iter=>
  intro l Rc W1 hb1 hz1 hRcK hYld hRc1;have hbl:w.heap.size+1+1+1<w7.heap.size:=by have:=HS7.out;omega
  refine events_in (Mt:=Ml (Mq Mt (w.heap.size+1+1)) w7.heap.size) (B:=w.heap.size) (w0:=w7) (b:=w.heap.size+1+1+1) (progs:=progs) (o0:=⟨lp,box,[],[],false⟩) (by simp[World.cell?,HK5.out]) (by simp[World.cell?,HK6.out]) (by omega) (by omega) HOK.out rfl Rc (fun A C h k=>hRcK A C h (k.mono fun j _ e=>by rw[e];exact hbl)) ?_ ?_ hRc1
  ·exact fun n e bx x W hn hb ht hc hev hRc=>hYld ⟨n,e,bx,x⟩ W ⟨hn,hb,ht,hc,hev⟩ hRc
  ·exact⟨⟨_,_,_,_,HO7.out.more hb1,OutTo.more hb1⟩,fun k hk=>by
    have h7:=HS7.out;have h8:=hb1.size;rcases hk with (hk|rfl)|rfl|rfl
    ·have:=HM.out k hk;omega
    ·omega
    ·omega
    ·omega⟩
 case hax=>
  rintro s a' _ W' o o' ⟨Bx,h1,h2,h3,h4⟩ hl hc;refine⟨Bx,h1,?_,⟨h3.n,h3.box,h3.lt,h3.com,h3.ev.lift hl hc (.inr rfl)⟩,h4⟩;have h5:W'.heap[Bx]?=_:=h2;refine((grownBy_putObj' W' _ o').block Bx (blk_lt h5) fun e=> ?_).trans h5;cases e;rw[h5]at hl;cases hl;cases hc
 case assign=>
  rintro l ⟨n,e,bx,⟨xt,⟨xA,xn,xc⟩,xl,xd,xp,xa⟩⟩ W' K hpre hK;simp only[SE.v]
  gi_wp2
  have hb2:=below_alloc (Below.refl W'.heap.size W') (.cells #[.int .i64 xt,.slice xA xn xc,.int .i64 xl,.int .i64 xd,.int .i64 xp,.int .i64 xa] 49);refine hK _ _ ((KeepsOthers.alloc _ _).from _) ⟨W'.heap.size,?_,World.alloc_heap_new _ _,⟨hpre.n,hpre.box,hpre.lt,hpre.com,hpre.ev.more hb2⟩,rfl⟩;obtain⟨⟨_,_,_,_,_,hT,_⟩,_⟩:=hpre.ev;exact hT.keep0.size
 case body=>
  rintro l ⟨n,e,bx,⟨xt,⟨xA,xn,xc⟩,xl,xd,xp,xa⟩⟩ a' W' ⟨Bx,hBx,hbox,hpre,rfl⟩;obtain⟨hn,hbx,hlt,hcl,⟨⟨ph,bh,ch,sh,hO,hT,hE⟩,hmt⟩⟩:=hpre;simp only at hn hbx hlt hcl hE hO;have hmm:∀k,k<w.heap.size→Mo (Ml (Mq Mt (w.heap.size+1+1)) w7.heap.size) (w.heap.size+1+1+1) ch sh k→M0 (w.heap.size+1+1+1) SH.nil SH.nil k∨Mt k:=fun k hk hm=>by
   rcases hm with hm|hm
   ·exact .inr (HM7.out k hm hk)
   ·exact .inl (hT.old0 k (by have:=HS7.out;omega) (.inr hm))
  have hold:∀k,k<w7.heap.size→k≠w.heap.size+1+1+1→W'.heap[k]?=w7.heap[k]?:=fun k hk hne=>hT.keep0.block k hk fun hm=>hne (nil_m0 hm);have k0:=(hold _ (blk_lt HK0.out) (by omega)).trans HK0.out;have k4:=(hold _ (blk_lt HK4.out) (by omega)).trans HK4.out;have hC:PgsAt (Mo (Ml (Mq Mt (w.heap.size+1+1)) w7.heap.size) (w.heap.size+1+1+1) ch sh) W' ⟨pA,pn,pc⟩ progs:=by
   obtain⟨hs,h1,h2⟩:=HC.out;have hk:Keep (fun k=>k=w.heap.size+1+1+1) w W':=(Keep.of_below HB7.out).trans (hT.keep0.mono fun k _ hm=>nil_m0 hm);have hm:∀k,k<w.heap.size→Mo (Ml (Mq Mt (w.heap.size+1+1)) w7.heap.size) (w.heap.size+1+1+1) ch sh k→Mt k:=fun k hk hm=>by
    rcases hmm k hk hm with h3|h3
    ·have:=nil_m0 h3;omega
    ·exact h3
   have hk2:Keep Mt w W':=⟨hk.size,fun k hk3 hn=>hk.block k hk3 (by omega)⟩;exact⟨hs,h1.fresh hk2 hm,h2.imp fun _ _ h=>h.fresh hk2 hm⟩
  have hpr:=(HOK.out n (by omega)).pre e bx hbx hlt;have HEX:=am (oexec_calls hO hmt ⟨⟨lA,ln,lc⟩,⟨pA,pn,pc⟩,la,en,cp⟩ ⟨xt,⟨xA,xn,xc⟩,xl,xd,xp,xa⟩ hC hE hpr.1 HP.out hpr.2 ((HOK.out n (by omega)).bd.tail hbx));have HNX:=am (Oc.run_next hbx hlt);have HO:=am hO;have HT:=am hT;have HMT:=am hmt;have c4:W'.cell? ⟨w.heap.size+1+1+1+1,0,none⟩=some (.pointer (some ⟨w.heap.size+1+1+1,0,none⟩)):=by simp[World.cell?,k4]
  have d0:W'.cell? ⟨w.heap.size,0,none⟩=some (.slice lA ln lc):=by simp[World.cell?,k0]
  have d1:W'.cell? ⟨w.heap.size,1,none⟩=some (.slice pA pn pc):=by simp[World.cell?,k0]
  have d2:W'.cell? ⟨w.heap.size,2,none⟩=some (.int .i64 la):=by simp[World.cell?,k0]
  have d3:W'.cell? ⟨w.heap.size,3,none⟩=some (.int .i64 en):=by simp[World.cell?,k0]
  have d4:W'.cell? ⟨w.heap.size,4,none⟩=some (.int .i64 cp):=by simp[World.cell?,k0]
  obtain⟨e0,e1,e2,e3,e4,e5⟩:=hbox.cells;simp only at e0 e1 e2 e3 e4 e5;clear hn hbx hlt hcl hE hO hT hmt hmm hold k0 k4 hC hpr;simp only[SE.v]
  gi_wp2_with (refine⟨trivial,?_⟩;gi_at_call 105;refine(CallsIn.inRound l (callsIn_wide.2 HEX.out)).mono ?_;rintro e w' ⟨rfl,ph',bh',ch',sh',hO',hT'⟩)
  refine⟨⟨hT'.keep0.size,fun k o hk ho hc=>(hT'.keep0.block k (Array.getElem?_eq_some_iff.1 ho).1 fun hm=> ?_).trans ho⟩,?_⟩
  ·have hcc:∃cells t,W'.heap[k]?=some (Obj.cells cells t (0,0)):=by
    rcases hm with hm|rfl|hm|hm
    ·exact hm.elim
    ·exact⟨_,_,HO.out.blk⟩
    ·obtain⟨c,hc⟩:=(HO.out.com.typed k hm).1;exact⟨c,_,hc⟩
    ·obtain⟨c,hc⟩:=(HO.out.sent.typed k hm).1;exact⟨c,_,hc⟩
   obtain⟨c2,t2,hcc⟩:=hcc;rw[ho]at hcc;cases hcc;cases hc
  ·show OutW (Ml (Mq Mt (w.heap.size+1+1)) w7.heap.size) w.heap.size w7 (w.heap.size+1+1+1) (Oc.run progs hz (n+1) ⟨lp,box,[],[],false⟩) w';rw[HNX.out];exact⟨⟨_,_,_,_,hO',HT.out.trans hT'⟩,fun k hk=>Nat.lt_of_lt_of_le (HMT.out k hk) hT'.keep0.size⟩
 case done=>
  rintro W' hfin hK;obtain⟨⟨ph,bh,ch,sh,hO,hT⟩,hmt⟩:=hfin;obtain⟨o,ho⟩:∃o,Oc.run progs hz 2000 ⟨lp,box,[],[],false⟩=o:=⟨_,rfl⟩;rw[ho]at hO;have HO:=am hO;have HT:=am hT;have HON:=am ho;have HUN:=am (unpack_calls hO);have HKD:=am hK;have k4:=(hT.keep0.block _ (blk_lt HK4.out) (fun hm=>by have:=nil_m0 hm;omega)).trans HK4.out;have k2:=(hT.keep0.block _ (blk_lt HK2.out) (fun hm=>by have:=nil_m0 hm;omega)).trans HK2.out;have c4:W'.cell? ⟨w.heap.size+1+1+1+1,0,none⟩=some (.pointer (some ⟨w.heap.size+1+1+1,0,none⟩)):=by simp[World.cell?,k4]
  have HK2':=am k2;clear ho hO hT hmt k4 k2 hK
  gi_wp2_with (fail)
  refine⟨trivial,?_⟩;refine(callsIn_wide.2 HUN.out).mono ?_;rintro e w8 ⟨rfl,hb8⟩;have kk:=box_more hb8 HK2'.out;have z0:w8.cell? ⟨w.heap.size+1+1,0,none⟩=some (.int .i64 0):=by simp[World.cell?,kk]
  have z1:w8.cell? ⟨w.heap.size+1+1,1,none⟩=some (.int .i64 0):=by simp[World.cell?,kk]
  have z2:w8.cell? ⟨w.heap.size+1+1,2,none⟩=some (.slice none 0 0):=by simp[World.cell?,kk]
  have z3:w8.cell? ⟨w.heap.size+1+1,3,none⟩=some (.int .i64 0):=by simp[World.cell?,kk]
  have y0:w8.frozen? ⟨w.heap.size+1+1,0,none⟩=false:=blk_frozen kk 0;have y1:w8.frozen? ⟨w.heap.size+1+1,1,none⟩=false:=blk_frozen kk 1;have y2:w8.frozen? ⟨w.heap.size+1+1,2,none⟩=false:=blk_frozen kk 2;have y3:w8.frozen? ⟨w.heap.size+1+1,3,none⟩=false:=blk_frozen kk 3;have HB8:=am hb8;have HKK:=am kk;clear kk hb8
  gi_wp2_with (fail)
  obtain⟨w9,hw9⟩:∃w9,(((w8.setCell ⟨w.heap.size+1+1,0,none⟩ (.int .i64 o.lp.r0)).setCell ⟨w.heap.size+1+1,1,none⟩ (.int .i64 o.lp.r1)).setCell ⟨w.heap.size+1+1,2,none⟩ (.slice ph.A ph.n ph.c)).setCell ⟨w.heap.size+1+1,3,none⟩ (.int .i64 o.lp.sum)=w9:=⟨_,rfl⟩;rw[hw9];obtain⟨p5,hg⟩:=lp_stored HKK.out ⟨o.lp.r0,o.lp.r1,ph,o.lp.sum⟩ hw9;simp only at p5;have hkd:w9.heap[w.heap.size+7]?=some (.deferred (some [])):=by
   have h1:=box_more HB8.out HKD.out;rw[hs7]at h1;exact(hg.block _ (blk_lt h1) (fun e=>by injection e with e;omega)).trans h1
  have p6:(w9.putObj (w.heap.size+7) (.deferred none)).heap[w.heap.size+1+1]?=some (.cells #[.int .i64 o.lp.r0,.int .i64 o.lp.r1,.slice ph.A ph.n ph.c,.int .i64 o.lp.sum] 91 (0,0)):=((grownBy_putObj' w9 _ _).block _ (blk_lt p5) (fun e=>by injection e with e;omega)).trans p5;obtain⟨wx,hwx⟩:∃wx,w9.putObj (w.heap.size+7) (.deferred none)=wx:=⟨_,rfl⟩;have o0:wx.cell? ⟨w.heap.size+1+1,0,none⟩=some (.int .i64 o.lp.r0):=by rw[←hwx];simp[World.cell?,p6]
  have o1:wx.cell? ⟨w.heap.size+1+1,1,none⟩=some (.int .i64 o.lp.r1):=by rw[←hwx];simp[World.cell?,p6]
  have o2:wx.cell? ⟨w.heap.size+1+1,2,none⟩=some (.slice ph.A ph.n ph.c):=by rw[←hwx];simp[World.cell?,p6]
  have o3:wx.cell? ⟨w.heap.size+1+1,3,none⟩=some (.int .i64 o.lp.sum):=by rw[←hwx];simp[World.cell?,p6]
  have hgx:=grownBy_putObj' w9 (w.heap.size+7) (.deferred none);rw[hwx]at hgx;have hL:Keep (Mo (Ml (Mq Mt (w.heap.size+1+1)) w7.heap.size) (w.heap.size+1+1+1) ch sh) W' wx:=
   ((Keep.of_below HB8.out).trans (Keep.grown hg fun k hk=>by cases hk;exact .inl (.inl (.inr rfl)))).trans (Keep.grown hgx fun k hk=>by cases hk;exact .inl (.inr (.inl hs7.symm)))
  have hin:∀k,k<W'.heap.size→Mt k→Mo (Ml (Mq Mt (w.heap.size+1+1)) w7.heap.size) (w.heap.size+1+1+1) ch sh k:=fun k _ h=> .inl (.inl (.inl h));have hown:∀(h2:SH) (es:List Ev),OwnEv (Mo (Ml (Mq Mt (w.heap.size+1+1)) w7.heap.size) (w.heap.size+1+1+1) ch sh) w.heap.size W' h2 es→∀j,h2.own=some j→wx.heap[j]?=W'.heap[j]?:=fun h2 es r j hj=>by
   obtain⟨⟨c,hc⟩,_,hjl⟩:=r.typed j hj;have e1:=HB8.out.block j hjl;have e2:w9.heap[j]?=w8.heap[j]?:=hg.block j (Nat.lt_of_lt_of_le hjl HB8.out.size) fun e=>by
    cases e;rw[←e1,HKK.out]at hc;cases hc
   have e3:wx.heap[j]?=w9.heap[j]?:=hgx.block j (by have:=hg.size;have:=HB8.out.size;omega) fun e=>by
    cases e;rw[←e1,←e2,hkd]at hc;cases hc
   exact e3.trans (e2.trans e1)
  have hfin:ProcTo Mt w wx o (.returned (.tuple #[.agg #[.int .i64 o.lp.r0,.int .i64 o.lp.r1,.slice ph.A ph.n ph.c,.int .i64 o.lp.sum],.slice bh.A bh.n bh.c,.slice ch.A ch.n ch.c,.slice sh.A sh.n sh.c,.bool o.ov])):=by
   refine⟨⟨⟨o.lp.r0,o.lp.r1,ph,o.lp.sum⟩,bh,ch,sh,rfl,⟨rfl,rfl,HO.out.ps.fresh hL hin,rfl⟩,HO.out.box.fresh hL hin,HO.out.com.read hL hin (hown _ _ HO.out.com) HM.out,HO.out.sent.read hL hin (hown _ _ HO.out.sent) HM.out⟩,?_⟩;have hT:=HT.out;have b1:Below w.heap.size w W':=HB7.out.trans ⟨hT.os,hT.tape,hT.output,hT.keep0.size,fun k hk=>hT.keep0.block k (by omega) fun hm=>by have:=nil_m0 hm;omega⟩;have b2:Below w.heap.size w w9:=below_grown (b1.trans (HB8.out.mono b1.size)) hg (by omega);exact below_grown b2 hgx (by omega)
  refine⟨by simp,.inl ⟨_,_,rfl,run_takeDeferred hkd,?_⟩⟩;rw[hwx];refine⟨.tuple #[.agg #[.int .i64 o.lp.r0,.int .i64 o.lp.r1,.slice ph.A ph.n ph.c,.int .i64 o.lp.sum],.slice bh.A bh.n bh.c,.slice ch.A ch.n ch.c,.slice sh.A sh.n sh.c,.bool o.ov],by simp[results,Tryz.results81,go_sem,o0,o1,o2,o3],?_⟩;rw[HON.out];exact hfin
end Go.Proofs.YtfnimdhghglanaaGreat.Hand
end
