/- TopErrorPrefix, part 23 of 41; no condition. (Printed from the session's own texts: what is not used left out, spaces spared.) -/
import Derived.Test.YtfnimdhghglanaaGreatQeAA
import Derived.Test.YtfnimdhghglanaaGreatQeAB
import Derived.Test.YtfnimdhghglanaaGreatQeAC
import Derived.Test.YtfnimdhghglanaaGreatQeAD
import Derived.Test.YtfnimdhghglanaaGreatQeAV
import Derived.Test.YtfnimdhghglanaaGreatProg
import Derived.Below
import Derived.Deep.Draws
import Derived.Deep.AppendLies
import Derived.Maps.AppendAt
import Derived.OwnWalk
import Derived.Laws.BytesArg
import Derived.Laws.MakeOwn
import Derived.Laws.OwnMore
import Derived.Deep.OwnRows
import Derived.Tactics
import Derived.Lib.ConvBytes
import Derived.Laws.Slices
import Derived.WalkKit
import Derived.KernelRfl
import Derived.RowKit3
import Derived.Deep.LoopGhost
import Derived.Deep.QuietTactic
import Derived.BigQuiet
import Derived.WideLaws
import Derived.Deep.DeepCutAuto
import Derived.Deep.CutBlock
import Derived.Deep.RegionHeld3
import Derived.Laws.Rows
import Derived.Lib.AppendStr
import Derived.ArgAppend
import Derived.Laws.IdiomCopy
import Derived.OrdersHeld
import Derived.Laws.BitsLemmas
import Derived.RowKit
import Derived.Lib.SliceRun
set_option maxRecDepth 100000
set_option maxHeartbeats 8000000
set_option linter.unusedVariables false
set_option linter.unusedSimpArgs false
section
namespace Go.Proofs.YtfnimdhghglanaaGreat.Hand
open Go.RowKit Go.Shelf Go.Proofs.YtfnimdhghglanaaGreatW.PrintWords Go.Proofs.YtfnimdhghglanaaGreatW.PrintLast Go.Proofs.YtfnimdhghglanaaGreatW.PrintMore
attribute [local go_sem] max2_int min2_int max_two min_two max_three min_three max_four min_four
theorem lp_stored {w w7:World} {q:Nat} (hbk:w7.heap[q]?=some (.cells #[.int .i64 0,.int .i64 0,.slice none 0 0,.int .i64 0] 91 (0,0))) (s:SLp) (hw:(((w7.setCell ⟨q,0,none⟩ (.int .i64 s.r0)).setCell ⟨q,1,none⟩ (.int .i64 s.r1)).setCell ⟨q,2,none⟩ (.slice s.ps.A s.ps.n s.ps.c)).setCell ⟨q,3,none⟩ (.int .i64 s.sum)=w):
  w.heap[q]?=some (.cells #[.int .i64 s.r0,.int .i64 s.r1,.slice s.ps.A s.ps.n s.ps.c,.int .i64 s.sum] 91 (0,0))∧w7.grownBy w (some q):=by
 subst hw;exact⟨blk_put (blk_put (blk_put (blk_put hbk 0 (.int .i64 s.r0) rfl) 1 (.int .i64 s.r1) rfl) 2 (.slice s.ps.A s.ps.n s.ps.c) rfl) 3 (.int .i64 s.sum) rfl,grown_cells [.int .i64 s.r0,.int .i64 s.r1,.slice s.ps.A s.ps.n s.ps.c,.int .i64 s.sum] w7 0⟩
theorem below_grown {W w w':World} {q:Nat} (h:Below W.heap.size W w) (hg:w.grownBy w' (some q)) (hq:W.heap.size≤q):Below W.heap.size W w':=
 h.trans ⟨hg.os,hg.tape,hg.output,hg.size,fun k hk=>hg.block k (Nat.lt_of_lt_of_le hk h.size) fun e=>by cases e;omega⟩
theorem unpack_calls {Mt:Nat→Prop} {B:Nat} {w:World} {b:Nat} {ph bh ch sh:SH} {o:Oc} (h:OutAt Mt B w b ph bh ch sh o):
  Calls Tryz.prog 106 #[.pointer (some ⟨b,0,none⟩)] w fun r w'=>r= .returned (.tuple #[.agg #[.int .i64 o.lp.r0,.int .i64 o.lp.r1,.slice ph.A ph.n ph.c,.int .i64 o.lp.sum],.slice bh.A bh.n bh.c,.slice ch.A ch.n ch.c,.slice sh.A sh.n sh.c,.bool o.ov])∧Below w.heap.size w w':=by
 have H:=am h;clear h;go_enter Tryz.func106,Tryz.ntmps106;go_upto_region 1 with (fail)
 obtain⟨q,hq⟩:∃q,w.heap.size=q:=⟨_,rfl⟩;obtain⟨w1,hw1⟩:∃w1,w.alloc (.cells #[.int .i64 0,.int .i64 0,.slice none 0 0,.int .i64 0] 91)=w1:=⟨_,rfl⟩;have hb1:Below w.heap.size w w1:=by rw[←hw1];exact below_alloc (Below.refl _ _) _
 have hbk:w1.heap[q]?=some (.cells #[.int .i64 0,.int .i64 0,.slice none 0 0,.int .i64 0] 91 (0,0)):=by rw[←hw1,←hq];exact World.alloc_heap_new _ _
 rw[hw1,hq];have hO:=H.out.more hb1;have c0:=hO.cells 0 _ rfl;have c1:=hO.cells 1 _ rfl;have c2:=hO.cells 2 _ rfl;have c3:=hO.cells 3 _ rfl;have c4:=hO.cells 4 _ rfl;have c5:=hO.cells 5 _ rfl;have c6:=hO.cells 6 _ rfl;have c7:=hO.cells 7 _ rfl;have z0:w1.cell? ⟨q,0,none⟩=some (.int .i64 0):=by simp[World.cell?,hbk]
 have z1:w1.cell? ⟨q,1,none⟩=some (.int .i64 0):=by simp[World.cell?,hbk]
 have z2:w1.cell? ⟨q,2,none⟩=some (.slice none 0 0):=by simp[World.cell?,hbk]
 have z3:w1.cell? ⟨q,3,none⟩=some (.int .i64 0):=by simp[World.cell?,hbk]
 have y0:w1.frozen? ⟨q,0,none⟩=false:=blk_frozen hbk 0;have y1:w1.frozen? ⟨q,1,none⟩=false:=blk_frozen hbk 1;have y2:w1.frozen? ⟨q,2,none⟩=false:=blk_frozen hbk 2;have y3:w1.frozen? ⟨q,3,none⟩=false:=blk_frozen hbk 3;have HBK:=am hbk;have HB1:=am hb1;have HQ:=am hq;have hqb:b≠q:=fun e=>by
  have:=H.out.blk;have:=blk_lt this;omega
 have hfar:∀j,((((w1.setCell ⟨q,0,none⟩ (.int .i64 o.lp.r0)).setCell ⟨q,1,none⟩ (.int .i64 o.lp.r1)).setCell ⟨q,2,none⟩ (.slice ph.A ph.n ph.c)).setCell ⟨q,3,none⟩ (.int .i64 o.lp.sum)).drew.cell? ⟨b,j,none⟩=w1.cell? ⟨b,j,none⟩:=fun j=>
  (((cell_far (p:=⟨q,3,none⟩) (a:=⟨b,j,none⟩) hqb _).trans (cell_far (p:=⟨q,2,none⟩) (a:=⟨b,j,none⟩) hqb _)).trans (cell_far (p:=⟨q,1,none⟩) (a:=⟨b,j,none⟩) hqb _)).trans (cell_far (p:=⟨q,0,none⟩) (a:=⟨b,j,none⟩) hqb _)
 clear hbk hb1 hw1 hq hO;refine sz_ 25 (S:=fun w'=>w'.cell? ⟨b,0,none⟩=some (.int .i64 o.lp.r0)∧w'.cell? ⟨b,1,none⟩=some (.int .i64 o.lp.r1)∧w'.cell? ⟨b,2,none⟩=some (.slice ph.A ph.n ph.c)∧w'.cell? ⟨b,3,none⟩=some (.int .i64 o.lp.sum)∧w'.cell? ⟨b,4,none⟩=some (.slice bh.A bh.n bh.c)∧w'.cell? ⟨b,5,none⟩=some (.slice ch.A ch.n ch.c)∧w'.cell? ⟨b,6,none⟩=some (.slice sh.A sh.n sh.c)∧w'.cell? ⟨b,7,none⟩=some (.bool o.ov)) (ds:=[]) ⟨c0,c1,c2,c3,c4,c5,c6,c7⟩ (fun hHeld=> ?_);refine pz_ 0 7 25 1 ?_;refine pz_ 1 8 25 3 ?_;refine pz_ 2 9 25 7 ?_;refine pz_ 4 11 25 23 ?_;refine pz_ 5 12 25 55 ?_
 refine pz_ 6 13 25 119 ?_;refine pz_ 8 15 25 375 ?_;refine pz_ 9 16 25 887 ?_;refine pz_ 10 17 25 1911 ?_;refine pz_ 12 19 25 6007 ?_;refine pz_ 13 20 25 14199 ?_;refine pz_ 14 21 25 30583 ?_;refine pz_ 16 23 25 96119 ?_;refine pz_ 17 24 25 227191 ?_;refine pz_ 18 25 25 489335 ?_;refine tz_ 3 10 25 489343 hHeld ?_;refine tz_ 7 14 25 489471 hHeld ?_;refine tz_ 11 18 25 491519 hHeld ?_;refine tz_ 15 22 25 524287 hHeld ?_;refine tz_ 19 26 25 1048575 hHeld ?_;refine one_ (i:=20) (N:=none) (bv 25 2097151) rfl rfl (by kernel_rfl) (by decide) (fun K hK=> ?_);refine skip_ (w1:= ?_) (by rfl) rfl ?_ ?_
 rotate_left
 ·go_simp;rfl
 refine hK.out _ _ ⟨(hfar 0).trans c0,(hfar 1).trans c1,(hfar 2).trans c2,(hfar 3).trans c3,(hfar 4).trans c4,(hfar 5).trans c5,(hfar 6).trans c6,(hfar 7).trans c7⟩ (fun hHeld=> ?_);clear hK K;refine pz_ 21 3 25 4194303 ?_;refine pz_ 22 4 25 8388607 ?_;refine pz_ 23 5 25 16777215 ?_;refine pz_ 24 6 25 33554431 ?_;refine done_ (by kernel_rfl) ?_;obtain⟨w6,hw6⟩:∃w6,((((w1.setCell ⟨q,0,none⟩ (.int .i64 o.lp.r0)).setCell ⟨q,1,none⟩ (.int .i64 o.lp.r1)).setCell ⟨q,2,none⟩ (.slice ph.A ph.n ph.c)).setCell ⟨q,3,none⟩ (.int .i64 o.lp.sum)).drew=w6:=⟨_,rfl⟩;rw[hw6]
 obtain⟨p4,hg4⟩:=lp_stored (w7:=w1) HBK.out ⟨o.lp.r0,o.lp.r1,ph,o.lp.sum⟩ rfl;simp only at p4 hg4;have p5:w6.heap[q]?=some (.cells #[.int .i64 o.lp.r0,.int .i64 o.lp.r1,.slice ph.A ph.n ph.c,.int .i64 o.lp.sum] 91 (0,0)):=by rw[←hw6];exact p4
 have hg:w1.grownBy w6 (some q):=by rw[←hw6];exact grown_trans hg4 (grown_drew _ _)
 have o0:w6.cell? ⟨q,0,none⟩=some (.int .i64 o.lp.r0):=by simp[World.cell?,p5]
 have o1:w6.cell? ⟨q,1,none⟩=some (.int .i64 o.lp.r1):=by simp[World.cell?,p5]
 have o2:w6.cell? ⟨q,2,none⟩=some (.slice ph.A ph.n ph.c):=by simp[World.cell?,p5]
 have o3:w6.cell? ⟨q,3,none⟩=some (.int .i64 o.lp.sum):=by simp[World.cell?,p5]
 have hb6:=below_grown HB1.out hg (by have:=HQ.out;omega);rename_i Q9 K9 hK9 hHx;refine hK9 _ _ ?_;apply wp_ret;show bodyPost Tryz.prog Tryz.f106 _ Exit.ret _ _;exact bodyPost_ret (v:= .tuple #[.agg #[.int .i64 o.lp.r0,.int .i64 o.lp.r1,.slice ph.A ph.n ph.c,.int .i64 o.lp.sum],.slice bh.A bh.n bh.c,.slice ch.A ch.n ch.c,.slice sh.A sh.n sh.c,.bool o.ov]) (by simp[results,Tryz.results106,go_sem,o0,o1,o2,o3]) rfl ⟨rfl,hb6⟩
end Go.Proofs.YtfnimdhghglanaaGreat.Hand
end
section
namespace Go.Proofs.YtfnimdhghglanaaGreat.Hand
open Go.RowKit Go.Shelf Go.Proofs.YtfnimdhghglanaaGreatW.PrintWords Go.Proofs.YtfnimdhghglanaaGreatW.PrintLast Go.Proofs.YtfnimdhghglanaaGreatW.PrintMore
attribute [local go_sem] max2_int min2_int max_two min_two max_three min_three max_four min_four
attribute [local go_sem] Oper.semAt_some
theorem eventsF_calls (W:World) (b:Nat) (hz:Int):Calls Tryz.prog 104 #[.pointer (some ⟨b,0,none⟩),.int .i64 hz] W fun e w'=>
  e= .returned (.func (.func 123) #[] #[.pointer (some ⟨W.heap.size,0,none⟩),.pointer (some ⟨W.heap.size+1,0,none⟩)])∧w'=(W.alloc (.cells #[.pointer (some ⟨b,0,none⟩)] 160)).alloc (.cells #[.int .i64 hz] 3):=by
 go_enter Tryz.func104,Tryz.ntmps104
 go_wp2_with (fail)
 go_ret;exact⟨rfl,rfl⟩
def allocs (w:World) (os:List Obj):World:=os.foldl World.alloc w
theorem allocs_below:∀(os:List Obj) (w:World),Below w.heap.size w (allocs w os)∧(allocs w os).heap.size=w.heap.size+os.length
 | [],w=>⟨Below.refl _ _,rfl⟩
 |o::os,w=>by
  obtain⟨h1,h2⟩:=allocs_below os (w.alloc o);have h3:=below_alloc (Below.refl w.heap.size w) o;have h4:=World.size_alloc w o;refine⟨h3.trans (h1.mono h3.size),?_⟩;show(allocs (w.alloc o) os).heap.size=_;rw[h2,h4];simp only[List.length_cons];omega
theorem allocs_at:∀(os:List Obj) (w:World) (i:Nat) (o:Obj),os[i]?=some o→(allocs w os).heap[w.heap.size+i]?=some o
 | [],_,i,_,h=>by simp at h
 |o::os,w,0,o',h=>by
  simp at h;subst h;have h4:=World.size_alloc w o;exact((allocs_below os (w.alloc o)).1.block w.heap.size (by omega)).trans (World.alloc_heap_new w o)
 |o::os,w,i+1,o',h=>by
  have h1:=allocs_at os (w.alloc o) i o' (by simpa using h);rw[World.size_alloc]at h1;rw[show w.heap.size+(i+1)=w.heap.size+1+i by omega];exact h1
def Ml (Mt:Nat→Prop) (L k:Nat):Prop:=Mt k∨k=L∨k=L+1
theorem OutAt.lift {Mt:Nat→Prop} {B:Nat} {w0 W:World} {b:Nat} {ph bh ch sh:SH} {o:Oc} (h:OutAt Mt B W b ph bh ch sh o) {l:Nat} {ob ob':Obj} (hl:W.heap[l]?=some ob) (hc:ob.isCells=false) (hm:Mt l):OutAt Mt B (W.putObj l ob') b ph bh ch sh o:=by
 have hg:=grownBy_putObj' W l ob';refine h.mtKeep (Keep.grown hg fun k hk=>by cases hk;exact hm) fun j hj=> ?_;have hjc:∃cells t,W.heap[j]?=some (Obj.cells cells t (0,0)):=by
  rcases hj with rfl|hj|hj
  ·exact⟨_,_,h.blk⟩
  ·obtain⟨c,hc⟩:=(h.com.typed j hj).1;exact⟨c,_,hc⟩
  ·obtain⟨c,hc⟩:=(h.sent.typed j hj).1;exact⟨c,_,hc⟩
 obtain⟨c,t,hjc⟩:=hjc;refine hg.block j (blk_lt hjc) fun e=> ?_;cases e;rw[hl]at hjc;cases hjc;cases hc
theorem OutTo.lift {Mt:Nat→Prop} {B:Nat} {w0 W:World} {b:Nat} {ch sh ch' sh':SH} (h:OutTo Mt B w0 b ch sh W ch' sh') {l:Nat} (ob':Obj) (hl:w0.heap.size≤l):OutTo Mt B w0 b ch sh (W.putObj l ob') ch' sh':=by
 have hg:=grownBy_putObj' W l ob';exact⟨⟨Nat.le_trans h.keep0.size hg.size,fun k hk hm=>(hg.block k (Nat.lt_of_lt_of_le hk h.keep0.size) (fun e=>by cases e;omega)).trans (h.keep0.block k hk hm)⟩,h.old0,hg.os.trans h.os,hg.tape.trans h.tape,hg.output.trans h.output⟩
theorem OutW.lift {Mt:Nat→Prop} {B:Nat} {w0 W:World} {b:Nat} {o:Oc} (h:OutW (Ml Mt w0.heap.size) B w0 b o W) {l:Nat} {ob ob':Obj} (hl:W.heap[l]?=some ob) (hc:ob.isCells=false) (hL:l=w0.heap.size∨l=w0.heap.size+1):OutW (Ml Mt w0.heap.size) B w0 b o (W.putObj l ob'):=by
 obtain⟨⟨ph,bh,ch,sh,h1,h2⟩,h3⟩:=h;exact⟨⟨ph,bh,ch,sh,h1.lift (w0:=w0) hl hc (.inr hL),h2.lift ob' (by omega)⟩,fun k hk=>Nat.lt_of_lt_of_le (h3 k hk) (grownBy_putObj' W l ob').size⟩
theorem EvW.lift {Mt:Nat→Prop} {B:Nat} {w0 W:World} {b:Nat} {o:Oc} {x:SE} {e:Ev} (h:EvW (Ml Mt w0.heap.size) B w0 b o x e W) {l:Nat} {ob ob':Obj} (hl:W.heap[l]?=some ob) (hc:ob.isCells=false) (hL:l=w0.heap.size∨l=w0.heap.size+1):EvW (Ml Mt w0.heap.size) B w0 b o x e (W.putObj l ob'):=by
 obtain⟨⟨ph,bh,ch,sh,h1,h2,h4⟩,h3⟩:=h;have hg:=grownBy_putObj' W l ob';exact⟨⟨ph,bh,ch,sh,h1.lift (w0:=w0) hl hc (.inr hL),h2.lift ob' (by omega),h4.keep (Keep.grown hg fun k hk=>by cases hk;exact .inl (.inr hL))⟩,fun k hk=>Nat.lt_of_lt_of_le (h3 k hk) hg.size⟩
theorem EvW.more {Mt:Nat→Prop} {B:Nat} {w0 W W':World} {b:Nat} {o:Oc} {x:SE} {e:Ev} (h:EvW Mt B w0 b o x e W) (k:Below W.heap.size W W'):EvW Mt B w0 b o x e W':=by
 obtain⟨⟨ph,bh,ch,sh,h1,h2,h4⟩,h3⟩:=h;exact⟨⟨ph,bh,ch,sh,h1.more k,h2.trans (OutTo.more k),h4.below k⟩,fun j hj=>Nat.lt_of_lt_of_le (h3 j hj) k.size⟩
structure Rd4 where
 n:Nat
 e:Ev
 bx:List Ev
 x:SE
structure PreR (Mt:Nat→Prop) (B:Nat) (w0:World) (b:Nat) (hz:Int) (progs:List (List OpC)) (o0:Oc) (s:Rd4) (W:World):Prop where
 n:s.n<2000
 box:(Oc.run progs hz s.n o0).box=s.e::s.bx
 lt:s.e.t<hz
 com:(Oc.run progs hz s.n o0).com.length=s.n
 ev:EvW Mt B w0 b {Oc.run progs hz s.n o0 with box:=s.bx} s.x s.e W
theorem OwnEv.read {Mt:Nat→Prop} {B:Nat} {w:World} {h:SH} {es:List Ev} (r:OwnEv Mt B w h es) {w':World} {Mt':Nat→Prop} (hk:Keep Mt w w') (hm:∀k,k<w.heap.size→Mt' k→Mt k) (hb:∀j,h.own=some j→w'.heap[j]?=w.heap[j]?) (hB:∀k,Mt' k→k<B):EvsAt Mt' w' h es:=by
 obtain⟨ss,h1,h2⟩:=r;have h3:Kd.R kE 49 w' B (fun _=>True) (.slice h.A h.n h.c) ss:=R_stay h1 rfl fun j hj=>hb j hj;exact⟨ss,Rd.of_R rfl h3 (fun k hk hm=>by have:=Kd.R_base h3 k hk;have:=hB k hm;omega),h2.imp fun _ _ h=>h.fresh hk hm⟩
structure ProcTo (Mt:Nat→Prop) (w w':World) (o:Oc) (r:Ending):Prop where
 ex:∃(s:SLp) (bh ch sh:SH),r= .returned (.tuple #[.agg #[.int .i64 s.r0,.int .i64 s.r1,.slice s.ps.A s.ps.n s.ps.c,.int .i64 s.sum],.slice bh.A bh.n bh.c,.slice ch.A ch.n ch.c,.slice sh.A sh.n sh.c,.bool o.ov])∧LpAt Mt w' s o.lp∧EvsAt Mt w' bh o.box∧EvsAt Mt w' ch o.com∧EvsAt Mt w' sh o.sent
 below:Below w.heap.size w w'
theorem process_calls {Mt:Nat→Prop} {w:World} (hM:∀k,Mt k→k<w.heap.size) (c:SCf) (x:SLp) (bx:SH) (hz:Int) {lp:Lp} {box:List Ev} {progs:List (List OpC)} (hx:LpAt Mt w x lp) (hb:EvsAt Mt w bx box) (hc:PgsAt Mt w c.pgs progs) (hp:PgsOk progs)
  (hok:∀n,n≤2000→OutOk progs hz (Oc.run progs hz n ⟨lp,box,[],[],false⟩)):
  Calls Tryz.prog 81 #[c.v,x.v,.slice bx.A bx.n bx.c,.int .i64 hz] w fun r w'=>ProcTo Mt w w' (Oc.run progs hz 2000 ⟨lp,box,[],[],false⟩) r:=by
 obtain⟨⟨lA,ln,lc⟩,⟨pA,pn,pc⟩,la,en,cp⟩:=c;obtain⟨r0,r1,⟨sA,sn,sc⟩,sum⟩:=x;obtain⟨bA,bn,bc⟩:=bx;have HM:=am hM;have HX:=am hx;have HB:=am hb;have HC:=am hc;have HP:=am hp;have HOK:=am hok;clear hM hx hb hc hp hok;simp only[SCf.v,SLp.v];refine(callsIn_wide (n:=3)).1 ?_;refine callsIn_of_wp_marks Tryz.func81 rfl trivial ?_ rfl;simp only[Tryz.ntmps81,List.size_toArray,List.length_cons,List.length_nil,Nat.reduceAdd,Nat.reduceSub,Array.replicate_succ,Array.replicate_zero,List.push_toArray,List.append_toArray,List.nil_append,List.cons_append]
 gi_wp2_with (refine⟨trivial,?_⟩;gi_at_call 104;refine(callsIn_wide.2 (eventsF_calls _ _ _)).mono ?_;rintro e w' ⟨rfl,rfl⟩)
 obtain⟨w7,hw7⟩:∃w7,allocs w [.cells #[.slice lA ln lc,.slice pA pn pc,.int .i64 la,.int .i64 en,.int .i64 cp] 25,.cells #[.int .i64 r0,.int .i64 r1,.slice sA sn sc,.int .i64 sum] 91,.cells #[.int .i64 0,.int .i64 0,.slice none 0 0,.int .i64 0] 91,
  .cells #[.int .i64 r0,.int .i64 r1,.slice sA sn sc,.int .i64 sum,.slice bA bn bc,.slice none 0 0,.slice none 0 0,.bool false] TOut,.cells #[.pointer (some ⟨w.heap.size+1+1+1,0,none⟩)] 160,.cells #[.pointer (some ⟨w.heap.size+1+1+1,0,none⟩)] 160,.cells #[.int .i64 hz] 3]=w7:=⟨_,rfl⟩
 show Code.wpIn _ _ _ _ _ _ (allocs w [.cells #[.slice lA ln lc,.slice pA pn pc,.int .i64 la,.int .i64 en,.int .i64 cp] 25,.cells #[.int .i64 r0,.int .i64 r1,.slice sA sn sc,.int .i64 sum] 91,.cells #[.int .i64 0,.int .i64 0,.slice none 0 0,.int .i64 0] 91,
  .cells #[.int .i64 r0,.int .i64 r1,.slice sA sn sc,.int .i64 sum,.slice bA bn bc,.slice none 0 0,.slice none 0 0,.bool false] TOut,.cells #[.pointer (some ⟨w.heap.size+1+1+1,0,none⟩)] 160,.cells #[.pointer (some ⟨w.heap.size+1+1+1,0,none⟩)] 160,.cells #[.int .i64 hz] 3])
 have ha:=fun i o h=>hw7▸allocs_at [.cells #[.slice lA ln lc,.slice pA pn pc,.int .i64 la,.int .i64 en,.int .i64 cp] 25,.cells #[.int .i64 r0,.int .i64 r1,.slice sA sn sc,.int .i64 sum] 91,.cells #[.int .i64 0,.int .i64 0,.slice none 0 0,.int .i64 0] 91,
  .cells #[.int .i64 r0,.int .i64 r1,.slice sA sn sc,.int .i64 sum,.slice bA bn bc,.slice none 0 0,.slice none 0 0,.bool false] TOut,.cells #[.pointer (some ⟨w.heap.size+1+1+1,0,none⟩)] 160,.cells #[.pointer (some ⟨w.heap.size+1+1+1,0,none⟩)] 160,.cells #[.int .i64 hz] 3] w i o h
 have hbs:=hw7▸allocs_below [.cells #[.slice lA ln lc,.slice pA pn pc,.int .i64 la,.int .i64 en,.int .i64 cp] 25,.cells #[.int .i64 r0,.int .i64 r1,.slice sA sn sc,.int .i64 sum] 91,.cells #[.int .i64 0,.int .i64 0,.slice none 0 0,.int .i64 0] 91,
  .cells #[.int .i64 r0,.int .i64 r1,.slice sA sn sc,.int .i64 sum,.slice bA bn bc,.slice none 0 0,.slice none 0 0,.bool false] TOut,.cells #[.pointer (some ⟨w.heap.size+1+1+1,0,none⟩)] 160,.cells #[.pointer (some ⟨w.heap.size+1+1+1,0,none⟩)] 160,.cells #[.int .i64 hz] 3] w
 rw[hw7];have k0:w7.heap[w.heap.size]?=_:=ha 0 _ rfl;have k2:w7.heap[w.heap.size+1+1]?=_:=ha 2 _ rfl;have k3:w7.heap[w.heap.size+1+1+1]?=_:=ha 3 _ rfl;have k4:w7.heap[w.heap.size+1+1+1+1]?=_:=ha 4 _ rfl;have k5:w7.heap[w.heap.size+1+1+1+1+1]?=_:=ha 5 _ rfl;have k6:w7.heap[w.heap.size+1+1+1+1+1+1]?=_:=ha 6 _ rfl;obtain⟨hb7,hs7⟩:=hbs;simp only[List.length_cons,List.length_nil]at hs7;clear ha hw7;have HM7:=am (show∀k,Ml (Mq Mt (w.heap.size+1+1)) w7.heap.size k→k<w.heap.size→Mt k from fun k hk hl=>by
  rcases hk with (hk|rfl)|rfl|rfl
  ·exact hk
  ·omega
  ·omega
  ·omega)
 have hmw:∀k,k<w.heap.size→Mo (Ml (Mq Mt (w.heap.size+1+1)) w7.heap.size) (w.heap.size+1+1+1) .nil .nil k→Mt k:=fun k hk hm=>by
  rcases hm with hm|hm|hm|hm
  ·exact HM7.out k hm hk
  ·omega
  ·cases hm
  ·cases hm
 have hO7:OutAt (Ml (Mq Mt (w.heap.size+1+1)) w7.heap.size) w.heap.size w7 (w.heap.size+1+1+1) ⟨sA,sn,sc⟩ ⟨bA,bn,bc⟩ .nil .nil ⟨lp,box,[],[],false⟩:=
  ⟨hb7.size,by omega,by
   have h1:r0=lp.r0:=HX.out.r0;have h2:r1=lp.r1:=HX.out.r1;have h3:sum=lp.sum:=HX.out.sum;rw[k3,h1,h2,h3];rfl,HX.out.ps.fresh (Keep.of_below hb7) hmw,HB.out.fresh (Keep.of_below hb7) hmw,⟨[],Kd.R_nil _ _ _ _ _,.nil⟩,⟨[],Kd.R_nil _ _ _ _ _,.nil⟩,fun k hk=>by cases hk⟩
 have HO7:=am hO7;have HK0:=am k0;have HK2:=am k2;have HK4:=am k4;have HK5:=am k5;have HK6:=am k6;have HB7:=am hb7;have HS7:=am hs7;clear hO7 k0 k2 k3 k4 k5 k6 hb7 hmw;refine range_put (F:=Fence.wide) (n:=3) rfl (by omega) (gf:=123) (lb:= #[.pointer (some ⟨w.heap.size+1+1+1+1+1,0,none⟩),.pointer (some ⟨w.heap.size+1+1+1+1+1+1,0,none⟩)]) rfl trivial (enters_of Tryz.func123 (by kernel_rfl) rfl) (σ:=Rd4) (fun s=> #[s.x.v]) (fun _=>rfl)
  (fun s W'=>PreR (Ml (Mq Mt (w.heap.size+1+1)) w7.heap.size) w.heap.size w7 (w.heap.size+1+1+1) hz progs ⟨lp,box,[],[],false⟩ s W')
  (fun s W'=>OutW (Ml (Mq Mt (w.heap.size+1+1)) w7.heap.size) w.heap.size w7 (w.heap.size+1+1+1) (Oc.run progs hz (s.n+1) ⟨lp,box,[],[],false⟩) W')
  (fun W'=>OutW (Ml (Mq Mt (w.heap.size+1+1)) w7.heap.size) w.heap.size w7 (w.heap.size+1+1+1) (Oc.run progs hz 2000 ⟨lp,box,[],[],false⟩) W')
  (fun s W' o o' hs hl hc=>hs.lift hl hc (.inr rfl)) (fun s W' o o' hs hl hc=>hs.lift hl hc (.inr rfl)) ?iter
  (fun s a' W'=>∃Bx,w7.heap.size≤Bx∧EvBox W' Bx s.x∧PreR (Ml (Mq Mt (w.heap.size+1+1)) w7.heap.size) w.heap.size w7 (w.heap.size+1+1+1) hz progs ⟨lp,box,[],[],false⟩ s W'∧a'={tmps:= #[.agg #[.slice lA ln lc,.slice pA pn pc,.int .i64 la,.int .i64 en,.int .i64 cp],.agg #[.int .i64 r0,.int .i64 r1,.slice sA sn sc,.int .i64 sum],.slice bA bn bc,.int .i64 hz,.pointer (some ⟨w.heap.size,0,none⟩),.pointer (some ⟨w.heap.size+1,0,none⟩),undef,undef,.pointer (some ⟨w.heap.size+1+1,0,none⟩),.slice none 0 0,.slice none 0 0,.slice none 0 0,.bool false,.pointer (some ⟨w.heap.size+1+1+1+1,0,none⟩),.pointer (some ⟨Bx,0,none⟩),.agg #[.int .i64 r0,.int .i64 r1,.slice sA sn sc,.int .i64 sum],.slice bA bn bc,.agg #[.int .i64 r0,.int .i64 r1,.slice sA sn sc,.int .i64 sum,.slice bA bn bc,.slice none 0 0,.slice none 0 0,.bool false],.pointer (some ⟨w.heap.size+1+1+1,0,none⟩),.pointer (some ⟨w.heap.size+1+1+1,0,none⟩),.int .i64 hz,.func (.func 123) #[] #[.pointer (some ⟨w.heap.size+1+1+1+1+1,0,none⟩),.pointer (some ⟨w.heap.size+1+1+1+1+1+1,0,none⟩)],s.x.v,undef,undef,undef,undef,undef,undef,undef,undef,undef,undef,undef],defers:=[]})
  ?hax ?assign ?body ?done
 case iter=>
  intro l Rc W1 hb1 hz1 hRcK hYld hRc1;have hbl:w.heap.size+1+1+1<w7.heap.size:=by have:=HS7.out;omega
  refine events_in (Mt:=Ml (Mq Mt (w.heap.size+1+1)) w7.heap.size) (B:=w.heap.size) (w0:=w7) (b:=w.heap.size+1+1+1) (progs:=progs) (o0:=⟨lp,box,[],[],false⟩) (by simp[World.cell?,HK5.out]) (by simp[World.cell?,HK6.out]) (by omega) (by omega) HOK.out rfl Rc (fun A C h k=>hRcK A C h (k.mono fun j _ e=>by rw[e];exact hbl)) ?_ ?_ hRc1
  ·exact fun n e bx x W hn hb ht hc hev hRc=>hYld ⟨n,e,bx,x⟩ W ⟨hn,hb,ht,hc,hev⟩ hRc
  ·exact⟨⟨_,_,_,_,HO7.out.more hb1,OutTo.more hb1⟩,fun k hk=>by
    have h7:=HS7.out;have h8:=hb1.size;rcases hk with (hk|rfl)|rfl|rfl
    ·have:=HM.out k hk;omega
    ·omega
    ·omega
    ·omega⟩
 case hax=>
  rintro s a' _ W' o o' ⟨Bx,h1,h2,h3,h4⟩ hl hc;refine⟨Bx,h1,?_,⟨h3.n,h3.box,h3.lt,h3.com,h3.ev.lift hl hc (.inr rfl)⟩,h4⟩;have h5:W'.heap[Bx]?=_:=h2;refine((grownBy_putObj' W' _ o').block Bx (blk_lt h5) fun e=> ?_).trans h5;cases e;rw[h5]at hl;cases hl;cases hc
 case assign=>
  rintro l ⟨n,e,bx,⟨xt,⟨xA,xn,xc⟩,xl,xd,xp,xa⟩⟩ W' K hpre hK;simp only[SE.v]
  gi_wp2
  have hb2:=below_alloc (Below.refl W'.heap.size W') (.cells #[.int .i64 xt,.slice xA xn xc,.int .i64 xl,.int .i64 xd,.int .i64 xp,.int .i64 xa] 49);refine hK _ _ ((KeepsOthers.alloc _ _).from _) ⟨W'.heap.size,?_,World.alloc_heap_new _ _,⟨hpre.n,hpre.box,hpre.lt,hpre.com,hpre.ev.more hb2⟩,rfl⟩;obtain⟨⟨_,_,_,_,_,hT,_⟩,_⟩:=hpre.ev;exact hT.keep0.size
 case body=>
  rintro l ⟨n,e,bx,⟨xt,⟨xA,xn,xc⟩,xl,xd,xp,xa⟩⟩ a' W' ⟨Bx,hBx,hbox,hpre,rfl⟩;obtain⟨hn,hbx,hlt,hcl,⟨⟨ph,bh,ch,sh,hO,hT,hE⟩,hmt⟩⟩:=hpre;simp only at hn hbx hlt hcl hE hO;have hmm:∀k,k<w.heap.size→Mo (Ml (Mq Mt (w.heap.size+1+1)) w7.heap.size) (w.heap.size+1+1+1) ch sh k→M0 (w.heap.size+1+1+1) SH.nil SH.nil k∨Mt k:=fun k hk hm=>by
   rcases hm with hm|hm
   ·exact .inr (HM7.out k hm hk)
   ·exact .inl (hT.old0 k (by have:=HS7.out;omega) (.inr hm))
  have hold:∀k,k<w7.heap.size→k≠w.heap.size+1+1+1→W'.heap[k]?=w7.heap[k]?:=fun k hk hne=>hT.keep0.block k hk fun hm=>hne (nil_m0 hm);have k0:=(hold _ (blk_lt HK0.out) (by omega)).trans HK0.out;have k4:=(hold _ (blk_lt HK4.out) (by omega)).trans HK4.out;have hC:PgsAt (Mo (Ml (Mq Mt (w.heap.size+1+1)) w7.heap.size) (w.heap.size+1+1+1) ch sh) W' ⟨pA,pn,pc⟩ progs:=by
   obtain⟨hs,h1,h2⟩:=HC.out;have hk:Keep (fun k=>k=w.heap.size+1+1+1) w W':=(Keep.of_below HB7.out).trans (hT.keep0.mono fun k _ hm=>nil_m0 hm);have hm:∀k,k<w.heap.size→Mo (Ml (Mq Mt (w.heap.size+1+1)) w7.heap.size) (w.heap.size+1+1+1) ch sh k→Mt k:=fun k hk hm=>by
    rcases hmm k hk hm with h3|h3
    ·have:=nil_m0 h3;omega
    ·exact h3
   have hk2:Keep Mt w W':=⟨hk.size,fun k hk3 hn=>hk.block k hk3 (by omega)⟩;exact⟨hs,h1.fresh hk2 hm,h2.imp fun _ _ h=>h.fresh hk2 hm⟩
  have hpr:=(HOK.out n (by omega)).pre e bx hbx hlt;have HEX:=am (oexec_calls hO hmt ⟨⟨lA,ln,lc⟩,⟨pA,pn,pc⟩,la,en,cp⟩ ⟨xt,⟨xA,xn,xc⟩,xl,xd,xp,xa⟩ hC hE hpr.1 HP.out hpr.2 ((HOK.out n (by omega)).bd.tail hbx));have HNX:=am (Oc.run_next hbx hlt);have HO:=am hO;have HT:=am hT;have HMT:=am hmt;have c4:W'.cell? ⟨w.heap.size+1+1+1+1,0,none⟩=some (.pointer (some ⟨w.heap.size+1+1+1,0,none⟩)):=by simp[World.cell?,k4]
  have d0:W'.cell? ⟨w.heap.size,0,none⟩=some (.slice lA ln lc):=by simp[World.cell?,k0]
  have d1:W'.cell? ⟨w.heap.size,1,none⟩=some (.slice pA pn pc):=by simp[World.cell?,k0]
  have d2:W'.cell? ⟨w.heap.size,2,none⟩=some (.int .i64 la):=by simp[World.cell?,k0]
  have d3:W'.cell? ⟨w.heap.size,3,none⟩=some (.int .i64 en):=by simp[World.cell?,k0]
  have d4:W'.cell? ⟨w.heap.size,4,none⟩=some (.int .i64 cp):=by simp[World.cell?,k0]
  obtain⟨e0,e1,e2,e3,e4,e5⟩:=hbox.cells;simp only at e0 e1 e2 e3 e4 e5;clear hn hbx hlt hcl hE hO hT hmt hmm hold k0 k4 hC hpr;simp only[SE.v]
  gi_wp2_with (refine⟨trivial,?_⟩;gi_at_call 105;refine(CallsIn.inRound l (callsIn_wide.2 HEX.out)).mono ?_;rintro e w' ⟨rfl,ph',bh',ch',sh',hO',hT'⟩)
  refine⟨⟨hT'.keep0.size,fun k o hk ho hc=>(hT'.keep0.block k (Array.getElem?_eq_some_iff.1 ho).1 fun hm=> ?_).trans ho⟩,?_⟩
  ·have hcc:∃cells t,W'.heap[k]?=some (Obj.cells cells t (0,0)):=by
    rcases hm with hm|rfl|hm|hm
    ·exact hm.elim
    ·exact⟨_,_,HO.out.blk⟩
    ·obtain⟨c,hc⟩:=(HO.out.com.typed k hm).1;exact⟨c,_,hc⟩
    ·obtain⟨c,hc⟩:=(HO.out.sent.typed k hm).1;exact⟨c,_,hc⟩
   obtain⟨c2,t2,hcc⟩:=hcc;rw[ho]at hcc;cases hcc;cases hc
  ·show OutW (Ml (Mq Mt (w.heap.size+1+1)) w7.heap.size) w.heap.size w7 (w.heap.size+1+1+1) (Oc.run progs hz (n+1) ⟨lp,box,[],[],false⟩) w';rw[HNX.out];exact⟨⟨_,_,_,_,hO',HT.out.trans hT'⟩,fun k hk=>Nat.lt_of_lt_of_le (HMT.out k hk) hT'.keep0.size⟩
 case done=>
  rintro W' hfin hK;obtain⟨⟨ph,bh,ch,sh,hO,hT⟩,hmt⟩:=hfin;obtain⟨o,ho⟩:∃o,Oc.run progs hz 2000 ⟨lp,box,[],[],false⟩=o:=⟨_,rfl⟩;rw[ho]at hO;have HO:=am hO;have HT:=am hT;have HON:=am ho;have HUN:=am (unpack_calls hO);have HKD:=am hK;have k4:=(hT.keep0.block _ (blk_lt HK4.out) (fun hm=>by have:=nil_m0 hm;omega)).trans HK4.out;have k2:=(hT.keep0.block _ (blk_lt HK2.out) (fun hm=>by have:=nil_m0 hm;omega)).trans HK2.out;have c4:W'.cell? ⟨w.heap.size+1+1+1+1,0,none⟩=some (.pointer (some ⟨w.heap.size+1+1+1,0,none⟩)):=by simp[World.cell?,k4]
  have HK2':=am k2;clear ho hO hT hmt k4 k2 hK
  gi_wp2_with (fail)
  refine⟨trivial,?_⟩;refine(callsIn_wide.2 HUN.out).mono ?_;rintro e w8 ⟨rfl,hb8⟩;have kk:=box_more hb8 HK2'.out;have z0:w8.cell? ⟨w.heap.size+1+1,0,none⟩=some (.int .i64 0):=by simp[World.cell?,kk]
  have z1:w8.cell? ⟨w.heap.size+1+1,1,none⟩=some (.int .i64 0):=by simp[World.cell?,kk]
  have z2:w8.cell? ⟨w.heap.size+1+1,2,none⟩=some (.slice none 0 0):=by simp[World.cell?,kk]
  have z3:w8.cell? ⟨w.heap.size+1+1,3,none⟩=some (.int .i64 0):=by simp[World.cell?,kk]
  have y0:w8.frozen? ⟨w.heap.size+1+1,0,none⟩=false:=blk_frozen kk 0;have y1:w8.frozen? ⟨w.heap.size+1+1,1,none⟩=false:=blk_frozen kk 1;have y2:w8.frozen? ⟨w.heap.size+1+1,2,none⟩=false:=blk_frozen kk 2;have y3:w8.frozen? ⟨w.heap.size+1+1,3,none⟩=false:=blk_frozen kk 3;have HB8:=am hb8;have HKK:=am kk;clear kk hb8
  gi_wp2_with (fail)
  obtain⟨w9,hw9⟩:∃w9,(((w8.setCell ⟨w.heap.size+1+1,0,none⟩ (.int .i64 o.lp.r0)).setCell ⟨w.heap.size+1+1,1,none⟩ (.int .i64 o.lp.r1)).setCell ⟨w.heap.size+1+1,2,none⟩ (.slice ph.A ph.n ph.c)).setCell ⟨w.heap.size+1+1,3,none⟩ (.int .i64 o.lp.sum)=w9:=⟨_,rfl⟩;rw[hw9];obtain⟨p5,hg⟩:=lp_stored HKK.out ⟨o.lp.r0,o.lp.r1,ph,o.lp.sum⟩ hw9;simp only at p5;have hkd:w9.heap[w.heap.size+7]?=some (.deferred (some [])):=by
   have h1:=box_more HB8.out HKD.out;rw[hs7]at h1;exact(hg.block _ (blk_lt h1) (fun e=>by injection e with e;omega)).trans h1
  have p6:(w9.putObj (w.heap.size+7) (.deferred none)).heap[w.heap.size+1+1]?=some (.cells #[.int .i64 o.lp.r0,.int .i64 o.lp.r1,.slice ph.A ph.n ph.c,.int .i64 o.lp.sum] 91 (0,0)):=((grownBy_putObj' w9 _ _).block _ (blk_lt p5) (fun e=>by injection e with e;omega)).trans p5;obtain⟨wx,hwx⟩:∃wx,w9.putObj (w.heap.size+7) (.deferred none)=wx:=⟨_,rfl⟩;have o0:wx.cell? ⟨w.heap.size+1+1,0,none⟩=some (.int .i64 o.lp.r0):=by rw[←hwx];simp[World.cell?,p6]
  have o1:wx.cell? ⟨w.heap.size+1+1,1,none⟩=some (.int .i64 o.lp.r1):=by rw[←hwx];simp[World.cell?,p6]
  have o2:wx.cell? ⟨w.heap.size+1+1,2,none⟩=some (.slice ph.A ph.n ph.c):=by rw[←hwx];simp[World.cell?,p6]
  have o3:wx.cell? ⟨w.heap.size+1+1,3,none⟩=some (.int .i64 o.lp.sum):=by rw[←hwx];simp[World.cell?,p6]
  have hgx:=grownBy_putObj' w9 (w.heap.size+7) (.deferred none);rw[hwx]at hgx;have hL:Keep (Mo (Ml (Mq Mt (w.heap.size+1+1)) w7.heap.size) (w.heap.size+1+1+1) ch sh) W' wx:=
   ((Keep.of_below HB8.out).trans (Keep.grown hg fun k hk=>by cases hk;exact .inl (.inl (.inr rfl)))).trans (Keep.grown hgx fun k hk=>by cases hk;exact .inl (.inr (.inl hs7.symm)))
  have hin:∀k,k<W'.heap.size→Mt k→Mo (Ml (Mq Mt (w.heap.size+1+1)) w7.heap.size) (w.heap.size+1+1+1) ch sh k:=fun k _ h=> .inl (.inl (.inl h));have hown:∀(h2:SH) (es:List Ev),OwnEv (Mo (Ml (Mq Mt (w.heap.size+1+1)) w7.heap.size) (w.heap.size+1+1+1) ch sh) w.heap.size W' h2 es→∀j,h2.own=some j→wx.heap[j]?=W'.heap[j]?:=fun h2 es r j hj=>by
   obtain⟨⟨c,hc⟩,_,hjl⟩:=r.typed j hj;have e1:=HB8.out.block j hjl;have e2:w9.heap[j]?=w8.heap[j]?:=hg.block j (Nat.lt_of_lt_of_le hjl HB8.out.size) fun e=>by
    cases e;rw[←e1,HKK.out]at hc;cases hc
   have e3:wx.heap[j]?=w9.heap[j]?:=hgx.block j (by have:=hg.size;have:=HB8.out.size;omega) fun e=>by
    cases e;rw[←e1,←e2,hkd]at hc;cases hc
   exact e3.trans (e2.trans e1)
  have hfin:ProcTo Mt w wx o (.returned (.tuple #[.agg #[.int .i64 o.lp.r0,.int .i64 o.lp.r1,.slice ph.A ph.n ph.c,.int .i64 o.lp.sum],.slice bh.A bh.n bh.c,.slice ch.A ch.n ch.c,.slice sh.A sh.n sh.c,.bool o.ov])):=by
   refine⟨⟨⟨o.lp.r0,o.lp.r1,ph,o.lp.sum⟩,bh,ch,sh,rfl,⟨rfl,rfl,HO.out.ps.fresh hL hin,rfl⟩,HO.out.box.fresh hL hin,HO.out.com.read hL hin (hown _ _ HO.out.com) HM.out,HO.out.sent.read hL hin (hown _ _ HO.out.sent) HM.out⟩,?_⟩;have hT:=HT.out;have b1:Below w.heap.size w W':=HB7.out.trans ⟨hT.os,hT.tape,hT.output,hT.keep0.size,fun k hk=>hT.keep0.block k (by omega) fun hm=>by have:=nil_m0 hm;omega⟩;have b2:Below w.heap.size w w9:=below_grown (b1.trans (HB8.out.mono b1.size)) hg (by omega);exact below_grown b2 hgx (by omega)
  refine⟨by simp,.inl ⟨_,_,rfl,run_takeDeferred hkd,?_⟩⟩;rw[hwx];refine⟨.tuple #[.agg #[.int .i64 o.lp.r0,.int .i64 o.lp.r1,.slice ph.A ph.n ph.c,.int .i64 o.lp.sum],.slice bh.A bh.n bh.c,.slice ch.A ch.n ch.c,.slice sh.A sh.n sh.c,.bool o.ov],by simp[results,Tryz.results81,go_sem,o0,o1,o2,o3],?_⟩;rw[HON.out];exact hfin
end Go.Proofs.YtfnimdhghglanaaGreat.Hand
end
section
end
section
namespace Go.Proofs.YtfnimdhghglanaaGreatW.PrintWords
theorem Reps.one {α:Type} {R:α→List Value→Prop} {ps:List α} {cs:List Value} {p:α} {v:Value} (hp:R p [v]) (h:Reps R 1 ps cs):Reps R 1 (p::ps) (v::cs):=by
 refine⟨by simp[h.1],fun j q hq=> ?_⟩;cases j with
 |zero=>
  simp only[List.getElem?_cons_zero,Option.some.injEq]at hq;subst hq
  simpa using hp
 |succ j=>
  simp only[List.getElem?_cons_succ]at hq;have h1:=h.2 j q hq
  simpa [Nat.mul_one]using h1
theorem Reps.front {α:Type} {R:α→List Value→Prop} {size:Nat} {ps:List α} {cs c all:List Value} {p:α} (hp:R p c) (hc:c.length=size) (h:Reps R size ps cs) (ha:c++cs=all):Reps R size (p::ps) all:=by
 subst ha;refine⟨by rw[List.length_append,hc,h.1,List.length_cons,Nat.succ_mul,Nat.add_comm],fun j q hq=> ?_⟩;cases j with
 |zero=>
  simp only[List.getElem?_cons_zero,Option.some.injEq]at hq;subst hq;rw[Nat.zero_mul,List.drop_zero,List.take_append_of_le_length (by omega),List.take_of_length_le (by omega)];exact hp
 |succ j=>
  simp only[List.getElem?_cons_succ]at hq;have h1:=h.2 j q hq;rw[Nat.succ_mul,List.drop_append,List.drop_of_length_le (by rw[hc];exact Nat.le_add_left _ _),List.nil_append,hc,Nat.add_sub_cancel];exact h1
theorem Reps.c2 {α:Type} {R:α→List Value→Prop} {ps:List α} {cs:List Value} {p:α} {va vb:Value} (hp:R p [va,vb]) (h:Reps R 2 ps cs):Reps R 2 (p::ps) (va::vb::cs):=Reps.front hp rfl h rfl
theorem Reps.c3 {α:Type} {R:α→List Value→Prop} {ps:List α} {cs:List Value} {p:α} {va vb vc:Value} (hp:R p [va,vb,vc]) (h:Reps R 3 ps cs):Reps R 3 (p::ps) (va::vb::vc::cs):=Reps.front hp rfl h rfl
theorem Reps.c4 {α:Type} {R:α→List Value→Prop} {ps:List α} {cs:List Value} {p:α} {va vb vc vd:Value} (hp:R p [va,vb,vc,vd]) (h:Reps R 4 ps cs):Reps R 4 (p::ps) (va::vb::vc::vd::cs):=Reps.front hp rfl h rfl
theorem Reps.c5 {α:Type} {R:α→List Value→Prop} {ps:List α} {cs:List Value} {p:α} {va vb vc vd ve:Value} (hp:R p [va,vb,vc,vd,ve]) (h:Reps R 5 ps cs):Reps R 5 (p::ps) (va::vb::vc::vd::ve::cs):=Reps.front hp rfl h rfl
theorem Reps.c6 {α:Type} {R:α→List Value→Prop} {ps:List α} {cs:List Value} {p:α} {va vb vc vd ve vf:Value} (hp:R p [va,vb,vc,vd,ve,vf]) (h:Reps R 6 ps cs):Reps R 6 (p::ps) (va::vb::vc::vd::ve::vf::cs):=Reps.front hp rfl h rfl
theorem Reps.c7 {α:Type} {R:α→List Value→Prop} {ps:List α} {cs:List Value} {p:α} {va vb vc vd ve vf vg:Value} (hp:R p [va,vb,vc,vd,ve,vf,vg]) (h:Reps R 7 ps cs):Reps R 7 (p::ps) (va::vb::vc::vd::ve::vf::vg::cs):=Reps.front hp rfl h rfl
theorem Reps.c8 {α:Type} {R:α→List Value→Prop} {ps:List α} {cs:List Value} {p:α} {va vb vc vd ve vf vg vh:Value} (hp:R p [va,vb,vc,vd,ve,vf,vg,vh]) (h:Reps R 8 ps cs):Reps R 8 (p::ps) (va::vb::vc::vd::ve::vf::vg::vh::cs):=Reps.front hp rfl h rfl
theorem Reps.c9 {α:Type} {R:α→List Value→Prop} {ps:List α} {cs:List Value} {p:α} {va vb vc vd ve vf vg vh vi:Value} (hp:R p [va,vb,vc,vd,ve,vf,vg,vh,vi]) (h:Reps R 9 ps cs):Reps R 9 (p::ps) (va::vb::vc::vd::ve::vf::vg::vh::vi::cs):=Reps.front hp rfl h rfl
theorem Reps.c10 {α:Type} {R:α→List Value→Prop} {ps:List α} {cs:List Value} {p:α} {va vb vc vd ve vf vg vh vi vj:Value} (hp:R p [va,vb,vc,vd,ve,vf,vg,vh,vi,vj]) (h:Reps R 10 ps cs):Reps R 10 (p::ps) (va::vb::vc::vd::ve::vf::vg::vh::vi::vj::cs):=Reps.front hp rfl h rfl
end Go.Proofs.YtfnimdhghglanaaGreatW.PrintWords
end
section
end
section
namespace Go.Proofs.YtfnimdhghglanaaGreat.Sch
open Go.RowKit Go.Proofs.YtfnimdhghglanaaGreatW.PrintWords Go.Proofs.YtfnimdhghglanaaGreatW.PrintLast Go.Proofs.YtfnimdhghglanaaGreatW.PrintMore
attribute [local go_sem] max2_int min2_int max_two min_two max_three min_three max_four min_four
theorem info3:(Tryz.prog.info? 3).map (fun i=>(i.zero,i.size,i.bytes))=some (some (.int .i64 0),1,8):=by kernel_rfl
end Go.Proofs.YtfnimdhghglanaaGreat.Sch
end
