/- TopErrorPrefix, part 14 of 41; no condition. (Printed from the session's own texts: what is not used left out, spaces spared.) -/
import Derived.Test.YtfnimdhghglanaaGreatQeAM
import Derived.Maps.AppendAt
set_option maxRecDepth 100000
set_option maxHeartbeats 8000000
set_option linter.unusedVariables false
set_option linter.unusedSimpArgs false
section
namespace Go.Proofs.YtfnimdhghglanaaGreat.Hand
open Go.RowKit Go.Shelf Go.Proofs.YtfnimdhghglanaaGreatW.PrintWords Go.Proofs.YtfnimdhghglanaaGreatW.PrintLast Go.Proofs.YtfnimdhghglanaaGreatW.PrintMore
attribute [local go_sem] max2_int min2_int max_two min_two max_three min_three max_four min_four
attribute [local go_sem] Oper.semAt_some
structure Sg where
 pre:List SE
 la:List SE
 lb:List SE
 x:SE
def IA (W:World) (B base qa qb:Nat) (pre:List SE) (W':World):Prop:=(∃v,Boxed W' B 47 v∧W'.ownsRow base 49 6 v pre.length (fl pre))∧KeepO (fun k=>k=qa∨k=qb) W W'
theorem IA.keep {W A C:World} {B base qa qb:Nat} {pre:List SE} (h:IA W B base qa qb pre A) (hqa:qa<B) (hqb:qb<B) (hB:B≤base) (k:KeepO (fun k=>k=qa∨k=qb) A C):IA W B base qa qb pre C:=by
 obtain⟨⟨v,h1,h2⟩,h3⟩:=h;refine⟨⟨v,(k.keep.block B h1.lt (by omega)).trans h1,own_move h2 fun j hj=> ?_⟩,h3.trans k⟩;have:=own_base h2 j hj;exact k.keep.block j (own_lt h2 j hj) (by omega)
theorem IA.own {W:World} {B base qa qb n0:Nat} (hW:W.heap.size≤n0):OwnFrom n0 (fun pre W'=>IA W B base qa qb pre W'):=by
 rintro pre A C row ⟨⟨v,h1,h2⟩,h3⟩ hg hr;refine⟨⟨v,h1.kept hg (fun e=> ?_),own_move h2 fun j hj=> ?_⟩,⟨⟨Nat.le_trans h3.keep.size hg.size,fun k hk hm=>(hg.block k (Nat.lt_of_lt_of_le hk h3.keep.size) (fun e=> ?_)).trans (h3.keep.block k hk hm)⟩,hg.os.trans h3.os,hg.tape.trans h3.tape,hg.output.trans h3.output⟩⟩
 ·obtain⟨_,o,ho,hc⟩:=hr B e.symm;rw[show A.heap[B]?=_ from h1]at ho;cases ho;cases hc
 ·refine hg.block j (own_lt h2 j hj) fun e=> ?_;obtain⟨_,o,ho,hc⟩:=hr j e.symm;obtain⟨cells,ht⟩:=own_typed h2 j hj;rw[ht]at ho;cases ho;cases hc
 ·have:=(hr k e.symm).1;omega
theorem It.own {Mt:Nat→Prop} {wb:World} {qa qb n0:Nat} (hW:wb.heap.size≤n0) (hqa:qa<n0) (hqb:qb<n0) (la lb:List SE):OwnFrom n0 (fun(_:Unit) W=>It Mt wb qa qb la lb W):=by
 rintro _ A C row ⟨h1,⟨ha,hb,c1,c2,r1,r2⟩,h3,h4⟩ hg hr;have hb1:∀k,k<n0→k<A.heap.size→C.heap[k]?=A.heap[k]?:=fun k hk hl=>hg.block k hl fun e=>by have:=(hr k e.symm).1;omega
 have l1:=World.block_lt_of_cell? A _ c1;have l2:=World.block_lt_of_cell? A _ c2;exact⟨⟨Nat.le_trans h1.size hg.size,fun k hk hm=>(hb1 k (by omega) (Nat.lt_of_lt_of_le hk h1.size)).trans (h1.block k hk hm)⟩,⟨ha,hb,by simpa only[World.cell?,hb1 qa hqa l1]using c1,by simpa only[World.cell?,hb1 qb hqb l2]using c2,r1,r2⟩,
  by simpa only[World.frozen?,hb1 qa hqa l1]using h3,by simpa only[World.frozen?,hb1 qb hqb l2]using h4⟩
theorem It.move {Mt:Nat→Prop} {wb:World} {qa qb:Nat} {la lb:List SE} {A C:World} (h:It Mt wb qa qb la lb A) (n0:Nat) (hW:wb.heap.size≤n0) (hqa:qa<n0) (hqb:qb<n0) (hs:A.heap.size≤C.heap.size) (hb1:∀k,k<n0→k<A.heap.size→C.heap[k]?=A.heap[k]?):It Mt wb qa qb la lb C:=by
 obtain⟨h1,⟨ha,hb,c1,c2,r1,r2⟩,h3,h4⟩:=h;have l1:=World.block_lt_of_cell? A _ c1;have l2:=World.block_lt_of_cell? A _ c2;exact⟨⟨Nat.le_trans h1.size hs,fun k hk hm=>(hb1 k (by omega) (Nat.lt_of_lt_of_le hk h1.size)).trans (h1.block k hk hm)⟩,⟨ha,hb,by simpa only[World.cell?,hb1 qa hqa l1]using c1,by simpa only[World.cell?,hb1 qb hqb l2]using c2,r1,r2⟩,
  by simpa only[World.frozen?,hb1 qa hqa l1]using h3,by simpa only[World.frozen?,hb1 qb hqb l2]using h4⟩
def EvBox (W:World) (b:Nat) (x:SE):Prop:=W.heap[b]?=some (.cells #[.int .i64 x.t,.slice x.k.A x.k.n x.k.c,.int .i64 x.lp,.int .i64 x.kd,.int .i64 x.pr,.int .i64 x.ar] 49 (0,0))
theorem EvBox.cells {W:World} {b:Nat} {x:SE} (h:EvBox W b x):W.cell? ⟨b,0,none⟩=some (.int .i64 x.t)∧W.cell? ⟨b,1,none⟩=some (.slice x.k.A x.k.n x.k.c)∧W.cell? ⟨b,2,none⟩=some (.int .i64 x.lp)∧W.cell? ⟨b,3,none⟩=some (.int .i64 x.kd)∧W.cell? ⟨b,4,none⟩=some (.int .i64 x.pr)∧W.cell? ⟨b,5,none⟩=some (.int .i64 x.ar):=by
 have h:W.heap[b]?=_:=h;refine⟨?_,?_,?_,?_,?_,?_⟩<;>simp[World.cell?,h]
theorem appendSeq_calls {W:World} {qa qb:Nat} {la lb:List SE} (cmp:SE→SE→Int) (hq:qa≠qb) (hqa:qa<W.heap.size) (hqb:qb<W.heap.size) (hla:la.length≤1000000) (hlb:lb.length≤1000000) (hit:It (fun k=>k=qa∨k=qb) W qa qb la lb W)
  (hcmp:∀W',Keep (fun k=>k=qa∨k=qb) W W'→∀y x,y∈lb→x∈la→Calls Tryz.prog 103 #[y.v,x.v] W' fun e w'=>e= .returned (.int .i64 (cmp y x))∧Below W'.heap.size W' w'):
  Calls Tryz.prog 131 #[.slice none 0 0,.func (.func 132) #[] #[.pointer (some ⟨qa,0,none⟩),.pointer (some ⟨qb,0,none⟩)]] W fun e w'=>
   ∃v,e= .returned v∧Kd.R kE 49 w' W.heap.size (fun _=>True) v (mergeL cmp la lb)∧KeepO (fun k=>k=qa∨k=qb) W w':=by
 have hone:1≤3-1-1:=by omega
 refine(callsIn_wide (n:=3)).1 ?_;refine callsIn_of_wp_marks Tryz.func131 rfl trivial ?_ rfl;simp only[Tryz.ntmps131,List.size_toArray,List.length_cons,List.length_nil,Nat.reduceAdd,Nat.reduceSub,Array.replicate_succ,Array.replicate_zero,List.push_toArray,List.append_toArray,List.nil_append,List.cons_append]
 gi_wp2
 have hb0:=below_alloc (Below.refl W.heap.size W) (.cells #[.slice none 0 0] 47);have hbx:=Boxed.new W 47 (.slice none 0 0);have hsz:=World.size_alloc W (.cells #[.slice none 0 0] 47);obtain⟨w,hw⟩:∃w,W.alloc (.cells #[.slice none 0 0] 47)=w:=⟨_,rfl⟩;rw[hw]at hb0 hbx hsz ⊢;obtain⟨B,hB⟩:∃B,W.heap.size=B:=⟨_,rfl⟩;rw[hB]at hbx hsz hqa hqb;have hle:W.heap.size≤w.heap.size:=by omega
 have hI0:IA W B B qa qb [] w:=⟨⟨_,hbx,World.ownsRow_nil _ _ _ _⟩,KeepO.of_below hb0⟩;have hit0:It (fun k=>k=qa∨k=qb) W qa qb la lb w:=hit.below (.inl rfl) (.inr rfl) hb0;refine range_own (F:=Fence.wide) (n:=3) rfl (by omega) (gf:=132) (lb:= #[.pointer (some ⟨qa,0,none⟩),.pointer (some ⟨qb,0,none⟩)]) rfl trivial (enters_of Tryz.func132 (by kernel_rfl) rfl) (σ:=Sg) (fun s=> #[s.x.v]) (fun _=>rfl)
  (fun s W'=>s.pre.length<la.length+lb.length∧IA W B B qa qb s.pre W'∧It (fun k=>k=qa∨k=qb) W qa qb s.la s.lb W')
  (fun s W'=>IA W B B qa qb (s.pre++[s.x]) W'∧It (fun k=>k=qa∨k=qb) W qa qb s.la s.lb W')
  (fun W'=>IA W B B qa qb (mergeL cmp la lb) W')
  (fun s A C row hs hg hr=>⟨IA.own hle _ A C row hs.1 hg hr,It.own hle (by omega) (by omega) _ _ () A C row hs.2 hg hr⟩)
  (fun _ A C row hs hg hr=>IA.own hle _ A C row hs hg hr) ?iter
  (fun s a' W'=>∃Bx,s.pre.length<la.length+lb.length∧w.heap.size≤Bx∧EvBox W' Bx s.x∧IA W B B qa qb s.pre W'∧It (fun k=>k=qa∨k=qb) W qa qb s.la s.lb W'∧a'={tmps:= #[.slice none 0 0,(.func (.func 132) #[] #[.pointer (some ⟨qa,0,none⟩),.pointer (some ⟨qb,0,none⟩)]),.pointer (some ⟨B,0,none⟩),undef,.slice none 0 0,.pointer (some ⟨Bx,0,none⟩),(.func (.func 132) #[] #[.pointer (some ⟨qa,0,none⟩),.pointer (some ⟨qb,0,none⟩)]),s.x.v,undef,undef,undef,undef,undef],defers:=[]})
  ?hax ?assign ?body ?done
 case iter=>
  intro l Rc W1 hb1 hRcK hYld hRc1;have:=merged_in (Mt:=fun k=>k=qa∨k=qb) (wb:=W) (m:=1) (l:=l) cmp la lb hq (.inl rfl) (.inr rfl) hla hlb (IA W B B qa qb) (fun pre A C h k=>h.keep hqa hqb (Nat.le_refl _) k) Rc (fun A C h k=>hRcK A C h (k.mono (fun j _ e=>by omega))) hcmp
   (fun pre la lb x W' hl hI hIt hRc=>hYld ⟨pre,la,lb,x⟩ W' ⟨hl,hI,hIt⟩ hRc) (W:=W1) (hI0.keep hqa hqb (Nat.le_refl _) (KeepO.of_below hb1)) (hit0.below (.inl rfl) (.inr rfl) hb1) hRc1
  exact this
 case hax=>
  rintro s a' _ A C row ⟨Bx,h0,h1,h2,h3,h4,h5⟩ hg hr;refine⟨Bx,h0,h1,(hg.block Bx (Array.getElem?_eq_some_iff.1 (show A.heap[Bx]?=_ from h2)).1 (fun e=> ?_)).trans h2,IA.own hle _ A C row h3 hg hr,It.own hle (by omega) (by omega) _ _ () A C row h4 hg hr,h5⟩;obtain⟨_,o,ho,hc⟩:=hr Bx e.symm;rw[show A.heap[Bx]?=_ from h2]at ho;cases ho;cases hc
 case assign=>
  rintro l ⟨pre,la',lb',⟨xt,⟨xA,xn,xc⟩,xl,xd,xp,xa⟩⟩ W' K ⟨hln,hI,hIt⟩ hK;simp only[SE.v]
  gi_wp2
  have hb2:=below_alloc (Below.refl W'.heap.size W') (.cells #[.int .i64 xt,.slice xA xn xc,.int .i64 xl,.int .i64 xd,.int .i64 xp,.int .i64 xa] 49);refine hK _ _ ((KeepsOthers.alloc _ _).from _) ⟨W'.heap.size,hln,?_,World.alloc_heap_new _ _,hI.keep hqa hqb (Nat.le_refl _) (KeepO.of_below hb2),hIt.below (.inl rfl) (.inr rfl) hb2,rfl⟩;obtain⟨⟨v,hv,_⟩,_⟩:=hI;have:=hv.lt;omega
 case body=>
  rintro l ⟨pre,la',lb',⟨xt,⟨xA,xn,xc⟩,xl,xd,xp,xa⟩⟩ a' W' ⟨Bx,hln,hBx,hbox,⟨⟨v,hv,hrow⟩,hk⟩,hIt,rfl⟩;simp only at hrow hIt hln;obtain⟨i0,hi0,hzz⟩:=Option.map_eq_some_iff.1 infoEv;simp only[Prod.mk.injEq]at hzz;obtain⟨hz0,hzs,hzb⟩:=hzz;have hBW:B≤W'.heap.size:=Nat.le_of_lt hv.lt;obtain⟨c0,c1,c2,c3,c4,c5⟩:=hbox.cells;simp only at c0 c1 c2 c3 c4 c5;have hvc:=hv.cell;simp only[SE.v]
  gi_wp2_with (gi_at_builtin;refine wpListIn_append_own _ rfl (.tmp 8) (.tmp 10) 47 rfl B 49 i0 _ 6 64 Tryz.underlying47 hi0 hz0 hzs hzb rfl (by decide) v pre.length (fl pre) rfl (own_alloc hrow _) ⟨W'.heap.size,0,none⟩ 1 1 [.int .i64 xt,.slice xA xn xc,.int .i64 xl,.int .i64 xd,.int .i64 xp,.int .i64 xa] rfl rfl (fun j u hu=>by rw[add_at,Nat.zero_add];exact cell_new _ _ _ _ _ _ rfl (by simpa using hu)) (fun u hu=>fl_one [⟨xt,⟨xA,xn,xc⟩,xl,xd,xp,xa⟩] u (by simpa [fl,SE.cells]using hu)) (by unfold maxLen;omega) (by omega) (by have:=(below_alloc (Below.refl W'.heap.size W') (.cells #[.int .i64 xt,.slice xA xn xc,.int .i64 xl,.int .i64 xd,.int .i64 xp,.int .i64 xa] 49)).size;omega) ?_;intro v' w1 hown' hgrow _;obtain⟨g',cap',rfl⟩:=ownsRow_succ hown';obtain⟨hv1,hv2,hr2,hk2,hb2⟩:=hv.appended (by decide) hrow hBW (Nat.le_refl _) hown' hgrow;have hc1:=hv1.cell;have hf1:=hv1.frozen)
  refine⟨hk2.from _,⟨⟨_,hv2,?_⟩,⟨⟨Nat.le_trans hk.keep.size hb2.size,fun k hk3 hm=>(hb2.block k (by omega)).trans (hk.keep.block k hk3 hm)⟩,hb2.os.trans hk.os,hb2.tape.trans hk.tape,hb2.output.trans hk.output⟩⟩,hIt.move B (by omega) hqa hqb hb2.size (fun k h1 _=>hb2.block k h1)⟩;rw[fl_append,List.length_append];exact hr2
 case done=>
  rintro D W' hD ⟨⟨v,hv,hrow⟩,hk⟩ hK;have hvc:=hv.cell
  gi_wp2
  refine⟨by simp,.inl ⟨_,_,rfl,run_takeDeferred hK,?_⟩⟩;refine⟨_,results_tmp rfl _ _ _,v,rfl,?_,?_⟩
  ·have:=ownsRow_putObj hrow (.deferred none) hK rfl;rw[hB];exact⟨fun _ _=>trivial,_,this,reps_fl.2 rfl⟩
  ·have hg:=grownBy_putObj' W' D (.deferred none);exact⟨⟨Nat.le_trans hk.keep.size hg.size,fun k h1 hm=>(hg.block k (Nat.lt_of_lt_of_le h1 hk.keep.size) (fun e=>by cases e;omega)).trans (hk.keep.block k h1 hm)⟩,hg.os.trans hk.os,hg.tape.trans hk.tape,hg.output.trans hk.output⟩
theorem collect_calls {W:World} {qa qb:Nat} {la lb:List SE} (cmp:SE→SE→Int) (hq:qa≠qb) (hqa:qa<W.heap.size) (hqb:qb<W.heap.size) (hla:la.length≤1000000) (hlb:lb.length≤1000000) (hit:It (fun k=>k=qa∨k=qb) W qa qb la lb W)
  (hcmp:∀W',Keep (fun k=>k=qa∨k=qb) W W'→∀y x,y∈lb→x∈la→Calls Tryz.prog 103 #[y.v,x.v] W' fun e w'=>e= .returned (.int .i64 (cmp y x))∧Below W'.heap.size W' w'):
  Calls Tryz.prog 117 #[.func (.func 132) #[] #[.pointer (some ⟨qa,0,none⟩),.pointer (some ⟨qb,0,none⟩)]] W fun e w'=>
   ∃v,e= .returned v∧Kd.R kE 49 w' W.heap.size (fun _=>True) v (mergeL cmp la lb)∧KeepO (fun k=>k=qa∨k=qb) W w':=by
 have HC:=am (appendSeq_calls cmp hq hqa hqb hla hlb hit hcmp);clear hit hcmp;go_enter Tryz.func117,Tryz.ntmps117
 go_wp2_with (first|(go_at_call 131;(with_reducible refine HC.out.mono ?_);rintro e wx ⟨v,rfl,hv,hk⟩;have HV:=am hv;have HK:=am hk;clear hv hk))
 go_ret;exact⟨_,rfl,HV.out,HK.out⟩
theorem mergedF_calls (W:World) (A B:Option Addr) (n c m d:Nat):Calls Tryz.prog 118 #[.slice A n c,.slice B m d] W fun e w'=>
  e= .returned (.func (.func 132) #[] #[.pointer (some ⟨W.heap.size,0,none⟩),.pointer (some ⟨W.heap.size+1,0,none⟩)])∧w'=(W.alloc (.cells #[.slice A n c] 47)).alloc (.cells #[.slice B m d] 47):=by
 go_enter Tryz.func118,Tryz.ntmps118
 go_wp2_with (fail)
 go_ret;exact⟨rfl,rfl⟩
def mergeE (a b:List Ev):List Ev:=List.merge a b (fun x y=> !decide (cmpE y x<0))
theorem mergeE_map (f:SE→Ev):∀(a b:List SE),(mergeL (fun x y=>cmpE (f x) (f y)) a b).map f=mergeE (a.map f) (b.map f)
 | [],b=>by rw[mergeL_nil];simp[mergeE]
 |a::l,[]=>by rw[mergeL_right];simp[mergeE]
 |x::a,y::b=>by
  have h1:=mergeE_map f (x::a) b;have h2:=mergeE_map f a (y::b);rw[mergeL_cons];unfold mergeE at h1 h2 ⊢;simp only[List.map_cons]at h1 h2 ⊢;rw[List.cons_merge_cons];by_cases h:cmpE (f y) (f x)<0
  ·simp[h,h1]
  ·simp[h,h2]
termination_by a b=>a.length+b.length
theorem mergeL_mem {cmp:SE→SE→Int} {a b:List SE} {x:SE} (h:x∈mergeL cmp a b):x∈a∨x∈b:=by
 have:=(List.merge_perm_append (xs:=a) (ys:=b) (le:=fun x y=> !decide (cmp y x<0))).subset h;exact List.mem_append.1 this
theorem collectDeep {Mt:Nat→Prop} {wx:World} {ha hb:SH} {es ms:List Ev} (r1:EvsAt Mt wx ha es) (r2:EvsAt Mt wx hb ms) (hM:∀k,Mt k→k<wx.heap.size) (hn:es.length≤1000000) (hm:ms.length≤1000000) (hk:∀e∈es,e.k.length≤1000000) (hk2:∀e∈ms,e.k.length≤1000000):
  Calls Tryz.prog 117 #[.func (.func 132) #[] #[.pointer (some ⟨wx.heap.size,0,none⟩),.pointer (some ⟨wx.heap.size+1,0,none⟩)]] ((wx.alloc (.cells #[.slice ha.A ha.n ha.c] 47)).alloc (.cells #[.slice hb.A hb.n hb.c] 47)) fun e w'=>
   ∃h':SH,e= .returned h'.v∧EvsAt Mt w' h' (mergeE es ms)∧Below wx.heap.size wx w':=by
 obtain⟨sa,a1,a2⟩:=r1;obtain⟨sb,b1,b2⟩:=r2;obtain⟨f,hf⟩:=ev_of Mt wx;have ea:=a2.map_eq hf;have eb:=b2.map_eq hf;have la:=a2.len;have lb:=b2.len;have hb0:=below_alloc (below_alloc (Below.refl wx.heap.size wx) (.cells #[.slice ha.A ha.n ha.c] 47)) (.cells #[.slice hb.A hb.n hb.c] 47);have hs1:=World.size_alloc wx (.cells #[.slice ha.A ha.n ha.c] 47);have hs2:=World.size_alloc (wx.alloc (.cells #[.slice ha.A ha.n ha.c] 47)) (.cells #[.slice hb.A hb.n hb.c] 47)
 have hx1:Boxed ((wx.alloc (.cells #[.slice ha.A ha.n ha.c] 47)).alloc (.cells #[.slice hb.A hb.n hb.c] 47)) wx.heap.size 47 (.slice ha.A ha.n ha.c):=(Boxed.new wx _ _).alloc _;have hx2:Boxed ((wx.alloc (.cells #[.slice ha.A ha.n ha.c] 47)).alloc (.cells #[.slice hb.A hb.n hb.c] 47)) (wx.heap.size+1) 47 (.slice hb.A hb.n hb.c):=by
  have:=Boxed.new (wx.alloc (.cells #[.slice ha.A ha.n ha.c] 47)) 47 (.slice hb.A hb.n hb.c)
  rwa [hs1]at this
 obtain⟨w2,hw2⟩:∃w2,(wx.alloc (.cells #[.slice ha.A ha.n ha.c] 47)).alloc (.cells #[.slice hb.A hb.n hb.c] 47)=w2:=⟨_,rfl⟩;rw[hw2]at hb0 hs2 hx1 hx2 ⊢;have hnew:∀k,k<wx.heap.size→(k=wx.heap.size∨k=wx.heap.size+1)→Mt k:=fun k h1 h2=>by omega
 have hit:It (fun k=>k=wx.heap.size∨k=wx.heap.size+1) w2 wx.heap.size (wx.heap.size+1) sa sb w2:=
  ⟨Keep.refl _ _,⟨ha,hb,hx1.cell,hx2.cell,a1.fresh (Keep.of_below hb0) hnew,b1.fresh (Keep.of_below hb0) hnew⟩,hx1.frozen,hx2.frozen⟩
 have kp:∀W',Keep (fun k=>k=wx.heap.size∨k=wx.heap.size+1) w2 W'→Keep Mt wx W':=fun W' k=>⟨Nat.le_trans hb0.size k.size,fun j hj _=>(k.block j (Nat.lt_of_lt_of_le hj hb0.size) (by omega)).trans (hb0.block j hj)⟩;refine(collect_calls (fun x y=>cmpE (f x) (f y)) (by omega) (by omega) (by omega) (by omega) (by omega) hit (fun W' k y x hy hx=> ?_)).mono ?_
 ·obtain⟨ex,mx,hex⟩:=a2.mem hx;obtain⟨ey,my,hey⟩:=b2.mem hy;rw[←hf _ _ hex,←hf _ _ hey];have k1:=hex.k.keep (kp _ k);have k2:=hey.k.keep (kp _ k);exact cmpEvents_calls y x ey ex W' hey.t hex.t k2.here k1.here (by rw[k2.len];exact hk2 _ my) (by rw[k1.len];exact hk _ mx)
 ·rintro e w' ⟨v,rfl,hv,hkp⟩;obtain⟨A,c,rfl⟩:=Kd.R_slice hv;have hk3:=kp _ hkp.keep;have hbw:Below wx.heap.size wx w':=hb0.trans (hkp.below hb0.size (fun k hk e=>by omega));refine⟨⟨A,_,c⟩,rfl,?_,hbw⟩;have e2:mergeE es ms=(mergeL (fun x y=>cmpE (f x) (f y)) sa sb).map f:=by rw[mergeE_map,←ea,←eb]
  rw[e2];refine⟨_,Rd.of_R rfl hv (fun k h1 h2=> ?_),All2.map_of f fun x hx=> ?_⟩
  ·have:=Kd.R_base hv k h1;have:=hM k h2;omega
  ·rcases mergeL_mem hx with h|h
   ·obtain⟨ex,_,hex⟩:=a2.mem h;rw[←hf _ _ hex];exact hex.keep hk3
   ·obtain⟨ex,_,hex⟩:=b2.mem h;rw[←hf _ _ hex];exact hex.keep hk3
theorem mbMerge_calls {Mt:Nat→Prop} {W:World} {h1 h2:SH} {es ms:List Ev} (r1:EvsAt Mt W h1 es) (r2:EvsAt Mt W h2 ms) (hM:∀k,Mt k→k<W.heap.size) (hn:es.length≤1000000) (hm:ms.length≤1000000) (hk:∀e∈es,e.k.length≤1000000) (hk2:∀e∈ms,e.k.length≤1000000):
  Calls Tryz.prog 100 #[h1.v,h2.v] W fun e w'=>∃(h':SH) (ms':List Ev),e= .returned h'.v∧ms'.Perm ms∧SortedE ms'∧EvsAt Mt w' h' (mergeE es ms')∧Below W.heap.size W w':=by
 have HS:=am (sortEvents_calls r2 hM hm hk2);have HR:=am r1;have HM:=am hM;have HK:=am hk;have HK2:=am hk2;obtain⟨aA,an,ac⟩:=h1;obtain⟨bA,bn,bc⟩:=h2;simp only[SH.v]at HS ⊢;clear r1 r2 hM hk hk2;go_enter Tryz.func100,Tryz.ntmps100
 go_wp2_with (first
  |(go_at_call 76;(with_reducible refine HS.out.mono ?_);rintro e wx ⟨⟨sA,sn,sc⟩,ms',rfl,hr,hp,hs,hb⟩;have HX:=am hr;have HP:=am hp;have HSO:=am hs;have HB:=am hb;clear hr hp hs hb)
  |(go_at_call 118;(with_reducible refine(mergedF_calls wx aA sA an ac sn sc).mono ?_);rintro e wy ⟨rfl,hy⟩;have HY:=am hy;clear hy)
  |(have HCC:=am (collectDeep (ha:=⟨aA,an,ac⟩) (HR.out.below HB.out) HX.out (fun k hk=>Nat.lt_of_lt_of_le (HM.out k hk) HB.out.size) hn (by rw[HP.out.length_eq];exact hm) HK.out (fun e he=>HK2.out e (HP.out.subset he)));rw[←HY.out]at HCC;go_at_call 117;(with_reducible refine HCC.out.mono ?_);rintro e wz ⟨⟨zA,zn,zc⟩,rfl,hr,hb⟩;have HZ:=am hr;have HBZ:=am hb;clear hr hb))
 go_ret;exact⟨⟨zA,zn,zc⟩,ms',rfl,HP.out,HSO.out,HZ.out,HB.out.trans (HBZ.out.mono HB.out.size)⟩
end Go.Proofs.YtfnimdhghglanaaGreat.Hand
end
section
namespace Go.Proofs.YtfnimdhghglanaaGreat.Hand
open Go.RowKit Go.Shelf Go.Proofs.YtfnimdhghglanaaGreatW.PrintWords Go.Proofs.YtfnimdhghglanaaGreatW.PrintLast Go.Proofs.YtfnimdhghglanaaGreatW.PrintMore
attribute [local go_sem] max2_int min2_int max_two min_two max_three min_three max_four min_four
theorem child_calls (A:Option Addr) (n c:Nat) (k:List Int) (i:Int) (W:World) (h:Kd.C (Kd.int .i64) W A n k) (hn:n≤1000000):
  Calls Tryz.prog 75 #[.slice A n c,.int .i64 i] W fun e w'=>∃v:Value,e= .returned v∧Kd.R (Kd.int .i64) 3 w' W.heap.size (fun _=>True) v (k++[i])∧Below W.heap.size W w':=by
 have HC:=am (cloneInt_calls A c n k W h h.1 hn);have HL:=am h.1;clear h;go_enter Tryz.func75,Tryz.ntmps75
 go_wp2_with (first
  |(go_at_call 38;(with_reducible refine HC.out.mono ?_);rintro e wx ⟨v,rfl,hv,hb⟩;have HV:=am hv;have HB:=am hb;clear hv hb)
  |((with_reducible refine gate_builtin (b:= .append) (xs:= #[.tmp 6,.tmp 8]) rfl ?_);at_builtin;refine Kd.R_append_rows (Kd.int .i64) (Rr:=fun y cs=>cs=[Value.int .i64 y]) (w0:=W) W.heap.size rfl (.tmp 6) (.tmp 8) 35 3 (.int .i64 0) 8 rfl Tryz.underlying35 info3 rfl (by decide) (by omega) _ k [i] (some ⟨wx.heap.size,0,none⟩) 1 1 (fun _=>True) (fun _=>False) rfl rfl (Kd.R_below HV.out (below_alloc (Below.refl _ _) _)) ?aR (fun q cs hq=>hq) (fun _ h=>h.elim) (fun _ _=>trivial) (below_alloc HB.out _) (below_alloc HB.out _).size ?aL ?_;(case aR=>exact⟨rfl,by decide,fun _=>⟨_,rfl,fun j p hj=>by
    obtain⟨h1,rfl⟩:=List.getElem?_eq_some_iff.1 hj;have hj0:j=0:=by simpa using h1
    subst hj0;refine⟨[.int .i64 i],rfl,rfl,fun t u hu=> ?_⟩;have ht:t=0:=by
     have:=(List.getElem?_eq_some_iff.1 hu).1
     simpa using this
    subst ht;rw[add_at,Nat.zero_add];exact cell_new _ _ _ _ _ _ rfl (by simpa using hu)⟩⟩);(case aL=>have:=HL.out;omega);intro v9 w9 ho9 hb9 hg9 hat9;have HO:=am ho9;have HB9:=am hb9;clear ho9 hb9 hg9 hat9))
 go_ret;exact⟨_,rfl,HO.out,HB9.out⟩
end Go.Proofs.YtfnimdhghglanaaGreat.Hand
end
section
namespace Go.Proofs.YtfnimdhghglanaaGreat.Hand
open Go.RowKit Go.Shelf Go.Proofs.YtfnimdhghglanaaGreatW.PrintWords Go.Proofs.YtfnimdhghglanaaGreatW.PrintLast Go.Proofs.YtfnimdhghglanaaGreatW.PrintMore
section
structure Pc where
 pg:Int
 pc:Int
 al:Bool
 tm:List Int
 deriving DecidableEq
structure Lp where
 r0:Int
 r1:Int
 ps:List Pc
 sum:Int
 deriving DecidableEq
structure Ex where
 lp:Lp
 ev:Ev
 cr:List Ev
 n:Nat
 ca:List (List Int)
 ov:Bool
def IntB (w:World) (k:Nat):Prop:=∃cells,w.heap[k]?=some (.cells cells 3 (0,0))
def Lm (Mt:Nat→Prop) (B:Nat) (w:World) (k:Nat):Prop:=Mt k∨(B≤k∧¬IntB w k)
abbrev TExec:TypeId:=171
section
variable {Mt:Nat→Prop} {B:Nat} {w w':World}
theorem lm_back (hM:∀k,Mt k→k<B) (hk:Keep (Lm Mt B w) w w') (j:Nat) (hj:j<w.heap.size) (hm:Lm Mt B w' j):Lm Mt B w j:=by
 rcases hm with hm|⟨h1,h2⟩
 ·exact .inl hm
 ·refine .inr ⟨h1,fun e=>h2 ?_⟩;obtain⟨cells,hc⟩:=e;refine⟨cells,(hk.block j hj fun hl=> ?_).trans hc⟩;rcases hl with hl|⟨_,hl⟩
  ·have:=hM j hl;omega
  ·exact hl ⟨cells,hc⟩
theorem Rd.lm {s:SH} {k:List Int} (h:KeyAt (Lm Mt B w) w s k) (hM:∀k,Mt k→k<B) (hk:Keep (Lm Mt B w) w w'):KeyAt (Lm Mt B w') w' s k:=Rd.fresh h hk (lm_back hM hk)
theorem EvAt.lm {s:SE} {e:Ev} (h:EvAt (Lm Mt B w) w s e) (hM:∀k,Mt k→k<B) (hk:Keep (Lm Mt B w) w w'):EvAt (Lm Mt B w') w' s e:=h.fresh hk (lm_back hM hk)
theorem Keep.grown_lm {g:Nat} {t:TypeId} {cells:Array Value} (hg:w.grownBy w' (some g)) (hB:B≤g) (hh:w.heap[g]?=some (.cells cells t (0,0))) (ht:t≠3):Keep (Lm Mt B w) w w':=
 Keep.grown hg fun k hk=>by
  cases hk;refine .inr ⟨hB,fun e=> ?_⟩;obtain⟨c,hc⟩:=e;rw[hh]at hc;cases hc;exact ht rfl
structure PcAt (Mt:Nat→Prop) (w:World) (s:SP) (p:Pc):Prop where
 pg:s.pg=p.pg
 pc:s.pc=p.pc
 al:s.al=p.al
 tm:KeyAt Mt w s.tm p.tm
theorem PcAt.lm {s:SP} {p:Pc} (h:PcAt (Lm Mt B w) w s p) (hM:∀k,Mt k→k<B) (hk:Keep (Lm Mt B w) w w'):PcAt (Lm Mt B w') w' s p:=⟨h.pg,h.pc,h.al,h.tm.lm hM hk⟩
theorem PcAt.keep {s:SP} {p:Pc} (h:PcAt Mt w s p) (k:Keep Mt w w'):PcAt Mt w' s p:=⟨h.pg,h.pc,h.al,h.tm.keep k⟩
theorem PcAt.fresh {Mt':Nat→Prop} {s:SP} {p:Pc} (h:PcAt Mt w s p) (k:Keep Mt w w') (hm:∀k,k<w.heap.size→Mt' k→Mt k):PcAt Mt' w' s p:=⟨h.pg,h.pc,h.al,h.tm.fresh k hm⟩
end
def PcsAt (Mt:Nat→Prop) (w:World) (h:SH) (ps:List Pc):Prop:=∃ss,Rd kPr Mt w h ss∧All2 (PcAt Mt w) ss ps
theorem PcsAt.keep {Mt:Nat→Prop} {w w':World} {h:SH} {ps:List Pc} (r:PcsAt Mt w h ps) (k:Keep Mt w w'):PcsAt Mt w' h ps:=by
 obtain⟨ss,h1,h2⟩:=r;exact⟨ss,h1.keep k,h2.imp fun _ _ h=>h.keep k⟩
theorem PcsAt.fresh {Mt Mt':Nat→Prop} {w w':World} {h:SH} {ps:List Pc} (r:PcsAt Mt w h ps) (k:Keep Mt w w') (hm:∀k,k<w.heap.size→Mt' k→Mt k):PcsAt Mt' w' h ps:=by
 obtain⟨ss,h1,h2⟩:=r;exact⟨ss,h1.fresh k hm,h2.imp fun _ _ h=>h.fresh k hm⟩
theorem PcsAt.len {Mt:Nat→Prop} {w:World} {h:SH} {ps:List Pc} (r:PcsAt Mt w h ps):h.n=ps.length:=by
 obtain⟨ss,h1,h2⟩:=r;rw[h1.len,h2.len]
structure OwnAt {α β:Type} (d:Kd α) (e:TypeId) (R:(Nat→Prop)→World→α→β→Prop) (Mt:Nat→Prop) (B:Nat) (w:World) (h:SH) (xs:List β):Prop where
 ex:∃ss,Kd.R d e w B (fun _=>True) (.slice h.A h.n h.c) ss∧All2 (R (Lm Mt B w) w) ss xs
theorem OwnAt.len {α β:Type} {d:Kd α} {e:TypeId} {R:(Nat→Prop)→World→α→β→Prop} {Mt:Nat→Prop} {B:Nat} {w:World} {h:SH} {xs:List β} (r:OwnAt d e R Mt B w h xs):h.n=xs.length:=by
 obtain⟨ss,h1,h2⟩:=r.ex;rw[(Kd.R_reads' h1).1,h2.len]
theorem OwnAt.move {α β:Type} {d:Kd α} (hE:d.E=[]) {e:TypeId} {R:(Nat→Prop)→World→α→β→Prop} {Mt:Nat→Prop} {B:Nat} {w w':World} {h:SH} {xs:List β} (r:OwnAt d e R Mt B w h xs)
  (hR:∀s x,R (Lm Mt B w) w s x→R (Lm Mt B w') w' s x) (hb:∀k cells,w.heap[k]?=some (.cells cells e (0,0))→(Value.slice h.A h.n h.c).ownBlock=some k→w'.heap[k]?=w.heap[k]?):OwnAt d e R Mt B w' h xs:=by
 obtain⟨ss,h1,h2⟩:=r.ex;refine⟨ss,R_stay h1 hE fun k hk=> ?_,h2.imp fun s x hs=>hR s x hs⟩;obtain⟨cells,hc⟩:=Kd.R_typed h1 k hk;exact hb k cells hc hk
abbrev PsO:=OwnAt kPr 114 PcAt
abbrev CrO:=OwnAt kE 49 EvAt
abbrev CaO:=OwnAt kH 35 KeyAt
structure ExP (Mt:Nat→Prop) (W w:World) (kh ph ch xh:SH) (x:Ex):Prop where
 below:Below W.heap.size W w
 key:KeyAt (Lm Mt W.heap.size w) w kh x.ev.k
 ps:PsO Mt W.heap.size w ph x.lp.ps
 cr:CrO Mt W.heap.size w ch x.cr
 ca:CaO Mt W.heap.size w xh x.ca
def exCells (kh ph ch xh:SH) (x:Ex):Array Value:= #[.int .i64 x.lp.r0,.int .i64 x.lp.r1,.slice ph.A ph.n ph.c,.int .i64 x.lp.sum,.int .i64 x.ev.t,.slice kh.A kh.n kh.c,.int .i64 x.ev.lp,.int .i64 x.ev.kd,.int .i64 x.ev.pr,.int .i64 x.ev.ar,.slice ch.A ch.n ch.c,.int .i64 x.n,.slice xh.A xh.n xh.c,.bool x.ov]
structure ExAt (Mt:Nat→Prop) (W w:World) (b:Nat) (kh ph ch xh:SH) (x:Ex):Prop where
 p:ExP Mt W w kh ph ch xh x
 hb:W.heap.size≤b
 blk:w.heap[b]?=some (.cells (exCells kh ph ch xh x) TExec (0,0))
section
variable {Mt:Nat→Prop} {W w w':World} {b:Nat} {kh ph ch xh:SH} {x:Ex}
theorem ExP.moved (h:ExP Mt W w kh ph ch xh x) (hM:∀k,Mt k→k<W.heap.size) (hb:Below W.heap.size w w') (hk:Keep (Lm Mt W.heap.size w) w w')
  (h1:∀(k:Nat) (cells:Array Value) (t:TypeId),w.heap[k]?=some (Obj.cells cells t (0,0))→t=114∨t=49∨t=35→w'.heap[k]?=w.heap[k]?):ExP Mt W w' kh ph ch xh x:=
 ⟨h.below.trans hb,h.key.lm hM hk,h.ps.move rfl (fun _ _ hs=>PcAt.lm hs hM hk) (fun k cells hc _=>h1 k cells _ hc (.inl rfl)),
  h.cr.move rfl (fun _ _ hs=>EvAt.lm hs hM hk) (fun k cells hc _=>h1 k cells _ hc (.inr (.inl rfl))),h.ca.move rfl (fun _ _ hs=>Rd.lm hs hM hk) (fun k cells hc _=>h1 k cells _ hc (.inr (.inr rfl)))⟩
theorem ExP.more (h:ExP Mt W w kh ph ch xh x) (hM:∀k,Mt k→k<W.heap.size) (k:Below w.heap.size w w'):ExP Mt W w' kh ph ch xh x:=
 h.moved hM (k.mono h.below.size) (Keep.of_below k) fun j cells t hj _=>k.block j (blk_lt hj)
theorem ExP.put (h:ExP Mt W w kh ph ch xh x) (hM:∀k,Mt k→k<W.heap.size) {arr:Array Value} (hb:W.heap.size≤b) (hblk:w.heap[b]?=some (.cells arr TExec (0,0))) (j:Nat) (u:Value):ExP Mt W (w.setCell ⟨b,j,none⟩ u) kh ph ch xh x:=
 have hg:w.grownBy (w.setCell ⟨b,j,none⟩ u) (some b):=grown_cells [u] w j
 h.moved hM ((Below.refl W.heap.size w).setCell (p:=⟨b,j,none⟩) hb u) (Keep.grown_lm hg hb hblk (by decide)) fun k cells t hk ht=>hg.block k (blk_lt hk) fun e=>by
  cases e;rw[hblk]at hk;cases hk;rcases ht with ht|ht|ht<;>exact absurd ht (by decide)
theorem ExAt.more (h:ExAt Mt W w b kh ph ch xh x) (hM:∀k,Mt k→k<W.heap.size) (k:Below w.heap.size w w'):ExAt Mt W w' b kh ph ch xh x:=
 ⟨h.p.more hM k,h.hb,(k.block b (blk_lt h.blk)).trans h.blk⟩
theorem ExAt.put (h:ExAt Mt W w b kh ph ch xh x) (j:Nat) (u:Value) {kh' ph' ch' xh':SH} {x':Ex} (he:(exCells kh ph ch xh x).setIfInBounds j u=exCells kh' ph' ch' xh' x') (hp:ExP Mt W (w.setCell ⟨b,j,none⟩ u) kh' ph' ch' xh' x'):ExAt Mt W (w.setCell ⟨b,j,none⟩ u) b kh' ph' ch' xh' x':=
 ⟨hp,h.hb,blk_put h.blk j u he⟩
theorem ExAt.cells (h:ExAt Mt W w b kh ph ch xh x):∀j u,(exCells kh ph ch xh x)[j]?=some u→w.cell? ⟨b,j,none⟩=some u:=fun j u hu=>by
 simp only[World.cell?,h.blk];exact hu
theorem ExAt.free (h:ExAt Mt W w b kh ph ch xh x) (j:Nat):w.frozen? ⟨b,j,none⟩=false:=blk_frozen h.blk j
end
section
variable {α β γ δ:Type} {d:Kd α} {e:TypeId} {R:(Nat→Prop)→World→α→β→Prop} {d2:Kd γ} {e2:TypeId} {R2:(Nat→Prop)→World→γ→δ→Prop} {Mt:Nat→Prop} {B:Nat} {w w':World} {h h2:SH} {xs:List β} {ys:List δ}
theorem OwnAt.grow (r:OwnAt d e R Mt B w h xs) (he:e≠3) (hg:w.grownBy w' (Value.slice h.A h.n h.c).ownBlock):Keep (Lm Mt B w) w w':=by
 obtain⟨ss,h1,_⟩:=r.ex;cases ho:(Value.slice h.A h.n h.c).ownBlock with
 |none=>
  rw[ho]at hg;exact Keep.grown hg (fun k hk=>by cases hk)
 |some g=>
  rw[ho]at hg;obtain⟨cells,hc⟩:=Kd.R_typed h1 g ho;exact Keep.grown_lm hg (Kd.R_base h1 g ho) hc he
theorem OwnAt.beside (r:OwnAt d e R Mt B w h xs) (hE:d.E=[]) (r2:OwnAt d2 e2 R2 Mt B w h2 ys) (hne:e≠e2) (hg:w.grownBy w' (Value.slice h2.A h2.n h2.c).ownBlock) (hR:∀s x,R (Lm Mt B w) w s x→R (Lm Mt B w') w' s x):OwnAt d e R Mt B w' h xs:=by
 obtain⟨ss2,h3,_⟩:=r2.ex;refine r.move hE hR fun k cells hc hk=>hg.block k (blk_lt hc) fun e3=> ?_;obtain⟨c2,hc2⟩:=Kd.R_typed h3 k e3.symm;rw[hc]at hc2;cases hc2;exact hne rfl
theorem OwnAt.far (r:OwnAt d e R Mt B w h xs) (hE:d.E=[]) {b:Nat} {t:TypeId} {arr:Array Value} (hb:w.heap[b]?=some (.cells arr t (0,0))) (hne:e≠t) (hg:w.grownBy w' (some b)) (hR:∀s x,R (Lm Mt B w) w s x→R (Lm Mt B w') w' s x):OwnAt d e R Mt B w' h xs:=
 r.move hE hR fun k cells hc hk=>hg.block k (blk_lt hc) fun e3=>by
  cases e3;rw[hb]at hc;cases hc;exact hne rfl
end
section
variable {Mt:Nat→Prop} {B:Nat} {w:World} {ph:SH} {ps:List Pc}
theorem PsO.get (h:PsO Mt B w ph ps) (i:Nat) (hi:i<ps.length):∃g s,ph.A=some ⟨g,0,none⟩∧B≤g∧(∃cells,w.heap[g]?=some (.cells cells 114 (0,0)))∧PcAt (Lm Mt B w) w s ps[i]∧
  w.cell? ⟨g,i*4,none⟩=some (.int .i64 s.pg)∧w.cell? ⟨g,i*4+1,none⟩=some (.int .i64 s.pc)∧w.cell? ⟨g,i*4+2,none⟩=some (.bool s.al)∧w.cell? ⟨g,i*4+3,none⟩=some (.slice s.tm.A s.tm.n s.tm.c)∧∀j,w.frozen? ⟨g,j,none⟩=false:=by
 obtain⟨ss,h1,h2⟩:=h.ex;have hl:=h2.len;have hil:i<ss.length:=by omega
 obtain⟨g,cap,he,hg,_,cells,hc⟩:=Kd.R_form h1 (by omega);have hA:ph.A=some ⟨g,0,none⟩:=by injection he
 have hn:=(Kd.R_reads' h1).1;rw[hA]at h1;obtain⟨c,_,hM,hcc,_⟩:=Kd.R_elem h1 SP.zero (i:Int) (by omega) (by omega);rw[Int.toNat_natCast]at hM hcc;have e4:ss.getD i SP.zero=ss[i]'hil:=by simp[List.getD_eq_getElem?_getD,List.getElem?_eq_getElem (show i<ss.length by omega)]
 rw[e4]at hM;obtain rfl:c=SP.cells (ss[i]'hil):=hM;exact⟨g,ss[i]'hil,hA,hg,⟨cells,hc⟩,h2.get i (by omega) hi,hcc 0 _ rfl,hcc 1 _ rfl,hcc 2 _ rfl,hcc 3 _ rfl,fun j=>blk_frozen hc j⟩
theorem PsO.put (h:PsO Mt B w ph ps) (hM:∀k,Mt k→k<B) (i:Nat) (hi:i<ps.length) {g:Nat} (hA:ph.A=some ⟨g,0,none⟩) (j:Nat) (u:Value) (p':Pc)
  (hp:∀s,PcAt (Lm Mt B w) w s ps[i]→Keep (Lm Mt B w) w (w.setCell ⟨g,i*4+j,none⟩ u)→∃s',(SP.cells s).take j++[u]++(SP.cells s).drop (j+1)=SP.cells s'∧PcAt (Lm Mt B (w.setCell ⟨g,i*4+j,none⟩ u)) (w.setCell ⟨g,i*4+j,none⟩ u) s' p') (hj:j<4):
  PsO Mt B (w.setCell ⟨g,i*4+j,none⟩ u) ph (ps.set i p')∧w.grownBy (w.setCell ⟨g,i*4+j,none⟩ u) (some g)∧Keep (Lm Mt B w) w (w.setCell ⟨g,i*4+j,none⟩ u):=by
 obtain⟨ss,h1,h2⟩:=h.ex;have hl:=h2.len;have hil:i<ss.length:=by omega
 have hn:=(Kd.R_reads' h1).1;have hkeep:=fun hg=>h.grow (w':=w.setCell ⟨g,i*4+j,none⟩ u) (by decide) hg;rw[hA]at h1 hkeep;obtain⟨c,hcl,hMc,hcc,_⟩:=Kd.R_elem h1 SP.zero (i:Int) (by omega) (by omega);rw[Int.toNat_natCast]at hMc hcc;have e4:ss.getD i SP.zero=ss[i]'hil:=by simp[List.getD_eq_getElem?_getD,List.getElem?_eq_getElem (show i<ss.length by omega)]
 rw[e4]at hMc;obtain rfl:c=SP.cells (ss[i]'hil):=hMc;have hg:w.grownBy (w.setCell ⟨g,i*4+j,none⟩ u) (some g):=grown_cells [u] w (i*4+j);have hk:=hkeep hg;obtain⟨s',hs1,hs2⟩:=hp _ (h2.get i (by omega) hi) hk;have h3:=Kd.R_seg (okp:=fun _=>False) h1 (i:Int) (by omega) (by omega) (c:=SP.cells (ss[i]'hil)) (seg:=[u]) (j:=j) (x':=s') hcl (by rw[Int.toNat_natCast];exact hcc) (show j+1≤4 by omega) hs1 (fun _ h=>h.elim);rw[Int.toNat_natCast]at h3;refine⟨⟨⟨ss.set i s',by rw[hA];exact h3.1,?_⟩⟩,hg,hk⟩;exact(h2.imp fun _ _ hs=>PcAt.lm hs hM hk).set i hs2
end
end
end Go.Proofs.YtfnimdhghglanaaGreat.Hand
end
section
namespace Go.Proofs.YtfnimdhghglanaaGreat.Hand
open Go.RowKit Go.Shelf Go.Proofs.YtfnimdhghglanaaGreatW.PrintWords Go.Proofs.YtfnimdhghglanaaGreatW.PrintLast Go.Proofs.YtfnimdhghglanaaGreatW.PrintMore
attribute [local go_sem] max2_int min2_int max_two min_two max_three min_three max_four min_four
theorem self_calls {w:World} {b g n c:Nat} (i:Nat) (h1:w.cell? ⟨b,2,none⟩=some (.slice (some ⟨g,0,none⟩) n c)) (h2:w.cell? ⟨b,8,none⟩=some (.int .i64 (i:Int))) (hi:i<n):
  Calls Tryz.prog 108 #[.pointer (some ⟨b,0,none⟩)] w fun e w'=>e= .returned (.pointer (some ⟨g,i*4,none⟩))∧Below w.heap.size w w':=by
 have m1:(i:Int)<(n:Nat):=by omega
 have m0:(0:Int)≤(i:Int):=by omega
 go_enter Tryz.func108,Tryz.ntmps108;go_upto_region 1 with (fail)
 go_region
 go_wp2_with (fail)
 go_ret;exact⟨rfl,below_drew (Below.refl _ _)⟩
theorem own_calls {w:World} {b:Nat} (lp kd pr ar:Int) (h1:w.cell? ⟨b,6,none⟩=some (.int .i64 lp)):
  Calls Tryz.prog 154 #[.pointer (some ⟨b,0,none⟩),.int .i64 kd,.int .i64 pr,.int .i64 ar] w fun e w'=>e= .returned (.agg #[.int .i64 0,.slice none 0 0,.int .i64 lp,.int .i64 kd,.int .i64 pr,.int .i64 ar])∧Below w.heap.size w w':=by
 have hlt:b<w.heap.size:=World.block_lt_of_cell? w ⟨b,6,none⟩ h1;go_enter Tryz.func154,Tryz.ntmps154
 go_wp2_with (fail)
 go_returns
 exact⟨rfl,by go_grown⟩
end Go.Proofs.YtfnimdhghglanaaGreat.Hand
end
