/- TopScheduleIndependent, part 16 of 27; no condition.  -/
import Derived.Test.YtfnimdhghglanaaGreatQsAO
import Derived.Test.YtfnimdhghglanaaGreatProg
import Derived.Below
import Derived.Deep.Draws
import Derived.Deep.AppendLies
import Derived.Maps.AppendAt
import Derived.OwnWalk
import Derived.Laws.BytesArg
import Derived.Laws.MakeOwn
import Derived.Laws.OwnMore
import Derived.Deep.OwnRows
import Derived.Tactics
import Derived.Lib.ConvBytes
import Derived.Laws.Slices
import Derived.WalkKit
import Derived.KernelRfl
import Derived.RowKit3
import Derived.Deep.LoopGhost
import Derived.Deep.QuietTactic
import Derived.BigQuiet
import Derived.WideLaws
import Derived.Deep.DeepCutAuto
import Derived.Deep.CutBlock
import Derived.Deep.RegionHeld3
import Derived.Laws.Rows
import Derived.Lib.AppendStr
import Derived.ArgAppend
import Derived.Laws.IdiomCopy
import Derived.OrdersHeld
import Derived.Laws.BitsLemmas
import Derived.RowKit
import Derived.Lib.SliceRun
import Derived.Handy
set_option maxRecDepth 100000
set_option maxHeartbeats 8000000
set_option linter.unusedVariables false
set_option linter.unusedSimpArgs false
section
end
section
namespace Go.Proofs.YtfnimdhghglanaaGreatW.PrintWords
theorem Reps.one {α:Type} {R:α→List Value→Prop} {ps:List α} {cs:List Value} {p:α} {v:Value} (hp:R p [v]) (h:Reps R 1 ps cs):Reps R 1 (p::ps) (v::cs):=by
 refine⟨by simp[h.1],fun j q hq=> ?_⟩;cases j with
 |zero=>
  simp only[List.getElem?_cons_zero,Option.some.injEq]at hq;subst hq
  simpa using hp
 |succ j=>
  simp only[List.getElem?_cons_succ]at hq;have h1:=h.2 j q hq
  simpa [Nat.mul_one]using h1
theorem Reps.front {α:Type} {R:α→List Value→Prop} {size:Nat} {ps:List α} {cs c all:List Value} {p:α} (hp:R p c) (hc:c.length=size) (h:Reps R size ps cs) (ha:c++cs=all):Reps R size (p::ps) all:=by
 subst ha;refine⟨by rw[List.length_append,hc,h.1,List.length_cons,Nat.succ_mul,Nat.add_comm],fun j q hq=> ?_⟩;cases j with
 |zero=>
  simp only[List.getElem?_cons_zero,Option.some.injEq]at hq;subst hq;rw[Nat.zero_mul,List.drop_zero,List.take_append_of_le_length (by omega),List.take_of_length_le (by omega)];exact hp
 |succ j=>
  simp only[List.getElem?_cons_succ]at hq;have h1:=h.2 j q hq;rw[Nat.succ_mul,List.drop_append,List.drop_of_length_le (by rw[hc];exact Nat.le_add_left _ _),List.nil_append,hc,Nat.add_sub_cancel];exact h1
theorem Reps.c2 {α:Type} {R:α→List Value→Prop} {ps:List α} {cs:List Value} {p:α} {va vb:Value} (hp:R p [va,vb]) (h:Reps R 2 ps cs):Reps R 2 (p::ps) (va::vb::cs):=Reps.front hp rfl h rfl
theorem Reps.c3 {α:Type} {R:α→List Value→Prop} {ps:List α} {cs:List Value} {p:α} {va vb vc:Value} (hp:R p [va,vb,vc]) (h:Reps R 3 ps cs):Reps R 3 (p::ps) (va::vb::vc::cs):=Reps.front hp rfl h rfl
theorem Reps.c4 {α:Type} {R:α→List Value→Prop} {ps:List α} {cs:List Value} {p:α} {va vb vc vd:Value} (hp:R p [va,vb,vc,vd]) (h:Reps R 4 ps cs):Reps R 4 (p::ps) (va::vb::vc::vd::cs):=Reps.front hp rfl h rfl
theorem Reps.c5 {α:Type} {R:α→List Value→Prop} {ps:List α} {cs:List Value} {p:α} {va vb vc vd ve:Value} (hp:R p [va,vb,vc,vd,ve]) (h:Reps R 5 ps cs):Reps R 5 (p::ps) (va::vb::vc::vd::ve::cs):=Reps.front hp rfl h rfl
theorem Reps.c6 {α:Type} {R:α→List Value→Prop} {ps:List α} {cs:List Value} {p:α} {va vb vc vd ve vf:Value} (hp:R p [va,vb,vc,vd,ve,vf]) (h:Reps R 6 ps cs):Reps R 6 (p::ps) (va::vb::vc::vd::ve::vf::cs):=Reps.front hp rfl h rfl
theorem Reps.c7 {α:Type} {R:α→List Value→Prop} {ps:List α} {cs:List Value} {p:α} {va vb vc vd ve vf vg:Value} (hp:R p [va,vb,vc,vd,ve,vf,vg]) (h:Reps R 7 ps cs):Reps R 7 (p::ps) (va::vb::vc::vd::ve::vf::vg::cs):=Reps.front hp rfl h rfl
theorem Reps.c8 {α:Type} {R:α→List Value→Prop} {ps:List α} {cs:List Value} {p:α} {va vb vc vd ve vf vg vh:Value} (hp:R p [va,vb,vc,vd,ve,vf,vg,vh]) (h:Reps R 8 ps cs):Reps R 8 (p::ps) (va::vb::vc::vd::ve::vf::vg::vh::cs):=Reps.front hp rfl h rfl
theorem Reps.c9 {α:Type} {R:α→List Value→Prop} {ps:List α} {cs:List Value} {p:α} {va vb vc vd ve vf vg vh vi:Value} (hp:R p [va,vb,vc,vd,ve,vf,vg,vh,vi]) (h:Reps R 9 ps cs):Reps R 9 (p::ps) (va::vb::vc::vd::ve::vf::vg::vh::vi::cs):=Reps.front hp rfl h rfl
theorem Reps.c10 {α:Type} {R:α→List Value→Prop} {ps:List α} {cs:List Value} {p:α} {va vb vc vd ve vf vg vh vi vj:Value} (hp:R p [va,vb,vc,vd,ve,vf,vg,vh,vi,vj]) (h:Reps R 10 ps cs):Reps R 10 (p::ps) (va::vb::vc::vd::ve::vf::vg::vh::vi::vj::cs):=Reps.front hp rfl h rfl
end Go.Proofs.YtfnimdhghglanaaGreatW.PrintWords
end
section
end
section
namespace Go.Proofs.YtfnimdhghglanaaGreat.Sch
open Go.RowKit Go.Proofs.YtfnimdhghglanaaGreatW PrintWords PrintLast PrintMore
attribute [local go_sem] max2_int min2_int max_two min_two max_three min_three max_four min_four
theorem info3:(Tryz.prog.info? 3).map (fun i=>(i.zero,i.size,i.bytes))=some (some (.int .i64 0),1,8):=by kernel_rfl
theorem clone_calls (A0:Option Addr) (c0:Nat) (l0:List Int) (w:World) (hr0:Kd.C (Kd.int .i64) w A0 l0.length l0) (hl:l0.length≤17592186044416):
  Calls Tryz.prog 38 #[.slice A0 l0.length c0] w fun e w'=>∃v:Value,e= .returned v∧Kd.R (Kd.int .i64) 3 w' w.heap.size (fun _=>True) v l0∧Below w.heap.size w w':=by
 have qT:∀(w:World) (a:Option Addr) (n c n' c':Nat),(binOp .eql 35 (.slice a n c) (.slice none n' c')).run Tryz.prog w= .ok (.bool a.isNone) w:=fun w a n c n' c'=>Lib.run_eql_slice_nil w _ _ a n c n' c' Tryz.underlying35;have HR:=Aside0.mk hr0;have HL:=Aside0.mk hl;clear hr0 hl;rcases A0 with _|ad
 ·obtain rfl:l0=[]:=by
   have h:=HR.out;cases l0 with
   |nil=>rfl
   |cons x xs=>
    obtain⟨ad,h2,_⟩:=h.2.2 (by simp);cases h2
  go_enter Tryz.func38,Tryz.ntmps38
  go_wp2
  go_ret;exact⟨_,rfl,Kd.R_nil _ _ _ _ _,Below.refl _ _⟩
 ·go_enter Tryz.func38,Tryz.ntmps38
  go_wp2_with (first|((with_reducible refine gate_dst (N:=5) rfl ?_);refine Kd.R_lit (Kd.int .i64) _ 3 ?hg (N:=5) ?hd (xs:=([]:List Int)) (inner:=[]) (ok:=fun _=>True) (okp:=fun _=>True) ?hr ?hp (fun _ hk=>hk) trivial (Below.refl _ _) (Nat.le_refl _) (by simp) ?_;(case hd=>rfl);(case hg=>rfl);(case hr=>first|(go_simp;done)|(go_simp;rfl));(case hp=>exact Reps.none _ _);intro v5 w5 ho5 hb5 hg5 hnew5;have HO5:=Aside0.mk ho5;have HB5:=Aside0.mk hb5;clear ho5 hb5 hg5 hnew5)|((with_reducible refine gate_builtin (b:= .append) (xs:= #[.tmp 5,.tmp 6]) rfl ?_);at_builtin;refine Kd.R_append_rows (Kd.int .i64) (Rr:=(Kd.int .i64).K w5) (w0:=w) w.heap.size rfl (.tmp 5) (.tmp 6) 35 3 (.int .i64 0) 8 rfl Tryz.underlying35 info3 rfl (by decide) (by omega) v5 [] l0 (some ad) l0.length c0 (fun _=>True) (fun _=>False) rfl rfl HO5.out ?aR (fun _ _ h=>h) (fun _ h=>h.elim) (fun _ _=>trivial) HB5.out HB5.out.size ?aL ?_;(case aR=>exact Kd.C_below HR.out HB5.out);(case aL=>have:=HL.out;simp;omega);intro v7 w7 ho7 hb7 hg7 hat7;have HO7:=Aside0.mk ho7;have HB7:=Aside0.mk hb7;clear ho7 hb7 hg7 hat7))
  go_ret;exact⟨_,rfl,HO7.out,HB7.out⟩
def lmax:List Int→Int
 | []=>0
 |x::xs=>xs.foldl mx x
theorem lmax_take_succ (l:List Int) (k:Nat) (h1:1≤k) (h:k<l.length):lmax (l.take (k+1))=mx (lmax (l.take k)) (l[k]):=by
 cases l with
 |nil=>simp at h
 |cons x xs=>
  obtain⟨j,rfl⟩:∃j,k=j+1:=⟨k-1,by omega⟩;simp only[List.take_succ_cons,lmax,List.getElem_cons_succ];rw[List.take_succ_eq_append_getElem (by simpa using h),List.foldl_append];rfl
theorem max_calls (A0:Option Addr) (c0:Nat) (l0:List Int) (w:World) (hr0:Kd.C (Kd.int .i64) w A0 l0.length l0) (hl:l0.length≤17592186044416) (hp:1≤l0.length):
  Calls Tryz.prog 39 #[.slice A0 l0.length c0] w fun e w'=>e= .returned (.int .i64 (lmax l0))∧Drawn0 w w':=by
 have HR:=Aside0.mk hr0;obtain⟨ad,e0,hx0⟩:=Kd.at_int hr0 0 (by omega) (by omega);cases e0;clear hr0;have e1:rd l0 0=lmax (l0.take 1):=by
  cases l0 with
  |nil=>simp at hp
  |cons x xs=>rfl
 rw[e1]at hx0;clear e1;have hxz:w.cell? ad=some (.int .i64 (lmax (l0.take 1))):=by rw[←hx0];rfl
 clear hx0;go_enter Tryz.func39,Tryz.ntmps39
 go_wp2
 go_loopw [3,4] (fun m i w'=>∃k:Nat,1≤k∧k≤l0.length∧i= .int .i64 k∧m= .int .i64 (lmax (l0.take k))∧Drawn0 w w') (fun _ i _=>l0.length-(intOf i).toNat)
 case atStart=>exact⟨1,by omega,by omega,rfl,rfl,Drawn0.refl _⟩
 case round=>
  obtain⟨k,hk1,hk,rfl,rfl,⟨m1,rfl⟩⟩:=hrel;clear hxz;by_cases hlt:k<l0.length
  ·have hs:=Aside0.mk (lmax_take_succ l0 k hk1 hlt);obtain⟨ad2,e2,hx⟩:=Kd.at_int HR.out (k:Int) (by omega) (by omega);cases e2;rw[show rd l0 (k:Int)=l0[k]by simp[rd,List.getD_eq_getElem?_getD,hlt],Int.toNat_natCast]at hx
   go_wp2
   go_roundw
   case rel=>exact⟨k+1,by omega,by omega,by go_num,by rw[hs.out];rfl,by repeat (first|exact Drawn0.refl _|apply Drawn0.step)⟩
   case measure=>simp[intOf];omega
  ·have hge:l0.length≤k:=by omega
   clear hlt
   go_wp2
   go_ret;exact⟨by first|rfl|(rw[List.take_of_length_le hge];rfl),by repeat (first|exact Drawn0.refl _|apply Drawn0.step)⟩
end Go.Proofs.YtfnimdhghglanaaGreat.Sch
end
section
namespace Go.Proofs.YtfnimdhghglanaaGreat.Hand
open Go.Proofs.YtfnimdhghglanaaGreat.Sch
open Go.RowKit Go.Shelf Go.Proofs.YtfnimdhghglanaaGreatW PrintWords PrintLast PrintMore
attribute [local go_sem] max2_int min2_int max_two min_two max_three min_three max_four min_four
theorem evss_split {Mt:Nat→Prop} {w:World}:∀{hs:List SH} {ess:List (List Ev)},All2 (EvsAt Mt w) hs ess→∃sss:List (List SE),All2 (fun h ss=>Rd kE Mt w h ss) hs sss∧All2 (EvAt Mt w) sss.flatten ess.flatten
 | [],[],.nil=>⟨[],.nil,.nil⟩
 |h::hs,es::ess,.cons h1 h2=>by
  obtain⟨ss,r1,r2⟩:=h1;obtain⟨sss,r3,r4⟩:=evss_split h2;exact⟨ss::sss,.cons r1 r3,by simpa using r2.append r4⟩
theorem concatDeep {Mt:Nat→Prop} {w:World} {h:SH} {ess:List (List Ev)} (r:EvssAt Mt w h ess) (hM:∀k,Mt k→k<w.heap.size) (hn:ess.length≤1000000) (hl:ess.flatten.length≤1000000):
  Calls Tryz.prog 29 #[.slice h.A h.n h.c] w fun e w'=>∃h':SH,e= .returned (.slice h'.A h'.n h'.c)∧h'.n=ess.flatten.length∧EvsAt Mt w' h' ess.flatten∧Below w.heap.size w w':=by
 obtain⟨hs,r1,r2⟩:=r;obtain⟨sss,r3,r4⟩:=evss_split r2;have hlen:=r4.len;refine(concat_calls h.A h.n h.c hs sss r1.here (r3.imp fun h ss hr=>⟨hr.1,hr.2.1,hr.here⟩) (by rw[r1.len,r2.len];exact hn) (by rw[hlen];exact hl)).mono ?_;rintro e w' ⟨v,rfl,hv,hb⟩;obtain⟨A,n,c,hnn,rfl⟩:=R_slice3 hv;exact⟨⟨A,n,c⟩,rfl,by simp only;rw[hnn,hlen],⟨_,Rd.of_R rfl hv (fun k hk hm=>by have:=Kd.R_base hv k hk;have:=hM k hm;omega),r4.imp fun _ _ h=>h.below hb⟩,hb⟩
theorem count_calls {Mt:Nat→Prop} {w:World} {h:SH} {ess:List (List Ev)} (r:EvssAt Mt w h ess) (hM:∀k,Mt k→k<w.heap.size) (hn:ess.length≤1000000) (hl:ess.flatten.length≤1000000):
  Calls Tryz.prog 54 #[.slice h.A h.n h.c] w fun e w'=>e= .returned (.int .i64 ess.flatten.length)∧Below w.heap.size w w':=by
 have HC:=am (concatDeep r hM hn hl);clear r hM;obtain⟨hA,hN,hc⟩:=h;simp only at HC;go_enter Tryz.func54,Tryz.ntmps54
 go_wp2_with (first|(go_at_call 29;(with_reducible refine HC.out.mono ?_);rintro e w' ⟨⟨A2,n2,c2⟩,rfl,hn2,_,hb⟩;have HN:=am hn2;have HB:=am hb;clear hn2 hb))
 go_ret;exact⟨by rw[show n2=ess.flatten.length from HN.out];rfl,HB.out⟩
theorem commits_calls {Mt:Nat→Prop} {w:World} {h:SH} {ess:List (List Ev)} (r:EvssAt Mt w h ess) (hM:∀k,Mt k→k<w.heap.size) (hn:ess.length≤1000000) (hl:ess.flatten.length≤1000000):
  Calls Tryz.prog 12 #[.slice h.A h.n h.c] w fun e w'=>e= .returned (.int .i64 ess.flatten.length)∧Below w.heap.size w w':=by
 have HC:=am (concatDeep r hM hn hl);clear r hM;obtain⟨hA,hN,hc⟩:=h;simp only at HC;go_enter Tryz.func12,Tryz.ntmps12
 go_wp2_with (first|(go_at_call 29;(with_reducible refine HC.out.mono ?_);rintro e w' ⟨⟨A2,n2,c2⟩,rfl,hn2,_,hb⟩;have HN:=am hn2;have HB:=am hb;clear hn2 hb))
 go_ret;exact⟨by rw[show n2=ess.flatten.length from HN.out];rfl,HB.out⟩
theorem clipI_calls (A:Option Addr) (n c:Nat) (hc:n≤c) (w:World):Calls Tryz.prog 82 #[.slice A n c] w fun e w'=>e= .returned (.slice A n n)∧Below w.heap.size w w':=by
 have h1:(0:Int)≤(n:Int):=by omega
 have h2:(n:Int)≤(c:Int):=by omega
 go_enter Tryz.func82,Tryz.ntmps82
 go_wp2_with (fail)
 go_ret;exact⟨rfl,Below.refl _ _⟩
theorem clipP_calls (A:Option Addr) (n c:Nat) (hc:n≤c) (w:World):Calls Tryz.prog 83 #[.slice A n c] w fun e w'=>e= .returned (.slice A n n)∧Below w.heap.size w w':=by
 have h1:(0:Int)≤(n:Int):=by omega
 have h2:(n:Int)≤(c:Int):=by omega
 go_enter Tryz.func83,Tryz.ntmps83
 go_wp2_with (fail)
 go_ret;exact⟨rfl,Below.refl _ _⟩
def mn2 (x y:Int):Int:=if y<x then y else x
def lmin:List Int→Int
 | []=>0
 |x::xs=>xs.foldl mn2 x
theorem lmin_take_succ (l:List Int) (k:Nat) (h1:1≤k) (h:k<l.length):lmin (l.take (k+1))=mn2 (lmin (l.take k)) (l[k]):=by
 cases l with
 |nil=>simp at h
 |cons x xs=>
  obtain⟨j,rfl⟩:∃j,k=j+1:=⟨k-1,by omega⟩;simp only[List.take_succ_cons,lmin,List.getElem_cons_succ];rw[List.take_succ_eq_append_getElem (by simpa using h),List.foldl_append];rfl
theorem min_calls (A0:Option Addr) (c0:Nat) (l0:List Int) (w:World) (hr0:Kd.C (Kd.int .i64) w A0 l0.length l0) (hl:l0.length≤17592186044416) (hp:1≤l0.length):
  Calls Tryz.prog 77 #[.slice A0 l0.length c0] w fun e w'=>e= .returned (.int .i64 (lmin l0))∧Drawn0 w w':=by
 have HR:=am hr0;obtain⟨ad,e0,hx0⟩:=Kd.at_int hr0 0 (by omega) (by omega);cases e0;clear hr0;have e1:rd l0 0=lmin (l0.take 1):=by
  cases l0 with
  |nil=>simp at hp
  |cons x xs=>rfl
 rw[e1]at hx0;clear e1;have hxz:w.cell? ad=some (.int .i64 (lmin (l0.take 1))):=by rw[←hx0];rfl
 clear hx0;go_enter Tryz.func77,Tryz.ntmps77
 go_wp2
 go_loopw [3,4] (fun m i w'=>∃k:Nat,1≤k∧k≤l0.length∧i= .int .i64 k∧m= .int .i64 (lmin (l0.take k))∧Drawn0 w w') (fun _ i _=>l0.length-(intOf i).toNat)
 case atStart=>exact⟨1,by omega,by omega,rfl,rfl,Drawn0.refl _⟩
 case round=>
  obtain⟨k,hk1,hk,rfl,rfl,⟨m1,rfl⟩⟩:=hrel;clear hxz;by_cases hlt:k<l0.length
  ·have hs:=am (lmin_take_succ l0 k hk1 hlt);obtain⟨ad2,e2,hx⟩:=Kd.at_int HR.out (k:Int) (by omega) (by omega);cases e2;rw[show rd l0 (k:Int)=l0[k]by simp[rd,List.getD_eq_getElem?_getD,hlt],Int.toNat_natCast]at hx
   go_wp2
   go_roundw
   case rel=>exact⟨k+1,by omega,by omega,by go_num,by rw[hs.out];rfl,by repeat (first|exact Drawn0.refl _|apply Drawn0.step)⟩
   case measure=>simp[intOf];omega
  ·have hge:l0.length≤k:=by omega
   clear hlt
   go_wp2
   go_ret;exact⟨by first|rfl|(rw[List.take_of_length_le hge];rfl),by repeat (first|exact Drawn0.refl _|apply Drawn0.step)⟩
theorem infoInt:(Tryz.prog.info? 3).map (fun i=>(i.zero,i.size,i.bytes))=some (some (.int .i64 0),1,8):=by kernel_rfl
def headT (b:List Ev):List Int:=match b with
 | []=>[]
 |e::_=>[e.t]
def firsts (boxes:List (List Ev)):List Int:=(boxes.map headT).flatten
theorem firsts_next (boxes:List (List Ev)) (k:Nat) (hk:k<boxes.length):firsts (boxes.take (k+1))=firsts (boxes.take k)++headT boxes[k]:=by
 unfold firsts;rw[←List.take_append_getElem hk,List.map_append,List.flatten_append];simp
theorem firsts_le (boxes:List (List Ev)):(firsts boxes).length≤boxes.length:=by
 unfold firsts
 induction boxes with
 |nil=>simp
 |cons b l ih=>
  simp only[List.map_cons,List.flatten_cons,List.length_append,List.length_cons];have:(headT b).length≤1:=by cases b<;>simp[headT]
  omega
theorem floor_calls {Mt:Nat→Prop} {w:World} {h:SH} {boxes:List (List Ev)} (r:EvssAt Mt w h boxes) (hn:boxes.length≤1000000):
  Calls Tryz.prog 53 #[.slice h.A h.n h.c] w fun e w'=>e= .returned (.tuple #[.int .i64 (lmin (firsts boxes)),.bool (!(firsts boxes).isEmpty)])∧Below w.heap.size w w':=by
 obtain⟨hs,r1,r2⟩:=r;obtain⟨hA,hN,hc⟩:=h;have hln:hN=boxes.length:=r1.len.trans r2.len;have H1:=am r1;have H2:=am r2;have HLN:=am hln;have HN:=am hn;clear r1 r2 hln hn;go_enter Tryz.func53,Tryz.ntmps53
 go_wp2_with (fail)
 go_loopw [4,9] (fun v j wr=>∃k:Nat,k≤hN∧j= .int .i64 k∧Aside0 (Kd.R (Kd.int .i64) 3 wr w.heap.size (fun _=>True) v (firsts (boxes.take k)))∧Aside0 (Below w.heap.size w wr)) (fun _ j _=>hN-(intOf j).toNat)
 case atStart=>exact⟨0,Nat.zero_le _,rfl,⟨Kd.R_nil _ _ _ _ _⟩,⟨Below.refl _ _⟩⟩
 case round=>
  obtain⟨k,hk,rfl,HR,HB⟩:=hrel;by_cases hkn:k<hN
  ·have d1:decide ((k:Int)<(hN:Int))=true:=dt (by omega);have d1':decide (k<hN)=true:=decide_eq_true hkn;have m1:(k:Int)<(hN:Nat):=by omega
   have m0:(0:Int)≤(k:Int):=by omega
   have hkb:k≤1000000:=by have:=HLN.out;have:=HN.out;omega
   obtain⟨ad,⟨xA,xn,xc⟩,e0,⟨hl1,hx1⟩,p0⟩:=hd_cells (H1.out.below HB.out).here k hkn;simp only at e0 p0;subst e0;have hl2:k<boxes.length:=by have:=HLN.out;omega
   have hE:=H2.out.get k hl1 hl2;rw[hx1]at hE;have HNX:=am (firsts_next boxes k hl2);have HFL:=am (show(firsts (boxes.take k)).length≤1000000 by have:=firsts_le (boxes.take k);have:=HN.out;rw[List.length_take]at*;omega);obtain⟨bk,hbk⟩:∃bk,boxes[k]=bk:=⟨_,rfl⟩;rw[hbk]at hE HNX;have hlen:xn=bk.length:=hE.len;cases bk with
   |nil=>
    have z1:decide ((0:Int)<(xn:Int))=false:=decide_eq_false (by simp at hlen;omega);obtain rfl:xn=0:=by simpa using hlen
    clear hE hlen hbk
    go_wp2_with (fail)
    go_roundw
    case rel=>exact⟨k+1,Nat.succ_le_of_lt hkn,by go_num,⟨by rw[HNX.out];simpa [headT]using HR.out⟩,HB⟩
    case measure=>simp[intOf];omega
   |cons e b=>
    have hpos:0<xn:=by simp at hlen;omega
    have z1:decide ((0:Int)<(xn:Int))=true:=dt (by omega);have z1':(0:Int)<(xn:Int):=by omega
    obtain⟨ss,r3,r4⟩:=hE.below HB.out;cases r4 with
    |cons h1 h2=>
     rename_i s ss';obtain⟨ad2,e2,hab,hcl⟩:=ev_head r3.here;simp only at e2;subst e2;obtain⟨q0,_⟩:=hcl wr (fun _ _=>rfl);rw[h1.t]at q0;clear h1 h2 hcl r3 hE hlen hbk hab
     go_wp2_with (first|((with_reducible refine gate_builtin (b:= .append) (xs:= #[.tmp 16,.tmp 21]) rfl ?_);at_builtin;refine Kd.R_append (Kd.int .i64) (w0:=w) w.heap.size rfl (.tmp 16) (.tmp 21) 35 3 (.int .i64 0) 8 rfl Tryz.underlying35 infoInt rfl (by decide) (by omega) u4 (firsts (boxes.take k)) e.t [.int .i64 e.t] (fun _=>True) (fun _=>False) rfl rfl ?aP (fun _ hk=>hk.elim) ?aF ?aO ?aB ?aS ?aL ?_;(case aP=>exact rfl);(case aB=>exact HB.out);(case aF=>exact(fun _ _=>trivial));(case aO=>exact HR.out);(case aS=>exact HB.out.size);(case aL=>have:=HFL.out;omega);intro v8 w8 ho hb hg hat;have HO8:=am ho;have HB8:=am hb;clear ho hb hg hat))
     go_roundw
     case rel=>exact⟨k+1,Nat.succ_le_of_lt hkn,by go_num,⟨by rw[HNX.out];exact HO8.out⟩,HB8⟩
     case measure=>simp[intOf];omega
  ·obtain rfl:k=hN:=by omega
   have d1:decide ((k:Int)<(k:Int))=false:=df (by omega);have d1':decide (k<k)=false:=df (by omega);have hall:boxes.take k=boxes:=List.take_of_length_le (by have:=HLN.out;omega);rw[hall]at HR;obtain⟨A2,n2,c2,hn2,rfl⟩:=R_slice3 HR.out;have hfl:=firsts_le boxes;have HNN:=HN.out;by_cases h0:n2=0
   ·subst h0;have hf:firsts boxes=[]:=List.length_eq_zero_iff.1 hn2.symm;have HF:=am hf;clear hn2 hf hall hfl HNN
    go_wp2_with (fail)
    go_returns
    rw[HF.out];exact⟨rfl,HB.out⟩
   ·have z0:((n2:Int)==0)=false:=beq_eq_false_iff_ne.2 (by omega);have HMIN:=am (min_calls A2 c2 (firsts boxes) wr (by have:=(Kd.R_reads' HR.out).2.2;rwa [←hn2]at this ⊢) (by omega) (by omega));rw[←hn2]at HMIN;have HF:=am (show(firsts boxes).isEmpty=false by
     cases hf:firsts boxes with
     |nil=>rw[hf]at hn2;simp at hn2;omega
     |cons a b=>rfl)
    have h0':¬n2=0:=h0;clear hn2 hall hfl HNN
    go_wp2_with (first|(go_at_call 77;(with_reducible refine HMIN.out.mono ?_);rintro e w' ⟨rfl,hd⟩;have HD:=am hd;clear hd))
    go_returns
    rw[HF.out];obtain⟨m,rfl⟩:=HD.out;exact⟨rfl,pw_below_drewN HB.out m⟩
end Go.Proofs.YtfnimdhghglanaaGreat.Hand
end
section
namespace Go.Proofs.YtfnimdhghglanaaGreat.Hand
open Go.RowKit Go.Shelf Go.Proofs.YtfnimdhghglanaaGreatW PrintWords PrintLast PrintMore
section
def Mtab (Mt:Nat→Prop) (g:Nat) (hs:List SH) (k:Nat):Prop:=Mt k∨k=g∨∃h∈hs,h.own=some k
abbrev THd:TypeId:=47
abbrev HRow (w:World) (B g n c:Nat) (hs:List SH):Prop:=Kd.R kH THd w B (fun _=>True) (.slice (some ⟨g,0,none⟩) n c) hs
theorem HRow.typed {w:World} {B g n c:Nat} {hs:List SH} (h:HRow w B g n c hs):(∃cells,w.heap[g]?=some (Obj.cells cells THd (0,0)))∧B≤g∧g<w.heap.size:=
 ⟨Kd.R_typed h g rfl,Kd.R_base h g rfl,Kd.R_lt h g rfl⟩
theorem HRow.stay {w w':World} {B g n c:Nat} {hs:List SH} (h:HRow w B g n c hs) (hb:w'.heap[g]?=w.heap[g]?):HRow w' B g n c hs:=R_stay h rfl fun k hk=>by
 cases hk;exact hb
theorem HRow.get {w:World} {B g n c:Nat} {hs:List SH} (h:HRow w B g n c hs) (i:Nat) (hi:i<hs.length):w.cell? ⟨g,i,none⟩=some (.slice (hs[i]).A (hs[i]).n (hs[i]).c)∧w.frozen? ⟨g,i,none⟩=false∧n=hs.length:=by
 have hn:=(Kd.R_reads' h).1;obtain⟨cc,_,hM,hcc,hf⟩:=Kd.R_elem h SH.nil (i:Int) (by omega) (by omega);rw[Int.toNat_natCast]at hM hcc hf;have e4:hs.getD i SH.nil=hs[i]'hi:=by simp[List.getD_eq_getElem?_getD,List.getElem?_eq_getElem hi]
 rw[e4]at hM;obtain rfl:cc=[.slice (hs[i]'hi).A (hs[i]'hi).n (hs[i]'hi).c]:=hM;have h1:=hcc 0 _ rfl;have h2:=hf 0;simp only[show kH.sz=1 from rfl,Nat.mul_one,Nat.add_zero]at h1 h2;exact⟨h1,h2,hn⟩
theorem HRow.put {w:World} {B g n c:Nat} {hs:List SH} (h:HRow w B g n c hs) (i:Nat) (hi:i<hs.length) (x:SH):HRow (w.setCell ⟨g,i,none⟩ (.slice x.A x.n x.c)) B g n c (hs.set i x):=by
 have hn:=(Kd.R_reads' h).1;obtain⟨cc,hcl,hM,hcc,hf⟩:=Kd.R_elem h SH.nil (i:Int) (by omega) (by omega);have e4:hs.getD (i:Int).toNat SH.nil=hs[i]'hi:=by simp[List.getD_eq_getElem?_getD,List.getElem?_eq_getElem hi]
 rw[e4]at hM;obtain rfl:cc=[.slice (hs[i]'hi).A (hs[i]'hi).n (hs[i]'hi).c]:=hM;have h3:=Kd.R_seg (okp:=fun _=>False) h (i:Int) (by omega) (by omega) (c:=[.slice (hs[i]'hi).A (hs[i]'hi).n (hs[i]'hi).c]) (seg:=[.slice x.A x.n x.c]) (j:=0) (x':=x) hcl hcc (by show 0+1≤1;omega) rfl (fun _ h=>h.elim);rw[Int.toNat_natCast]at h3;have h4:=h3.1;simp only[show kH.sz=1 from rfl,Nat.mul_one,Nat.add_zero]at h4;exact h4
structure TabAt (Mt:Nat→Prop) (B:Nat) (w:World) (g n c:Nat) (hs:List SH) (ess:List (List Ev)):Prop where
 row:HRow w B g n c hs
 len:hs.length=ess.length
 el:∀(i:Nat) (h:SH) (es:List Ev),hs[i]?=some h→ess[i]?=some es→OwnEv (Mtab Mt g hs) B w h es
 apart:∀(i j:Nat) (h h':SH),i≠j→hs[i]?=some h→hs[j]?=some h'→∀k,h.own=some k→h'.own≠some k
section
variable {Mt Mt':Nat→Prop} {B:Nat} {w w':World} {g n c:Nat} {hs:List SH} {ess:List (List Ev)}
theorem TabAt.own (h:TabAt Mt B w g n c hs ess) (x:SH) (hx:x∈hs) (k:Nat) (hk:x.own=some k):(∃cells,w.heap[k]?=some (Obj.cells cells 49 (0,0)))∧B≤k∧k<w.heap.size:=by
 obtain⟨i,hi,h1⟩:=List.mem_iff_getElem.1 hx;have h2:hs[i]?=some x:=by rw[List.getElem?_eq_getElem hi,h1]
 have h3:ess[i]?=some (ess[i]'(by rw[←h.len];exact hi)):=List.getElem?_eq_getElem _;exact(h.el i x _ h2 h3).typed k hk
theorem TabAt.lt (h:TabAt Mt B w g n c hs ess) (hM:∀k,Mt k→k<w.heap.size) (k:Nat) (hk:Mtab Mt g hs k):k<w.heap.size:=by
 rcases hk with hk|rfl|⟨x,hx,hk⟩
 ·exact hM k hk
 ·exact h.row.typed.2.2
 ·exact(h.own x hx k hk).2.2
theorem TabAt.fresh (h:TabAt Mt B w g n c hs ess) (k:Keep Mt w w') (hg:w'.heap[g]?=w.heap[g]?) (ho:∀x∈hs,∀j,x.own=some j→w'.heap[j]?=w.heap[j]?) (hm:∀k,k<w.heap.size→Mt' k→Mt k):TabAt Mt' B w' g n c hs ess:=
 ⟨h.row.stay hg,h.len,fun i x es h1 h2=>(h.el i x es h1 h2).stay (k.mono fun _ _ h=> .inl h) (fun j hj hm2=>by
  rcases hm2 with h3|h3
  ·exact .inl (hm j hj h3)
  ·exact .inr h3) (fun j hj=>ho x (List.mem_of_getElem? h1) j hj),h.apart⟩
theorem TabAt.more (h:TabAt Mt B w g n c hs ess) (k:Below w.heap.size w w') (hm:∀k,k<w.heap.size→Mt' k→Mt k):TabAt Mt' B w' g n c hs ess:=
 h.fresh (Keep.of_below k) (k.block g h.row.typed.2.2) (fun x hx j hj=>k.block j (h.own x hx j hj).2.2) hm
structure TabTo (w:World) (g:Nat) (hs:List SH) (w':World) (hs':List SH):Prop where
 keep:Keep (Mtab (fun _=>False) g hs) w w'
 old:∀k,k<w.heap.size→Mtab (fun _=>False) g hs' k→Mtab (fun _=>False) g hs k
 os:w'.os=w.os
 tape:w'.tape=w.tape
 output:w'.output=w.output
theorem Mtab.wide {k:Nat} (h:Mtab (fun _=>False) g hs k):Mtab Mt g hs k:=by
 rcases h with h|h
 ·exact h.elim
 ·exact .inr h
theorem TabTo.keepM {hs':List SH} (h:TabTo w g hs w' hs'):Keep (Mtab Mt g hs) w w':=h.keep.mono fun _ _ h=>h.wide
theorem TabTo.oldM {hs':List SH} (h:TabTo w g hs w' hs') (k:Nat) (hk:k<w.heap.size) (hm:Mtab Mt g hs' k):Mtab Mt g hs k:=by
 rcases hm with hm|hm
 ·exact .inl hm
 ·exact(h.old k hk (.inr hm)).wide
theorem TabTo.refl:TabTo w g hs w hs:=⟨Keep.refl _ _,fun _ _ h=>h,rfl,rfl,rfl⟩
theorem TabTo.trans {hs' hs2:List SH} {w2:World} (h:TabTo w g hs w' hs') (k:TabTo w' g hs' w2 hs2):TabTo w g hs w2 hs2:=
 ⟨⟨Nat.le_trans h.keep.size k.keep.size,fun j hj hm=>(k.keep.block j (Nat.lt_of_lt_of_le hj h.keep.size) (fun h2=>hm (h.old j hj h2))).trans (h.keep.block j hj hm)⟩,
  fun j hj hm=>h.old j hj (k.old j (Nat.lt_of_lt_of_le hj h.keep.size) hm),k.os.trans h.os,k.tape.trans h.tape,k.output.trans h.output⟩
theorem TabTo.more (k:Below w.heap.size w w'):TabTo w g hs w' hs:=⟨Keep.of_below k,fun _ _ h=>h,k.os,k.tape,k.output⟩
theorem TabAt.push (h:TabAt Mt B w g n c hs ess) (i:Nat) {hh:SH} {es:List Ev} (hi:hs[i]?=some hh) (he:ess[i]?=some es) {ss:List SE} (hss:All2 (EvAt (Mtab Mt g hs) w) ss es) {s:SE} {e:Ev} (hse:EvAt (Mtab Mt g hs) w s e) {w5:World} {A:Option Addr} {m d:Nat}
  (hv:Kd.R kE 49 w5 B (fun _=>True) (.slice A m d) (ss++[s])) (hg:w.grownBy w5 hh.own) (hat:(SH.mk A m d).own=hh.own∨∃k,(SH.mk A m d).own=some k∧w.heap.size≤k):
  TabAt Mt B (w5.setCell ⟨g,i,none⟩ (.slice A m d)) g n c (hs.set i ⟨A,m,d⟩) (ess.set i (es++[e]))∧TabTo w g hs (w5.setCell ⟨g,i,none⟩ (.slice A m d)) (hs.set i ⟨A,m,d⟩)∧w5.heap[g]?=w.heap[g]?:=by
 have hmem:hh∈hs:=List.mem_of_getElem? hi;have hil:i<hs.length:=(List.getElem?_eq_some_iff.1 hi).1;obtain⟨⟨gc,hgc⟩,hgB,hgl⟩:=h.row.typed;have hne:hh.own≠some g:=fun e1=>by
  obtain⟨⟨cc,hc⟩,_⟩:=h.own hh hmem g e1;rw[hgc]at hc;cases hc
 have hg5:w5.heap[g]?=w.heap[g]?:=hg.block g hgl (fun e1=>hne e1.symm);have hk1:Keep (Mtab (fun _=>False) g hs) w w5:=Keep.grown hg fun k hk=> .inr (.inr ⟨hh,hmem,hk⟩);have hk2:Keep (Mtab (fun _=>False) g hs) w5 (w5.setCell ⟨g,i,none⟩ (.slice A m d)):=Keep.set (b:=g) (.inr (.inl rfl)) _;have hk:=hk1.trans hk2;have hold:∀k,k<w.heap.size→Mtab (fun _=>False) g (hs.set i ⟨A,m,d⟩) k→Mtab (fun _=>False) g hs k:=fun k hkl hm=>by
  rcases hm with hm|hm|⟨x,hx,hm⟩
  ·exact hm.elim
  ·exact .inr (.inl hm)
  ·rcases List.mem_or_eq_of_mem_set hx with h1|rfl
   ·exact .inr (.inr ⟨x,h1,hm⟩)
   ·rcases hat with h1|⟨j,h1,h2⟩
    ·exact .inr (.inr ⟨hh,hmem,h1▸hm⟩)
    ·rw[h1]at hm
     injection hm with hm
     omega
 have hto:TabTo w g hs (w5.setCell ⟨g,i,none⟩ (.slice A m d)) (hs.set i ⟨A,m,d⟩):=⟨hk,hold,hg.os,hg.tape,hg.output⟩;refine⟨⟨(h.row.stay hg5).put i hil ⟨A,m,d⟩,by rw[List.length_set,List.length_set];exact h.len,fun j x es2 h1 h2=> ?_,fun j1 j2 x1 x2 hj h1 h2 k hk1 hk2=> ?_⟩,hto,hg5⟩
 ·by_cases hj:i=j
  ·subst hj;rw[List.getElem?_set_self hil]at h1;rw[List.getElem?_set_self (by rw[←h.len];exact hil)]at h2;cases h1;cases h2;refine⟨ss++[s],R_stay hv rfl fun k hk3=>Below.heap_setCell w5 ⟨g,i,none⟩ _ k fun e1=> ?_,(hss.imp fun _ _ h=>h.fresh hto.keepM hto.oldM).append (.cons (hse.fresh hto.keepM hto.oldM) .nil)⟩;obtain⟨cc,hc⟩:=Kd.R_typed hv k hk3;simp only at e1;rw[e1,hg5,hgc]at hc;cases hc
  ·rw[List.getElem?_set_ne hj]at h1 h2;refine(h.el j x es2 h1 h2).stay hto.keepM hto.oldM fun k hk3=> ?_;obtain⟨⟨cc,hc⟩,_,h3⟩:=h.own x (List.mem_of_getElem? h1) k hk3;refine(Below.heap_setCell w5 ⟨g,i,none⟩ _ k fun e1=> ?_).trans (hg.block k h3 fun e1=>h.apart i j hh x hj hi h1 k e1.symm hk3);simp only at e1;rw[e1,hgc]at hc;cases hc
 ·have hnew:∀(j:Nat) (x:SH),j≠i→hs[j]?=some x→∀k,x.own=some k→(SH.mk A m d).own≠some k:=fun j x hji hx k hk3 hk4=>by
   rcases hat with h3|⟨j2,h3,h4⟩
   ·exact h.apart j i x hh hji hx hi k hk3 (h3▸hk4)
   ·rw[h3]at hk4
    injection hk4 with hk4
    have:=(h.own x (List.mem_of_getElem? hx) k hk3).2.2;omega
  by_cases e1:i=j1
  ·subst e1;rw[List.getElem?_set_self hil]at h1;cases h1;rw[List.getElem?_set_ne hj]at h2;exact hnew j2 x2 (Ne.symm hj) h2 k hk2 hk1
  ·rw[List.getElem?_set_ne e1]at h1;by_cases e2:i=j2
   ·subst e2;rw[List.getElem?_set_self hil]at h2;cases h2;exact hnew j1 x1 hj h1 k hk1 hk2
   ·rw[List.getElem?_set_ne e2]at h2;exact h.apart j1 j2 x1 x2 hj h1 h2 k hk1 hk2
theorem TabAt.read (h:TabAt Mt B w g n c hs ess) (hm:∀k,k<w.heap.size→Mt' k→Mtab Mt g hs k) (hg:¬Mt' g) (ho:∀x∈hs,∀k,x.own=some k→¬Mt' k):Rd kH Mt' w ⟨some ⟨g,0,none⟩,n,c⟩ hs∧All2 (EvsAt Mt' w) hs ess:=by
 refine⟨Rd.of_R rfl h.row (fun k hk hm2=> ?_),All2.of_get h.len fun i h1 h2=> ?_⟩
 ·cases hk;exact hg hm2
 ·obtain⟨ss,h3,h4⟩:=h.el i hs[i] ess[i] (List.getElem?_eq_getElem h1) (List.getElem?_eq_getElem h2);exact⟨ss,Rd.of_R rfl h3 (fun k hk=>ho _ (List.getElem_mem h1) k hk),h4.imp fun _ _ h=>h.fresh (Keep.refl _ _) hm⟩
end
end
end Go.Proofs.YtfnimdhghglanaaGreat.Hand
end
section
namespace Go.Proofs.YtfnimdhghglanaaGreat.Hand
open Go.RowKit Go.Shelf Go.Proofs.YtfnimdhghglanaaGreatW PrintWords PrintLast PrintMore
attribute [local go_sem] max2_int min2_int max_two min_two max_three min_three max_four min_four
def rowsOf (n:Nat) (l:List Ev):List (List Ev):=(List.range n).map (fun(i:Nat)=>l.filter (fun f=>decide (f.lp=(i:Int))))
theorem rowsOf_len (n:Nat) (l:List Ev):(rowsOf n l).length=n:=by simp[rowsOf]
theorem rowsOf_at {n:Nat} {l:List Ev} {i:Nat} (hi:i<n):(rowsOf n l)[i]?=some (l.filter (fun f=>decide (f.lp=(i:Int)))):=by
 simp[rowsOf,hi]
theorem rowsOf_push (n:Nat) (l:List Ev) (e:Ev) (i:Nat) (hi:i<n) (he:e.lp=(i:Int)):rowsOf n (l++[e])=(rowsOf n l).set i (l.filter (fun f=>decide (f.lp=(i:Int)))++[e]):=by
 refine List.ext_getElem? fun j=> ?_;by_cases hj:j<n
 ·rw[rowsOf_at hj];by_cases hij:i=j
  ·subst hij;rw[List.getElem?_set_self (by rw[rowsOf_len];exact hj),List.filter_append];simp[he]
  ·rw[List.getElem?_set_ne hij,rowsOf_at hj,List.filter_append];have:¬e.lp=(j:Int):=by omega
   simp[this]
 ·rw[List.getElem?_eq_none (by rw[rowsOf_len];omega),List.getElem?_eq_none (by rw[List.length_set,rowsOf_len];omega)]
theorem rowsOf_nil (n:Nat):rowsOf n []=List.replicate n []:=by
 refine List.ext_getElem? fun j=> ?_;by_cases hj:j<n
 ·rw[rowsOf_at hj,List.getElem?_replicate,if_pos hj];rfl
 ·rw[List.getElem?_eq_none (by rw[rowsOf_len];omega),List.getElem?_eq_none (by simp;omega)]
def dlv1 (b:List Ev) (l:List Ev):List Ev:=if l=[]then b else sortC (b++l)
def dlv (boxes:List (List Ev)) (es:List Ev):List (List Ev):=List.zipWith dlv1 boxes (rowsOf boxes.length es)
theorem dlv_len (boxes:List (List Ev)) (es:List Ev):(dlv boxes es).length=boxes.length:=by simp[dlv,rowsOf_len]
theorem dlv_at {boxes:List (List Ev)} {es:List Ev} {i:Nat} (hi:i<boxes.length):(dlv boxes es)[i]?=some (dlv1 boxes[i] (es.filter (fun f=>decide (f.lp=(i:Int))))):=by
 unfold dlv;rw[List.getElem?_zipWith,List.getElem?_eq_getElem hi,rowsOf_at hi]
theorem dlv_next (boxes:List (List Ev)) (es:List Ev) (i:Nat) (hi:i<boxes.length):(dlv boxes es).take (i+1)++boxes.drop (i+1)=((dlv boxes es).take i++boxes.drop i).set i (dlv1 boxes[i] (es.filter (fun f=>decide (f.lp=(i:Int))))):=by
 have h1:i<(dlv boxes es).length:=by rw[dlv_len];exact hi
 rw[List.set_append_right _ _ (by rw[List.length_take];omega),List.length_take,Nat.min_eq_left (by omega),Nat.sub_self,List.drop_eq_getElem_cons hi,List.set_cons_zero,←List.take_append_getElem h1];have h2:=dlv_at (es:=es) hi;rw[List.getElem?_eq_getElem h1]at h2
 injection h2 with h2
 rw[h2];simp
theorem dlv_mid (boxes:List (List Ev)) (es:List Ev) (i:Nat) (hi:i<boxes.length):((dlv boxes es).take i++boxes.drop i)[i]?=some boxes[i]:=by
 rw[List.getElem?_append_right (by rw[List.length_take];omega),List.length_take,dlv_len,Nat.min_eq_left (by omega),Nat.sub_self,List.drop_eq_getElem_cons hi];rfl
theorem mq2_lt {Mt:Nat→Prop} {w w1 w2:World} {go g:Nat} (hM:∀k,Mt k→k<w.heap.size) (h1:w.heap.size≤w1.heap.size) (h2:w1.heap.size≤w2.heap.size) (hgo:go<w1.heap.size) (hg:g<w2.heap.size):∀k,Mq (Mq Mt go) g k→k<w2.heap.size:=fun k hk=>by
 rcases hk with (hk|rfl)|rfl
 ·have:=hM k hk;omega
 ·omega
 ·omega
theorem mq2_old {Mt:Nat→Prop} {w:World} {go g:Nat} (hgo:w.heap.size≤go) (hg:w.heap.size≤g):∀k,k<w.heap.size→Mq (Mq Mt go) g k→Mt k:=fun k hl hk=>by
 rcases hk with (hk|rfl)|rfl
 ·exact hk
 ·omega
 ·omega
structure DlvPre (boxes sents:List (List Ev)):Prop where
 n1:1≤boxes.length
 n2:boxes.length≤1000
 m:sents.length≤1000000
 l:sents.flatten.length≤400000
 bl:∀b∈boxes,b.length≤500000
 bk:∀b∈boxes,∀e∈b,e.k.length≤1000000
 sk:∀e∈sents.flatten,e.k.length≤1000000
 lp:∀e∈sents.flatten,0≤e.lp∧e.lp<boxes.length
 so:∀b∈boxes,SortedE b
 kd:∀(i:Nat) (b:List Ev),boxes[i]?=some b→KeysD (b++sents.flatten.filter (fun f=>decide (f.lp=(i:Int))))
theorem deliver_calls {Mt:Nat→Prop} {w:World} (hM:∀k,Mt k→k<w.heap.size) {h1 h2:SH} {boxes sents:List (List Ev)} (r1:EvssAt Mt w h1 boxes) (r2:EvssAt Mt w h2 sents) (hp:DlvPre boxes sents):
  Calls Tryz.prog 74 #[.slice h1.A h1.n h1.c,.slice h2.A h2.n h2.c] w fun r w'=>∃h':SH,r= .returned (.slice h'.A h'.n h'.c)∧EvssAt Mt w' h' (dlv boxes sents.flatten)∧Below w.heap.size w w':=by
 obtain⟨hs,r1,q1⟩:=r1;obtain⟨A1,N1,c1⟩:=h1;obtain⟨A2,N2,c2⟩:=h2;obtain rfl:N1=hs.length:=r1.len;have hnb:hs.length=boxes.length:=q1.len;have H1:=am r1;have HQ1:=am q1;have H2:=am r2;have HP:=am hp;have HM:=am hM;have HNB:=am hnb;have hpos:1≤hs.length:=by rw[hnb];exact hp.n1
 have hmax:hs.length≤1000:=by rw[hnb];exact hp.n2
 obtain⟨n,hn⟩:∃n,hs.length=n:=⟨_,rfl⟩;have HN:=am hn;rw[hn]at hpos hmax;have HCL:=am (hn▸cloneEvs_calls A1 c1 hs.length hs w r1.here rfl (by omega));rw[hn];have HCC:=am (show∀(w2:World) (M':Nat→Prop),Below w.heap.size w w2→(∀k,M' k→k<w2.heap.size)→(∀k,k<w.heap.size→M' k→Mt k)→Calls Tryz.prog 29 #[.slice A2 N2 c2] w2 (fun e w'=>∃h':SH,e= .returned (.slice h'.A h'.n h'.c)∧h'.n=sents.flatten.length∧EvsAt M' w' h' sents.flatten∧Below w2.heap.size w2 w')from fun w2 M' hb hM' hm=>
  concatDeep (h:=⟨A2,N2,c2⟩) (r2.fresh (Keep.of_below hb) hm) hM' hp.m (by have:=hp.l;omega))
 clear r1 q1 r2 hp hM hn hnb;go_enter Tryz.func74,Tryz.ntmps74;go_upto_region 2 with (first|(go_at_call 79;(with_reducible refine HCL.out.mono ?_);rintro e w1 ⟨v,rfl,hv,hb⟩;obtain⟨go,co,rfl,hgo,hgol,_⟩:=Kd.R_form hv (by have:=HN.out;omega);have HV:=am hv;have HB1:=am hb;clear hv hb))
 have hv1:=HV.out;rw[HN.out]at hv1;rw[HN.out];have HV1:=am hv1;have HGO:=am hgo;have HGOL:=am hgol;clear HV hv1 hgo hgol
 go_wp2_with (first
  |((with_reducible refine gate_dst (N:=15) rfl ?_);refine Kd.R_make kH (w0:=w1) w1.heap.size THd rfl (N:=15) rfl 31 _ _ rfl (n:Int) rfl rfl Tryz.underlying31 (.slice none 0 0) 24 infoEvs rfl (by decide) (by omega) SH.nil (ok:=fun _=>True) (okp:=fun _=>True) rfl (fun _ hk=>hk) trivial (by omega) (by omega) (Below.refl _ _) (Nat.le_refl _) ?_;intro vo w2 ho hb2 hg2 hnew2;obtain⟨g,c,rfl,hg,hgl,_⟩:=Kd.R_form ho (by rw[List.length_replicate];omega);rw[List.length_replicate,Int.toNat_natCast]at ho ⊢;have HT0:=am ho;have HB2:=am hb2;have HG:=am hg;have HGL:=am hgl;clear ho hb2 hg2 hnew2 hg hgl)
  |(go_at_call 29;(with_reducible refine(HCC.out _ (Mq (Mq Mt go) g) (HB1.out.trans (HB2.out.mono HB1.out.size)) (mq2_lt HM.out HB1.out.size HB2.out.size HGOL.out HGL.out) (mq2_old HGO.out (Nat.le_trans HB1.out.size HG.out))).mono ?_);rintro e w3 ⟨⟨sA,sn,sc⟩,rfl,hsn,hse,hb3⟩;have HSN:=am hsn;have HSE:=am hse;have HB3:=am hb3;clear hsn hse hb3))
 obtain⟨es,hes⟩:∃es,sents.flatten=es:=⟨_,rfl⟩;have HES:=am hes;have HSN':=HSN.out;rw[hes]at HSN' HSE;obtain rfl:sn=es.length:=HSN';have hLP:=HP.out.lp;have hL:=HP.out.l;have hSK:=HP.out.sk;rw[hes]at hLP hL hSK;have HLP:=am hLP;have HL:=am hL;have HSK:=am hSK;clear HSN hes hLP hL hSK;have hb1:=HB1.out;have hb2:=HB2.out;have hb3:=HB3.out;have hgw:=HG.out;have hgo:=HGO.out;have hgol:=HGOL.out;have hgl:=HGL.out;have hbw3:Below w.heap.size w w3:=(hb1.trans (hb2.mono hb1.size)).trans (hb3.mono (Nat.le_trans hb1.size hb2.size))
 have hmq:∀k,k<w.heap.size→Mtab (Mq Mt go) g (List.replicate n SH.nil) k→Mt k:=fun k hk hm=>by
  have:=hb1.size;rcases hm with (hm|rfl)|rfl|⟨x,hx,hm⟩
  ·exact hm
  ·omega
  ·omega
  ·rw[(List.mem_replicate.1 hx).2]at hm;cases hm
 have hT0:TabAt (Mq Mt go) w.heap.size w3 g n c (List.replicate n SH.nil) (rowsOf n (es.take 0)):=by
  refine⟨(HRow.stay (Kd.R_lower HT0.out hb1.size) (hb3.block g hgl)),by rw[List.take_zero,rowsOf_len,List.length_replicate],fun i x l h1 h2=> ?_,fun i j x x' _ h1 _ k hk=> ?_⟩
  ·rw[(List.mem_replicate.1 (List.mem_of_getElem? h1)).2];rw[List.take_zero,rowsOf_nil]at h2;rw[(List.mem_replicate.1 (List.mem_of_getElem? h2)).2];exact⟨[],Kd.R_nil _ _ _ _ _,.nil⟩
  ·rw[(List.mem_replicate.1 (List.mem_of_getElem? h1)).2]at hk;cases hk
 have hgne:g≠go:=by omega
 have HGNE:=am hgne;have hV3:HRow w3 w.heap.size go n co hs:=HRow.stay (w:=w1) HV1.out ((hb3.block go (by have:=hb2.size;omega)).trans (hb2.block go hgol));have hbq:All2 (EvsAt (Mtab (Mq Mt go) g (List.replicate n SH.nil)) w3) hs boxes:=HQ1.out.imp fun _ _ h=>h.fresh (Keep.of_below hbw3) hmq;have hsq:EvsAt (Mtab (Mq Mt go) g (List.replicate n SH.nil)) w3 ⟨sA,es.length,sc⟩ es:=HSE.out.fresh (Keep.refl _ _) (fun k hk hm=>by
  rcases hm with hm|rfl|⟨x,hx,hm⟩
  ·exact .inl hm
  ·exact .inr rfl
  ·rw[(List.mem_replicate.1 hx).2]at hm;cases hm)
 have HMQ:=am (show∀k,Mq Mt go k→k<w3.heap.size from fun k hk=>by
  have:=hbw3.size;rcases hk with hk|rfl
  ·have:=HM.out k hk;omega
  ·have:=hb2.size;have:=hb3.size;omega)
 have HV3:=am hV3;have HBQ:=am hbq;have HSQ:=am hsq;have HTAB0:=am hT0;have HBW3:=am hbw3;clear hb1 hb2 hb3 hgw hgo hgol hgl hbw3 hmq hT0 hgne hV3 hbq hsq HT0
 go_wp2_with (fail)
 go_loopw [19] (fun j wr=>∃k:Nat,k≤es.length∧j= .int .i64 k∧∃hs':List SH,Aside0 (TabAt (Mq Mt go) w.heap.size wr g n c hs' (rowsOf n (es.take k)))∧Aside0 (TabTo w3 g (List.replicate n SH.nil) wr hs')∧Aside0 (EvsAt (Mtab (Mq Mt go) g hs') wr ⟨sA,es.length,sc⟩ es)∧Aside0 (All2 (EvsAt (Mtab (Mq Mt go) g hs') wr) hs boxes)∧Aside0 (HRow wr w.heap.size go n co hs)) (fun j _=>es.length-(intOf j).toNat)
 case atStart=>exact⟨0,Nat.zero_le _,rfl,_,HTAB0,⟨TabTo.refl⟩,HSQ,HBQ,HV3⟩
 case round=>
  obtain⟨k,hk,rfl,hs',HT,HTO,HS,HBX,HGR⟩:=hrel;by_cases hkn:k<es.length
  ·have d1:decide ((k:Int)<(es.length:Int))=true:=dt (by omega);have d1':decide (k<es.length)=true:=decide_eq_true hkn;have m1:(k:Int)<(es.length:Nat):=by omega
   have m0:(0:Int)≤(k:Int):=by omega
   have hkb:k≤1000000:=by have:=HL.out;omega
   obtain⟨ssr,hr1,hr2⟩:=HS.out;obtain⟨ad,⟨nt,⟨nA,nN,nc⟩,nl,nk,np,na⟩,e0,⟨hl1,hx1⟩,p0,p1,p2,p3,p4,p5⟩:=ev_cells hr1.here k hkn;simp only at e0 p0 p1 p2 p3 p4 p5;subst e0;have hN:=hr2.get k hl1 hkn;rw[hx1]at hN;obtain⟨e,he⟩:∃e,es[k]=e:=⟨_,rfl⟩;have help:=HLP.out es[k] (List.getElem_mem hkn);rw[he]at hN help;have hnl:nl=e.lp:=hN.lp;obtain⟨i,hi⟩:∃i:Nat,e.lp=(i:Int):=⟨e.lp.toNat,by omega⟩;have hin:i<n:=by have:=HNB.out;have:=HN.out;omega
   rw[hi]at hnl;subst hnl;have HPU:=am (rowsOf_push n (es.take k) e i hin hi);have HTK:=am (show es.take (k+1)=es.take k++[e]by rw[←he];exact(List.take_append_getElem hkn).symm);have hb8:=below_alloc (Below.refl wr.heap.size wr) (.cells #[.int .i64 nt,.slice nA nN nc,.int .i64 (i:Int),.int .i64 nk,.int .i64 np,.int .i64 na] 49)
   have hbox:(wr.alloc (.cells #[.int .i64 nt,.slice nA nN nc,.int .i64 (i:Int),.int .i64 nk,.int .i64 np,.int .i64 na] 49)).heap[wr.heap.size]?=some (.cells #[.int .i64 nt,.slice nA nN nc,.int .i64 (i:Int),.int .i64 nk,.int .i64 np,.int .i64 na] 49 (0,0)):=World.alloc_heap_new _ _;have HB8:=am hb8;have HBOX:=am hbox;have HN8:=am (hN.below hb8);clear hr1 hr2 hl1 hx1 hN he help hi hb8 hbox;go_upto_region 6 with (fail)
   obtain⟨w8,hw8⟩:∃w8,wr.alloc (.cells #[.int .i64 nt,.slice nA nN nc,.int .i64 (i:Int),.int .i64 nk,.int .i64 np,.int .i64 na] 49)=w8:=⟨_,rfl⟩;obtain⟨qn,hqn⟩:∃qn,wr.heap.size=qn:=⟨_,rfl⟩;rw[hw8]at HB8 HBOX HN8 ⊢;rw[hqn]at HBOX ⊢;have hT8:=HT.out.more HB8.out (Mt':=Mq Mt go) (fun _ _ h=>h);have hlen:hs'.length=n:=by rw[HT.out.len,rowsOf_len]
   have hih:i<hs'.length:=by omega
   obtain⟨hh,hhh⟩:∃hh,hs'[i]=hh:=⟨_,rfl⟩;have hgi:=hT8.row.get i hih;rw[hhh]at hgi;have g9:w8.cell? ⟨g,i,none⟩=some (.slice hh.A hh.n hh.c):=hgi.1;have HF9:=am hgi.2.1;have n0':w8.cell? ⟨qn,0,none⟩=some (.int .i64 nt):=by simp[World.cell?,HBOX.out]
   have n1':w8.cell? ⟨qn,1,none⟩=some (.slice nA nN nc):=by simp[World.cell?,HBOX.out]
   have n2':w8.cell? ⟨qn,2,none⟩=some (.int .i64 (i:Int)):=by simp[World.cell?,HBOX.out]
   have n3':w8.cell? ⟨qn,3,none⟩=some (.int .i64 nk):=by simp[World.cell?,HBOX.out]
   have n4':w8.cell? ⟨qn,4,none⟩=some (.int .i64 np):=by simp[World.cell?,HBOX.out]
   have n5':w8.cell? ⟨qn,5,none⟩=some (.int .i64 na):=by simp[World.cell?,HBOX.out]
   have hql:qn<w8.heap.size:=blk_lt HBOX.out;have hgl8:=hT8.row.typed.2.2;have HGL:=am hgl8;have HQL:=am hql;have al:∀ob j,(w8.drew.alloc ob).cell? ⟨g,j,none⟩=w8.cell? ⟨g,j,none⟩:=fun ob j=>(below_alloc (Below.refl w8.drew.heap.size w8.drew) ob).cell (p:=⟨g,j,none⟩) hgl8;have aq:∀ob j,(w8.drew.alloc ob).cell? ⟨qn,j,none⟩=w8.cell? ⟨qn,j,none⟩:=fun ob j=>(below_alloc (Below.refl w8.drew.heap.size w8.drew) ob).cell (p:=⟨qn,j,none⟩) hql;have a9:=fun ob=>(al ob i).trans g9;have a0:=fun ob=>(aq ob 0).trans n0';have a1:=fun ob=>(aq ob 1).trans n1';have a2:=fun ob=>(aq ob 2).trans n2'
   have a3:=fun ob=>(aq ob 3).trans n3';have a4:=fun ob=>(aq ob 4).trans n4';have a5:=fun ob=>(aq ob 5).trans n5';have hi1:hs'[i]?=some hh:=by rw[List.getElem?_eq_getElem hih,hhh]
   have hi2:=rowsOf_at (l:=es.take k) hin;obtain⟨ss,hse,hse2⟩:=hT8.el i hh _ hi1 hi2;have HI1:=am hi1;have HI2:=am hi2;have HSL:=am (show ss.length≤500000 by
    rw[hse2.len];have h1:=List.length_filter_le (fun f:Ev=>decide (f.lp=(i:Int))) (es.take k);have h2:=HL.out;rw[List.length_take]at h1;omega)
   have HNB:=am (show some g≠(Value.slice hh.A hh.n hh.c).ownBlock from fun e1=>by
    obtain⟨⟨cc,hc⟩,_⟩:=hT8.own hh (List.mem_of_getElem? hi1) g e1.symm;obtain⟨⟨c2,hc2⟩,_⟩:=hT8.row.typed;rw[hc2]at hc;cases hc)
   have HNQ:=am (show some qn≠(Value.slice hh.A hh.n hh.c).ownBlock from fun e1=>by
    obtain⟨_,_,h3⟩:=HT.out.own hh (List.mem_of_getElem? hi1) qn e1.symm;omega)
   have HSE:=am hse;have HSE2:=am hse2;have HSZ:=am (show w.heap.size≤w8.drew.heap.size by
    have:=hT8.row.typed.2.1;show w.heap.size≤w8.heap.size;omega)
   have HT8:=am hT8;have mi0:(0:Int)≤(i:Int):=by omega
   have mi1:(i:Int)<(n:Nat):=by omega
   clear hw8 hqn hT8 hlen hih hhh hgi hql hgl8 al aq hi1 hi2 hse hse2 p0 p1 p2 p3 p4 p5;refine sz_ 13 (S:=fun w'=>w'.cell? ⟨g,i,none⟩=some (.slice hh.A hh.n hh.c)∧w'.cell? ⟨qn,0,none⟩=some (.int .i64 nt)∧w'.cell? ⟨qn,1,none⟩=some (.slice nA nN nc)∧w'.cell? ⟨qn,2,none⟩=some (.int .i64 (i:Int))∧w'.cell? ⟨qn,3,none⟩=some (.int .i64 nk)∧w'.cell? ⟨qn,4,none⟩=some (.int .i64 np)∧w'.cell? ⟨qn,5,none⟩=some (.int .i64 na)) (ds:=[12]) ⟨g9,n0',n1',n2',n3',n4',n5'⟩ (fun hHeld=> ?_);refine pz_ 0 23 13 1 ?_;refine pz_ 1 24 13 3 ?_;refine pz_ 3 26 13 11 ?_;refine pz_ 4 27 13 27 ?_
   refine tz_ 2 25 13 31 hHeld ?_;refine tz_ 5 28 13 63 hHeld ?_;refine pz_ 6 29 13 127 ?_;refine tz_ 7 30 13 255 hHeld ?_;refine tz_ 8 31 13 511 hHeld ?_;refine one_ (i:=9) (N:=some 32) (bv 13 1023) rfl rfl (by kernel_rfl) (by decide) (fun K hK=> ?_);refine value_ (w1:= ?_) (v:= ?_) (by rfl) rfl ?_ ?_;rotate_left 2
   ·go_simp;constructor
    ·rfl
    ·rfl
   refine hK.out _ _ ⟨a9 _,a0 _,a1 _,a2 _,a3 _,a4 _,a5 _⟩ (fun hHeld=> ?_);clear hK K;refine norm_ (a':= ?_) ?_ ?_;rotate_left
   ·show Act.put _ (some 32) _=_;simp only[Act.put,List.setIfInBounds_toArray,List.set_cons_zero,List.set_cons_succ,i64_w,i32_w];rfl
   refine one_ (i:=10) (N:=some 33) (bv 13 2047) rfl rfl (by kernel_rfl) (by decide) (fun K hK=> ?_)
   refine Kd.R_append_step kE (w0:=w8) w.heap.size (by rfl) (.tmp 30) (.tmp 32) 47 49 (.agg #[.int .i64 0,.slice none 0 0,.int .i64 0,.int .i64 0,.int .i64 0,.int .i64 0]) 64 rfl Tryz.underlying47 infoEv rfl (by decide) (by omega) (.slice hh.A hh.n hh.c) ss ⟨nt,⟨nA,nN,nc⟩,(i:Int),nk,np,na⟩ [.int .i64 nt,.slice nA nN nc,.int .i64 (i:Int),.int .i64 nk,.int .i64 np,.int .i64 na] (fun _=>True) (fun _=>False) rfl rfl rfl (fun _ hk=>hk.elim) (fun _ _=>trivial) (Kd.R_drew HSE.out) (below_drew (Below.refl _ _)) HSZ.out (by have:=HSL.out;omega) ?_;intro v5 w5 hv5 hb5 hg5 hat5
   obtain⟨Z5,z5,zc5,hn5,rfl⟩:=R_slice3 hv5;have hx10:w5.cell? ⟨g,i,none⟩=some (.slice hh.A hh.n hh.c):=by simp only[World.cell?,hg5.block g HGL.out HNB.out];exact g9
   have hf10:w5.frozen? ⟨g,i,none⟩=false:=by simp only[World.frozen?,hg5.block g HGL.out HNB.out];exact HF9.out
   have x0:w5.cell? ⟨qn,0,none⟩=some (.int .i64 nt):=by simp only[World.cell?,hg5.block qn HQL.out HNQ.out];exact n0'
   have x1:w5.cell? ⟨qn,1,none⟩=some (.slice nA nN nc):=by simp only[World.cell?,hg5.block qn HQL.out HNQ.out];exact n1'
   have x2:w5.cell? ⟨qn,2,none⟩=some (.int .i64 (i:Int)):=by simp only[World.cell?,hg5.block qn HQL.out HNQ.out];exact n2'
   have x3:w5.cell? ⟨qn,3,none⟩=some (.int .i64 nk):=by simp only[World.cell?,hg5.block qn HQL.out HNQ.out];exact n3'
   have x4:w5.cell? ⟨qn,4,none⟩=some (.int .i64 np):=by simp only[World.cell?,hg5.block qn HQL.out HNQ.out];exact n4'
   have x5:w5.cell? ⟨qn,5,none⟩=some (.int .i64 na):=by simp only[World.cell?,hg5.block qn HQL.out HNQ.out];exact n5'
   have HV5:=am hv5;have HG5:=am hg5;have HAT5:=am hat5;clear hv5 hg5 hb5 hat5 hn5;refine hK.out _ _ ⟨hx10,x0,x1,x2,x3,x4,x5⟩ (fun hHeld=> ?_);clear hK K;refine norm_ (a':= ?_) ?_ ?_;rotate_left
   ·show Act.put _ (some 33) _=_;simp only[Act.put,List.setIfInBounds_toArray,List.set_cons_zero,List.set_cons_succ,i64_w,i32_w];rfl
   refine pz_ 11 34 13 4095 ?_;refine last_ (i:=12) (N:=none) (bv 13 8191) rfl rfl (by kernel_rfl) (by decide) (fun K hK=> ?_);refine skip_ (w1:= ?_) (by rfl) rfl ?_ ?_;rotate_left
   ·go_simp;rfl
   refine hK.out _ _ ?_;clear hK K;refine done_ (by kernel_rfl) ?_;have hd1:=below_drew (Below.refl w8.heap.size w8);obtain⟨hT9,hTO9,_⟩:=(HT8.out.more hd1 (Mt':=Mq Mt go) (fun _ _ h=>h)).push i HI1.out HI2.out (HSE2.out.imp fun _ _ h=>h.keep (Keep.of_below hd1)) (HN8.out.below hd1) HV5.out HG5.out HAT5.out;have hto:=(TabTo.more (g:=g) (hs:=hs') HB8.out).trans ((TabTo.more (g:=g) (hs:=hs') hd1).trans hTO9);rw[←HPU.out,←HTK.out]at hT9;have HT11:=am hT9;have HTO11:=am (HTO.out.trans hto);have HS11:=am (HS.out.fresh (hto.keepM (Mt:=Mq Mt go)) hto.oldM)
   have HBX11:=am (HBX.out.imp fun _ _ h=>h.fresh (hto.keepM (Mt:=Mq Mt go)) hto.oldM);have hgoM:¬Mtab (fun _=>False) g hs' go:=fun hm=>by
    rcases hm with hm|hm|⟨x,hx,hm⟩
    ·exact hm
    ·exact HGNE.out hm.symm
    ·obtain⟨⟨cc,hc⟩,_⟩:=HT.out.own x hx go hm;obtain⟨⟨c2,hc2⟩,_⟩:=HGR.out.typed;rw[hc2]at hc;cases hc
   have HGR11:=am (HGR.out.stay (hto.keep.block go HGR.out.typed.2.2 hgoM));clear hd1 hT9 hTO9 hto hgoM hx10 hf10 x0 x1 x2 x3 x4 x5 g9 a9 a0 a1 a2 a3 a4 a5 n0' n1' n2' n3' n4' n5'
   go_wp2_with (fail)
   go_roundw
   case rel=>exact⟨k+1,Nat.succ_le_of_lt hkn,by go_num,_,HT11,HTO11,HS11,HBX11,HGR11⟩
   case measure=>simp[intOf];omega
  ·obtain rfl:k=es.length:=by omega
   have d1:decide ((es.length:Int)<(es.length:Int))=false:=df (by omega);have d1':decide (es.length<es.length)=false:=df (by omega);rw[List.take_length]at HT;have hgoM:¬Mtab Mt g hs' go:=fun hm=>by
    rcases hm with hm|hm|⟨x,hx,hm⟩
    ·have:=HM.out go hm;have:=HGO.out;omega
    ·exact HGNE.out hm.symm
    ·obtain⟨⟨cc,hc⟩,_⟩:=HT.out.own x hx go hm;obtain⟨⟨c2,hc2⟩,_⟩:=HGR.out.typed;rw[hc2]at hc;cases hc
   obtain⟨hrd,hre⟩:=HT.out.read (Mt':=Mq Mt go) (fun k _ h=> .inl h) (fun hm=>by
    rcases hm with hm|hm
    ·have:=HM.out g hm;have:=HT.out.row.typed.2.1;omega
    ·exact HGNE.out hm) (fun x hx k hk hm=>by
    obtain⟨⟨cc,hc⟩,h2,_⟩:=HT.out.own x hx k hk;rcases hm with hm|hm
    ·have:=HM.out k hm;omega
    ·subst hm;obtain⟨⟨c2,hc2⟩,_⟩:=HGR.out.typed;rw[hc2]at hc;cases hc)
   have HRD:=am hrd;have HRE:=am hre;have HBO:=am (HBX.out.imp fun _ _ h=>h.fresh (Mt':=Mq Mt go) (Keep.refl _ _) (fun k _ h=> .inl h));have hbw:Below w.heap.size w wr:=HBW3.out.trans ⟨HTO.out.os,HTO.out.tape,HTO.out.output,HTO.out.keep.size,fun k hk=>HTO.out.keep.block k (Nat.lt_of_lt_of_le hk HBW3.out.size) fun hm=>by
    rcases hm with hm|hm|⟨x,hx,hm⟩
    ·exact hm
    ·have:=HT.out.row.typed.2.1;omega
    ·rw[(List.mem_replicate.1 hx).2]at hm;cases hm⟩
   have HBW:=am hbw;have HMQ2:=am (show∀k,Mq Mt go k→k<wr.heap.size from fun k hk=>Nat.lt_of_lt_of_le (HMQ.out k hk) HTO.out.keep.size);have HBN:=am (show boxes.length=n from HNB.out.symm.trans HN.out);have HLEN:=am (show hs'.length=n by rw[HT.out.len,rowsOf_len]);clear hgoM hrd hre hbw hkn hk
   go_wp2_with (fail)
   obtain⟨wm,rfl⟩:∃wm,wm=wr:=⟨wr,rfl⟩
   go_loopw [38] (fun j wr=>∃i:Nat,i≤n∧j= .int .i64 i∧∃ho:List SH,Aside0 (HRow wr w.heap.size go n co ho)∧Aside0 (All2 (EvsAt (Mq Mt go) wr) ho ((dlv boxes es).take i++boxes.drop i))∧Aside0 (Keep (Mq Mt go) wm wr)∧Aside0 (Below w.heap.size w wr)) (fun j _=>n-(intOf j).toNat)
   case atStart=>exact⟨0,Nat.zero_le _,rfl,hs,HGR,⟨by simpa using HBO.out⟩,⟨Keep.refl _ _⟩,HBW⟩
   case round=>
    obtain⟨i,hi,rfl,ho,HO,HE,HK,HBB⟩:=hrel;by_cases hin:i<n
    ·have d3:decide ((i:Int)<(n:Int))=true:=dt (by omega);have d3':decide (i<n)=true:=decide_eq_true hin;have mi1:(i:Int)<(n:Nat):=by omega
     have mi0:(0:Int)≤(i:Int):=by omega
     have hib:i≤1000000:=by omega
     have hih:i<hs'.length:=by have:=HLEN.out;omega
     obtain⟨ad2,⟨xA,xn,xc⟩,e0,⟨hl1,hx1⟩,p0⟩:=hd_cells (HRD.out.keep HK.out).here i hin;simp only[Option.some.injEq]at e0;subst e0;rw[add_at,Nat.zero_add]at p0;have hrow:EvsAt (Mq Mt go) wr ⟨xA,xn,xc⟩ (es.filter (fun f=>decide (f.lp=(i:Int)))):=by
      have h1:=HRE.out.get i hih (by rw[rowsOf_len];exact hin);have h2:(rowsOf n es)[i]'(by rw[rowsOf_len];exact hin)=es.filter (fun f=>decide (f.lp=(i:Int))):=by
       have:=rowsOf_at (l:=es) hin;rw[List.getElem?_eq_getElem (by rw[rowsOf_len];exact hin)]at this
       injection this
      rw[h2,hx1]at h1;exact h1.keep HK.out
     have hlen:xn=_:=hrow.len;have hib2:i<boxes.length:=by have:=HBN.out;omega
     have hmid:=dlv_mid boxes es i hib2;have hnx:=dlv_next boxes es i hib2;obtain⟨bi,hbi⟩:∃bi,boxes[i]=bi:=⟨_,rfl⟩;rw[hbi]at hmid hnx;have hbim:bi∈boxes:=hbi▸List.getElem_mem hib2;have hpk:=HP.out.kd i bi (by rw[List.getElem?_eq_getElem hib2,hbi]);rw[HES.out]at hpk;obtain⟨li,hli⟩:∃li,es.filter (fun f=>decide (f.lp=(i:Int)))=li:=⟨_,rfl⟩;rw[hli]at hrow hlen hnx hpk;have HMID:=am hmid;have HNX:=am hnx;have hget:=HO.out.get i (by
      have:=HE.out.len;rw[List.length_append,List.length_take,List.length_drop,dlv_len]at this;omega)
     have hoi:i<ho.length:=by
      have:=HE.out.len;rw[List.length_append,List.length_take,List.length_drop,dlv_len]at this;omega
     have hei:=HE.out.get i hoi (by rw[List.length_append,List.length_take,List.length_drop,dlv_len];omega);have hmid2:((dlv boxes es).take i++boxes.drop i)[i]'(by rw[List.length_append,List.length_take,List.length_drop,dlv_len];omega)=bi:=by
      have:=hmid;rw[List.getElem?_eq_getElem (by rw[List.length_append,List.length_take,List.length_drop,dlv_len];omega)]at this
      injection this
     rw[hmid2]at hei;obtain⟨yh,hyh⟩:∃yh,ho[i]=yh:=⟨_,rfl⟩;rw[hyh]at hget hei;have HOI:=am hoi;have g4:wr.cell? ⟨go,i,none⟩=some (.slice yh.A yh.n yh.c):=hget.1;cases li with
     |nil=>
      obtain rfl:xn=0:=by simpa using hlen
      have HSAME:=am (show((dlv boxes es).take i++boxes.drop i).set i (dlv1 bi [])=(dlv boxes es).take i++boxes.drop i by
       have:dlv1 bi []=bi:=rfl;rw[this];exact list_set_same hmid)
      clear hrow hlen hmid hnx hbi hpk hli hget hei hmid2 hyh hl1 hx1 hoi
      go_wp2_with (fail)
      go_roundw
      case rel=>exact⟨i+1,Nat.succ_le_of_lt hin,by go_num,ho,HO,⟨by rw[HNX.out,HSAME.out];exact HE.out⟩,HK,HBB⟩
      case measure=>simp[intOf];omega
     |cons e0 li=>
      have z1:decide ((0:Int)<(xn:Int))=true:=decide_eq_true (by simp at hlen;omega);have z1':(0:Int)<(xn:Int):=by simp at hlen;omega
      have HMG:=am (show Calls Tryz.prog 100 #[.slice yh.A yh.n yh.c,.slice xA xn xc] wr (fun e w'=>∃(h':SH) (ms':List Ev),e= .returned (.slice h'.A h'.n h'.c)∧ms'.Perm (e0::li)∧SortedE ms'∧EvsAt (Mq Mt go) w' h' (mergeE bi ms')∧Below wr.heap.size wr w')from
       mbMerge_calls (h1:=yh) (h2:=⟨xA,xn,xc⟩) hei hrow (fun k hk=>Nat.lt_of_lt_of_le (HMQ2.out k hk) HK.out.size) (by have:=HP.out.bl bi hbim;omega) (by
        have h1:=List.length_filter_le (fun f:Ev=>decide (f.lp=(i:Int))) es;have h2:=HL.out;rw[hli]at h1;omega) (HP.out.bk bi hbim) (fun f hf=>HSK.out f (List.mem_filter.1 (hli▸hf)).1))
      have HSO:=am (HP.out.so bi hbim);have HPK:=am hpk;clear hrow hlen hmid hnx hbi hpk hli hget hei hmid2 hyh hl1 hx1 hoi
      go_wp2_with (first|(go_at_call 100;(with_reducible refine HMG.out.mono ?_);rintro e w9 ⟨h9,ms',rfl,hpm,hsm,hev,hb9⟩;have hgr:=HO.out.stay (hb9.block go HO.out.typed.2.2);obtain⟨g49,f49,hzz⟩:=hgr.get i HOI.out;clear hzz;have HGR9:=am hgr;have HPM:=am hpm;have HSM:=am hsm;have HEV:=am hev;have HB9:=am hb9;clear hgr hpm hsm hev hb9))
      have hk9:Keep (Mq Mt go) wr (w9.setCell ⟨go,i,none⟩ (.slice h9.A h9.n h9.c)):=(Keep.of_below HB9.out).trans (Keep.set (b:=go) (.inr rfl) _);have hE9:=(HE.out.imp fun _ _ h=>h.keep hk9).set i (HEV.out.keep (Keep.set (b:=go) (.inr rfl) (.slice h9.A h9.n h9.c)));have hmg:mergeE bi ms'=dlv1 bi (e0::li):=by
       unfold dlv1;rw[if_neg (by simp)];exact mergeE_of HSO.out HSM.out HPM.out HPK.out
      rw[hmg,←HNX.out]at hE9;have HO9:=am (HGR9.out.put i HOI.out h9);have HE9:=am hE9;have HK9:=am (HK.out.trans hk9);have HBB9:=am (show Below w.heap.size w (w9.setCell ⟨go,i,none⟩ (.slice h9.A h9.n h9.c))from(HBB.out.trans (HB9.out.mono HBB.out.size)).setCell (p:=⟨go,i,none⟩) HGO.out _);clear hk9 hE9 hmg g49 f49
      go_roundw
      case rel=>exact⟨i+1,Nat.succ_le_of_lt hin,by go_num,_,HO9,HE9,HK9,HBB9⟩
      case measure=>simp[intOf];omega
    ·obtain rfl:i=n:=by omega
     have d3:decide ((i:Int)<(i:Int))=false:=df (by omega);have d3':decide (i<i)=false:=df (by omega)
     go_wp2_with (fail)
     go_ret;refine⟨⟨some ⟨go,0,none⟩,i,co⟩,rfl,⟨ho,Rd.of_R rfl HO.out (fun k hk hm=> ?_),?_⟩,HBB.out⟩
     ·cases hk;have:=HM.out go hm;have:=HGO.out;omega
     ·have h1:=HE.out;rw[List.take_of_length_le (by rw[dlv_len];have:=HBN.out;omega),List.drop_eq_nil_of_le (by have:=HBN.out;omega),List.append_nil]at h1;rw[HES.out];exact h1.imp fun _ _ h=>h.fresh (Keep.refl _ _) (fun k _ h=> .inl h)
theorem rd_hd {Mt:Nat→Prop} {w:World} {b:Nat} (hs:List SH) (hb:w.heap[b]?=some (.cells (hs.map fun h=>Value.slice h.A h.n h.c).toArray THd (0,0))) (hm:¬Mt b) (hn:hs.length≤1000000):Rd kH Mt w ⟨some ⟨b,0,none⟩,hs.length,hs.length⟩ hs:=
 ⟨rfl,Nat.le_refl _,fun w2 hk=>hd_row hs THd ((hk.block b (blk_lt hb) hm).trans hb) (by omega)⟩
theorem boxes_calls {Mt:Nat→Prop} {w:World} (hM:∀k,Mt k→k<w.heap.size) (n:Nat) (h1:1≤n) (h2:n≤1000) {h:SH} {es:List Ev} (r:EvsAt Mt w h es) (hl:es.length≤400000) (hk:∀e∈es,e.k.length≤1000000) (hlp:∀e∈es,0≤e.lp∧e.lp<n) (hd:KeysD es):
  Calls Tryz.prog 51 #[.int .i64 n,.slice h.A h.n h.c] w fun e w'=>∃h':SH,e= .returned (.slice h'.A h'.n h'.c)∧EvssAt Mt w' h' (dlv (List.replicate n []) es)∧Below w.heap.size w w':=by
 obtain⟨hA,hN,hc⟩:=h;have hnil:∀b∈List.replicate n ([]:List Ev),b=[]:=fun b hb=>(List.mem_replicate.1 hb).2;have hpre:DlvPre (List.replicate n []) [es]:=by
  refine⟨by simpa using h1,by simpa using h2,by simp,by simpa using hl,fun b hb=> ?_,fun b hb e he=> ?_,by simpa using hk,by simpa using hlp,fun b hb=> ?_,fun i b hb=> ?_⟩
  ·rw[hnil b hb];simp
  ·rw[hnil b hb]at he;cases he
  ·rw[hnil b hb];exact .nil
  ·rw[hnil b (List.mem_of_getElem? hb)]
   simpa using hd.sub List.filter_sublist
 have HDL:=am (show∀(w1:World) (g c q:Nat),Below w.heap.size w w1→w.heap.size≤g→w.heap.size≤q→Kd.R kH THd w1 w.heap.size (fun _=>True) (.slice (some ⟨g,0,none⟩) n c) (List.replicate n SH.nil)→w1.heap[q]?=some (.cells #[.slice hA hN hc] THd (0,0))→
   Calls Tryz.prog 74 #[.slice (some ⟨g,0,none⟩) n c,.slice (some ⟨q,0,none⟩) 1 1] w1 (fun e w'=>∃h':SH,e= .returned (.slice h'.A h'.n h'.c)∧EvssAt Mt w' h' (dlv (List.replicate n []) es)∧Below w1.heap.size w1 w')from fun w1 g c q hb hg hq hR hbl=>by
  have hM1:∀k,Mt k→k<w1.heap.size:=fun k hk=>Nat.lt_of_lt_of_le (hM k hk) hb.size;have e1:EvssAt Mt w1 ⟨some ⟨g,0,none⟩,n,c⟩ (List.replicate n []):=by
   refine⟨List.replicate n SH.nil,Rd.of_R rfl hR (fun k hk hm=> ?_),All2.of_get (by simp) fun i h3 h4=> ?_⟩
   ·cases hk;have:=hM g hm;omega
   ·simp only[List.getElem_replicate];exact⟨[],Rd.nil _ _ _,.nil⟩
  have e2:EvssAt Mt w1 ⟨some ⟨q,0,none⟩,1,1⟩ [es]:=⟨[⟨hA,hN,hc⟩],rd_hd [⟨hA,hN,hc⟩] hbl (fun hm=>by have:=hM q hm;omega) (by simp),.cons (r.keep (Keep.of_below hb)) .nil⟩;have:=deliver_calls hM1 e1 e2 hpre
  simpa using this)
 clear hM r hl hk hlp hd hpre hnil;go_enter Tryz.func51,Tryz.ntmps51
 go_wp2_with (first
  |((with_reducible refine gate_dst (N:=6) rfl ?_);refine Kd.R_make kH (w0:=w) w.heap.size THd rfl (N:=6) rfl 31 _ _ rfl (n:Int) rfl rfl Tryz.underlying31 (.slice none 0 0) 24 infoEvs rfl (by decide) (by omega) SH.nil (ok:=fun _=>True) (okp:=fun _=>True) rfl (fun _ hk=>hk) trivial (by omega) (by omega) (Below.refl _ _) (Nat.le_refl _) ?_;intro vo w2 ho hb2 hg2 hnew2;obtain⟨g,c,rfl,hg,hgl,hgt⟩:=Kd.R_form ho (by rw[List.length_replicate];omega);rw[List.length_replicate,Int.toNat_natCast]at ho ⊢;have HT0:=am ho;have HB2:=am hb2;have HG:=am hg;clear ho hb2 hg2 hnew2 hg hgl hgt)
  |(go_at_call 74;(with_reducible refine(HDL.out _ _ _ _ (below_alloc HB2.out _) HG.out HB2.out.size (Kd.R_alloc HT0.out _) (World.alloc_heap_new _ _)).mono ?_);rintro e w3 ⟨⟨sA,sn,sc⟩,rfl,hev,hb3⟩;have HEV:=am hev;have HB3:=am hb3;clear hev hb3))
 go_ret;have hb:=below_alloc HB2.out (.cells #[.slice hA hN hc] THd);exact⟨⟨sA,sn,sc⟩,rfl,HEV.out,hb.trans (HB3.out.mono hb.size)⟩
section
def hzn (la en fl:Int):Int:=fl+mn2 la (en-fl)
theorem horizon_calls (w:World) (c:SCf) (fl:Int) (h0:0≤fl∧fl≤1152921504606846976) (h1:0≤c.la∧c.la≤1152921504606846976) (h2:0≤c.en∧c.en≤1152921504606846976):
  Calls Tryz.prog 78 #[c.v,.int .i64 fl] w fun e w'=>e= .returned (.int .i64 (hzn c.la c.en fl))∧Below w.heap.size w w':=by
 obtain⟨⟨lA,ln,lc⟩,⟨pA,pn,pc⟩,la,en,cp⟩:=c;obtain⟨a0,a1⟩:=h0;simp only at h1 h2;obtain⟨b0,b1⟩:=h1;obtain⟨c0,c1⟩:=h2;simp only[SCf.v];have HW:=am (IntWalk.i64_in (en-fl) (by omega));by_cases hc:en-fl<la
 ·have e:hzn la en fl=fl+(en-fl):=by unfold hzn mn2;rw[if_pos hc]
  rw[e];clear e HW;go_enter Tryz.func78,Tryz.ntmps78
  go_wp2_with (fail)
  go_ret;exact⟨rfl,below_alloc (Below.refl _ _) _⟩
 ·have e:hzn la en fl=fl+la:=by unfold hzn mn2;rw[if_neg hc]
  rw[e];clear e HW;go_enter Tryz.func78,Tryz.ntmps78
  go_wp2_with (fail)
  go_ret;exact⟨rfl,below_alloc (Below.refl _ _) _⟩
def LpsAt (Mt:Nat→Prop) (w:World) (h:SH) (lps:List Lp):Prop:=∃ss,Rd kLp Mt w h ss∧All2 (LpAt Mt w) ss lps
section
variable {Mt Mt':Nat→Prop} {w w':World} {h:SH} {lps:List Lp}
theorem LpAt.keep {s:SLp} {l:Lp} (h:LpAt Mt w s l) (k:Keep Mt w w'):LpAt Mt w' s l:=⟨h.r0,h.r1,h.ps.keep k,h.sum⟩
theorem LpsAt.keep (r:LpsAt Mt w h lps) (k:Keep Mt w w'):LpsAt Mt w' h lps:=by
 obtain⟨ss,h1,h2⟩:=r;exact⟨ss,h1.keep k,h2.imp fun _ _ h=>h.keep k⟩
theorem LpsAt.fresh (r:LpsAt Mt w h lps) (k:Keep Mt w w') (hm:∀k,k<w.heap.size→Mt' k→Mt k):LpsAt Mt' w' h lps:=by
 obtain⟨ss,h1,h2⟩:=r;exact⟨ss,h1.fresh k hm,h2.imp fun _ _ h=>h.fresh k hm⟩
theorem LpsAt.len (r:LpsAt Mt w h lps):h.n=lps.length:=by
 obtain⟨ss,h1,h2⟩:=r;rw[h1.len,h2.len]
end
structure SPs where
 tr:SH
 lps:SH
 bx:SH
 ov:Bool
 fl:SH
 pr:SH
def SPs.v (s:SPs):Value:= .agg #[.slice s.tr.A s.tr.n s.tr.c,.slice s.lps.A s.lps.n s.lps.c,.slice s.bx.A s.bx.n s.bx.c,.bool s.ov,.slice s.fl.A s.fl.n s.fl.c,.slice s.pr.A s.pr.n s.pr.c]
structure Ps where
 tr:List (List Ev)
 lps:List Lp
 bx:List (List Ev)
 ov:Bool
 fl:List Int
 np:Nat
structure PsAt (Mt:Nat→Prop) (w:World) (s:SPs) (p:Ps):Prop where
 tr:EvssAt Mt w s.tr p.tr
 lps:LpsAt Mt w s.lps p.lps
 bx:EvssAt Mt w s.bx p.bx
 ov:s.ov=p.ov
 fl:Rd (Kd.int .i64) Mt w s.fl p.fl
 pr:∃hs,Rd kH Mt w s.pr hs∧hs.length=p.np
section
variable {Mt Mt':Nat→Prop} {w w':World} {s:SPs} {p:Ps}
theorem PsAt.keep (r:PsAt Mt w s p) (k:Keep Mt w w'):PsAt Mt w' s p:=⟨r.tr.keep k,r.lps.keep k,r.bx.keep k,r.ov,r.fl.keep k,by
 obtain⟨hs,h1,h2⟩:=r.pr;exact⟨hs,h1.keep k,h2⟩⟩
theorem PsAt.fresh (r:PsAt Mt w s p) (k:Keep Mt w w') (hm:∀k,k<w.heap.size→Mt' k→Mt k):PsAt Mt' w' s p:=⟨r.tr.fresh k hm,r.lps.fresh k hm,r.bx.fresh k hm,r.ov,r.fl.fresh k hm,by
 obtain⟨hs,h1,h2⟩:=r.pr;exact⟨hs,h1.fresh k hm,h2⟩⟩
end
def Ps.outs (p:Ps):List Oc:=List.zipWith (fun l b=>(⟨l,b,[],[],false⟩:Oc)) p.lps p.bx
def Ps.ends (pgs:List (List OpC)) (h:Int) (p:Ps):List Oc:=p.outs.map (Oc.run pgs h 2000)
def Ps.next (pgs:List (List OpC)) (la en:Int) (p:Ps) (floor:Int):Ps:=
 {tr:=List.zipWith (·++·) p.tr ((p.ends pgs (hzn la en floor)).map Oc.com),lps:=(p.ends pgs (hzn la en floor)).map Oc.lp,bx:=dlv ((p.ends pgs (hzn la en floor)).map Oc.box) ((p.ends pgs (hzn la en floor)).map Oc.sent).flatten,
  ov:=p.ov||(p.ends pgs (hzn la en floor)).any Oc.ov,fl:=p.fl++[floor],np:=p.np+1}
end
end Go.Proofs.YtfnimdhghglanaaGreat.Hand
end
