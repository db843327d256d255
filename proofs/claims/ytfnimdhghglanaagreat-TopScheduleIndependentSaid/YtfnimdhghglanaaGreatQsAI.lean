/- TopScheduleIndependent, part 9 of 27; no condition.  -/
import Derived.Test.YtfnimdhghglanaaGreatQsAH
import Derived.Shelf.Spec.SlicesInsert
import Derived.Lib.AppendZerosOnto
import Derived.Laws.NewBlocks
import Derived.Handy
import Derived.RangeFuncNested
import Derived.RangeFuncBound
import Derived.RangeFuncCalls
import Derived.RangeFuncLeaves
import Derived.Shelf.Abstract
import Derived.Shelf.RegionOpen
import Derived.WalkKit
import Derived.OwnWalkIn
import Derived.TacticsInMore
import Derived.LoopNIn
import Derived.LoopIn
set_option maxRecDepth 100000
set_option maxHeartbeats 8000000
set_option linter.unusedVariables false
set_option linter.unusedSimpArgs false
section
namespace Go.Proofs.YtfnimdhghglanaaGreat.Hand
open Go.RowKit Go.Proofs.YtfnimdhghglanaaGreatW PrintWords PrintLast PrintMore
attribute [local go_sem] max2_int min2_int max_two min_two max_three min_three max_four min_four
theorem evFrom (A:Option Addr) (n c:Nat) (j:Int) (h0:0≤j) (hm:j≤n):∀W:World,(Instr.slice 47 (.slice A n c) (some (.int .i64 j)) none none).run Tryz.prog W= .ok (.slice (if c=j.toNat then A else A.map (·.add (j.toNat*6))) (n-j.toNat) (c-j.toNat)) W:=by
 obtain⟨i,hi,h6⟩:=infoEv_is;exact cut_from _ _ _ Tryz.underlying47 hi 6 h6 A n c j h0 hm
def fl (l:List SE):List Value:=l.flatMap SE.cells
theorem fl_length (l:List SE):(fl l).length=l.length*6:=by
 induction l with
 |nil=>rfl
 |cons x l ih=>
  have:(fl (x::l)).length=x.cells.length+(fl l).length:=by simp[fl]
  rw[this,ih];simp[SE.cells];omega
theorem fl_append (l m:List SE):fl (l++m)=fl l++fl m:=by simp[fl]
theorem fl_take (l:List SE) (i:Nat):(fl l).take (i*6)=fl (l.take i):=by
 by_cases h:i≤l.length
 ·conv=>lhs;rw[←List.take_append_drop i l,fl_append]
  rw[List.take_append_of_le_length (by rw[fl_length,List.length_take];omega),List.take_of_length_le (by rw[fl_length,List.length_take];omega)]
 ·rw[List.take_of_length_le (by rw[fl_length];omega),List.take_of_length_le (by omega)]
theorem fl_drop (l:List SE) (i:Nat):(fl l).drop (i*6)=fl (l.drop i):=by
 by_cases h:i≤l.length
 ·conv=>lhs;rw[←List.take_append_drop i l,fl_append]
  have e:(fl (l.take i)).length=i*6:=by rw[fl_length,List.length_take];omega
  rw[←e,List.drop_left]
 ·rw[List.drop_of_length_le (by rw[fl_length];omega),List.drop_of_length_le (by omega)];rfl
theorem fl_at (l:List SE) (j:Nat) (hj:j<l.length):((fl l).drop (j*6)).take 6=l[j].cells:=by
 rw[fl_drop,List.drop_eq_getElem_cons hj];rfl
theorem fl_one (l:List SE):∀v∈fl l,v.oneCell'=true:=by
 intro v hv;obtain⟨x,_,hx⟩:=List.mem_flatMap.1 hv;simp[SE.cells]at hx;rcases hx with rfl|rfl|rfl|rfl|rfl|rfl<;>rfl
theorem reps_fl {l:List SE} {cs:List Value}:Reps (fun x cs=>cs=x.cells) 6 l cs↔cs=fl l:=by
 constructor
 ·intro h;refine List.ext_getElem? fun k=> ?_;by_cases hk:k<l.length*6
  ·have hj:k / 6<l.length:=by omega
   have h1:=h.2 (k / 6) _ (List.getElem?_eq_getElem hj);have h2:=fl_at l (k / 6) hj;have h3:(cs.drop (k / 6*6)).take 6=((fl l).drop (k / 6*6)).take 6:=by rw[h2];exact h1
   have h4:((cs.drop (k / 6*6)).take 6)[k%6]?=(((fl l).drop (k / 6*6)).take 6)[k%6]?:=by rw[h3]
   rw[List.getElem?_take_of_lt (Nat.mod_lt _ (by decide)),List.getElem?_take_of_lt (Nat.mod_lt _ (by decide)),List.getElem?_drop,List.getElem?_drop]at h4
   rwa [show k / 6*6+k%6=k by omega]at h4
  ·rw[List.getElem?_eq_none (by rw[h.1];omega),List.getElem?_eq_none (by rw[fl_length];omega)]
 ·rintro rfl;refine⟨fl_length l,fun j p hj=> ?_⟩;obtain⟨h1,rfl⟩:=List.getElem?_eq_some_iff.1 hj;exact fl_at l j h1
theorem row_blk {W:World} {base g n cap:Nat} {l:List SE} (h:Row W base g n cap l):∃cur,W.heap[g]?=some (.cells cur 49 (0,0))∧cur.size=cap*6∧n≤cap∧cap≤maxLen∧base≤g∧cur.toList.take (n*6)=fl l:=by
 have hn:=h.len;subst hn;obtain⟨h0,inner,ho,hr⟩:=h;obtain rfl:=reps_fl.1 hr;rcases ho.2 with ⟨h2,_⟩|⟨g',cap',cur,h2,hg,hh,h3,h4,h5,h6⟩
 ·cases h2
 ·cases h2;exact⟨cur,hh,h5,h3,h4,hg,h6⟩
theorem row_of_blk {W:World} {base g n cap:Nat} {l:List SE} {cur:Array Value} (hh:W.heap[g]?=some (.cells cur 49 (0,0))) (h5:cur.size=cap*6) (hn:n=l.length) (h3:n≤cap) (h4:cap≤maxLen) (hg:base≤g) (h6:cur.toList.take (n*6)=fl l):Row W base g n cap l:=by
 subst hn;exact⟨fun _ _=>trivial,fl l,⟨fl_length l,.inr ⟨g,cap,cur,rfl,hg,hh,h3,h4,h5,h6⟩⟩,reps_fl.2 rfl⟩
theorem setCells_blk {g t:Nat}:∀(vs:List Value) {w:World} {o:Nat} {cur:Array Value},w.heap[g]?=some (.cells cur t (0,0))→o+vs.length≤cur.size→
  ∃cur',(w.setCells g o vs).heap[g]?=some (.cells cur' t (0,0))∧cur'.toList=cur.toList.take o++vs++cur.toList.drop (o+vs.length)
 | [],w,o,cur,h,_=>⟨cur,h,by simp⟩
 |v::r,w,o,cur,h,ho=>by
  simp only[List.length_cons]at ho;obtain⟨cur',h1,h2⟩:=setCells_blk r (w:=w.setCell ⟨g,o,none⟩ v) (o:=o+1) (blk_put h o v rfl) (by simpa using (by omega:o+1+r.length≤cur.size));refine⟨cur',h1,?_⟩;have hs:o<cur.toList.length:=by simp;omega
  rw[h2,Array.toList_setIfInBounds,List.take_add_one,List.getElem?_set_self hs,List.take_set_of_le (Nat.le_refl _),List.drop_set_of_lt (by omega)];simp[Nat.add_comm,Nat.add_left_comm]
theorem run_copy_ev (w:World) (ty:TypeId) (b o dLen dCap:Nat) (a:Addr) (sLen sCap m:Nat) (cs:List Value) (hm:m=Nat.min sLen dLen) (hn:cs.length=m*6)
  (hsrc:∀j v,cs[j]?=some v→w.cell? (a.add j)=some v) (hc:∀j,j<cs.length→(w.cell? ⟨b,o+j,none⟩).isSome=true) (hf:∀j,j<cs.length→w.frozen? ⟨b,o+j,none⟩=false) (h1:∀v∈cs,v.oneCell'=true):
  (Builtin.copy_ #[47,47] ty #[.slice (some ⟨b,o,none⟩) dLen dCap,.slice (some a) sLen sCap]).run Tryz.prog w= .ok (goInt m) (w.setCells b o cs):=by
 have hl:=run_loadCells_list (P:=Tryz.prog) w a cs hsrc;have hst:=run_storeCells_cells (P:=Tryz.prog) b o cs 0 w (by simpa using hc) (by simpa using hf) h1;obtain⟨i,hi,h6⟩:=infoEv_is;rw[hn]at hl;simp[Builtin.copy_,run_underlying Tryz.underlying47,Builtin.lenOf,Builtin.firstCells,sizeOf,typeInfo,hi,h6,←hm,hl,hst]
theorem insert_end {W:World} {base:Nat} {v:Value} {l:List SE} (h:Kd.R kE 49 W base (fun _=>True) v l) (hb:base≤W.heap.size) (x:SE) (vb:Nat) (hv:W.heap[vb]?=some (.cells x.cells.toArray 49 (0,0))) (hs:l.length≤1000000):
  Calls Tryz.prog 139 #[v,.int .i64 l.length,.slice (some ⟨vb,0,none⟩) 1 1] W fun e w'=>∃v',e= .returned v'∧Kd.R kE 49 w' base (fun _=>True) v' (l++[x])∧Below base W w':=by
 obtain⟨A,c,rfl⟩:=Kd.R_slice h;have q1:=evFrom A l.length c l.length (Int.natCast_nonneg _) (Int.le_refl _);obtain⟨z,qz⟩:∃z,∀W:World,(Instr.slice 47 (.slice A l.length c) (some (.int .i64 (l.length:Int))) none none).run Tryz.prog W= .ok z W:=⟨_,q1⟩;clear q1;have H:=am h;have HX:=am (show ReadsRow (fun(y:SE) cs=>cs=y.cells) 6 W (some ⟨vb,0,none⟩) 1 [x]from⟨rfl,by decide,fun _=>⟨_,rfl,fun j p hj=>by
  obtain⟨h1,rfl⟩:=List.getElem?_eq_some_iff.1 hj;have:j=0:=by simpa using h1
  subst this;refine⟨x.cells,rfl,rfl,fun i u hu=> ?_⟩;rw[Addr.add_lit];simp only[World.cell?,hv]
  simpa using hu⟩⟩)
 have d0:((1:Int)==0)=false:=rfl;have d1:((l.length:Int)==(l.length:Int))=true:=by simp
 clear h hv;go_enter Tryz.func139,Tryz.ntmps139
 go_wp2_with (first|((with_reducible refine gate_builtin (b:= .append) (xs:= #[.tmp 23,.tmp 24]) rfl ?_);at_builtin;refine Kd.R_append_rows kE (Rr:=fun y cs=>cs=y.cells) (w0:=W) base rfl (.tmp 23) (.tmp 24) 47 49 (.agg #[.int .i64 0,.slice none 0 0,.int .i64 0,.int .i64 0,.int .i64 0,.int .i64 0]) 64 rfl Tryz.underlying47 infoEv rfl (by decide) (by omega) _ l [x] (some ⟨vb,0,none⟩) 1 1 (fun _=>True) (fun _=>False) rfl rfl H.out HX.out (fun q cs hq=>hq) (fun _ h=>h.elim) (fun _ _=>trivial) (Below.refl _ _) hb ?aL ?_;(case aL=>omega);intro v25 w25 ho25 hb25 hg25 hat25;have HO:=am ho25;have HB:=am hb25;clear ho25 hb25 hg25 hat25))
 go_ret;exact⟨_,rfl,HO.out,HB.out⟩
theorem evToCap (A:Option Addr) (n c:Nat) (j:Int) (h0:0≤j) (hm:j≤c):∀W:World,(Instr.slice 47 (.slice A n c) none (some (.int .i64 j)) none).run Tryz.prog W= .ok (.slice A j.toNat c) W:=by
 intro W;obtain⟨i,hi,h6⟩:=infoEv_is;have hel:Tryz.prog.elem 47=49:=by simp[Program.elem,Tryz.underlying47]
 have hu:Tryz.prog.underlying 47=some (.slice (Tryz.prog.elem 47)):=by rw[hel];exact Tryz.underlying47
 have ha:(A.map fun x=>x.add 0)=A:=by cases A<;>simp[Addr.add]
 rw[run_slice_h W 47 A n c hu .i64 j h0 hm,hel];simp[sizeOf,typeInfo,hi,sliced,Result.andThen,ha]
theorem overlaps_no (w:World) (va ga oa ob la ca lb cb:Nat) (hne:va≠ga) (cA cB:Array Value) (tA tB:TypeId) (hA:w.heap[va]?=some (.cells cA tA (0,0))) (hB:w.heap[ga]?=some (.cells cB tB (0,0))) (hk:cB.size≠0):
  (callFunc 151 #[.slice (some ⟨va,oa,none⟩) la ca,.slice (some ⟨ga,ob,none⟩) lb cb]).run Tryz.prog w= .ok (.value (.bool false)) w:=by
 have hz:∀w,(Go.sizeOf 49).run Tryz.prog w= .ok 6 w:=fun w=>by
  obtain⟨i,hi,h6⟩:=infoEv_is;simp[sizeOf,typeInfo,hi,h6]
 rw[run_callFunc_extern Tryz.func151 (by kernel_rfl) (by kernel_rfl) (by kernel_rfl) (e:=Extern.SlicesOverlaps.overlaps #[47,47] #[4]) (by kernel_rfl),
  Lib.run_overlaps_apart w 47 4 49 Tryz.underlying47 6 hz ⟨va,oa,none⟩ ⟨ga,ob,none⟩ la ca lb cb hne tA tB cA.size cB.size (by simp[World.shape?,hA]) (by simp[World.shape?,hB]) hk (blk_frozen hA _) (blk_frozen hA _)]
 rfl
theorem ins_cells {cur c1 c2 r1:List Value} {l:List SE} {i:Nat} {x:SE} (hi:i≤l.length) (h6:cur.take (l.length*6)=fl l) (hsz:(l.length+1)*6≤cur.length) (k2:c1=cur.take ((i+1)*6)++fl (l.drop i)++r1) (k4:c2=c1.take (i*6)++x.cells++c1.drop (i*6+x.cells.length)):
  c2.take ((l.length+1)*6)=fl (l.take i++x::l.drop i):=by
 have e1:(cur.take ((i+1)*6)).length=(i+1)*6:=by rw[List.length_take];omega
 have e2:c1.take (i*6)=fl (l.take i):=by
  rw[k2,List.append_assoc,List.take_append_of_le_length (by omega),List.take_take,Nat.min_eq_left (by omega),←fl_take,←h6,List.take_take,Nat.min_eq_left (by omega)]
 have e3:c1.drop (i*6+x.cells.length)=fl (l.drop i)++r1:=by
  rw[k2,List.append_assoc,show i*6+x.cells.length=(cur.take ((i+1)*6)).length by rw[e1];show i*6+6=_;omega,List.drop_left]
 have e4:fl (l.take i++x::l.drop i)=fl (l.take i)++x.cells++fl (l.drop i):=by rw[fl_append,List.append_assoc];rfl
 rw[k4,e2,e3,e4,←List.append_assoc];refine List.take_left' ?_;rw[List.length_append,List.length_append,fl_length,fl_length,List.length_take,List.length_drop];show _+6+_=_;omega
theorem insert_room {W:World} {base g n cap:Nat} {l:List SE} (h:Row W base g n cap l) (i:Nat) (hi:i<n) (hroom:n+1≤cap) (x:SE) (vb:Nat) (hv:W.heap[vb]?=some (.cells x.cells.toArray 49 (0,0))) (hne:vb≠g) (hs:n≤1000000):
  Calls Tryz.prog 139 #[.slice (some ⟨g,0,none⟩) n cap,.int .i64 i,.slice (some ⟨vb,0,none⟩) 1 1] W fun e w'=>∃v',e= .returned v'∧Kd.R kE 49 w' base (fun _=>True) v' (l.take i++x::l.drop i)∧Below base W w':=by
 have hn:=h.len;subst hn;have hbase:=h.base_le;obtain⟨cur,hh,h5,h3,h4,hg,h6⟩:=row_blk h;have hcap:cap≤9223372036854775807:=h4;have q1:=evFrom (some ⟨g,0,none⟩) l.length cap i (Int.natCast_nonneg _) (by omega);obtain⟨z,qz⟩:∃z,∀W:World,(Instr.slice 47 (.slice (some ⟨g,0,none⟩) l.length cap) (some (.int .i64 (i:Int))) none none).run Tryz.prog W= .ok z W:=⟨_,q1⟩;clear q1;have w1:IntKind.i64.wrap ((l.length:Int)+1)=((l.length+1:Nat):Int):=(i64_w _).trans (by unfold Go.RowKit.wrap64;omega);have w2:IntKind.i64.wrap ((i:Int)+1)=((i+1:Nat):Int):=(i64_w _).trans (by unfold Go.RowKit.wrap64;omega)
 have d0:((1:Int)==0)=false:=rfl;have d1:((i:Int)==(l.length:Int))=false:=beq_eq_false_iff_ne.2 (by omega);have d2:decide ((cap:Int)<((l.length+1:Nat):Int))=false:=df (by omega);have q2:=evToCap (some ⟨g,0,none⟩) l.length cap ((l.length+1:Nat):Int) (Int.natCast_nonneg _) (by omega);have q3:=evFrom (some ⟨g,0,none⟩) (l.length+1) cap ((i+1:Nat):Int) (Int.natCast_nonneg _) (by omega);have q4:=evFrom (some ⟨g,0,none⟩) (l.length+1) cap (i:Int) (Int.natCast_nonneg _) (by omega);rw[Int.toNat_natCast]at q2
 rw[Int.toNat_natCast,if_neg (by omega),show(some (⟨g,0,none⟩:Addr)).map (·.add ((i+1)*6))=some ⟨g,(i+1)*6,none⟩by simp[Addr.add]]at q3;rw[Int.toNat_natCast,if_neg (by omega),show(some (⟨g,0,none⟩:Addr)).map (·.add (i*6))=some ⟨g,i*6,none⟩by rw[Option.map_some,add_at,Nat.zero_add]]at q4;have hov:=fun lb cb=>overlaps_no W vb g 0 ((i+1)*6) 1 1 lb cb hne _ _ _ _ hv hh (by rw[h5];omega);have hl:(fl (l.drop i)).length=(l.length-i)*6:=by rw[fl_length,List.length_drop]
 have hcell:∀o,o<cap*6→(W.cell? ⟨g,o,none⟩).isSome=true:=fun o ho=>by
  simp only[World.cell?,hh];simp[h5,ho]
 have hcp1:∀ty dc sc,(Builtin.copy_ #[47,47] ty #[.slice (some ⟨g,(i+1)*6,none⟩) (l.length-i) dc,.slice (some ⟨g,i*6,none⟩) (l.length+1-i) sc]).run Tryz.prog W.drew= .ok (goInt ((l.length-i:Nat):Int)) (W.drew.setCells g ((i+1)*6) (fl (l.drop i))):=fun ty dc sc=>
  run_copy_ev W.drew ty g ((i+1)*6) (l.length-i) dc ⟨g,i*6,none⟩ (l.length+1-i) sc (l.length-i) (fl (l.drop i)) (by simp only[Nat.min_def];split<;>omega) hl
   (fun j v hj=>by
    rw[Addr.add_lit];have hlt:j<(l.length-i)*6:=by
     have:=(List.getElem?_eq_some_iff.1 hj).1;omega
    have e1:(cur.toList.take (l.length*6))[i*6+j]?=some v:=by rw[h6,←List.getElem?_drop,fl_drop];exact hj
    have h7:i*6+j<l.length*6:=by
     have:l.length*6=i*6+(l.length-i)*6:=by omega
     omega
    rw[List.getElem?_take_of_lt h7]at e1;show World.cell? W _=_;simp only[World.cell?,hh]
    simpa using e1)
   (fun j hj=>by
    show(World.cell? W _).isSome=true;refine hcell _ ?_;have:(i+1)*6+(l.length-i)*6=(l.length+1)*6:=by omega
    have:(l.length+1)*6≤cap*6:=by omega
    omega)
   (fun j _=>blk_frozen (w:=W.drew) hh _) (fl_one _)
 have hlen1:(i+1)*6+(fl (l.drop i)).length≤cur.size:=by rw[hl,h5];omega
 obtain⟨c1,k1,k2⟩:=setCells_blk (fl (l.drop i)) (w:=W.drew) (o:=(i+1)*6) hh hlen1;have hcl:x.cells.length=6:=rfl;have hc1s:c1.size=cap*6:=by
  rw[←Array.length_toList,k2,List.length_append,List.length_append,List.length_take,List.length_drop,hl,Array.length_toList,h5];omega
 obtain⟨W1,hW1⟩:∃W1,W1=W.drew.setCells g ((i+1)*6) (fl (l.drop i)):=⟨_,rfl⟩;rw[←hW1]at hcp1 k1;have hgr:=grown_cells (g:=g) (fl (l.drop i)) W.drew ((i+1)*6);rw[←hW1]at hgr;have hvW:W1.heap[vb]?=some (.cells x.cells.toArray 49 (0,0)):=(hgr.block vb (blk_lt (w:=W.drew) hv) (fun e=>hne (by injection e))).trans hv;have hcp2:∀(W2:World),W2.heap=W1.heap→∀ty dc,(Builtin.copy_ #[47,47] ty #[.slice (some ⟨g,i*6,none⟩) (l.length+1-i) dc,.slice (some ⟨vb,0,none⟩) 1 1]).run Tryz.prog W2= .ok (goInt ((1:Nat):Int)) (W2.setCells g (i*6) x.cells):=fun W2 hW2 ty dc=>
  run_copy_ev W2 ty g (i*6) (l.length+1-i) dc ⟨vb,0,none⟩ 1 1 1 x.cells (by simp only[Nat.min_def];split<;>omega) rfl
   (fun j v hj=>by
    rw[Addr.add_lit];simp only[World.cell?,hW2,hvW]
    simpa using hj)
   (fun j hj=>by
    simp only[World.cell?,hW2,k1];have:i*6+j<cap*6:=by omega
    simp[hc1s,this])
   (fun j _=>blk_frozen (w:=W2) (by rw[hW2];exact k1) _) (fun v hv=>by
    have:=fl_one [x] v (by simpa [fl]using hv);exact this)
 obtain⟨c2,k3,k4⟩:=setCells_blk x.cells (w:=W1) (o:=i*6) k1 (by rw[hc1s,hcl];omega);have hct:cur.toList.length=cap*6:=by rw[←h5];exact Array.length_toList
 have HFIN:=am (show Row (W1.setCells g (i*6) x.cells) base g (l.length+1) cap (l.take i++x::l.drop i)from row_of_blk k3 (by
   rw[←Array.length_toList,k4,List.length_append,List.length_append,List.length_take,List.length_drop,Array.length_toList,hc1s,hcl];omega) (by simp;omega) hroom h4 hg (ins_cells (i:=i) (by omega) h6 (by rw[hct];omega) k2 k4))
 have HB:=am (show Below base W (W1.setCells g (i*6) x.cells)from(Below.refl base W).grown (grown_trans (grown_trans (grown_drew W _) hgr) (grown_cells (g:=g) x.cells W1 (i*6))) hbase (fun k hk=>by injection hk with hk;omega));have mixed:Tryz.prog.follows .mixedOrders=true:=by kernel_rfl
 have hb1:(0:Int)≤(i:Int)+1:=by omega
 have hin:i≤l.length:=by omega
 have htn:((i:Int)+1).toNat=i+1:=by omega
 have hb2:¬(cap=i+1):=by omega
 have hb3:(i:Int)≤(l.length:Int)+1:=by omega
 have hb4:¬(cap=i):=by omega
 have HW1:=am hW1;clear hW1;clear q3 q4;clear k1 k2 k3 k4 hgr hvW hh h5 h6 hv h hcell hl hlen1;go_enter Tryz.func139,Tryz.ntmps139
 go_wp2_with (simp only[hov])
 go_region_law_o (refine step_copy_runI rfl _ _ 47 47 rfl (.slice (some ⟨g,(i+1)*6,none⟩) (l.length-i) (cap-(i+1))) (.slice (some ⟨g,i*6,none⟩) (l.length+1-i) (cap-i)) (by simp[Act.eval,Act.put]) (by simp[Act.eval,Act.put]) (hcp1 3 (cap-(i+1)) (cap-i)) ?_)
 go_wp2_with (at_builtin;refine wpList_copy_runI _ rfl _ _ 47 47 rfl _ _ rfl rfl (hcp2 W1 rfl _ _) ?_)
 go_ret;exact⟨_,rfl,HFIN.out,HB.out⟩
theorem ins_cells2 {cur c1 c2 r1 r2:List Value} {l:List SE} {i:Nat} {x:SE} (hi:i≤l.length) (h6:cur.take (i*6)=fl (l.take i)) (hsz:(l.length+1)*6≤cur.length) (k2:c1=cur.take (i*6)++x.cells++r1) (k4:c2=c1.take ((i+1)*6)++fl (l.drop i)++r2):
  c2.take ((l.length+1)*6)=fl (l.take i++x::l.drop i):=by
 have e1:(fl (l.take i)).length=i*6:=by rw[fl_length,List.length_take];omega
 have e2:c1.take ((i+1)*6)=fl (l.take i)++x.cells:=by
  rw[k2,h6];exact List.take_left' (by rw[List.length_append,e1];show _+6=_;omega)
 have e4:fl (l.take i++x::l.drop i)=fl (l.take i)++x.cells++fl (l.drop i):=by rw[fl_append,List.append_assoc];rfl
 rw[k4,e2,e4];refine List.take_left' ?_;rw[List.length_append,List.length_append,fl_length,fl_length,List.length_take,List.length_drop];show _+6+_=_;omega
theorem insert_grow {W:World} {base g cap:Nat} {l:List SE} (h:Row W base g l.length cap l) (i:Nat) (hi:i<l.length) (hroom:cap<l.length+1) (x:SE) (vb:Nat) (hv:W.heap[vb]?=some (.cells x.cells.toArray 49 (0,0))) (hs:l.length≤1000000):
  Calls Tryz.prog 139 #[.slice (some ⟨g,0,none⟩) l.length cap,.int .i64 i,.slice (some ⟨vb,0,none⟩) 1 1] W fun e w'=>∃v',e= .returned v'∧Kd.R kE 49 w' base (fun _=>True) v' (l.take i++x::l.drop i)∧Below base W w':=by
 have hbase:=h.base_le;obtain⟨cur,hh,h5,h3,h4,hg,h6⟩:=row_blk h;have hcap:cap≤9223372036854775807:=h4;have hbw:g<W.heap.size:=blk_lt hh;have hvw:vb<W.heap.size:=blk_lt hv;have q1:=evFrom (some ⟨g,0,none⟩) l.length cap i (Int.natCast_nonneg _) (by omega);rw[Int.toNat_natCast,if_neg (by omega),show(some (⟨g,0,none⟩:Addr)).map (·.add (i*6))=some ⟨g,i*6,none⟩by rw[Option.map_some,add_at,Nat.zero_add]]at q1;obtain⟨i0,hi0,hzz⟩:=Option.map_eq_some_iff.1 infoEv;simp only[Prod.mk.injEq]at hzz;obtain⟨hz0,hzs,hzb⟩:=hzz
 have w1:IntKind.i64.wrap ((l.length:Int)+1)=((l.length+1:Nat):Int):=(i64_w _).trans (by unfold Go.RowKit.wrap64;omega);have w2:IntKind.i64.wrap ((i:Int)+1)=((i+1:Nat):Int):=(i64_w _).trans (by unfold Go.RowKit.wrap64;omega);obtain⟨k,hk⟩:∃k,i+k=l.length+1:=⟨l.length+1-i,by omega⟩;have w3:IntKind.i64.wrap ((l.length:Int)+1-(i:Int))=(k:Int):=(i64_w _).trans (by unfold Go.RowKit.wrap64;omega);have d0:((1:Int)==0)=false:=rfl;have d1:((i:Int)==(l.length:Int))=false:=beq_eq_false_iff_ne.2 (by omega);have d2:decide ((cap:Int)<((l.length+1:Nat):Int))=true:=dt (by omega)
 have hct:cur.toList.length=cap*6:=by rw[←h5];exact Array.length_toList
 have hcell:∀o v,(fl l)[o]?=some v→W.cell? ⟨g,o,none⟩=some v:=fun o v ho=>by
  have hlt:o<l.length*6:=by
   have:=(List.getElem?_eq_some_iff.1 ho).1
   rwa [fl_length]at this
  rw[←h6,List.getElem?_take_of_lt hlt]at ho;simp only[World.cell?,hh]
  simpa using ho
 have hold:(Builtin.firstCells i0.size i (.slice (some ⟨g,0,none⟩) i cap)).run Tryz.prog W.drew= .ok (fl (l.take i)).toArray W.drew:=by
  have hll:=run_loadCells_list (P:=Tryz.prog) W.drew ⟨g,0,none⟩ (fl (l.take i)) (fun j v hj=>by
   rw[Addr.add_lit];show World.cell? W _=_;refine hcell _ _ ?_;rw[Nat.zero_add];rw[←fl_take,List.getElem?_take]at hj
   split at hj
   ·exact hj
   ·cases hj)
  have e1:(fl (l.take i)).length=i*6:=by rw[fl_length,List.length_take];omega
  rw[e1]at hll;simp[Builtin.firstCells,hzs,hll]
 have hrz:∀ty,(Builtin.append_ #[47,3] ty #[.slice (some ⟨g,0,none⟩) i cap,.int .i64 k]).run Tryz.prog W=_:=fun ty=>
  Lib.run_append_grow_zeros W 47 3 ty 49 i0 _ .i64 .i64 Tryz.underlying47 Tryz.underlying3 hi0 hz0 (some ⟨g,0,none⟩) i cap (fl (l.take i)) hold k (by omega) (by omega) (by omega) (by omega) (by rw[hzb];omega) (by rw[hzb,hk];exact growslice_fits hroom (by omega))
 rw[hk]at hrz;have hGn:l.length+1≤grownCap W (l.length+1) cap 49:=grownCap_ge W _ _ _;have hG63:=grownCap_le_maxLen W (l.length+1) cap 49 (by unfold maxLen;omega);obtain⟨G,hG⟩:∃G,grownCap W (l.length+1) cap 49=G:=⟨_,rfl⟩;rw[hG]at hrz hGn hG63;obtain⟨ROW,hROW⟩:∃ROW:Array Value,(fl (l.take i)).toArray++Builtin.zeroCells (Value.agg #[.int .i64 0,.slice none 0 0,.int .i64 0,.int .i64 0,.int .i64 0,.int .i64 0]).cells k++Builtin.zeroCells (Value.agg #[.int .i64 0,.slice none 0 0,.int .i64 0,.int .i64 0,.int .i64 0,.int .i64 0]).cells (G-(l.length+1))=ROW:=⟨_,rfl⟩;rw[hROW]at hrz
 have e1:(fl (l.take i)).length=i*6:=by rw[fl_length,List.length_take];omega
 have hRs:ROW.size=G*6:=by
  rw[←hROW];simp[Builtin.zeroCells,Value.cells,e1];omega
 have hRt:ROW.toList.take (i*6)=fl (l.take i):=by
  rw[←hROW];simp only[Array.toList_append];rw[List.append_assoc];exact List.take_left' e1
 obtain⟨W1,hW1⟩:∃W1,W.drew.alloc (.cells ROW 49)=W1:=⟨_,rfl⟩;rw[hW1]at hrz;obtain⟨B,hB⟩:∃B,W.heap.size=B:=⟨_,rfl⟩;rw[hB]at hrz;have hN:W1.heap[B]?=some (.cells ROW 49 (0,0)):=by
  rw[←hW1,←hB];exact World.alloc_heap_new _ _
 have hold1:∀j,j<B→W1.heap[j]?=W.heap[j]?:=fun j hj=>by
  rw[←hW1];exact(below_alloc (below_drew (Below.refl W.heap.size W)) _).block j (by rw[hB];exact hj)
 have hcl:x.cells.length=6:=rfl;have hcpA:∀ty dc,(Builtin.copy_ #[47,47] ty #[.slice (some ⟨B,i*6,none⟩) (l.length+1-i) dc,.slice (some ⟨vb,0,none⟩) 1 1]).run Tryz.prog W1= .ok (goInt ((1:Nat):Int)) (W1.setCells B (i*6) x.cells):=fun ty dc=>
  run_copy_ev W1 ty B (i*6) (l.length+1-i) dc ⟨vb,0,none⟩ 1 1 1 x.cells (by simp only[Nat.min_def];split<;>omega) rfl
   (fun j v hj=>by
    rw[Addr.add_lit];simp only[World.cell?,hold1 vb (by omega),hv]
    simpa using hj)
   (fun j hj=>by
    have:i*6+j<ROW.size:=by rw[hRs];rw[hcl]at hj;omega
    simp only[World.cell?,hN];simp[this])
   (fun j _=>blk_frozen hN _) (fun v hv=>by
    have:=fl_one [x] v (by simpa [fl]using hv);exact this)
 obtain⟨c1,k1,k2⟩:=setCells_blk x.cells (w:=W1) (o:=i*6) hN (by rw[hRs,hcl];omega);have hc1s:c1.size=G*6:=by
  rw[←Array.length_toList,k2,List.length_append,List.length_append,List.length_take,List.length_drop,hcl,Array.length_toList,hRs];omega
 obtain⟨W2,hW2⟩:∃W2,W1.setCells B (i*6) x.cells=W2:=⟨_,rfl⟩;rw[hW2]at hcpA k1;have hg2:W1.grownBy W2 (some B):=by rw[←hW2];exact grown_cells _ _ _
 have hgW:W2.heap[g]?=some (.cells cur 49 (0,0)):=by
  rw[hg2.block g (blk_lt (w:=W1) (by rw[hold1 g (by omega)];exact hh)) (fun e=>by injection e;omega),hold1 g (by omega)];exact hh
 have hl:(fl (l.drop i)).length=(l.length-i)*6:=by rw[fl_length,List.length_drop]
 have hcpB:∀ty dc sc,(Builtin.copy_ #[47,47] ty #[.slice (some ⟨B,(i+1)*6,none⟩) (l.length-i) dc,.slice (some ⟨g,i*6,none⟩) (l.length-i) sc]).run Tryz.prog W2.drew= .ok (goInt ((l.length-i:Nat):Int)) (W2.drew.setCells B ((i+1)*6) (fl (l.drop i))):=fun ty dc sc=>
  run_copy_ev W2.drew ty B ((i+1)*6) (l.length-i) dc ⟨g,i*6,none⟩ (l.length-i) sc (l.length-i) (fl (l.drop i)) (by simp only[Nat.min_def];split<;>omega) hl
   (fun j v hj=>by
    rw[Addr.add_lit];have e1:(fl l)[i*6+j]?=some v:=by rw[←List.getElem?_drop,fl_drop];exact hj
    have e2:=hcell _ _ e1;show World.cell? W2 _=_;simp only[World.cell?,hgW];simp only[World.cell?,hh]at e2;exact e2)
   (fun j hj=>by
    have:(i+1)*6+j<c1.size:=by rw[hc1s];rw[hl]at hj;omega
    show(World.cell? W2 _).isSome=true;simp only[World.cell?,k1];simp[this])
   (fun j _=>blk_frozen (w:=W2.drew) k1 _) (fl_one _)
 obtain⟨c2,k3,k4⟩:=setCells_blk (fl (l.drop i)) (w:=W2.drew) (o:=(i+1)*6) k1 (by rw[hc1s,hl];omega);have hR6:ROW.toList.length=G*6:=by rw[←hRs];exact Array.length_toList
 have HFIN:=am (show Row (W2.drew.setCells B ((i+1)*6) (fl (l.drop i))) base B (l.length+1) G (l.take i++x::l.drop i)from row_of_blk k3 (by
   rw[←Array.length_toList,k4,List.length_append,List.length_append,List.length_take,List.length_drop,Array.length_toList,hc1s,hl];omega) (by simp;omega) hGn hG63 (by omega) (ins_cells2 (i:=i) (by omega) hRt (by rw[hR6];omega) k2 k4))
 have HB:=am (show Below base W (W2.drew.setCells B ((i+1)*6) (fl (l.drop i)))from by
  have b1:Below W.heap.size W W1:=by rw[←hW1];exact below_alloc (below_drew (Below.refl W.heap.size W)) _
  have b2:Below W.heap.size W (W2.drew.setCells B ((i+1)*6) (fl (l.drop i))):=b1.grown (grown_trans (grown_trans hg2 (grown_drew W2 _)) (grown_cells (g:=B) (fl (l.drop i)) W2.drew ((i+1)*6))) b1.size (fun k hk=>by injection hk with hk;omega);exact b2.mono hbase)
 have mixed:Tryz.prog.follows .mixedOrders=true:=by kernel_rfl
 have hGi:¬(G=i):=by omega
 have hGim:¬(G=i+1):=by omega
 have hci:¬(cap=i):=by omega
 have hb1:(0:Int)≤(i:Int)+1:=by omega
 have hin:i≤l.length:=by omega
 have htn:((i:Int)+1).toNat=i+1:=by omega
 have hb3:(i:Int)≤(l.length:Int):=by omega
 have qt:=evTo (some ⟨g,0,none⟩) l.length cap i (Int.natCast_nonneg _) (by omega) (by omega);rw[Int.toNat_natCast]at qt;clear k1 k2 k3 k4 hh h5 h6 hv h hcell hl hold hold1 hN hRs hRt hROW hW1 hW2 hG hg2 hgW hR6 hct hc1s hcl e1 hi0 hz0 hzs hzb hB hk;go_enter Tryz.func139,Tryz.ntmps139
 go_wp2_with (first
  |(at_builtin;refine Lib.wpList_append_run _ rfl _ _ _ _ rfl _ _ rfl rfl _ _ (hrz _) ?_)
  |(at_builtin;refine wpList_copy_runI _ rfl _ _ 47 47 rfl _ _ rfl rfl (hcpA _ _) ?_))
 go_region_law_o (refine step_copy_runI rfl _ _ 47 47 rfl (.slice (some ⟨B,(i+1)*6,none⟩) (l.length-i) (G-(i+1))) (.slice (some ⟨g,i*6,none⟩) (l.length-i) (cap-i)) (by simp[Act.eval,Act.put]) (by simp[Act.eval,Act.put]) (hcpB 3 (G-(i+1)) (cap-i)) ?_)
 go_wp2_with (fail)
 go_ret;exact⟨_,rfl,HFIN.out,HB.out⟩
theorem insert_calls {W:World} {base:Nat} {v:Value} {l:List SE} (h:Kd.R kE 49 W base (fun _=>True) v l) (hb:base≤W.heap.size) (i:Nat) (hi:i≤l.length) (x:SE) (vb:Nat) (hv:W.heap[vb]?=some (.cells x.cells.toArray 49 (0,0))) (hne:∀k,v.ownBlock=some k→vb≠k) (hs:l.length≤1000000):
  Calls Tryz.prog 139 #[v,.int .i64 i,.slice (some ⟨vb,0,none⟩) 1 1] W fun e w'=>∃v',e= .returned v'∧Kd.R kE 49 w' base (fun _=>True) v' (l.take i++x::l.drop i)∧Below base W w':=by
 by_cases e:i=l.length
 ·subst e;have:=insert_end h hb x vb hv hs
  rwa [List.take_of_length_le (Nat.le_refl _),List.drop_of_length_le (Nat.le_refl _)]
 ·obtain⟨g,cap,rfl,_⟩:=Kd.R_form h (by omega);by_cases hc:l.length+1≤cap
  ·exact insert_room h i (by omega) hc x vb hv (hne g (by simp[Value.ownBlock])) hs
  ·exact insert_grow h i (by omega) (by omega) x vb hv hs
def insE (es:List Ev) (e:Ev):List Ev:=es.takeWhile (fun a=>decide (cmpE a e<0))++e::es.dropWhile (fun a=>decide (cmpE a e<0))
theorem takeWhile_split {α:Type} (p:α→Bool) (l:List α):l.takeWhile p=l.take (l.takeWhile p).length∧l.dropWhile p=l.drop (l.takeWhile p).length:=by
 have h:=List.takeWhile_append_dropWhile (p:=p) (l:=l);have e1:l.take (l.takeWhile p).length=(l.takeWhile p++l.dropWhile p).take (l.takeWhile p).length:=by rw[h]
 have e2:l.drop (l.takeWhile p).length=(l.takeWhile p++l.dropWhile p).drop (l.takeWhile p).length:=by rw[h]
 rw[e1,e2,List.take_left' rfl,List.drop_left' rfl];exact⟨rfl,rfl⟩
theorem ins_place {es:List Ev} {e:Ev} (hs:SortedE es):let i:=(es.takeWhile (fun a=>decide (cmpE a e<0))).length;i≤es.length∧(∀k (hk:k<es.length),k<i→cmpE es[k] e<0)∧(∀k (hk:k<es.length),i≤k→¬cmpE es[k] e<0):=by
 intro i;have hi:i≤es.length:=(List.takeWhile_sublist _).length_le;refine⟨hi,fun k hk hki=> ?_,fun k hk hki=> ?_⟩
 ·have h1:=(takeWhile_split (fun a=>decide (cmpE a e<0)) es).1;have h2:(es.takeWhile (fun a=>decide (cmpE a e<0)))[k]?=some es[k]:=by
   rw[h1,List.getElem?_take_of_lt hki,List.getElem?_eq_getElem hk]
  have h3:=List.all_eq_true.1 (List.all_takeWhile (p:=fun a=>decide (cmpE a e<0)) (l:=es)) _ (List.mem_of_getElem? h2)
  simpa using h3
 ·have hin:i<es.length:=by omega
  have h0:¬cmpE es[i] e<0:=by
   have h1:=(takeWhile_split (fun a=>decide (cmpE a e<0)) es).2;have h2:es.drop i=es[i]::es.drop (i+1):=List.drop_eq_getElem_cons hin;have h3:es.dropWhile (fun a=>decide (cmpE a e<0))=es[i]::es.drop (i+1):=h1.trans h2;have h4:=List.head?_dropWhile_not (fun a=>decide (cmpE a e<0)) es;rw[h3]at h4
   simpa [List.getElem?_eq_getElem hin]using h4
  by_cases e1:i=k
  ·subst e1;exact h0
  ·have h5:=(List.pairwise_iff_getElem.1 hs) i k hin hk (by omega);have h6:=cmpE_swap es[i] e;have h7:=cmpE_swap es[k] e;intro h8;have:= @cmpE_le es[i] es[k] e h5 (by omega);have h9:= @cmpE_le e es[i] es[k] (by omega) h5;omega
theorem EvAt.below {Mt:Nat→Prop} {w w':World} {s:SE} {e:Ev} (h:EvAt Mt w s e) (k:Below w.heap.size w w'):EvAt Mt w' s e:=h.keep (Keep.of_below k)
theorem insA {B:Nat} {w0 wy:World} {v:Value} {l:List SE} (hv:Kd.R kE 49 wy B (fun _=>True) v l) (hB:B≤wy.heap.size) (i:Nat) (hi:i≤l.length) (x:SE) (hs:l.length≤1000000):
  Calls Tryz.prog 139 #[v,.int .i64 i,.slice (some ⟨wy.heap.size,0,none⟩) 1 1] (wy.alloc (.cells #[.int .i64 x.t,.slice x.k.A x.k.n x.k.c,.int .i64 x.lp,.int .i64 x.kd,.int .i64 x.pr,.int .i64 x.ar] 49)) fun e w'=>∃v',e= .returned v'∧Kd.R kE 49 w' B (fun _=>True) v' (l.take i++x::l.drop i)∧Below B wy w':=by
 have hb:=below_alloc (Below.refl wy.heap.size wy) (.cells #[.int .i64 x.t,.slice x.k.A x.k.n x.k.c,.int .i64 x.lp,.int .i64 x.kd,.int .i64 x.pr,.int .i64 x.ar] 49);refine(insert_calls (Kd.R_below hv hb) (Nat.le_trans hB hb.size) i hi x wy.heap.size (World.alloc_heap_new _ _) (fun k hk e=>by have:=Kd.R_lt hv k hk;omega) hs).mono ?_;rintro e w' ⟨v',rfl,h1,h2⟩;exact⟨v',rfl,h1,(hb.mono hB).trans h2⟩
theorem insB {w0 wy:World} {v:Value} {l:List SE} (x:SE) (hb:Below (w0.alloc (.cells #[.int .i64 x.t,.slice x.k.A x.k.n x.k.c,.int .i64 x.lp,.int .i64 x.kd,.int .i64 x.pr,.int .i64 x.ar] 49)).drew.heap.size (w0.alloc (.cells #[.int .i64 x.t,.slice x.k.A x.k.n x.k.c,.int .i64 x.lp,.int .i64 x.kd,.int .i64 x.pr,.int .i64 x.ar] 49)).drew wy) (hv:Kd.R kE 49 wy (w0.alloc (.cells #[.int .i64 x.t,.slice x.k.A x.k.n x.k.c,.int .i64 x.lp,.int .i64 x.kd,.int .i64 x.pr,.int .i64 x.ar] 49)).drew.heap.size (fun _=>True) v l) (i:Nat) (hi:i≤l.length) (hs:l.length≤1000000):
  Calls Tryz.prog 139 #[v,.int .i64 i,.slice (some ⟨w0.heap.size,0,none⟩) 1 1] wy fun e w'=>∃v',e= .returned v'∧Kd.R kE 49 w' w0.heap.size (fun _=>True) v' (l.take i++x::l.drop i)∧Below w0.heap.size wy w':=by
 have hlt:w0.heap.size<(w0.alloc (.cells #[.int .i64 x.t,.slice x.k.A x.k.n x.k.c,.int .i64 x.lp,.int .i64 x.kd,.int .i64 x.pr,.int .i64 x.ar] 49)).heap.size:=World.block_lt_of_cell? _ _ (cell_new _ _ _ _ 0 _ rfl rfl);exact insert_calls (Kd.R_lower hv (Nat.le_of_lt hlt)) (Nat.le_trans (Nat.le_of_lt hlt) hb.size) i hi x w0.heap.size ((hb.block _ hlt).trans (World.alloc_heap_new _ _)) (fun k hk e=>Nat.lt_irrefl _ (Nat.lt_of_lt_of_le (e▸hlt) (Kd.R_base hv k hk))) hs
theorem mbInsert_calls {Mt:Nat→Prop} {W:World} {h:SH} {es:List Ev} {x:SE} {e:Ev} (r:EvsAt Mt W h es) (hx:EvAt Mt W x e) (hM:∀k,Mt k→k<W.heap.size) (hs:SortedE es) (hn:es.length≤1000000) (hk:∀e∈es,e.k.length≤1000000) (hke:e.k.length≤1000000):
  Calls Tryz.prog 125 #[h.v,x.v] W fun e' w'=>∃h':SH,e'= .returned h'.v∧EvsAt Mt w' h' (insE es e)∧Below W.heap.size W w':=by
 obtain⟨ss,r1,r2⟩:=r;obtain⟨f,hf⟩:=ev_of Mt W;have hes:=r2.map_eq hf;have hln:=r2.len;have hge:∀k (h1:k<es.length) (h2:k<ss.length),es[k]=f ss[k]:=fun k h1 h2=>by
  subst hes;simp
 obtain⟨i0,hi0⟩:∃i0,(es.takeWhile (fun a=>decide (cmpE a e<0))).length=i0:=⟨_,rfl⟩;obtain⟨hi1,hi2,hi3⟩:=ins_place (e:=e) hs;rw[hi0]at hi1 hi2 hi3;have HINS:=am (show insE es e=es.take i0++e::es.drop i0 by
  unfold insE;have:=takeWhile_split (fun a=>decide (cmpE a e<0)) es;rw[hi0]at this;rw[←this.1,←this.2])
 obtain⟨hA,hN,hc⟩:=h;have hNl:hN=ss.length:=r1.len;subst hNl;have HX:=am hx;have HM:=am hM;have H1:=am r1;have H2:=am r2;have HBS:=am (fun(W0:World) (hb:Below W.heap.size W W0)=>bsearch_calls (W:=W0) hA ss.length hc ss x (fun y=>cmpE (f y) e) i0 (r1.below hb).here (by omega) (by omega)
  (fun k hk1 hk2=>by
   have:=hi2 k (by omega) hk2
   rwa [hge k (by omega) hk1]at this)
  (fun k hk1 hk2=>by
   have:=hi3 k (by omega) hk2
   rwa [hge k (by omega) hk1]at this)
  (fun W' hb' y hy=>by
   obtain⟨ey,my,hey⟩:=r2.mem hy;rw[←hf _ _ hey];have hb2:=hb.trans (hb'.mono hb.size);have k1:=hey.k.below hb2;have k2:=hx.k.below hb2;exact cmpEvents_calls y x ey e W' hey.t hx.t k1.here k2.here (by rw[k1.len];exact hk _ my) (by rw[k2.len];exact hke)))
 have HC:=am (fun(W0:World) (hb:Below W.heap.size W W0)=>cloneEv_calls hA hc ss.length ss W0 (r1.below hb).here rfl (by omega));have hs6:ss.length≤1000000:=by omega
 have hi6:i0≤ss.length:=by omega
 clear hln r1 r2 hf hes hge hi2 hi3 hi0 hx hM hs hk hke;obtain⟨xt,⟨xA,xn,xc⟩,xl,xd,xp,xa⟩:=x;simp only[SE.v,SH.v]at HBS ⊢;go_enter Tryz.func125,Tryz.ntmps125
 go_wp2_with (first|(go_at_call 138;(with_reducible refine(HBS.out _ (below_alloc (Below.refl _ _) _)).mono ?_);rintro e wx ⟨b,rfl,hb⟩;obtain⟨hb2,c0,c1,c2,c3,c4,c5⟩:=boxed ⟨xt,⟨xA,xn,xc⟩,xl,xd,xp,xa⟩ hb;simp only at c0 c1 c2 c3 c4 c5;have HB2:=am hb2;clear hb hb2))
 go_upto_region 2 with (fail)
 go_region_held3 (fun w'=>w'.cell? ⟨W.heap.size,0,none⟩=some (.int .i64 xt)∧w'.cell? ⟨W.heap.size,1,none⟩=some (.slice xA xn xc)∧w'.cell? ⟨W.heap.size,2,none⟩=some (.int .i64 xl)∧w'.cell? ⟨W.heap.size,3,none⟩=some (.int .i64 xd)∧w'.cell? ⟨W.heap.size,4,none⟩=some (.int .i64 xp)∧w'.cell? ⟨W.heap.size,5,none⟩=some (.int .i64 xa)) (go_keep)
  (first
   |(go_at_call 101;(with_reducible refine(HC.out _ (by first|exact below_drew HB2.out|exact below_drew (below_alloc HB2.out _))).mono ?_);rintro e wy ⟨v,rfl,hv,hb⟩;have hbb:Below wx.heap.size wx wy:=(by first|exact(below_drew (Below.refl _ _)).trans hb|exact(below_drew (below_alloc (Below.refl _ _) _)).trans (hb.mono (below_alloc (Below.refl wx.heap.size wx) _).size));have hcl:=fun j=>hbb.cell (p:=⟨W.heap.size,j,none⟩) (World.block_lt_of_cell? wx ⟨W.heap.size,0,none⟩ c0);have HV:=am hv;have HBB:=am hbb;have HBC:=am hb;clear hv hbb hb)
   |(go_at_call 139;(first
    |(with_reducible refine(insA (w0:=W) HV.out (HBC.out.size) i0 hi6 ⟨xt,⟨xA,xn,xc⟩,xl,xd,xp,xa⟩ hs6).mono ?_)
    |(with_reducible refine(insB (w0:=wx) ⟨xt,⟨xA,xn,xc⟩,xl,xd,xp,xa⟩ HBC.out HV.out i0 hi6 hs6).mono ?_));rintro e2 wz ⟨v2,rfl,hv2,hb2⟩;have HV2:=am hv2;have HBZ:=am (HB2.out.trans ((HBB.out.mono HB2.out.size).trans (hb2.mono HB2.out.size)));have hclz:=fun j=>(HBB.out.trans hb2).cell (p:=⟨W.heap.size,j,none⟩) (World.block_lt_of_cell? wx ⟨W.heap.size,0,none⟩ c0);clear hv2 hb2))
 all_goals go_wp2_with (fail)
 all_goals go_ret
 all_goals
  obtain⟨A2,c2,rfl⟩:=Kd.R_slice HV2.out;exact⟨⟨A2,_,c2⟩,rfl,by
   rw[HINS.out];refine⟨_,Rd.of_R rfl HV2.out (fun k hk hm=> ?_),(((H2.out.take i0).imp fun _ _ h=>h.below HBZ.out).append (.cons (HX.out.below HBZ.out) ((H2.out.drop i0).imp fun _ _ h=>h.below HBZ.out)))⟩;have h1:=Kd.R_base HV2.out k hk;have h2:=HM.out k hm;have h3:=HB2.out.size;have h4:wx.drew.heap.size=wx.heap.size:=rfl;omega,HBZ.out⟩
theorem heap_new_drew (w:World) (o:Obj):(w.alloc o).drew.heap[w.heap.size]?=some o:=World.alloc_heap_new _ _
theorem hd_row {w:World} {B:Nat} (hs:List SH) (t:TypeId) (hb:w.heap[B]?=some (.cells (hs.map fun h=>Value.slice h.A h.n h.c).toArray t (0,0))) (hn:hs.length≤9223372036854775807):Kd.C kH w (some ⟨B,0,none⟩) hs.length hs:=
 ⟨rfl,hn,fun _=>⟨_,rfl,fun j p hj=>by
  obtain⟨h1,rfl⟩:=List.getElem?_eq_some_iff.1 hj;refine⟨[.slice hs[j].A hs[j].n hs[j].c],rfl,rfl,fun i u hu=> ?_⟩;have hi:i=0:=by
   have:=(List.getElem?_eq_some_iff.1 hu).1
   simpa using this
  subst hi;rw[Addr.add_lit];simp only[World.cell?,hb];have:u= .slice hs[j].A hs[j].n hs[j].c:=by simpa using hu.symm
  subst this;simp[kH,Kd.flat,h1]⟩⟩
theorem mbCancel_calls {Mt:Nat→Prop} {W:World} {h:SH} {es:List Ev} {kh:SH} {k:List Int} (r:EvsAt Mt W h es) (hx:KeyAt Mt W kh k) (hM:∀k,Mt k→k<W.heap.size) (hn:es.length≤1000000) (hk:∀e∈es,e.k.length≤1000000) (hke:k.length≤1000000):
  Calls Tryz.prog 126 #[h.v,kh.v] W fun e' w'=>∃(h':SH) (b:Bool),e'= .returned (.tuple #[h'.v,.bool b])∧EvsAt Mt w' h' (es.eraseP (fun e=>decide (e.k=k)))∧Below W.heap.size W w':=by
 obtain⟨ss,r1,r2⟩:=r;obtain⟨f,hf⟩:=ev_of Mt W;have hes:=r2.map_eq hf;have hln:=r2.len;obtain⟨hA,hN,hc⟩:=h;obtain⟨kA,kn,kc⟩:=kh;have hNl:hN=ss.length:=r1.len;subst hNl;have HM:=am hM;have H1:=am r1;have H2:=am r2;have hcap:ss.length≤hc:=r1.cap;have hb0:=fun o=>below_alloc (Below.refl W.heap.size W) o;have HI:=am (index_cancel (W:=W.alloc (.cells #[.slice kA kn kc] 35)) hA ss.length hc W.heap.size ss (fun y=>decide ((f y).k=k)) (r1.below (hb0 _)).here (by omega) (fun W' hb y hy=>by
  obtain⟨ey,my,hey⟩:=r2.mem hy;rw[←hf _ _ hey];have hlt:W.heap.size<(W.alloc (.cells #[.slice kA kn kc] 35)).heap.size:=World.block_lt_of_cell? _ _ (cell_new _ _ _ _ 0 _ rfl rfl);have hb2:=(hb0 _).trans (hb.mono (hb0 _).size);have k1:=hey.k.below hb2;have k2:=hx.below hb2;exact cancelF_calls y W.heap.size ⟨kA,kn,kc⟩ ey.k k W' ((hb.cell (p:=⟨W.heap.size,0,none⟩) hlt).trans (cell_new _ _ _ _ 0 _ rfl rfl)) k1.here k2.here (by rw[k1.len];exact hk _ my) (by rw[k2.len];exact hke)))
 have HB0:=am hb0;have HES:=am hes;have hsl:ss.length≤1000000:=by omega
 simp only[SH.v];clear hb0 hx hf hes hln r1 r2 hM hk hke;by_cases hi:fidx (fun y=>decide ((f y).k=k)) ss= -1
 ·rw[hi]at HI;have HE:=am (show es.eraseP (fun e=>decide (e.k=k))=es by
   rw[HES.out];refine List.eraseP_of_forall_not fun e he=> ?_;obtain⟨y,hy,rfl⟩:=List.mem_map.1 he;intro hp;unfold fidx at hi;cases hf:ss.findIdx? (fun y=>decide ((f y).k=k))with
   |none=>
    rw[List.findIdx?_eq_none_iff]at hf;have:=hf y hy;rw[hp]at this;cases this
   |some i=>rw[hf]at hi;simp at hi)
  go_enter Tryz.func126,Tryz.ntmps126
  go_wp2_with (first|(go_at_call 111;(with_reducible refine HI.out.mono ?_);rintro e wx ⟨rfl,hx⟩;have HX:=am hx;clear hx))
  go_ret2
  have hb:=(HB0.out _).trans (HX.out.mono (HB0.out _).size);exact⟨⟨hA,ss.length,hc⟩,false,rfl,by rw[HE.out];exact⟨ss,H1.out.below hb,H2.out.imp fun _ _ h=>h.below hb⟩,hb⟩
 ·obtain⟨i,hii,hfi⟩:∃i:Nat,fidx (fun y=>decide ((f y).k=k)) ss=(i:Int)∧ss.findIdx? (fun y=>decide ((f y).k=k))=some i:=by
   unfold fidx at hi ⊢;cases hf:ss.findIdx? (fun y=>decide ((f y).k=k))with
   |none=>rw[hf]at hi;exact absurd rfl hi
   |some i=>exact⟨i,rfl,rfl⟩
  rw[hii]at HI;have hil:i<ss.length:=(List.findIdx?_eq_some_iff_getElem.1 hfi).1;have HE:=am (show es.eraseP (fun e=>decide (e.k=k))=es.take i++es.drop (i+1)by
   have h1:es.findIdx? (fun e=>decide (e.k=k))=some i:=by
    rw[HES.out,List.findIdx?_map];exact hfi
   rw[List.eraseP_eq_eraseIdx,h1];exact List.eraseIdx_eq_take_drop_succ _ _)
  clear hfi hi hii;have w1:IntKind.i64.wrap ((i:Int)+1)=((i+1:Nat):Int):=(i64_w _).trans (by unfold Go.RowKit.wrap64;omega);have d1:decide ((i:Int)<0)=false:=df (by omega);have q1:=evTo hA ss.length hc i (Int.natCast_nonneg _) (by omega) hcap;have q2:=evFrom hA ss.length hc ((i:Int)+1) (by omega) (by omega);rw[show((i:Int)+1).toNat=i+1 by omega]at q2;rw[Int.toNat_natCast]at q1;go_enter Tryz.func126,Tryz.ntmps126
  go_wp2_with (first|(go_at_call 111;(with_reducible refine HI.out.mono ?_);rintro e wx ⟨rfl,hx⟩;have HX:=am hx;clear hx))
  have hbx:=(HB0.out (.cells #[.slice kA kn kc] 35)).trans (HX.out.mono (HB0.out _).size);have HBX:=am hbx;have hC:=(H1.out.below hbx).here;have hC1:Kd.C kE wx hA i (ss.take i):=by
   have:=Kd.C_take hC (m:=i) (by omega)
   rwa [List.length_take,Nat.min_eq_left (by omega)]at this
  have hC2:=Kd.C_drop hC (m:=i+1) (by omega) hcap;rw[List.length_drop]at hC2;obtain⟨A2,hA2⟩:∃A2,(if hc=i+1 then hA else hA.map (·.add ((i+1)*6)))=A2:=⟨_,rfl⟩;have hC3:Kd.C kE wx A2 (ss.length-(i+1)) (ss.drop (i+1)):=hA2▸hC2;rw[hA2]at q2;have HCC:=am (fun(W0:World) (hb:Below wx.heap.size wx W0) (hbl:W0.heap[wx.heap.size]?=some (.cells #[.slice hA i hc,.slice A2 (ss.length-(i+1)) (hc-(i+1))] 47 (0,0)))=>concat_calls (W:=W0) (some ⟨wx.heap.size,0,none⟩) 2 2 [⟨hA,i,hc⟩,⟨A2,ss.length-(i+1),hc-(i+1)⟩] [ss.take i,ss.drop (i+1)]
   (hd_row [⟨hA,i,hc⟩,⟨A2,ss.length-(i+1),hc-(i+1)⟩] 47 hbl (by simp))
   (.cons ⟨by rw[List.length_take];simp only;omega,by simp only;omega,Kd.C_below hC1 hb⟩ (.cons ⟨by rw[List.length_drop],by simp only;omega,Kd.C_below hC3 hb⟩ .nil)) (by decide) (by simp;omega))
  clear hbx hC hC1 hC2 hC3 hA2;go_upto_region 4 with (fail)
  go_region_held3 (fun w'=>True) (trivial) (first|(go_at_call 29;(with_reducible refine(HCC.out _ (by first|exact below_drew (below_alloc (Below.refl _ _) _)|exact below_alloc (below_drew (Below.refl _ _)) _) (by first|exact World.alloc_heap_new _ _|exact heap_new_drew _ _)).mono ?_);rintro e wy ⟨v,rfl,hv,hb⟩;have HV:=am hv;have HBY:=am hb;clear hv hb))
  go_wp2_with (fail)
  go_ret2
  obtain⟨A3,c3,rfl⟩:=Kd.R_slice HV.out;have hbz:Below wx.heap.size wx wy:=(below_drew (below_alloc (Below.refl _ _) _)).trans (HBY.out.mono (below_alloc (Below.refl wx.heap.size wx) _).size);have hbw:=HBX.out.trans (hbz.mono HBX.out.size);refine⟨⟨A3,_,c3⟩,true,rfl,?_,hbw⟩;rw[HE.out];have hfl:[ss.take i,ss.drop (i+1)].flatten=ss.take i++ss.drop (i+1):=by simp
  refine⟨_,Rd.of_R rfl HV.out (fun k hk hm=> ?_),?_⟩
  ·have h1:=Kd.R_base HV.out k hk;have h2:=HM.out k hm;have h3:=HBX.out.size;have h4:wx.heap.size≤(wx.alloc (.cells #[.slice hA i hc,.slice A2 (ss.length-(i+1)) (hc-(i+1))] 47)).drew.heap.size:=(below_alloc (Below.refl wx.heap.size wx) _).size;omega
  ·rw[hfl];exact(((H2.out.take i).imp fun _ _ h=>h.below hbw).append ((H2.out.drop (i+1)).imp fun _ _ h=>h.below hbw))
theorem ev_head {w:World} {A:Option Addr} {n:Nat} {x:SE} {ss:List SE} (h:Kd.C kE w A n (x::ss)):∃ad,A=some ad∧ad.block<w.heap.size∧∀w':World,(∀a:Addr,a.block=ad.block→w'.cell? a=w.cell? a)→
  w'.cell? ad=some (.int .i64 x.t)∧w'.cell? ⟨ad.block,ad.off+1,none⟩=some (.slice x.k.A x.k.n x.k.c)∧w'.cell? ⟨ad.block,ad.off+2,none⟩=some (.int .i64 x.lp)∧
   w'.cell? ⟨ad.block,ad.off+3,none⟩=some (.int .i64 x.kd)∧w'.cell? ⟨ad.block,ad.off+4,none⟩=some (.int .i64 x.pr)∧w'.cell? ⟨ad.block,ad.off+5,none⟩=some (.int .i64 x.ar):=by
 have hn:0<n:=by rw[←h.1];simp
 obtain⟨ad,x',e0,⟨_,hx⟩,p0,p1,p2,p3,p4,p5⟩:=ev_cells h 0 hn;obtain rfl:x=x':=hx;rw[Nat.zero_mul,show ad.add 0=ad by simp[Addr.add]]at p0 p1 p2 p3 p4 p5;exact⟨ad,e0,World.block_lt_of_cell? w _ p0,fun w' hw=>⟨(hw _ rfl).trans p0,(hw ⟨ad.block,ad.off+1,none⟩ rfl).trans p1,(hw ⟨ad.block,ad.off+2,none⟩ rfl).trans p2,(hw ⟨ad.block,ad.off+3,none⟩ rfl).trans p3,(hw ⟨ad.block,ad.off+4,none⟩ rfl).trans p4,(hw ⟨ad.block,ad.off+5,none⟩ rfl).trans p5⟩⟩
theorem take_no {Mt:Nat→Prop} {W:World} {h:SH} {es:List Ev} (bound:Int) (r:EvsAt Mt W h es) (hb:∀e,es.head?=some e→¬e.t<bound):
  Calls Tryz.prog 124 #[h.v,.int .i64 bound] W fun e' w'=>e'= .returned (.tuple #[h.v,SE.zero.v,.bool false])∧Below W.heap.size W w':=by
 obtain⟨ss,r1,r2⟩:=r;obtain⟨hA,hN,hc⟩:=h;have hNl:hN=ss.length:=r1.len;subst hNl;simp only[SH.v];cases ss with
 |nil=>
  clear r1 r2 hb;go_enter Tryz.func124,Tryz.ntmps124
  go_wp2_with (fail)
  go_returns
  exact⟨rfl,by go_grown⟩
 |cons x ss=>
  cases r2 with
  |cons h1 h2=>
   rename_i e es;have hlt:¬x.t<bound:=by rw[h1.t];exact hb e rfl
   obtain⟨ad,e0,hab,hcl⟩:=ev_head r1.here;cases e0;have d1:decide (x.t<bound)=false:=decide_eq_false hlt;obtain⟨n,hn⟩:∃n,(x::ss).length=n:=⟨_,rfl⟩;have hn1:(0:Int)<(n:Int):=by rw[←hn];simp
   have hn2:decide ((0:Int)<(n:Int))=true:=decide_eq_true hn1;rw[hn];obtain⟨t,ht⟩:∃t,x.t=t:=⟨_,rfl⟩;have p0:∀o,(W.alloc o).cell? ad=some (.int .i64 t):=fun o=>ht▸(hcl (W.alloc o) (fun a ha=>World.cell?_alloc_lt W o a (by rw[ha];exact hab))).1;rw[ht]at d1;clear r1 h1 h2 hb hlt ht hcl hn;go_enter Tryz.func124,Tryz.ntmps124
   go_wp2_with (fail)
   go_returns
   exact⟨rfl,by go_grown⟩
theorem zero_box {w wx:World} (hb:Below (w.alloc (.cells #[.int .i64 0,.slice none 0 0,.int .i64 0,.int .i64 0,.int .i64 0,.int .i64 0] 49)).heap.size (w.alloc (.cells #[.int .i64 0,.slice none 0 0,.int .i64 0,.int .i64 0,.int .i64 0,.int .i64 0] 49)) wx):
  wx.cell? ⟨w.heap.size,0,none⟩=some (.int .i64 0)∧wx.cell? ⟨w.heap.size,1,none⟩=some (.slice none 0 0)∧wx.cell? ⟨w.heap.size,2,none⟩=some (.int .i64 0)∧wx.cell? ⟨w.heap.size,3,none⟩=some (.int .i64 0)∧wx.cell? ⟨w.heap.size,4,none⟩=some (.int .i64 0)∧wx.cell? ⟨w.heap.size,5,none⟩=some (.int .i64 0)∧∀j,wx.frozen? ⟨w.heap.size,j,none⟩=false:=by
 obtain⟨_,c0,c1,c2,c3,c4,c5⟩:=boxed SE.zero hb;have hlt:w.heap.size<(w.alloc (.cells #[.int .i64 0,.slice none 0 0,.int .i64 0,.int .i64 0,.int .i64 0,.int .i64 0] 49)).heap.size:=World.block_lt_of_cell? _ _ (cell_new _ _ _ _ 0 _ rfl rfl);exact⟨c0,c1,c2,c3,c4,c5,fun j=>blk_frozen ((hb.block _ hlt).trans (World.alloc_heap_new _ _)) j⟩
theorem take_yes {Mt:Nat→Prop} {W:World} {h:SH} {e:Ev} {es:List Ev} (bound:Int) (r:EvsAt Mt W h (e::es)) (hM:∀k,Mt k→k<W.heap.size) (hb:e.t<bound) (hs:es.length≤1000000):
  Calls Tryz.prog 124 #[h.v,.int .i64 bound] W fun e' w'=>∃(h':SH) (x:SE),e'= .returned (.tuple #[h'.v,x.v,.bool true])∧EvsAt Mt w' h' es∧EvAt Mt w' x e∧Below W.heap.size W w':=by
 obtain⟨ss,r1,r2⟩:=r;obtain⟨hA,hN,hc⟩:=h;have hNl:hN=ss.length:=r1.len;subst hNl;simp only[SH.v];cases r2 with
 |cons h1 h2=>
  rename_i x ss;have hlt:x.t<bound:=by rw[h1.t];exact hb
  obtain⟨ad,e0,hab,hcl⟩:=ev_head r1.here;cases e0;have hl2:=h2.len;have d1:decide (x.t<bound)=true:=decide_eq_true hlt;have hC2:=Kd.C_drop r1.here (m:=1) (by simp) r1.cap;obtain⟨n,hn⟩:∃n,(x::ss).length=n:=⟨_,rfl⟩;have hn0:ss.length=n-1:=by rw[←hn];simp
  have hn1:(0:Int)<(n:Int):=by rw[←hn];simp
  have hn2:decide ((0:Int)<(n:Int))=true:=decide_eq_true hn1;have hn3:(1:Int)≤(n:Int):=by omega
  have hcap:n≤hc:=hn▸r1.cap;have q2:=evFrom (some ad) n hc 1 (by omega) hn3;rw[show(1:Int).toNat=1 by rfl]at q2;obtain⟨A2,hA2⟩:∃A2,(if hc=1 then some ad else(some ad).map (·.add (1*6)))=A2:=⟨_,rfl⟩;have hC3:Kd.C kE W A2 (n-1) ss:=by
   have:Kd.C kE W A2 ((x::ss).drop 1).length ((x::ss).drop 1):=hA2▸hC2
   rwa [List.drop_one,List.tail_cons,hn0]at this
  rw[hA2]at q2;rw[hn];have HC:=am (fun(W0:World) (hb:Below W.heap.size W W0)=>cloneEv_calls A2 (hc-1) (n-1) ss W0 (Kd.C_below hC3 hb) hn0 (by omega));have HX:=am h1;have H2:=am h2;have HM:=am hM
  have HL:=am (show∀w',Below (W.alloc (.cells #[.int .i64 0,.slice none 0 0,.int .i64 0,.int .i64 0,.int .i64 0,.int .i64 0] 49)).heap.size (W.alloc (.cells #[.int .i64 0,.slice none 0 0,.int .i64 0,.int .i64 0,.int .i64 0,.int .i64 0] 49)) w'→_ from fun w' hb'=>hcl w' (fun a ha=>(((below_alloc (Below.refl W.heap.size W) _).trans (hb'.mono (below_alloc (Below.refl W.heap.size W) _).size)).cell (p:=a) (by rw[ha];exact hab))));obtain⟨p0,p1,p2,p3,p4,p5⟩:=HL.out _ (Below.refl _ _);obtain⟨xt,⟨xA,xn,xc⟩,xl,xd,xp,xa⟩:=x;simp only at p0 p1 p2 p3 p4 p5 d1;have hne:ad.block≠W.heap.size:=by omega
  have hk0:∀(w:World) j u,(w.setCell ⟨W.heap.size,j,none⟩ u).cell? ad=w.cell? ad:=fun w j u=>cell_far (p:=⟨W.heap.size,j,none⟩) hne u;have hk1:∀(w:World) j u k,(w.setCell ⟨W.heap.size,j,none⟩ u).cell? ⟨ad.block,ad.off+k,none⟩=w.cell? ⟨ad.block,ad.off+k,none⟩:=fun w j u k=>cell_far (p:=⟨W.heap.size,j,none⟩) (a:=⟨ad.block,ad.off+k,none⟩) hne u;clear r1 h1 h2 hM hb hlt hcl hn hC2 hC3 hA2 hab;go_enter Tryz.func124,Tryz.ntmps124
  go_wp2_with (fail)
  go_upto_region 2 with (fail)
  go_region_held3 (fun w'=>w'.cell? ad=some (.int .i64 xt)∧w'.cell? ⟨ad.block,ad.off+1,none⟩=some (.slice xA xn xc)∧w'.cell? ⟨ad.block,ad.off+2,none⟩=some (.int .i64 xl)∧w'.cell? ⟨ad.block,ad.off+3,none⟩=some (.int .i64 xd)∧w'.cell? ⟨ad.block,ad.off+4,none⟩=some (.int .i64 xp)∧w'.cell? ⟨ad.block,ad.off+5,none⟩=some (.int .i64 xa)) (first|go_keep|(simp only[hk0,hk1];exact⟨by assumption,by assumption,by assumption,by assumption,by assumption,by assumption⟩))
   (first|(go_at_call 101;(with_reducible refine(HC.out _ (below_drew (below_alloc (Below.refl _ _) _))).mono ?_);rintro e wx ⟨v,rfl,hv,hb⟩;obtain⟨p0,p1,p2,p3,p4,p5⟩:=HL.out _ ((below_drew (Below.refl _ _)).trans hb);obtain⟨z0,z1,z2,z3,z4,z5,fr⟩:=zero_box ((below_drew (Below.refl _ _)).trans hb);have HV:=am hv;have HB:=am hb;clear hv hb))
  go_wp2_with (fail)
  try simp only[Exit.inBlock,Exit.then]
  refine bodyPost_ret (v:= .tuple #[v,.agg #[.int .i64 xt,.slice xA xn xc,.int .i64 xl,.int .i64 xd,.int .i64 xp,.int .i64 xa],.bool true]) (by simp[results,Tryz.results124,go_sem,z0,z1,z2,z3,z4,z5];try rfl) rfl ?_;obtain⟨A3,c3,rfl⟩:=Kd.R_slice HV.out;have b0:Below W.heap.size W wx:=(below_drew (below_alloc (Below.refl _ _) _)).trans (HB.out.mono (below_alloc (Below.refl W.heap.size W) _).size)
  have hb:Below W.heap.size W ((((((wx.setCell ⟨W.heap.size,0,none⟩ (.int .i64 xt)).setCell ⟨W.heap.size,1,none⟩ (.slice xA xn xc)).setCell ⟨W.heap.size,2,none⟩ (.int .i64 xl)).setCell ⟨W.heap.size,3,none⟩ (.int .i64 xd)).setCell ⟨W.heap.size,4,none⟩ (.int .i64 xp)).setCell ⟨W.heap.size,5,none⟩ (.int .i64 xa)):=
   below_set (below_set (below_set (below_set (below_set (below_set b0 (Nat.le_refl _)) (Nat.le_refl _)) (Nat.le_refl _)) (Nat.le_refl _)) (Nat.le_refl _)) (Nat.le_refl _)
  have hbase:∀k,(Value.slice A3 ss.length c3).ownBlock=some k→W.heap.size<k:=fun k hk=>Nat.lt_of_lt_of_le (World.block_lt_of_cell? _ _ (cell_new W #[.int .i64 0,.slice none 0 0,.int .i64 0,.int .i64 0,.int .i64 0,.int .i64 0] 49 _ 0 _ rfl rfl)) (Kd.R_base HV.out k hk);have hfar:∀j,(∀k,some k=(Value.slice A3 ss.length c3).ownBlock→k≠(⟨W.heap.size,j,none⟩:Addr).block):=fun j k hk e=>by have:=hbase k hk.symm;simp only at e;omega
  have hR:=Kd.R_tight rfl HV.out;have hR2:=Kd.R_far (p:=⟨W.heap.size,5,none⟩) (Kd.R_far (p:=⟨W.heap.size,4,none⟩) (Kd.R_far (p:=⟨W.heap.size,3,none⟩) (Kd.R_far (p:=⟨W.heap.size,2,none⟩) (Kd.R_far (p:=⟨W.heap.size,1,none⟩) (Kd.R_far (p:=⟨W.heap.size,0,none⟩) hR (hfar 0) (.int .i64 xt)) (hfar 1) (.slice xA xn xc)) (hfar 2) (.int .i64 xl)) (hfar 3) (.int .i64 xd)) (hfar 4) (.int .i64 xp)) (hfar 5) (.int .i64 xa);refine⟨⟨A3,ss.length,c3⟩,⟨xt,⟨xA,xn,xc⟩,xl,xd,xp,xa⟩,rfl,⟨ss,Rd.of_R rfl (Kd.R_mono hR2 (fun _ _=>trivial)) (fun k hk hm=> ?_),H2.out.imp fun _ _ h=>h.below hb⟩,HX.out.below hb,hb⟩
  have h1:=hbase k hk;have h2:=HM.out k hm;omega
end Go.Proofs.YtfnimdhghglanaaGreat.Hand
end
section
namespace Go.Proofs.YtfnimdhghglanaaGreat.Hand
open Go.RowKit Go.Shelf Go.Proofs.YtfnimdhghglanaaGreatW PrintWords PrintLast PrintMore
def roundEnd {σ:Type} (B:Nat) (Post:σ→World→Prop) (s:σ) (W:World):Exit→Act→World→Prop
 | .normal,_,W'=>KeepsFrom B W W'∧Post s W'
 |_,_,_=>False
theorem range_own {F:Fence} {n:Nat} {P:Program} {σ:Type} {g:Operand} {ps:Array Tmp} {assign body:Code} {Q:Exit→Act→World→Prop} {a:Act} {w:World}
  (hro:F.round=none) (h1:1≤n) {gf:Nat} {lb:Array Value} (hg:a.eval g= .func (.func gf) #[] lb) (hFg:F.fn gf) (eg:∀args w,(callFunc gf args).run P w= .ok (.enter gf args) w)
  (args:σ→Array Value) (hps:∀s,(args s).size=ps.size)
  (Pre Post:σ→World→Prop) (Fin:World→Prop) (hPost:OwnFrom w.heap.size Post) (hFin:OwnFrom w.heap.size (fun(_:Unit) W=>Fin W))
  (hiter:∀(l:Nat) (Rc:World→Prop) (W1:World),Below w.heap.size w W1→(∀A B,Rc A→Keep (·<w.heap.size) A B→Rc B)→
   (∀s W,Pre s W→Rc W→YieldAt F (n-1-1) P l (args s) W fun e W'=>e= .returned (.bool true)∧Post s W'∧Rc W')→Rc W1→
   CallsIn F (n-1) P gf (#[.func (.yield l) #[] #[]]++lb) W1 fun e W'=>(∃v,e= .returned v)∧Fin W'∧Rc W')
  (Ax:σ→Act→World→Prop) (hAx:∀s a',OwnFrom w.heap.size (fun(_:Unit) W=>Ax s a' W))
  (hassign:∀(l:Nat) (s:σ) (W:World) (K:Act→World→Prop),Pre s W→(∀a' W',KeepsFrom w.heap.size W W'→Ax s a' W'→K a' W')→
   assign.wpIn (F.inRound l) (n-1-1) P (Exit.then K (fun _ _ _=>False)) {tmps:=(ps.zip (args s)).foldl (fun t (p,v)=>t.setIfInBounds p v) a.tmps,defers:=[]} W)
  (hbody:∀(l:Nat) (s:σ) (a':Act) (W:World),Ax s a' W→body.wpIn (F.inRound l) (n-1-1) P (roundEnd w.heap.size Post s W) a' W)
  (hdone:∀(D:Nat) (W:World),w.heap.size≤D→Fin W→W.heap[D]?=some (.deferred (some []))→Q .normal {a with defers:={target:= .collected D,args:= #[]}::a.defers} W):
  (Code.rangeFunc g ps assign body).wpIn F n P Q a w:=by
 refine wpIn_rangeFunc ?_;intro fn hfn;rw[hro];obtain⟨rec,hrec⟩:∃rec:LoopState→Option Code→Loop,rec=fun st pe=>{state:=st,pending:=pe,fn,tmps:=a.tmps,params:=ps,assign,body,defers:=w.heap.size}:=⟨_,rfl⟩;obtain⟨W1,hW1⟩:∃W1,(w.alloc (.deferred (some []))).alloc (.loop (rec .ready none))=W1:=⟨_,rfl⟩;have hL1:W1.heap[w.heap.size+1]?=some (.loop (rec .ready none)):=by
  rw[←hW1];have:=World.alloc_heap_new (w.alloc (.deferred (some []))) (.loop (rec .ready none));rwa [World.size_alloc]at this
 have hK1:W1.heap[w.heap.size]?=some (.deferred (some [])):=by
  rw[←hW1];exact(Below.heap_alloc _ _ _ (by simp)).trans (World.alloc_heap_new w _)
 have hb1:Below w.heap.size w W1:=by
  rw[←hW1];exact(((Below.refl _ w).alloc (Nat.le_refl _) _).alloc (by simp) _)
 refine⟨w.heap.size+1,[{target:= .collected w.heap.size,args:= #[]}],W1,{target:= .fn (.func gf) lb,args:= #[.func (.yield (w.heap.size+1)) #[] #[]]},W1,gf,
  #[.func (.yield (w.heap.size+1)) #[] #[]]++lb,W1,?_,?_,?_,?_,fun _=>h1,?_⟩
 ·rw[←hW1,hrec];exact run_enterLoop_outer _ _ _ _ _
 ·simp only[resolve,hg];simp[go_sem]
 ·intro f' hf';simp[Target.leads]at hf';subst hf';exact hFg
 ·simp[invoke,go_sem,eg]
 ·refine(hiter (w.heap.size+1)
   (fun W=>W.heap[w.heap.size+1]?=some (.loop (rec .ready none))∧W.heap[w.heap.size]?=some (.deferred (some [])))
   W1 hb1
   (fun A B hs hk=>⟨(hk.block _ (Array.getElem?_eq_some_iff.1 hs.1).1 (by omega)).trans hs.1,(hk.block _ (Array.getElem?_eq_some_iff.1 hs.2).1 (by omega)).trans hs.2⟩)
   ?_ ⟨hL1,hK1⟩).mono ?_
  ·rintro s W hi ⟨hl,hk⟩;have hlt:w.heap.size+1<W.heap.size:=(Array.getElem?_eq_some_iff.1 hl).1;have hy:=run_yield (P:=P) (args:=args s) hl (by rw[hrec];exact hps s);rw[hrec]at hy;refine⟨fn,_,assign,body,hy,roundIn_of_wpIn hfn (hassign _ s W _ hi ?_)⟩;clear hy;intro a' Wa hkfa hax
   replace hl:=hkfa.same _ _ (by omega) hl rfl
   replace hk:=hkfa.same _ _ (Nat.le_refl _) hk rfl
   replace hlt:w.heap.size+1<Wa.heap.size:=(Array.getElem?_eq_some_iff.1 hl).1
   clear hi;refine⟨_,run_beginRound hl (by rw[hrec]),?_⟩;have hl2:(Wa.putObj (w.heap.size+1) (.loop {rec .ready none with state:= .busy})).heap[w.heap.size+1]?=some (.loop {rec .ready none with state:= .busy}):=World.putObj_heap_same hlt;have hk2:(Wa.putObj (w.heap.size+1) (.loop {rec .ready none with state:= .busy})).heap[w.heap.size]?=some (.deferred (some [])):=(World.putObj_heap_other (by omega)).trans hk;refine wpIn_mono (hbody _ s a' _ ((hAx s a').putObj (s:=()) _ hax (by omega) hl rfl)) ?_;rintro e a3 W3 hp;cases e with
   |normal=>
    obtain⟨hk3,hi3⟩:=hp;have hl3:=hk3.same _ _ (by omega) hl2 rfl;have hr:=run_endRound (P:=P) none hl3;rw[hrec]at hr hl3;refine⟨_,_,hr,rfl,hPost.putObj _ hi3 (by omega) hl3 rfl,?_,?_⟩
    ·rw[hrec];exact World.putObj_heap_same (Array.getElem?_eq_some_iff.1 hl3).1
    ·exact(World.putObj_heap_other (by omega)).trans (hk3.same _ _ (Nat.le_refl _) hk2 rfl)
   |ret=>exact hp.elim
   |exit id=>exact hp.elim
   |goto t=>exact hp.elim
   |panic ch=>exact hp.elim
   |outgrown=>exact hp.elim
  ·rintro e W2 ⟨⟨v,rfl⟩,hF,hl,hk⟩;exact⟨none,_,by have:=run_endLoop (P:=P) hl (by rw[hrec];simp);rw[hrec]at this;exact this,hdone _ _ (Nat.le_refl _) (hFin.putObj (s:=()) _ hF (by omega) hl rfl) ((World.putObj_heap_other (by omega)).trans hk)⟩
end Go.Proofs.YtfnimdhghglanaaGreat.Hand
end
