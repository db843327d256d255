/- TopErrorPrefix, part 11 of 41; no condition. (Printed from the session's own texts: what is not used left out, spaces spared.) -/
import Derived.Test.YtfnimdhghglanaaGreatQeAJ
import Derived.Shelf.Spec.SlicesInsert
import Derived.Lib.AppendZerosOnto
import Derived.Laws.NewBlocks
set_option maxRecDepth 100000
set_option maxHeartbeats 8000000
set_option linter.unusedVariables false
set_option linter.unusedSimpArgs false
section
namespace Go.Proofs.YtfnimdhghglanaaGreat.Hand
open Go.RowKit Go.Proofs.YtfnimdhghglanaaGreatW.PrintWords Go.Proofs.YtfnimdhghglanaaGreatW.PrintLast Go.Proofs.YtfnimdhghglanaaGreatW.PrintMore
attribute [local go_sem] max2_int min2_int max_two min_two max_three min_three max_four min_four
theorem evFrom (A:Option Addr) (n c:Nat) (j:Int) (h0:0≤j) (hm:j≤n):∀W:World,(Instr.slice 47 (.slice A n c) (some (.int .i64 j)) none none).run Tryz.prog W= .ok (.slice (if c=j.toNat then A else A.map (·.add (j.toNat*6))) (n-j.toNat) (c-j.toNat)) W:=by
 obtain⟨i,hi,h6⟩:=infoEv_is;exact cut_from _ _ _ Tryz.underlying47 hi 6 h6 A n c j h0 hm
def fl (l:List SE):List Value:=l.flatMap SE.cells
theorem fl_length (l:List SE):(fl l).length=l.length*6:=by
 induction l with
 |nil=>rfl
 |cons x l ih=>
  have:(fl (x::l)).length=x.cells.length+(fl l).length:=by simp[fl]
  rw[this,ih];simp[SE.cells];omega
theorem fl_append (l m:List SE):fl (l++m)=fl l++fl m:=by simp[fl]
theorem fl_take (l:List SE) (i:Nat):(fl l).take (i*6)=fl (l.take i):=by
 by_cases h:i≤l.length
 ·conv=>lhs;rw[←List.take_append_drop i l,fl_append]
  rw[List.take_append_of_le_length (by rw[fl_length,List.length_take];omega),List.take_of_length_le (by rw[fl_length,List.length_take];omega)]
 ·rw[List.take_of_length_le (by rw[fl_length];omega),List.take_of_length_le (by omega)]
theorem fl_drop (l:List SE) (i:Nat):(fl l).drop (i*6)=fl (l.drop i):=by
 by_cases h:i≤l.length
 ·conv=>lhs;rw[←List.take_append_drop i l,fl_append]
  have e:(fl (l.take i)).length=i*6:=by rw[fl_length,List.length_take];omega
  rw[←e,List.drop_left]
 ·rw[List.drop_of_length_le (by rw[fl_length];omega),List.drop_of_length_le (by omega)];rfl
theorem fl_at (l:List SE) (j:Nat) (hj:j<l.length):((fl l).drop (j*6)).take 6=l[j].cells:=by
 rw[fl_drop,List.drop_eq_getElem_cons hj];rfl
theorem fl_one (l:List SE):∀v∈fl l,v.oneCell'=true:=by
 intro v hv;obtain⟨x,_,hx⟩:=List.mem_flatMap.1 hv;simp[SE.cells]at hx;rcases hx with rfl|rfl|rfl|rfl|rfl|rfl<;>rfl
theorem reps_fl {l:List SE} {cs:List Value}:Reps (fun x cs=>cs=x.cells) 6 l cs↔cs=fl l:=by
 constructor
 ·intro h;refine List.ext_getElem? fun k=> ?_;by_cases hk:k<l.length*6
  ·have hj:k / 6<l.length:=by omega
   have h1:=h.2 (k / 6) _ (List.getElem?_eq_getElem hj);have h2:=fl_at l (k / 6) hj;have h3:(cs.drop (k / 6*6)).take 6=((fl l).drop (k / 6*6)).take 6:=by rw[h2];exact h1
   have h4:((cs.drop (k / 6*6)).take 6)[k%6]?=(((fl l).drop (k / 6*6)).take 6)[k%6]?:=by rw[h3]
   rw[List.getElem?_take_of_lt (Nat.mod_lt _ (by decide)),List.getElem?_take_of_lt (Nat.mod_lt _ (by decide)),List.getElem?_drop,List.getElem?_drop]at h4
   rwa [show k / 6*6+k%6=k by omega]at h4
  ·rw[List.getElem?_eq_none (by rw[h.1];omega),List.getElem?_eq_none (by rw[fl_length];omega)]
 ·rintro rfl;refine⟨fl_length l,fun j p hj=> ?_⟩;obtain⟨h1,rfl⟩:=List.getElem?_eq_some_iff.1 hj;exact fl_at l j h1
theorem row_blk {W:World} {base g n cap:Nat} {l:List SE} (h:Row W base g n cap l):∃cur,W.heap[g]?=some (.cells cur 49 (0,0))∧cur.size=cap*6∧n≤cap∧cap≤maxLen∧base≤g∧cur.toList.take (n*6)=fl l:=by
 have hn:=h.len;subst hn;obtain⟨h0,inner,ho,hr⟩:=h;obtain rfl:=reps_fl.1 hr;rcases ho.2 with ⟨h2,_⟩|⟨g',cap',cur,h2,hg,hh,h3,h4,h5,h6⟩
 ·cases h2
 ·cases h2;exact⟨cur,hh,h5,h3,h4,hg,h6⟩
theorem row_of_blk {W:World} {base g n cap:Nat} {l:List SE} {cur:Array Value} (hh:W.heap[g]?=some (.cells cur 49 (0,0))) (h5:cur.size=cap*6) (hn:n=l.length) (h3:n≤cap) (h4:cap≤maxLen) (hg:base≤g) (h6:cur.toList.take (n*6)=fl l):Row W base g n cap l:=by
 subst hn;exact⟨fun _ _=>trivial,fl l,⟨fl_length l,.inr ⟨g,cap,cur,rfl,hg,hh,h3,h4,h5,h6⟩⟩,reps_fl.2 rfl⟩
theorem setCells_blk {g t:Nat}:∀(vs:List Value) {w:World} {o:Nat} {cur:Array Value},w.heap[g]?=some (.cells cur t (0,0))→o+vs.length≤cur.size→
  ∃cur',(w.setCells g o vs).heap[g]?=some (.cells cur' t (0,0))∧cur'.toList=cur.toList.take o++vs++cur.toList.drop (o+vs.length)
 | [],w,o,cur,h,_=>⟨cur,h,by simp⟩
 |v::r,w,o,cur,h,ho=>by
  simp only[List.length_cons]at ho;obtain⟨cur',h1,h2⟩:=setCells_blk r (w:=w.setCell ⟨g,o,none⟩ v) (o:=o+1) (blk_put h o v rfl) (by simpa using (by omega:o+1+r.length≤cur.size));refine⟨cur',h1,?_⟩;have hs:o<cur.toList.length:=by simp;omega
  rw[h2,Array.toList_setIfInBounds,List.take_add_one,List.getElem?_set_self hs,List.take_set_of_le (Nat.le_refl _),List.drop_set_of_lt (by omega)];simp[Nat.add_comm,Nat.add_left_comm]
theorem run_copy_ev (w:World) (ty:TypeId) (b o dLen dCap:Nat) (a:Addr) (sLen sCap m:Nat) (cs:List Value) (hm:m=Nat.min sLen dLen) (hn:cs.length=m*6)
  (hsrc:∀j v,cs[j]?=some v→w.cell? (a.add j)=some v) (hc:∀j,j<cs.length→(w.cell? ⟨b,o+j,none⟩).isSome=true) (hf:∀j,j<cs.length→w.frozen? ⟨b,o+j,none⟩=false) (h1:∀v∈cs,v.oneCell'=true):
  (Builtin.copy_ #[47,47] ty #[.slice (some ⟨b,o,none⟩) dLen dCap,.slice (some a) sLen sCap]).run Tryz.prog w= .ok (goInt m) (w.setCells b o cs):=by
 have hl:=run_loadCells_list (P:=Tryz.prog) w a cs hsrc;have hst:=run_storeCells_cells (P:=Tryz.prog) b o cs 0 w (by simpa using hc) (by simpa using hf) h1;obtain⟨i,hi,h6⟩:=infoEv_is;rw[hn]at hl;simp[Builtin.copy_,run_underlying Tryz.underlying47,Builtin.lenOf,Builtin.firstCells,sizeOf,typeInfo,hi,h6,←hm,hl,hst]
theorem insert_end {W:World} {base:Nat} {v:Value} {l:List SE} (h:Kd.R kE 49 W base (fun _=>True) v l) (hb:base≤W.heap.size) (x:SE) (vb:Nat) (hv:W.heap[vb]?=some (.cells x.cells.toArray 49 (0,0))) (hs:l.length≤1000000):
  Calls Tryz.prog 139 #[v,.int .i64 l.length,.slice (some ⟨vb,0,none⟩) 1 1] W fun e w'=>∃v',e= .returned v'∧Kd.R kE 49 w' base (fun _=>True) v' (l++[x])∧Below base W w':=by
 obtain⟨A,c,rfl⟩:=Kd.R_slice h;have q1:=evFrom A l.length c l.length (Int.natCast_nonneg _) (Int.le_refl _);obtain⟨z,qz⟩:∃z,∀W:World,(Instr.slice 47 (.slice A l.length c) (some (.int .i64 (l.length:Int))) none none).run Tryz.prog W= .ok z W:=⟨_,q1⟩;clear q1;have H:=am h;have HX:=am (show ReadsRow (fun(y:SE) cs=>cs=y.cells) 6 W (some ⟨vb,0,none⟩) 1 [x]from⟨rfl,by decide,fun _=>⟨_,rfl,fun j p hj=>by
  obtain⟨h1,rfl⟩:=List.getElem?_eq_some_iff.1 hj;have:j=0:=by simpa using h1
  subst this;refine⟨x.cells,rfl,rfl,fun i u hu=> ?_⟩;rw[Addr.add_lit];simp only[World.cell?,hv]
  simpa using hu⟩⟩)
 have d0:((1:Int)==0)=false:=rfl;have d1:((l.length:Int)==(l.length:Int))=true:=by simp
 clear h hv;go_enter Tryz.func139,Tryz.ntmps139
 go_wp2_with (first|((with_reducible refine gate_builtin (b:= .append) (xs:= #[.tmp 23,.tmp 24]) rfl ?_);at_builtin;refine Kd.R_append_rows kE (Rr:=fun y cs=>cs=y.cells) (w0:=W) base rfl (.tmp 23) (.tmp 24) 47 49 (.agg #[.int .i64 0,.slice none 0 0,.int .i64 0,.int .i64 0,.int .i64 0,.int .i64 0]) 64 rfl Tryz.underlying47 infoEv rfl (by decide) (by omega) _ l [x] (some ⟨vb,0,none⟩) 1 1 (fun _=>True) (fun _=>False) rfl rfl H.out HX.out (fun q cs hq=>hq) (fun _ h=>h.elim) (fun _ _=>trivial) (Below.refl _ _) hb ?aL ?_;(case aL=>omega);intro v25 w25 ho25 hb25 hg25 hat25;have HO:=am ho25;have HB:=am hb25;clear ho25 hb25 hg25 hat25))
 go_ret;exact⟨_,rfl,HO.out,HB.out⟩
theorem evToCap (A:Option Addr) (n c:Nat) (j:Int) (h0:0≤j) (hm:j≤c):∀W:World,(Instr.slice 47 (.slice A n c) none (some (.int .i64 j)) none).run Tryz.prog W= .ok (.slice A j.toNat c) W:=by
 intro W;obtain⟨i,hi,h6⟩:=infoEv_is;have hel:Tryz.prog.elem 47=49:=by simp[Program.elem,Tryz.underlying47]
 have hu:Tryz.prog.underlying 47=some (.slice (Tryz.prog.elem 47)):=by rw[hel];exact Tryz.underlying47
 have ha:(A.map fun x=>x.add 0)=A:=by cases A<;>simp[Addr.add]
 rw[run_slice_h W 47 A n c hu .i64 j h0 hm,hel];simp[sizeOf,typeInfo,hi,sliced,Result.andThen,ha]
theorem overlaps_no (w:World) (va ga oa ob la ca lb cb:Nat) (hne:va≠ga) (cA cB:Array Value) (tA tB:TypeId) (hA:w.heap[va]?=some (.cells cA tA (0,0))) (hB:w.heap[ga]?=some (.cells cB tB (0,0))) (hk:cB.size≠0):
  (callFunc 151 #[.slice (some ⟨va,oa,none⟩) la ca,.slice (some ⟨ga,ob,none⟩) lb cb]).run Tryz.prog w= .ok (.value (.bool false)) w:=by
 have hz:∀w,(Go.sizeOf 49).run Tryz.prog w= .ok 6 w:=fun w=>by
  obtain⟨i,hi,h6⟩:=infoEv_is;simp[sizeOf,typeInfo,hi,h6]
 rw[run_callFunc_extern Tryz.func151 (by kernel_rfl) (by kernel_rfl) (by kernel_rfl) (e:=Extern.SlicesOverlaps.overlaps #[47,47] #[4]) (by kernel_rfl),
  Lib.run_overlaps_apart w 47 4 49 Tryz.underlying47 6 hz ⟨va,oa,none⟩ ⟨ga,ob,none⟩ la ca lb cb hne tA tB cA.size cB.size (by simp[World.shape?,hA]) (by simp[World.shape?,hB]) hk (blk_frozen hA _) (blk_frozen hA _)]
 rfl
theorem ins_cells {cur c1 c2 r1:List Value} {l:List SE} {i:Nat} {x:SE} (hi:i≤l.length) (h6:cur.take (l.length*6)=fl l) (hsz:(l.length+1)*6≤cur.length) (k2:c1=cur.take ((i+1)*6)++fl (l.drop i)++r1) (k4:c2=c1.take (i*6)++x.cells++c1.drop (i*6+x.cells.length)):
  c2.take ((l.length+1)*6)=fl (l.take i++x::l.drop i):=by
 have e1:(cur.take ((i+1)*6)).length=(i+1)*6:=by rw[List.length_take];omega
 have e2:c1.take (i*6)=fl (l.take i):=by
  rw[k2,List.append_assoc,List.take_append_of_le_length (by omega),List.take_take,Nat.min_eq_left (by omega),←fl_take,←h6,List.take_take,Nat.min_eq_left (by omega)]
 have e3:c1.drop (i*6+x.cells.length)=fl (l.drop i)++r1:=by
  rw[k2,List.append_assoc,show i*6+x.cells.length=(cur.take ((i+1)*6)).length by rw[e1];show i*6+6=_;omega,List.drop_left]
 have e4:fl (l.take i++x::l.drop i)=fl (l.take i)++x.cells++fl (l.drop i):=by rw[fl_append,List.append_assoc];rfl
 rw[k4,e2,e3,e4,←List.append_assoc];refine List.take_left' ?_;rw[List.length_append,List.length_append,fl_length,fl_length,List.length_take,List.length_drop];show _+6+_=_;omega
theorem insert_room {W:World} {base g n cap:Nat} {l:List SE} (h:Row W base g n cap l) (i:Nat) (hi:i<n) (hroom:n+1≤cap) (x:SE) (vb:Nat) (hv:W.heap[vb]?=some (.cells x.cells.toArray 49 (0,0))) (hne:vb≠g) (hs:n≤1000000):
  Calls Tryz.prog 139 #[.slice (some ⟨g,0,none⟩) n cap,.int .i64 i,.slice (some ⟨vb,0,none⟩) 1 1] W fun e w'=>∃v',e= .returned v'∧Kd.R kE 49 w' base (fun _=>True) v' (l.take i++x::l.drop i)∧Below base W w':=by
 have hn:=h.len;subst hn;have hbase:=h.base_le;obtain⟨cur,hh,h5,h3,h4,hg,h6⟩:=row_blk h;have hcap:cap≤9223372036854775807:=h4;have q1:=evFrom (some ⟨g,0,none⟩) l.length cap i (Int.natCast_nonneg _) (by omega);obtain⟨z,qz⟩:∃z,∀W:World,(Instr.slice 47 (.slice (some ⟨g,0,none⟩) l.length cap) (some (.int .i64 (i:Int))) none none).run Tryz.prog W= .ok z W:=⟨_,q1⟩;clear q1;have w1:IntKind.i64.wrap ((l.length:Int)+1)=((l.length+1:Nat):Int):=(i64_w _).trans (by unfold Go.RowKit.wrap64;omega);have w2:IntKind.i64.wrap ((i:Int)+1)=((i+1:Nat):Int):=(i64_w _).trans (by unfold Go.RowKit.wrap64;omega)
 have d0:((1:Int)==0)=false:=rfl;have d1:((i:Int)==(l.length:Int))=false:=beq_eq_false_iff_ne.2 (by omega);have d2:decide ((cap:Int)<((l.length+1:Nat):Int))=false:=decide_eq_false (by omega);have q2:=evToCap (some ⟨g,0,none⟩) l.length cap ((l.length+1:Nat):Int) (Int.natCast_nonneg _) (by omega);have q3:=evFrom (some ⟨g,0,none⟩) (l.length+1) cap ((i+1:Nat):Int) (Int.natCast_nonneg _) (by omega);have q4:=evFrom (some ⟨g,0,none⟩) (l.length+1) cap (i:Int) (Int.natCast_nonneg _) (by omega);rw[Int.toNat_natCast]at q2
 rw[Int.toNat_natCast,if_neg (by omega),show(some (⟨g,0,none⟩:Addr)).map (·.add ((i+1)*6))=some ⟨g,(i+1)*6,none⟩by simp[Addr.add]]at q3;rw[Int.toNat_natCast,if_neg (by omega),show(some (⟨g,0,none⟩:Addr)).map (·.add (i*6))=some ⟨g,i*6,none⟩by rw[Option.map_some,add_at,Nat.zero_add]]at q4;have hov:=fun lb cb=>overlaps_no W vb g 0 ((i+1)*6) 1 1 lb cb hne _ _ _ _ hv hh (by rw[h5];omega);have hl:(fl (l.drop i)).length=(l.length-i)*6:=by rw[fl_length,List.length_drop]
 have hcell:∀o,o<cap*6→(W.cell? ⟨g,o,none⟩).isSome=true:=fun o ho=>by
  simp only[World.cell?,hh];simp[h5,ho]
 have hcp1:∀ty dc sc,(Builtin.copy_ #[47,47] ty #[.slice (some ⟨g,(i+1)*6,none⟩) (l.length-i) dc,.slice (some ⟨g,i*6,none⟩) (l.length+1-i) sc]).run Tryz.prog W.drew= .ok (goInt ((l.length-i:Nat):Int)) (W.drew.setCells g ((i+1)*6) (fl (l.drop i))):=fun ty dc sc=>
  run_copy_ev W.drew ty g ((i+1)*6) (l.length-i) dc ⟨g,i*6,none⟩ (l.length+1-i) sc (l.length-i) (fl (l.drop i)) (by simp only[Nat.min_def];split<;>omega) hl
   (fun j v hj=>by
    rw[Addr.add_lit];have hlt:j<(l.length-i)*6:=by
     have:=(List.getElem?_eq_some_iff.1 hj).1;omega
    have e1:(cur.toList.take (l.length*6))[i*6+j]?=some v:=by rw[h6,←List.getElem?_drop,fl_drop];exact hj
    have h7:i*6+j<l.length*6:=by
     have:l.length*6=i*6+(l.length-i)*6:=by omega
     omega
    rw[List.getElem?_take_of_lt h7]at e1;show World.cell? W _=_;simp only[World.cell?,hh]
    simpa using e1)
   (fun j hj=>by
    show(World.cell? W _).isSome=true;refine hcell _ ?_;have:(i+1)*6+(l.length-i)*6=(l.length+1)*6:=by omega
    have:(l.length+1)*6≤cap*6:=by omega
    omega)
   (fun j _=>blk_frozen (w:=W.drew) hh _) (fl_one _)
 have hlen1:(i+1)*6+(fl (l.drop i)).length≤cur.size:=by rw[hl,h5];omega
 obtain⟨c1,k1,k2⟩:=setCells_blk (fl (l.drop i)) (w:=W.drew) (o:=(i+1)*6) hh hlen1;have hcl:x.cells.length=6:=rfl;have hc1s:c1.size=cap*6:=by
  rw[←Array.length_toList,k2,List.length_append,List.length_append,List.length_take,List.length_drop,hl,Array.length_toList,h5];omega
 obtain⟨W1,hW1⟩:∃W1,W1=W.drew.setCells g ((i+1)*6) (fl (l.drop i)):=⟨_,rfl⟩;rw[←hW1]at hcp1 k1;have hgr:=grown_cells (g:=g) (fl (l.drop i)) W.drew ((i+1)*6);rw[←hW1]at hgr;have hvW:W1.heap[vb]?=some (.cells x.cells.toArray 49 (0,0)):=(hgr.block vb (blk_lt (w:=W.drew) hv) (fun e=>hne (by injection e))).trans hv;have hcp2:∀(W2:World),W2.heap=W1.heap→∀ty dc,(Builtin.copy_ #[47,47] ty #[.slice (some ⟨g,i*6,none⟩) (l.length+1-i) dc,.slice (some ⟨vb,0,none⟩) 1 1]).run Tryz.prog W2= .ok (goInt ((1:Nat):Int)) (W2.setCells g (i*6) x.cells):=fun W2 hW2 ty dc=>
  run_copy_ev W2 ty g (i*6) (l.length+1-i) dc ⟨vb,0,none⟩ 1 1 1 x.cells (by simp only[Nat.min_def];split<;>omega) rfl
   (fun j v hj=>by
    rw[Addr.add_lit];simp only[World.cell?,hW2,hvW]
    simpa using hj)
   (fun j hj=>by
    simp only[World.cell?,hW2,k1];have:i*6+j<cap*6:=by omega
    simp[hc1s,this])
   (fun j _=>blk_frozen (w:=W2) (by rw[hW2];exact k1) _) (fun v hv=>by
    have:=fl_one [x] v (by simpa [fl]using hv);exact this)
 obtain⟨c2,k3,k4⟩:=setCells_blk x.cells (w:=W1) (o:=i*6) k1 (by rw[hc1s,hcl];omega);have hct:cur.toList.length=cap*6:=by rw[←h5];exact Array.length_toList
 have HFIN:=am (show Row (W1.setCells g (i*6) x.cells) base g (l.length+1) cap (l.take i++x::l.drop i)from row_of_blk k3 (by
   rw[←Array.length_toList,k4,List.length_append,List.length_append,List.length_take,List.length_drop,Array.length_toList,hc1s,hcl];omega) (by simp;omega) hroom h4 hg (ins_cells (i:=i) (by omega) h6 (by rw[hct];omega) k2 k4))
 have HB:=am (show Below base W (W1.setCells g (i*6) x.cells)from(Below.refl base W).grown (grown_trans (grown_trans (grown_drew W _) hgr) (grown_cells (g:=g) x.cells W1 (i*6))) hbase (fun k hk=>by injection hk with hk;omega));have mixed:Tryz.prog.follows .mixedOrders=true:=by kernel_rfl
 have hb1:(0:Int)≤(i:Int)+1:=by omega
 have hin:i≤l.length:=by omega
 have htn:((i:Int)+1).toNat=i+1:=by omega
 have hb2:¬(cap=i+1):=by omega
 have hb3:(i:Int)≤(l.length:Int)+1:=by omega
 have hb4:¬(cap=i):=by omega
 have HW1:=am hW1;clear hW1;clear q3 q4;clear k1 k2 k3 k4 hgr hvW hh h5 h6 hv h hcell hl hlen1;go_enter Tryz.func139,Tryz.ntmps139
 go_wp2_with (simp only[hov])
 go_region_law_o (refine step_copy_runI rfl _ _ 47 47 rfl (.slice (some ⟨g,(i+1)*6,none⟩) (l.length-i) (cap-(i+1))) (.slice (some ⟨g,i*6,none⟩) (l.length+1-i) (cap-i)) (by simp[Act.eval,Act.put]) (by simp[Act.eval,Act.put]) (hcp1 3 (cap-(i+1)) (cap-i)) ?_)
 go_wp2_with (at_builtin;refine wpList_copy_runI _ rfl _ _ 47 47 rfl _ _ rfl rfl (hcp2 W1 rfl _ _) ?_)
 go_ret;exact⟨_,rfl,HFIN.out,HB.out⟩
theorem ins_cells2 {cur c1 c2 r1 r2:List Value} {l:List SE} {i:Nat} {x:SE} (hi:i≤l.length) (h6:cur.take (i*6)=fl (l.take i)) (hsz:(l.length+1)*6≤cur.length) (k2:c1=cur.take (i*6)++x.cells++r1) (k4:c2=c1.take ((i+1)*6)++fl (l.drop i)++r2):
  c2.take ((l.length+1)*6)=fl (l.take i++x::l.drop i):=by
 have e1:(fl (l.take i)).length=i*6:=by rw[fl_length,List.length_take];omega
 have e2:c1.take ((i+1)*6)=fl (l.take i)++x.cells:=by
  rw[k2,h6];exact List.take_left' (by rw[List.length_append,e1];show _+6=_;omega)
 have e4:fl (l.take i++x::l.drop i)=fl (l.take i)++x.cells++fl (l.drop i):=by rw[fl_append,List.append_assoc];rfl
 rw[k4,e2,e4];refine List.take_left' ?_;rw[List.length_append,List.length_append,fl_length,fl_length,List.length_take,List.length_drop];show _+6+_=_;omega
theorem insert_grow {W:World} {base g cap:Nat} {l:List SE} (h:Row W base g l.length cap l) (i:Nat) (hi:i<l.length) (hroom:cap<l.length+1) (x:SE) (vb:Nat) (hv:W.heap[vb]?=some (.cells x.cells.toArray 49 (0,0))) (hs:l.length≤1000000):
  Calls Tryz.prog 139 #[.slice (some ⟨g,0,none⟩) l.length cap,.int .i64 i,.slice (some ⟨vb,0,none⟩) 1 1] W fun e w'=>∃v',e= .returned v'∧Kd.R kE 49 w' base (fun _=>True) v' (l.take i++x::l.drop i)∧Below base W w':=by
 have hbase:=h.base_le;obtain⟨cur,hh,h5,h3,h4,hg,h6⟩:=row_blk h;have hcap:cap≤9223372036854775807:=h4;have hbw:g<W.heap.size:=blk_lt hh;have hvw:vb<W.heap.size:=blk_lt hv;have q1:=evFrom (some ⟨g,0,none⟩) l.length cap i (Int.natCast_nonneg _) (by omega);rw[Int.toNat_natCast,if_neg (by omega),show(some (⟨g,0,none⟩:Addr)).map (·.add (i*6))=some ⟨g,i*6,none⟩by rw[Option.map_some,add_at,Nat.zero_add]]at q1;obtain⟨i0,hi0,hzz⟩:=Option.map_eq_some_iff.1 infoEv;simp only[Prod.mk.injEq]at hzz;obtain⟨hz0,hzs,hzb⟩:=hzz
 have w1:IntKind.i64.wrap ((l.length:Int)+1)=((l.length+1:Nat):Int):=(i64_w _).trans (by unfold Go.RowKit.wrap64;omega);have w2:IntKind.i64.wrap ((i:Int)+1)=((i+1:Nat):Int):=(i64_w _).trans (by unfold Go.RowKit.wrap64;omega);obtain⟨k,hk⟩:∃k,i+k=l.length+1:=⟨l.length+1-i,by omega⟩;have w3:IntKind.i64.wrap ((l.length:Int)+1-(i:Int))=(k:Int):=(i64_w _).trans (by unfold Go.RowKit.wrap64;omega);have d0:((1:Int)==0)=false:=rfl;have d1:((i:Int)==(l.length:Int))=false:=beq_eq_false_iff_ne.2 (by omega);have d2:decide ((cap:Int)<((l.length+1:Nat):Int))=true:=decide_eq_true (by omega)
 have hct:cur.toList.length=cap*6:=by rw[←h5];exact Array.length_toList
 have hcell:∀o v,(fl l)[o]?=some v→W.cell? ⟨g,o,none⟩=some v:=fun o v ho=>by
  have hlt:o<l.length*6:=by
   have:=(List.getElem?_eq_some_iff.1 ho).1
   rwa [fl_length]at this
  rw[←h6,List.getElem?_take_of_lt hlt]at ho;simp only[World.cell?,hh]
  simpa using ho
 have hold:(Builtin.firstCells i0.size i (.slice (some ⟨g,0,none⟩) i cap)).run Tryz.prog W.drew= .ok (fl (l.take i)).toArray W.drew:=by
  have hll:=run_loadCells_list (P:=Tryz.prog) W.drew ⟨g,0,none⟩ (fl (l.take i)) (fun j v hj=>by
   rw[Addr.add_lit];show World.cell? W _=_;refine hcell _ _ ?_;rw[Nat.zero_add];rw[←fl_take,List.getElem?_take]at hj
   split at hj
   ·exact hj
   ·cases hj)
  have e1:(fl (l.take i)).length=i*6:=by rw[fl_length,List.length_take];omega
  rw[e1]at hll;simp[Builtin.firstCells,hzs,hll]
 have hrz:∀ty,(Builtin.append_ #[47,3] ty #[.slice (some ⟨g,0,none⟩) i cap,.int .i64 k]).run Tryz.prog W=_:=fun ty=>
  Lib.run_append_grow_zeros W 47 3 ty 49 i0 _ .i64 .i64 Tryz.underlying47 Tryz.underlying3 hi0 hz0 (some ⟨g,0,none⟩) i cap (fl (l.take i)) hold k (by omega) (by omega) (by omega) (by omega) (by rw[hzb];omega) (by rw[hzb,hk];exact growslice_fits hroom (by omega))
 rw[hk]at hrz;have hGn:l.length+1≤grownCap W (l.length+1) cap 49:=grownCap_ge W _ _ _;have hG63:=grownCap_le_maxLen W (l.length+1) cap 49 (by unfold maxLen;omega);obtain⟨G,hG⟩:∃G,grownCap W (l.length+1) cap 49=G:=⟨_,rfl⟩;rw[hG]at hrz hGn hG63;obtain⟨ROW,hROW⟩:∃ROW:Array Value,(fl (l.take i)).toArray++Builtin.zeroCells (Value.agg #[.int .i64 0,.slice none 0 0,.int .i64 0,.int .i64 0,.int .i64 0,.int .i64 0]).cells k++Builtin.zeroCells (Value.agg #[.int .i64 0,.slice none 0 0,.int .i64 0,.int .i64 0,.int .i64 0,.int .i64 0]).cells (G-(l.length+1))=ROW:=⟨_,rfl⟩;rw[hROW]at hrz
 have e1:(fl (l.take i)).length=i*6:=by rw[fl_length,List.length_take];omega
 have hRs:ROW.size=G*6:=by
  rw[←hROW];simp[Builtin.zeroCells,Value.cells,e1];omega
 have hRt:ROW.toList.take (i*6)=fl (l.take i):=by
  rw[←hROW];simp only[Array.toList_append];rw[List.append_assoc];exact List.take_left' e1
 obtain⟨W1,hW1⟩:∃W1,W.drew.alloc (.cells ROW 49)=W1:=⟨_,rfl⟩;rw[hW1]at hrz;obtain⟨B,hB⟩:∃B,W.heap.size=B:=⟨_,rfl⟩;rw[hB]at hrz;have hN:W1.heap[B]?=some (.cells ROW 49 (0,0)):=by
  rw[←hW1,←hB];exact World.alloc_heap_new _ _
 have hold1:∀j,j<B→W1.heap[j]?=W.heap[j]?:=fun j hj=>by
  rw[←hW1];exact(below_alloc (below_drew (Below.refl W.heap.size W)) _).block j (by rw[hB];exact hj)
 have hcl:x.cells.length=6:=rfl;have hcpA:∀ty dc,(Builtin.copy_ #[47,47] ty #[.slice (some ⟨B,i*6,none⟩) (l.length+1-i) dc,.slice (some ⟨vb,0,none⟩) 1 1]).run Tryz.prog W1= .ok (goInt ((1:Nat):Int)) (W1.setCells B (i*6) x.cells):=fun ty dc=>
  run_copy_ev W1 ty B (i*6) (l.length+1-i) dc ⟨vb,0,none⟩ 1 1 1 x.cells (by simp only[Nat.min_def];split<;>omega) rfl
   (fun j v hj=>by
    rw[Addr.add_lit];simp only[World.cell?,hold1 vb (by omega),hv]
    simpa using hj)
   (fun j hj=>by
    have:i*6+j<ROW.size:=by rw[hRs];rw[hcl]at hj;omega
    simp only[World.cell?,hN];simp[this])
   (fun j _=>blk_frozen hN _) (fun v hv=>by
    have:=fl_one [x] v (by simpa [fl]using hv);exact this)
 obtain⟨c1,k1,k2⟩:=setCells_blk x.cells (w:=W1) (o:=i*6) hN (by rw[hRs,hcl];omega);have hc1s:c1.size=G*6:=by
  rw[←Array.length_toList,k2,List.length_append,List.length_append,List.length_take,List.length_drop,hcl,Array.length_toList,hRs];omega
 obtain⟨W2,hW2⟩:∃W2,W1.setCells B (i*6) x.cells=W2:=⟨_,rfl⟩;rw[hW2]at hcpA k1;have hg2:W1.grownBy W2 (some B):=by rw[←hW2];exact grown_cells _ _ _
 have hgW:W2.heap[g]?=some (.cells cur 49 (0,0)):=by
  rw[hg2.block g (blk_lt (w:=W1) (by rw[hold1 g (by omega)];exact hh)) (fun e=>by injection e;omega),hold1 g (by omega)];exact hh
 have hl:(fl (l.drop i)).length=(l.length-i)*6:=by rw[fl_length,List.length_drop]
 have hcpB:∀ty dc sc,(Builtin.copy_ #[47,47] ty #[.slice (some ⟨B,(i+1)*6,none⟩) (l.length-i) dc,.slice (some ⟨g,i*6,none⟩) (l.length-i) sc]).run Tryz.prog W2.drew= .ok (goInt ((l.length-i:Nat):Int)) (W2.drew.setCells B ((i+1)*6) (fl (l.drop i))):=fun ty dc sc=>
  run_copy_ev W2.drew ty B ((i+1)*6) (l.length-i) dc ⟨g,i*6,none⟩ (l.length-i) sc (l.length-i) (fl (l.drop i)) (by simp only[Nat.min_def];split<;>omega) hl
   (fun j v hj=>by
    rw[Addr.add_lit];have e1:(fl l)[i*6+j]?=some v:=by rw[←List.getElem?_drop,fl_drop];exact hj
    have e2:=hcell _ _ e1;show World.cell? W2 _=_;simp only[World.cell?,hgW];simp only[World.cell?,hh]at e2;exact e2)
   (fun j hj=>by
    have:(i+1)*6+j<c1.size:=by rw[hc1s];rw[hl]at hj;omega
    show(World.cell? W2 _).isSome=true;simp only[World.cell?,k1];simp[this])
   (fun j _=>blk_frozen (w:=W2.drew) k1 _) (fl_one _)
 obtain⟨c2,k3,k4⟩:=setCells_blk (fl (l.drop i)) (w:=W2.drew) (o:=(i+1)*6) k1 (by rw[hc1s,hl];omega);have hR6:ROW.toList.length=G*6:=by rw[←hRs];exact Array.length_toList
 have HFIN:=am (show Row (W2.drew.setCells B ((i+1)*6) (fl (l.drop i))) base B (l.length+1) G (l.take i++x::l.drop i)from row_of_blk k3 (by
   rw[←Array.length_toList,k4,List.length_append,List.length_append,List.length_take,List.length_drop,Array.length_toList,hc1s,hl];omega) (by simp;omega) hGn hG63 (by omega) (ins_cells2 (i:=i) (by omega) hRt (by rw[hR6];omega) k2 k4))
 have HB:=am (show Below base W (W2.drew.setCells B ((i+1)*6) (fl (l.drop i)))from by
  have b1:Below W.heap.size W W1:=by rw[←hW1];exact below_alloc (below_drew (Below.refl W.heap.size W)) _
  have b2:Below W.heap.size W (W2.drew.setCells B ((i+1)*6) (fl (l.drop i))):=b1.grown (grown_trans (grown_trans hg2 (grown_drew W2 _)) (grown_cells (g:=B) (fl (l.drop i)) W2.drew ((i+1)*6))) b1.size (fun k hk=>by injection hk with hk;omega);exact b2.mono hbase)
 have mixed:Tryz.prog.follows .mixedOrders=true:=by kernel_rfl
 have hGi:¬(G=i):=by omega
 have hGim:¬(G=i+1):=by omega
 have hci:¬(cap=i):=by omega
 have hb1:(0:Int)≤(i:Int)+1:=by omega
 have hin:i≤l.length:=by omega
 have htn:((i:Int)+1).toNat=i+1:=by omega
 have hb3:(i:Int)≤(l.length:Int):=by omega
 have qt:=evTo (some ⟨g,0,none⟩) l.length cap i (Int.natCast_nonneg _) (by omega) (by omega);rw[Int.toNat_natCast]at qt;clear k1 k2 k3 k4 hh h5 h6 hv h hcell hl hold hold1 hN hRs hRt hROW hW1 hW2 hG hg2 hgW hR6 hct hc1s hcl e1 hi0 hz0 hzs hzb hB hk;go_enter Tryz.func139,Tryz.ntmps139
 go_wp2_with (first
  |(at_builtin;refine Lib.wpList_append_run _ rfl _ _ _ _ rfl _ _ rfl rfl _ _ (hrz _) ?_)
  |(at_builtin;refine wpList_copy_runI _ rfl _ _ 47 47 rfl _ _ rfl rfl (hcpA _ _) ?_))
 go_region_law_o (refine step_copy_runI rfl _ _ 47 47 rfl (.slice (some ⟨B,(i+1)*6,none⟩) (l.length-i) (G-(i+1))) (.slice (some ⟨g,i*6,none⟩) (l.length-i) (cap-i)) (by simp[Act.eval,Act.put]) (by simp[Act.eval,Act.put]) (hcpB 3 (G-(i+1)) (cap-i)) ?_)
 go_wp2_with (fail)
 go_ret;exact⟨_,rfl,HFIN.out,HB.out⟩
theorem insert_calls {W:World} {base:Nat} {v:Value} {l:List SE} (h:Kd.R kE 49 W base (fun _=>True) v l) (hb:base≤W.heap.size) (i:Nat) (hi:i≤l.length) (x:SE) (vb:Nat) (hv:W.heap[vb]?=some (.cells x.cells.toArray 49 (0,0))) (hne:∀k,v.ownBlock=some k→vb≠k) (hs:l.length≤1000000):
  Calls Tryz.prog 139 #[v,.int .i64 i,.slice (some ⟨vb,0,none⟩) 1 1] W fun e w'=>∃v',e= .returned v'∧Kd.R kE 49 w' base (fun _=>True) v' (l.take i++x::l.drop i)∧Below base W w':=by
 by_cases e:i=l.length
 ·subst e;have:=insert_end h hb x vb hv hs
  rwa [List.take_of_length_le (Nat.le_refl _),List.drop_of_length_le (Nat.le_refl _)]
 ·obtain⟨g,cap,rfl,_⟩:=Kd.R_form h (by omega);by_cases hc:l.length+1≤cap
  ·exact insert_room h i (by omega) hc x vb hv (hne g (by simp[Value.ownBlock])) hs
  ·exact insert_grow h i (by omega) (by omega) x vb hv hs
end Go.Proofs.YtfnimdhghglanaaGreat.Hand
end
