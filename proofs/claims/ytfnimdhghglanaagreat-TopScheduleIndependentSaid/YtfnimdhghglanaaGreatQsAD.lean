/- TopScheduleIndependent, part 4 of 27; no condition.  -/
import Derived.Test.YtfnimdhghglanaaGreatQsAC
import Derived.Laws.StructEq
import Derived.Deep.RegionWith
import Derived.Lib.SliceRun
set_option maxRecDepth 100000
set_option maxHeartbeats 8000000
set_option linter.unusedVariables false
set_option linter.unusedSimpArgs false
section
end
section
namespace Go.Proofs.YtfnimdhghglanaaGreat.Hand
open Go.RowKit Go.Proofs.YtfnimdhghglanaaGreatW PrintWords PrintLast PrintMore
attribute [local go_sem] max2_int min2_int max_two min_two max_three min_three max_four min_four
section
structure St where
 log:List Acc
 V:Int
 ws:List Int
 ms:List Mut
def St.fit (s:St):Prop:=s.ws.length≤256∧s.ms.length≤256∧s.log.length≤1000000∧0≤s.V∧s.V≤1000000
abbrev inL {α:Type} (l:List α) (i:Int):Prop:=0≤i∧i<l.length
def St.upd (s:St) (th kd i a:Int) (ok:Bool):St:={s with log:=s.log++[⟨th,kd,i,rd s.ws i,a,ok⟩],ws:=s.ws.set i.toNat a}
def St.load (s:St) (th i:Int):St×Int:=if inL s.ws i then(s.upd th 1 i (rd s.ws i) true,rd s.ws i)else(s,0)
def St.store (s:St) (th i v:Int):St:=if inL s.ws i then s.upd th 4 i v true else s
def St.add (s:St) (th i d:Int):St×Int:=if inL s.ws i then(s.upd th 2 i (wrap64 (rd s.ws i+d)) true,wrap64 (rd s.ws i+d))else(s,0)
def Is (W:World) (base g gw gm:Nat) (s:St):Prop:=IsMem W base g gw gm s.log s.V s.ws s.ms
structure Left (W W':World) (base g gw gm:Nat) (s:St):Prop where
 is:Is W' base g gw gm s
 mf:MF W W' g gw gm
 bl:Below base W W'
section
variable {W:World} {base g gw gm:Nat} {s:St}
theorem Is.bs (h:Is W base g gw gm s):base≤W.heap.size:=by
 obtain⟨_,_,_,h⟩:=h;exact Nat.le_trans h.hg (Nat.le_of_lt h.lt)
theorem Is.lt (h:Is W base g gw gm s):g<W.heap.size:=by
 obtain⟨_,_,_,h⟩:=h;exact h.lt
theorem Is.left {W':World} (h:Is W base g gw gm s) (hb:Below W.heap.size W W'):Left W W' base g gw gm s:=⟨IsMem.below h hb,MF.below h.lt hb,hb.mono h.bs⟩
theorem Is.here (h:Is W base g gw gm s):Left W W base g gw gm s:=⟨h,MF.refl _ _ _ _,Below.refl _ _⟩
theorem Left.trans {A B C:World} {s t:St} (h:Left A B base g gw gm s) (k:Left B C base g gw gm t):Left A C base g gw gm t:=⟨k.is,h.mf.trans k.mf,h.bl.trans k.bl⟩
end
end
section
section
variable {W:World} {base g gw gm:Nat} {s:St}
theorem load_calls (h:Is W base g gw gm s) (hf:s.fit) (th i:Int):
  Calls Tryz.prog 130 #[.pointer (some ⟨g,0,none⟩),.int .i64 th,.int .i64 i] W fun e w'=>e= .returned (.int .i64 (s.load th i).2)∧Left W w' base g gw gm (s.load th i).1:=by
 obtain⟨f1,_,f3,_,_⟩:=hf;have HL:=Aside0.mk f3;have HF:=Aside0.mk f1;have HA:=Aside0.mk (h.left (W':=W) (Below.refl _ _));clear h f1 f3;unfold St.load;by_cases hi:inL s.ws i
 ·simp only[if_pos hi];obtain⟨h0,h1⟩:=hi;go_enter Tryz.func130,Tryz.ntmps130
  go_wp2_with (first|(go_at_call 112;refine(updLoad_in HA.out.is th i h0 h1 HF.out HL.out).mono ?_;rintro e w1 ⟨rfl,hi1,hm1,hb1⟩;have HI:=Aside0.mk hi1;have HM:=Aside0.mk hm1;have HB:=Aside0.mk hb1;clear hi1 hm1 hb1))
  go_ret;exact⟨rfl,HA.out.trans ⟨HI.out,HM.out,HB.out⟩⟩
 ·simp only[if_neg hi];have HI:=Aside0.mk hi;clear hi;go_enter Tryz.func130,Tryz.ntmps130
  go_wp2_with (first|(go_at_call 112;refine(updLoad_out HA.out.is th i HI.out HF.out).mono ?_;rintro e w1 ⟨rfl,hw1⟩;have HW:=Aside0.mk hw1;clear hw1))
  go_ret;exact⟨rfl,by rw[HW.out];exact HA.out⟩
theorem add_calls (h:Is W base g gw gm s) (hf:s.fit) (th i:Int) (v:Int):
  Calls Tryz.prog 91 #[.pointer (some ⟨g,0,none⟩),.int .i64 th,.int .i64 i,.int .i64 v] W fun e w'=>e= .returned (.int .i64 (s.add th i v).2)∧Left W w' base g gw gm (s.add th i v).1:=by
 obtain⟨f1,_,f3,_,_⟩:=hf;have HL:=Aside0.mk f3;have HF:=Aside0.mk f1;have HA:=Aside0.mk (h.left (W':=(W.alloc (.cells #[.int .i64 v] 3))) (below_alloc (Below.refl _ _) _));clear h f1 f3;unfold St.add;by_cases hi:inL s.ws i
 ·simp only[if_pos hi];obtain⟨h0,h1⟩:=hi;go_enter Tryz.func91,Tryz.ntmps91
  go_wp2_with (first|(go_at_call 112;refine(updAdd_in HA.out.is th i v W.heap.size h0 h1 HF.out HL.out ?q0).mono ?_;(case q0=>simp);rintro e w1 ⟨rfl,hi1,hm1,hb1⟩;have HI:=Aside0.mk hi1;have HM:=Aside0.mk hm1;have HB:=Aside0.mk hb1;clear hi1 hm1 hb1))
  go_ret;exact⟨rfl,HA.out.trans ⟨HI.out,HM.out,HB.out⟩⟩
 ·simp only[if_neg hi];have HI:=Aside0.mk hi;clear hi;go_enter Tryz.func91,Tryz.ntmps91
  go_wp2_with (first|(go_at_call 112;refine(updAdd_out HA.out.is th i v W.heap.size HI.out HF.out).mono ?_;rintro e w1 ⟨rfl,hw1⟩;have HW:=Aside0.mk hw1;clear hw1))
  go_ret;exact⟨rfl,by rw[HW.out];exact HA.out⟩
end
end
theorem push_get {A:Array Obj} {o:Obj} {n:Nat} (h:n=A.size):(A.push o)[n]?=some o:=by subst h;simp
theorem make_run {α:Type} (d:Kd α) (t e:TypeId) (z:Value) (bytes:Nat) (z0:α) (ht:Tryz.prog.underlying t=some (.slice e)) (hinfo:(Tryz.prog.info? e).map (fun i=>(i.zero,i.size,i.bytes))=some (some z,d.sz,bytes)) (hz:z.cells.size=d.sz) (hs0:0<d.sz) (hb0:0<bytes)
  (hzero:∀W base,d.M W base (fun _=>False) z0 z.cells.toList) (n:Nat) (hl:n*bytes≤281474976710656):∃C:Array Value,
   (∀w,(Instr.makeSlice t (.int .i64 n) (.int .i64 n)).run Tryz.prog w= .ok (.slice (some ⟨w.heap.size,0,none⟩) n n) (w.alloc (.cells C e)))∧
   ∀(w:World) base,base≤w.heap.size→d.R e (w.alloc (.cells C e)) base (fun _=>True) (.slice (some ⟨w.heap.size,0,none⟩) n n) (List.replicate n z0):=by
 obtain⟨i0,hi,hzz⟩:=Option.map_eq_some_iff.1 hinfo;simp only[Prod.mk.injEq]at hzz;obtain⟨hz0,hz1,hz2⟩:=hzz;have hm:n≤281474976710656:=Nat.le_trans (Nat.le_mul_of_pos_right _ hb0) hl;refine⟨madeCells z.cells (n*d.sz),fun w=> ?_,fun w base hb=> ?_⟩
 ·have hr:=run_make (P:=Tryz.prog) w t e i0 z ht hi hz0 .i64 .i64 (n:Int) (n:Int) (by omega) (by omega)
   (by
    have h3:((i0.bytes*n:Nat):Int)≤281474976710656:=by rw[hz2,Nat.mul_comm];omega
    rwa [Int.natCast_mul]at h3) (by omega)
  simp only[Int.toNat_natCast]at hr;rw[hz1]at hr;exact hr
 ·have hrep:=Kd.reps_made (R:=d.M (w.alloc (.cells (madeCells z.cells (n*d.sz)) e)) base (fun _=>False)) (z0:=z0) hz hs0 (hzero _ _) n;refine⟨fun _ _=>trivial,(madeCells z.cells (n*d.sz)).toList,?_,hrep.imp_ (fun p c hp=>d.M_mono (fun k hk=>hk.elim) hp)⟩;have h2:=World.ownsRow_lit (base:=base) (e:=e) (size:=d.sz) w (madeCells z.cells (n*d.sz)) n hb (by simpa [maxLen]using (by omega:n≤9223372036854775807)) (by simp[size_madeCells])
  simpa using h2
theorem info3:(Tryz.prog.info? 3).map (fun i=>(i.zero,i.size,i.bytes))=some (some (.int .i64 0),1,8):=by kernel_rfl
theorem info72:(Tryz.prog.info? 227).map (fun i=>(i.zero,i.size,i.bytes))=some (some (.agg #[.bool false,.int .i64 0]),2,16):=by kernel_rfl
theorem valid_calls (n:Int) (w:World):Calls Tryz.prog 90 #[.int .i64 n] w fun e w'=>e= .returned (.bool (decide (0≤n∧n≤256)))∧w'=w:=by
 by_cases h0:0≤n
 ·by_cases h1:n≤256
  ·have e:decide (0≤n∧n≤256)=true:=decide_eq_true ⟨h0,h1⟩;rw[e];clear e;have e1:decide (n≤256)=true:=decide_eq_true h1;go_enter Tryz.func90,Tryz.ntmps90
   go_wp2
   go_ret;exact⟨by simp,rfl⟩
  ·have e:decide (0≤n∧n≤256)=false:=decide_eq_false (fun h=>h1 h.2);rw[e];clear e;have e1:decide (n≤256)=false:=decide_eq_false h1;go_enter Tryz.func90,Tryz.ntmps90
   go_wp2
   go_ret;exact⟨by simp,rfl⟩
 ·have e:decide (0≤n∧n≤256)=false:=decide_eq_false (fun h=>h0 h.1);rw[e];clear e;have e1:decide (0≤n)=false:=decide_eq_false h0;go_enter Tryz.func90,Tryz.ntmps90
  go_wp2
  go_ret;exact⟨rfl,rfl⟩
theorem new_calls (a b:Nat) (W:World) (h1:a≤256) (h3:b≤256):
  Calls Tryz.prog 59 #[.int .i64 a,.int .i64 b] W fun e w'=>∃g gw gm,e= .returned (.pointer (some ⟨g,0,none⟩))∧Is w' W.heap.size g gw gm ⟨[],0,List.replicate a 0,List.replicate b ⟨false,0⟩⟩∧Below W.heap.size W w':=by
 obtain⟨CA,hA,hRA⟩:=make_run (Kd.int .i64) 35 3 (.int .i64 0) 8 0 Tryz.underlying35 info3 rfl (by decide) (by omega) (fun _ _=>rfl) a (by omega);obtain⟨CB,hB,hRB⟩:=make_run kM 143 227 (.agg #[.bool false,.int .i64 0]) 16 ⟨false,0⟩ Tryz.underlying143 info72 rfl (by decide) (by omega) (fun _ _=>kM_mkM _ _ _ _) b (by omega);have HA:=Aside0.mk hRA;have HB:=Aside0.mk hRB;clear hRA hRB;go_enter Tryz.func59,Tryz.ntmps59;have e1:decide (0≤(a:Int)∧(a:Int)≤256)=true:=decide_eq_true (by omega);have e2:decide (0≤(b:Int)∧(b:Int)≤256)=true:=decide_eq_true (by omega);have HE1:=Aside0.mk e1
 have HE2:=Aside0.mk e2;clear e1 e2
 go_wp2_with (first|(go_at_call 90;refine(valid_calls a _).mono ?_;rintro e w1 ⟨rfl,rfl⟩;rw[HE1.out])|(go_at_call 90;refine(valid_calls b _).mono ?_;rintro e w1 ⟨rfl,rfl⟩;rw[HE2.out]))
 go_region
 all_goals go_wp2
 all_goals go_ret
 ·have k1:=Kd.R_alloc (Kd.R_alloc (HA.out w1 w1.heap.size (Nat.le_refl _)) (.cells CB 227)) (.cells #[Value.slice none 0 0,.int .i64 0,.slice (some ⟨w1.heap.size,0,none⟩) a a,.slice (some ⟨w1.heap.size+1,0,none⟩) b b] 150);have k2:=HB.out (w1.alloc (.cells CA 3)) w1.heap.size (by simp);have k3:=Kd.R_alloc k2 (.cells #[Value.slice none 0 0,.int .i64 0,.slice (some ⟨w1.heap.size,0,none⟩) a a,.slice (some ⟨w1.heap.size+1,0,none⟩) b b] 150)
  refine⟨w1.heap.size+1+1,w1.heap.size,w1.heap.size+1,rfl,⟨_,a,b,⟨?_,Kd.R_nil _ _ _ _ _,?_,?_,by omega⟩⟩,below_drew1 (below_alloc (below_alloc (below_alloc (Below.refl _ _) _) _) _)⟩
  ·show(((w1.heap.push _).push _).push _)[_]?=_;simp only[List.length_replicate];refine push_get ?_;simp
  ·simp only[List.length_replicate];exact k1
  ·simp only[List.length_replicate];rw[show(w1.alloc (.cells CA 3)).heap.size=w1.heap.size+1 by simp]at k3;exact k3
 ·have k1:=Kd.R_alloc (Kd.R_alloc (HB.out w1 w1.heap.size (Nat.le_refl _)) (.cells CA 3)) (.cells #[Value.slice none 0 0,.int .i64 0,.slice (some ⟨w1.heap.size+1,0,none⟩) a a,.slice (some ⟨w1.heap.size,0,none⟩) b b] 150);have k2:=HA.out (w1.alloc (.cells CB 227)) w1.heap.size (by simp);have k3:=Kd.R_alloc k2 (.cells #[Value.slice none 0 0,.int .i64 0,.slice (some ⟨w1.heap.size+1,0,none⟩) a a,.slice (some ⟨w1.heap.size,0,none⟩) b b] 150)
  refine⟨w1.heap.size+1+1,w1.heap.size+1,w1.heap.size,rfl,⟨_,a,b,⟨?_,Kd.R_nil _ _ _ _ _,?_,?_,by omega⟩⟩,below_drew1 (below_alloc (below_alloc (below_alloc (Below.refl _ _) _) _) _)⟩
  ·show(((w1.heap.push _).push _).push _)[_]?=_;simp only[List.length_replicate];refine push_get ?_;simp
  ·simp only[List.length_replicate];rw[show(w1.alloc (.cells CB 227)).heap.size=w1.heap.size+1 by simp]at k3;exact k3
  ·simp only[List.length_replicate];exact k1
end Go.Proofs.YtfnimdhghglanaaGreat.Hand
end
section
namespace Go.Proofs.YtfnimdhghglanaaGreat.Hand
open Go.RowKit Go.Proofs.YtfnimdhghglanaaGreatW PrintWords PrintLast PrintMore
structure Far (w:World) (g gw gm k:Nat):Prop where
 lt:k<w.heap.size
 hg:k≠g
 hw:k≠gw
 hm:k≠gm
 hl:∃v,w.cell? ⟨g,0,none⟩=some v∧v.ownBlock≠some k
theorem MF.far {w w':World} {g gw gm k:Nat} (h:MF w w' g gw gm) (f:Far w g gw gm k):Far w' g gw gm k∧w'.heap[k]?=w.heap[k]?:=by
 refine⟨⟨Nat.lt_of_lt_of_le f.lt h.size,f.hg,f.hw,f.hm,?_⟩,h.block k f.lt f.hg f.hw f.hm f.hl⟩;obtain⟨v,hv,hn⟩:=f.hl;obtain⟨v',hv',ho⟩:=h.log v hv;refine⟨v',hv',fun e=> ?_⟩;rcases ho with ho|⟨b,hb,hle⟩
 ·exact hn (ho▸e)
 ·rw[hb]at e
  injection e with e
  have:=f.lt;omega
theorem Is.far {W w':World} {base g gw gm k:Nat} {s:St} (h:Is W base g gw gm s) (hb:Below W.heap.size W w') (h1:W.heap.size≤k) (h2:k<w'.heap.size):Far w' g gw gm k:=by
 obtain⟨vl,cw,cm,h⟩:=h;have e1:=h.lt;have e2:=h.wlt;have e3:=h.mlt;refine⟨h2,by omega,by omega,by omega,vl,(hb.cell (p:=⟨g,0,none⟩) h.lt).trans h.cell.1,fun e=> ?_⟩;have:=Kd.R_lt h.lo k e;omega
section
abbrev TPool:Nat:=80
abbrev TStep:Nat:=112
abbrev TPair:Nat:=88
abbrev TPtr:Nat:=75
def kP:Kd (Int×Int):=Kd.pair (Kd.int .i64) (Kd.int .i64)
theorem kP_open {w:World} {x:Int×Int} {cs:List Value} (h:kP.K w x cs):cs=[.int .i64 x.1,.int .i64 x.2]:=by
 obtain⟨_,_,rfl,rfl,rfl⟩:=h;rfl
theorem kP_mkM (w:World) (base:Nat) (ok:Nat→Prop) (x:Int×Int):kP.M w base ok x [.int .i64 x.1,.int .i64 x.2]:=⟨[.int .i64 x.1],[.int .i64 x.2],rfl,rfl,rfl⟩
theorem infoPair:(Tryz.prog.info? TPair).map (fun i=>(i.zero,i.size,i.bytes))=some (some (.agg #[.int .i64 0,.int .i64 0]),2,16):=by kernel_rfl
inductive Stp where
 |claim
 |work (t:Int)
 |arrive
 |wait
 |done
structure Ph where
 n:Int
 c:Int
 a:Int
 st:List Stp
 pairs:List (Int×Int)
 left:Int
 picks:Int
theorem R_stay {α:Type} {d:Kd α} {e:Nat} {v:Value} {xs:List α} {ok:Nat→Prop} {W W':World} {base:Nat} (h:d.R e W base ok v xs) (hE:d.E=[]) (hb:∀k,v.ownBlock=some k→W'.heap[k]?=W.heap[k]?):d.R e W' base ok v xs:=
 Kd.R_reok hE (Kd.R_move (Kd.R_tight hE h) (fun k hk=>hb k hk.symm)) h.1
section
variable {W W':World} {base g gw gm:Nat} {s:St}
theorem Far.keep {k:Nat} (h:Far W g gw gm k) (hs:W.heap.size≤W'.heap.size) (e:W'.heap[g]?=W.heap[g]?):Far W' g gw gm k:=by
 obtain⟨v,h1,h2⟩:=h.hl;refine⟨Nat.lt_of_lt_of_le h.lt hs,h.hg,h.hw,h.hm,v,?_,h2⟩;rw[←h1];simp only[World.cell?,e]
theorem Is.stay (h:Is W base g gw gm s) (hs:∀k,¬Far W g gw gm k→k<W.heap.size→W'.heap[k]?=W.heap[k]?):Is W' base g gw gm s∧W'.heap[g]?=W.heap[g]?:=by
 obtain⟨vl,cw,cm,hB⟩:=h;have eg:=hs g (fun f=>f.hg rfl) hB.lt;refine⟨⟨vl,cw,cm,eg.trans hB.blk,R_stay hB.lo rfl (fun k hk=>hs k (fun f=> ?_) (Kd.R_lt hB.lo k hk)),R_stay hB.words rfl (fun k hk=> ?_),R_stay hB.mus rfl (fun k hk=> ?_),hB.hg⟩,eg⟩
 ·obtain⟨v,h1,h2⟩:=f.hl;rw[hB.cell.1]at h1
  injection h1 with h1
  subst h1;exact h2 hk
 ·simp[Value.ownBlock]at hk;subst hk;exact hs gw (fun f=>f.hw rfl) hB.wlt.2
 ·simp[Value.ownBlock]at hk;subst hk;exact hs gm (fun f=>f.hm rfl) hB.mlt.2
end
structure Bx (W:World) (g gw gm k t:Nat) (v:Value):Prop where
 blk:W.heap[k]?=some (.cells #[v] t (0,0))
 far:Far W g gw gm k
def StepIs (W:World) (g gw gm gp:Nat):Stp→Value→Prop
 | .claim,v=>v= .func (.func 60) #[.pointer (some ⟨gp,0,none⟩)] #[]
 | .work t,v=>∃b1 b2,v= .func (.func 114) #[] #[.pointer (some ⟨b1,0,none⟩),.pointer (some ⟨b2,0,none⟩)]∧Bx W g gw gm b1 TPtr (.pointer (some ⟨gp,0,none⟩))∧Bx W g gw gm b2 3 (.int .i64 t)
 | .arrive,v=>v= .func (.func 93) #[.pointer (some ⟨gp,0,none⟩)] #[]
 | .wait,v=>v= .func (.func 115) #[.pointer (some ⟨gp,0,none⟩)] #[]
 | .done,v=>v= .nilFunc
theorem StepIs.move {W W':World} {g gw gm gp:Nat} {st:Stp} {v:Value} (h:StepIs W g gw gm gp st v) (hm:∀k t u,t=TPtr∨t=3→Bx W g gw gm k t u→Bx W' g gw gm k t u):StepIs W' g gw gm gp st v:=by
 cases st with
 |work t=>
  obtain⟨b1,b2,e,h1,h2⟩:=h;exact⟨b1,b2,e,hm _ _ _ (.inl rfl) h1,hm _ _ _ (.inr rfl) h2⟩
 |claim=>exact h
 |arrive=>exact h
 |wait=>exact h
 |done=>exact h
structure Pool (W:World) (base g gw gm gp gn:Nat) (vp:Value) (L:Nat) (x:Ph):Prop where
 is:∃log,log.length≤L∧Is W base g gw gm ⟨log,0,[x.c,x.a],[]⟩
 blk:W.heap[gp]?=some (.cells #[.pointer (some ⟨g,0,none⟩),.int .i64 x.n,.slice (some ⟨gn,0,none⟩) x.st.length x.st.length,vp,.int .i64 x.left,.int .i64 x.picks] TPool (0,0))
 prs:Kd.R kP TPair W base (fun _=>True) vp x.pairs
 nxt:∃cs:Array Value,W.heap[gn]?=some (.cells cs TStep (0,0))∧cs.size=x.st.length∧∀i (h:i<x.st.length),∃v,cs[i]?=some v∧StepIs W g gw gm gp x.st[i] v
 f1:Far W g gw gm gp
 f2:Far W g gw gm gn
 f3:∀k,vp.ownBlock=some k→Far W g gw gm k
 b1:base≤gp
 b2:base≤gn
section
variable {W W':World} {base g gw gm gp gn L:Nat} {vp:Value} {x:Ph}
theorem Pool.lt (h:Pool W base g gw gm gp gn vp L x):gp<W.heap.size:=h.f1.lt
theorem Pool.bs (h:Pool W base g gw gm gp gn vp L x):base≤W.heap.size:=Nat.le_trans h.b1 (Nat.le_of_lt h.lt)
theorem ne_type {k t t':Nat} {cs cs':Array Value} (h:W.heap[k]?=some (.cells cs t (0,0))) {j:Nat} (h':W.heap[j]?=some (.cells cs' t' (0,0))) (ht:t≠t'):k≠j:=by
 rintro rfl;rw[h]at h'
 injection h' with h'
 injection h' with _ e
 exact ht e
theorem Pool.gne (h:Pool W base g gw gm gp gn vp L x):gp≠gn:=by
 obtain⟨cs,h1,_⟩:=h.nxt;exact ne_type h.blk h1 (by decide)
theorem Pool.pne (h:Pool W base g gw gm gp gn vp L x):(some gp≠vp.ownBlock)∧(some gn≠vp.ownBlock):=by
 obtain⟨cs,h1,_⟩:=h.nxt;refine⟨fun e=> ?_,fun e=> ?_⟩
 ·obtain⟨cs2,h2⟩:=Kd.R_typed h.prs _ e.symm;exact ne_type h.blk h2 (by decide) rfl
 ·obtain⟨cs2,h2⟩:=Kd.R_typed h.prs _ e.symm;exact ne_type h1 h2 (by decide) rfl
theorem Pool.cells (h:Pool W base g gw gm gp gn vp L x):W.cell? ⟨gp,0,none⟩=some (.pointer (some ⟨g,0,none⟩))∧W.cell? ⟨gp,1,none⟩=some (.int .i64 x.n)∧W.cell? ⟨gp,2,none⟩=some (.slice (some ⟨gn,0,none⟩) x.st.length x.st.length)∧W.cell? ⟨gp,3,none⟩=some vp∧W.cell? ⟨gp,4,none⟩=some (.int .i64 x.left)∧W.cell? ⟨gp,5,none⟩=some (.int .i64 x.picks):=by
 have e:=h.blk;refine⟨?_,?_,?_,?_,?_,?_⟩<;>simp[World.cell?,e]
theorem Pool.free (h:Pool W base g gw gm gp gn vp L x) (j:Nat):W.frozen? ⟨gp,j,none⟩=false:=by
 have e:=h.blk;simp[World.frozen?,e]
theorem Pool.far (h:Pool W base g gw gm gp gn vp L x) {k:Nat} (hb:Below W.heap.size W W') (h1:W.heap.size≤k) (h2:k<W'.heap.size):Far W' g gw gm k:=by
 obtain⟨log,_,hi⟩:=h.is;exact hi.far hb h1 h2
theorem Pool.mem (h:Pool W base g gw gm gp gn vp L x) {log':List Acc} {c' a':Int} {L':Nat} (l:Left W W' base g gw gm ⟨log',0,[c',a'],[]⟩) (hl:log'.length≤L'):Pool W' base g gw gm gp gn vp L' {x with c:=c',a:=a'}:=by
 obtain⟨b1,e1⟩:=l.mf.far h.f1;obtain⟨b2,e2⟩:=l.mf.far h.f2;obtain⟨cs,h1,h2,h3⟩:=h.nxt;refine⟨⟨log',hl,l.is⟩,e1.trans h.blk,R_stay h.prs rfl (fun k hk=>(l.mf.far (h.f3 k hk)).2),⟨cs,e2.trans h1,h2,fun i hi=> ?_⟩,b1,b2,fun k hk=>(l.mf.far (h.f3 k hk)).1,h.b1,h.b2⟩;obtain⟨v,h4,h5⟩:=h3 i hi;exact⟨v,h4,h5.move (fun k t u _ hb=>⟨(l.mf.far hb.far).2.trans hb.blk,(l.mf.far hb.far).1⟩)⟩
theorem Pool.below (h:Pool W base g gw gm gp gn vp L x) (hb:Below W.heap.size W W'):Pool W' base g gw gm gp gn vp L x:=by
 obtain⟨log,hl,hi⟩:=h.is;exact h.mem (hi.left hb) hl
structure Chg (W W':World) (gp gn:Nat) (vp:Value):Prop where
 size:W.heap.size≤W'.heap.size
 block:∀k,k<W.heap.size→k≠gp→k≠gn→some k≠vp.ownBlock→W'.heap[k]?=W.heap[k]?
theorem Pool.stay (h:Pool W base g gw gm gp gn vp L x) (hc:Chg W W' gp gn vp):(∃log,log.length≤L∧Is W' base g gw gm ⟨log,0,[x.c,x.a],[]⟩)∧(∀k,Far W g gw gm k→Far W' g gw gm k)∧(∀k t u,t=TPtr∨t=3→Bx W g gw gm k t u→Bx W' g gw gm k t u):=by
 obtain⟨log,hl,hi⟩:=h.is;obtain⟨i1,i2⟩:=hi.stay (W':=W') (fun k hk hlt=>hc.block k hlt (fun e=>hk (e▸h.f1)) (fun e=>hk (e▸h.f2)) (fun e=>hk (h.f3 k e.symm)));have keep:∀k,Far W g gw gm k→Far W' g gw gm k:=fun k f=>f.keep hc.size i2;refine⟨⟨log,hl,i1⟩,keep,fun k t u ht hb=>⟨(hc.block k hb.far.lt ?_ ?_ ?_).trans hb.blk,keep k hb.far⟩⟩
 ·rcases ht with rfl|rfl
  ·exact ne_type hb.blk h.blk (by decide)
  ·exact ne_type hb.blk h.blk (by decide)
 ·obtain⟨cs,h1,_⟩:=h.nxt;rcases ht with rfl|rfl
  ·exact ne_type hb.blk h1 (by decide)
  ·exact ne_type hb.blk h1 (by decide)
 ·intro e;obtain⟨cs2,h2⟩:=Kd.R_typed h.prs _ e.symm;rcases ht with rfl|rfl
  ·exact ne_type hb.blk h2 (by decide) rfl
  ·exact ne_type hb.blk h2 (by decide) rfl
theorem chg_p (W:World) (gp gn j:Nat) (vp u:Value):Chg W (W.setCell ⟨gp,j,none⟩ u) gp gn vp:=⟨by simp[World.setCell],fun k _ h _ _=>Below.heap_setCell W ⟨gp,j,none⟩ u k h⟩
theorem chg_n (W:World) (gp gn j:Nat) (vp u:Value):Chg W (W.setCell ⟨gn,j,none⟩ u) gp gn vp:=⟨by simp[World.setCell],fun k _ _ h _=>Below.heap_setCell W ⟨gn,j,none⟩ u k h⟩
theorem Pool.setP (h:Pool W base g gw gm gp gn vp L x) (j:Nat) (u:Value) {l' p':Int} (e:(#[.pointer (some ⟨g,0,none⟩),.int .i64 x.n,.slice (some ⟨gn,0,none⟩) x.st.length x.st.length,vp,.int .i64 x.left,.int .i64 x.picks]:Array Value).setIfInBounds j u= #[.pointer (some ⟨g,0,none⟩),.int .i64 x.n,.slice (some ⟨gn,0,none⟩) x.st.length x.st.length,vp,.int .i64 l',.int .i64 p']):
  Pool (W.setCell ⟨gp,j,none⟩ u) base g gw gm gp gn vp L {x with left:=l',picks:=p'}:=by
 obtain⟨i1,i2,i3⟩:=h.stay (chg_p W gp gn j vp u);obtain⟨cs,h1,h2,h3⟩:=h.nxt;refine⟨i1,?_,R_stay h.prs rfl (fun k hk=>Below.heap_setCell W ⟨gp,j,none⟩ u k (fun e=>h.pne.1 (by rw[hk];exact congrArg some e.symm))),⟨cs,(Below.heap_setCell W ⟨gp,j,none⟩ u gn (fun e=>h.gne e.symm)).trans h1,h2,fun i hi=> ?_⟩,i2 _ h.f1,i2 _ h.f2,fun k hk=>i2 _ (h.f3 k hk),h.b1,h.b2⟩
 ·have:=blk_set (i:=j) h.blk u;rw[e]at this;exact this
 ·obtain⟨v,h4,h5⟩:=h3 i hi;exact⟨v,h4,h5.move i3⟩
theorem Pool.setLeft (h:Pool W base g gw gm gp gn vp L x) (l':Int):Pool (W.setCell ⟨gp,4,none⟩ (.int .i64 l')) base g gw gm gp gn vp L {x with left:=l'}:=h.setP 4 _ (by simp)
theorem Pool.setPicks (h:Pool W base g gw gm gp gn vp L x) (p':Int):Pool (W.setCell ⟨gp,5,none⟩ (.int .i64 p')) base g gw gm gp gn vp L {x with picks:=p'}:=h.setP 5 _ (by simp)
theorem Pool.setStep (h:Pool W base g gw gm gp gn vp L x) (k:Nat) (hk:k<x.st.length) {st:Stp} {u:Value} (hs:StepIs W g gw gm gp st u):Pool (W.setCell ⟨gn,k,none⟩ u) base g gw gm gp gn vp L {x with st:=x.st.set k st}:=by
 obtain⟨i1,i2,i3⟩:=h.stay (chg_n W gp gn k vp u);obtain⟨cs,h1,h2,h3⟩:=h.nxt;refine⟨i1,?_,R_stay h.prs rfl (fun k' hk'=>Below.heap_setCell W ⟨gn,k,none⟩ u k' (fun e=>h.pne.2 (by rw[hk'];exact congrArg some e.symm))),⟨cs.setIfInBounds k u,blk_set h1 u,by simp[h2],fun i hi=> ?_⟩,i2 _ h.f1,i2 _ h.f2,fun k hk=>i2 _ (h.f3 k hk),h.b1,h.b2⟩
 ·simp only[List.length_set];exact(Below.heap_setCell W ⟨gn,k,none⟩ u gp h.gne).trans h.blk
 ·simp only[List.length_set]at hi;by_cases e:k=i
  ·subst e;refine⟨u,?_,?_⟩
   ·simp[Array.getElem?_setIfInBounds,h2,hk]
   ·simpa using hs.move i3
  ·obtain⟨v,h4,h5⟩:=h3 i hi;refine⟨v,?_,?_⟩
   ·rw[Array.getElem?_setIfInBounds,if_neg e];exact h4
   ·simp only[List.getElem_set,if_neg e];exact h5.move i3
theorem Pool.push (h:Pool W base g gw gm gp gn vp L x) {v1:Value} {p1:List (Int×Int)} (hl:Kd.R kP TPair W' base (fun _=>True) v1 p1) (hg:W.grownBy W' vp.ownBlock) (hat:v1.ownBlock=vp.ownBlock∨∃b,v1.ownBlock=some b∧W.heap.size≤b):
  Pool (W'.setCell ⟨gp,3,none⟩ v1) base g gw gm gp gn v1 L {x with pairs:=p1}∧Below base W (W'.setCell ⟨gp,3,none⟩ v1)∧∀k t u,t=TPtr∨t=3→Bx W g gw gm k t u→Bx (W'.setCell ⟨gp,3,none⟩ v1) g gw gm k t u:=by
 have hc:Chg W (W'.setCell ⟨gp,3,none⟩ v1) gp gn vp:=⟨by simpa [World.setCell]using hg.size,fun k hk h1 _ h3=>(Below.heap_setCell W' ⟨gp,3,none⟩ v1 k h1).trans (hg.block k hk h3)⟩;obtain⟨i1,i2,i3⟩:=h.stay hc;obtain⟨cs,h1,h2,h3⟩:=h.nxt;have hbp:W'.heap[gp]?=W.heap[gp]?:=hg.block gp h.f1.lt h.pne.1;have hbn:W'.heap[gn]?=W.heap[gn]?:=hg.block gn h.f2.lt h.pne.2;have hne:∀k,v1.ownBlock=some k→k≠gp:=fun k hk e=>by
  subst e;obtain⟨c3,e3⟩:=Kd.R_typed hl k hk;exact ne_type (hbp.trans h.blk) e3 (by decide) rfl
 have hba:=Kd.R_base h.prs;refine⟨⟨i1,?_,R_stay hl rfl (fun k hk=>Below.heap_setCell W' ⟨gp,3,none⟩ v1 k (hne k hk)),⟨cs,(Below.heap_setCell W' ⟨gp,3,none⟩ v1 gn (fun e=>h.gne e.symm)).trans (hbn.trans h1),h2,fun i hi=> ?_⟩,i2 _ h.f1,i2 _ h.f2,fun k hk=> ?_,h.b1,h.b2⟩,⟨hg.os,hg.tape,hg.output,by simpa [World.setCell]using hg.size,fun k hk=> ?_⟩,i3⟩
 ·have:=blk_set (i:=3) (hbp.trans h.blk) v1
  simpa using this
 ·obtain⟨v,h4,h5⟩:=h3 i hi;exact⟨v,h4,h5.move i3⟩
 ·rcases hat with e|⟨b,e,hle⟩
  ·exact i2 _ (h.f3 k (e▸hk))
  ·rw[e]at hk
   injection hk with hk
   subst hk;have hlt:=Kd.R_lt hl b e;obtain⟨log,hl2,hi⟩:=i1;obtain⟨log0,_,hi0⟩:=h.is;obtain⟨vl,cw,cm,hB⟩:=hi0;have q1:=hB.lt;have q2:=hB.wlt.2;have q3:=hB.mlt.2;refine⟨by simpa [World.setCell]using hlt,by omega,by omega,by omega,vl,?_,fun e2=> ?_⟩
   ·rw[←hB.cell.1];have eg:(W'.setCell ⟨gp,3,none⟩ v1).heap[g]?=W.heap[g]?:=(Below.heap_setCell W' ⟨gp,3,none⟩ v1 g (fun e=>h.f1.hg e.symm)).trans (hg.block g q1 (fun e=>(h.f3 g e.symm).hg rfl));simp only[World.cell?,eg]
   ·have:=Kd.R_lt hB.lo b e2;omega
 ·have:=h.b1;have:=h.f1.lt;exact(Below.heap_setCell W' ⟨gp,3,none⟩ v1 k (by show k≠gp;omega)).trans (hg.block k (by omega) (fun e=>by have:=hba k e.symm;omega))
end
end
end Go.Proofs.YtfnimdhghglanaaGreat.Hand
end
