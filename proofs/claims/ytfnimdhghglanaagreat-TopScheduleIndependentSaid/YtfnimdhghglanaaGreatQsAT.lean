/- TopScheduleIndependent, part 20 of 27; no condition.  -/
import Derived.Test.YtfnimdhghglanaaGreatQsAD
import Derived.Deep.RegionWith
import Derived.Deep.RegionLaw
import Derived.BigRegion
import Derived.Lib.SliceRun
set_option maxRecDepth 100000
set_option maxHeartbeats 8000000
set_option linter.unusedVariables false
set_option linter.unusedSimpArgs false
section
namespace Go.Proofs.YtfnimdhghglanaaGreat.Hand
open Go.RowKit Go.Proofs.YtfnimdhghglanaaGreatW PrintWords PrintLast PrintMore
attribute [local go_sem] max2_int min2_int max_two min_two max_three min_three max_four min_four
section
section
variable {W:World} {base g gw gm:Nat} {log:List Acc} {c a:Int}
theorem below_ofDrew {W W':World} {b:Nat} (h:Below b W.drew W'):Below b W W':=⟨h.os,h.tape,h.output,h.size,h.block⟩
theorem wrap_in {z:Int} (h0:0≤z) (h1:z≤1000000000):wrap64 z=z:=by unfold wrap64;omega
theorem fit_of (hl:log.length≤1000000):(⟨log,0,[c,a],[]⟩:St).fit:=⟨by simp,by simp,hl,by simp,by simp⟩
theorem padd0 (h:Is W base g gw gm ⟨log,0,[c,a],[]⟩) (hl:log.length≤1000000) (h0:0≤c) (h1:c≤1000000) (th:Int):
  Calls Tryz.prog 91 #[.pointer (some ⟨g,0,none⟩),.int .i64 th,.int .i64 0,.int .i64 1] W fun e w'=>e= .returned (.int .i64 (c+1))∧∃log',log'.length=log.length+1∧Left W w' base g gw gm ⟨log',0,[c+1,a],[]⟩:=by
 have h2:=add_calls h (fit_of hl) th 0 1;have e:(⟨log,0,[c,a],[]⟩:St).add th 0 1=(⟨log++[⟨th,2,0,c,c+1,true⟩],0,[c+1,a],[]⟩,c+1):=by
  unfold St.add;rw[if_pos (by unfold inL;simp)];have e1:rd [c,a] 0=c:=rfl;simp only[St.upd,e1,wrap_in (show 0≤c+1 by omega) (by omega)];rfl
 rw[e]at h2;exact h2.mono fun e w' ⟨he,hl⟩=>⟨he,_,by simp,hl⟩
theorem padd1 (h:Is W base g gw gm ⟨log,0,[c,a],[]⟩) (hl:log.length≤1000000) (h0:0≤a) (h1:a≤1000000) (th:Int):
  Calls Tryz.prog 91 #[.pointer (some ⟨g,0,none⟩),.int .i64 th,.int .i64 1,.int .i64 1] W fun e w'=>e= .returned (.int .i64 (a+1))∧∃log',log'.length=log.length+1∧Left W w' base g gw gm ⟨log',0,[c,a+1],[]⟩:=by
 have h2:=add_calls h (fit_of hl) th 1 1;have e:(⟨log,0,[c,a],[]⟩:St).add th 1 1=(⟨log++[⟨th,2,1,a,a+1,true⟩],0,[c,a+1],[]⟩,a+1):=by
  unfold St.add;rw[if_pos (by unfold inL;simp)];have e1:rd [c,a] 1=a:=rfl;simp only[St.upd,e1,wrap_in (show 0≤a+1 by omega) (by omega)];rfl
 rw[e]at h2;exact h2.mono fun e w' ⟨he,hl⟩=>⟨he,_,by simp,hl⟩
theorem pload1 (h:Is W base g gw gm ⟨log,0,[c,a],[]⟩) (hl:log.length≤1000000) (th:Int):
  Calls Tryz.prog 130 #[.pointer (some ⟨g,0,none⟩),.int .i64 th,.int .i64 1] W fun e w'=>e= .returned (.int .i64 a)∧∃log',log'.length=log.length+1∧Left W w' base g gw gm ⟨log',0,[c,a],[]⟩:=by
 have h2:=load_calls h (fit_of hl) th 1;have e:(⟨log,0,[c,a],[]⟩:St).load th 1=(⟨log++[⟨th,1,1,a,a,true⟩],0,[c,a],[]⟩,a):=by
  unfold St.load;rw[if_pos (by unfold inL;simp)];rfl
 rw[e]at h2;exact h2.mono fun e w' ⟨he,hl⟩=>⟨he,_,by simp,hl⟩
end
section
variable {W W':World} {base g gw gm gp gn L:Nat} {vp:Value} {x:Ph}
theorem pool_add0 (h:Pool W base g gw gm gp gn vp L x) (hL:L≤100000) (h0:0≤x.c) (h1:x.c≤1000000) (th:Int):
  Calls Tryz.prog 91 #[.pointer (some ⟨g,0,none⟩),.int .i64 th,.int .i64 0,.int .i64 1] W fun e w'=>e= .returned (.int .i64 (x.c+1))∧Pool w' base g gw gm gp gn vp (L+1) {x with c:=x.c+1}∧Below base W w':=by
 obtain⟨log,hl,hi⟩:=h.is;refine(padd0 hi (by omega) h0 h1 th).mono ?_;rintro e w' ⟨he,log',hl',l⟩;exact⟨he,h.mem l (by omega),l.bl⟩
theorem pool_add1 (h:Pool W base g gw gm gp gn vp L x) (hL:L≤100000) (h0:0≤x.a) (h1:x.a≤1000000) (th:Int):
  Calls Tryz.prog 91 #[.pointer (some ⟨g,0,none⟩),.int .i64 th,.int .i64 1,.int .i64 1] W fun e w'=>e= .returned (.int .i64 (x.a+1))∧Pool w' base g gw gm gp gn vp (L+1) {x with a:=x.a+1}∧Below base W w':=by
 obtain⟨log,hl,hi⟩:=h.is;refine(padd1 hi (by omega) h0 h1 th).mono ?_;rintro e w' ⟨he,log',hl',l⟩;exact⟨he,h.mem l (by omega),l.bl⟩
theorem pool_load (h:Pool W base g gw gm gp gn vp L x) (hL:L≤100000) (th:Int) {z:Int} (hz:x.a=z):
  Calls Tryz.prog 130 #[.pointer (some ⟨g,0,none⟩),.int .i64 th,.int .i64 1] W fun e w'=>e= .returned (.int .i64 z)∧Pool w' base g gw gm gp gn vp (L+1) x∧Below base W w':=by
 obtain⟨log,hl,hi⟩:=h.is;subst hz;refine(pload1 hi (by omega) th).mono ?_;rintro e w' ⟨he,log',hl',l⟩;exact⟨he,h.mem l (by omega),l.bl⟩
theorem Bx.grown (h:Pool W base g gw gm gp gn vp L x) {k t:Nat} {u:Value} (hb:Bx W g gw gm k t u) (ht:t=TPtr∨t=3) (hg:W.grownBy W' vp.ownBlock):W'.cell? ⟨k,0,none⟩=some u:=by
 have e:W'.heap[k]?=W.heap[k]?:=hg.block k hb.far.lt (fun e=>by
  obtain⟨cs2,h2⟩:=Kd.R_typed h.prs _ e.symm;rcases ht with rfl|rfl
  ·exact ne_type hb.blk h2 (by decide) rfl
  ·exact ne_type hb.blk h2 (by decide) rfl)
 simp[World.cell?,e,hb.blk]
theorem work_calls (gp:Nat) (t:Int) (W:World):
  Calls Tryz.prog 92 #[.pointer (some ⟨gp,0,none⟩),.int .i64 t] W fun e w'=>e= .returned (.func (.func 114) #[] #[.pointer (some ⟨W.heap.size,0,none⟩),.pointer (some ⟨W.heap.size+1,0,none⟩)])∧
   w'=(W.alloc (.cells #[.pointer (some ⟨gp,0,none⟩)] TPtr)).alloc (.cells #[.int .i64 t] 3):=by
 go_enter Tryz.func92,Tryz.ntmps92
 go_wp2
 go_ret;exact⟨by simp,rfl⟩
theorem work_is (h:Pool W base g gw gm gp gn vp L x) (t:Int):
  Pool ((W.alloc (.cells #[.pointer (some ⟨gp,0,none⟩)] TPtr)).alloc (.cells #[.int .i64 t] 3)) base g gw gm gp gn vp L x∧StepIs ((W.alloc (.cells #[.pointer (some ⟨gp,0,none⟩)] TPtr)).alloc (.cells #[.int .i64 t] 3)) g gw gm gp (.work t) (.func (.func 114) #[] #[.pointer (some ⟨W.heap.size,0,none⟩),.pointer (some ⟨W.heap.size+1,0,none⟩)]):=by
 have hb:Below W.heap.size W ((W.alloc (.cells #[.pointer (some ⟨gp,0,none⟩)] TPtr)).alloc (.cells #[.int .i64 t] 3)):=below_alloc (below_alloc (Below.refl _ _) _) _;refine⟨h.below hb,_,_,rfl,⟨?_,h.far hb (Nat.le_refl _) (by simp;omega)⟩,⟨?_,h.far hb (by omega) (by simp)⟩⟩
 ·show((W.heap.push _).push _)[_]?=_;rw[Array.getElem?_push,if_neg (by simp)];exact push_get rfl
 ·show((W.heap.push _).push _)[_]?=_;exact push_get (by simp)
theorem claim_yes (h:Pool W base g gw gm gp gn vp L x) (hL:L≤100000) (h0:0≤x.c) (h1:x.c≤1000000) (th:Int) (hn:x.c+1≤x.n):
  Calls Tryz.prog 60 #[.pointer (some ⟨gp,0,none⟩),.int .i64 th] W fun e w'=>∃v,e= .returned v∧Pool w' base g gw gm gp gn vp (L+1) {x with c:=x.c+1}∧StepIs w' g gw gm gp (.work x.c) v∧Below base W w':=by
 have HP:=Aside0.mk h;obtain⟨c0,_,_,_,_,_⟩:=h.cells;have d1:decide (x.c+1≤x.n)=true:=decide_eq_true hn;clear h;obtain⟨n,c,a,st,pairs,left,picks⟩:=x;simp only at c0 d1 h0 h1 hn ⊢;clear hn;go_enter Tryz.func60,Tryz.ntmps60
 go_wp2_with (first|(go_at_call 91;(with_reducible refine(pool_add0 HP.out hL h0 h1 th).mono ?_);rintro e w1 ⟨rfl,hp,hb⟩;obtain⟨_,c1,_,_,_,_⟩:=hp.cells;simp only at c1;have HP1:=Aside0.mk hp;have HB1:=Aside0.mk hb;clear hp hb)|(go_at_call 92;(with_reducible refine(work_calls gp _ _).mono ?_);rintro e w2 ⟨rfl,rfl⟩))
 go_ret;obtain⟨k1,k2⟩:=work_is HP1.out c;exact⟨_,rfl,k1,k2,HB1.out.trans ((below_alloc (below_alloc (Below.refl _ _) _) _).mono HP1.out.bs)⟩
theorem claim_no (h:Pool W base g gw gm gp gn vp L x) (hL:L≤100000) (h0:0≤x.c) (h1:x.c≤1000000) (th:Int) (hn:¬x.c+1≤x.n):
  Calls Tryz.prog 60 #[.pointer (some ⟨gp,0,none⟩),.int .i64 th] W fun e w'=>∃v,e= .returned v∧Pool w' base g gw gm gp gn vp (L+1) {x with c:=x.c+1}∧StepIs w' g gw gm gp .arrive v∧Below base W w':=by
 have HP:=Aside0.mk h;obtain⟨c0,_,_,_,_,_⟩:=h.cells;have d1:decide (x.c+1≤x.n)=false:=decide_eq_false hn;clear h;obtain⟨n,c,a,st,pairs,left,picks⟩:=x;simp only at c0 d1 h0 h1 hn ⊢;clear hn;go_enter Tryz.func60,Tryz.ntmps60
 go_wp2_with (first|(go_at_call 91;(with_reducible refine(pool_add0 HP.out hL h0 h1 th).mono ?_);rintro e w1 ⟨rfl,hp,hb⟩;obtain⟨_,c1,_,_,_,_⟩:=hp.cells;simp only at c1;have HP1:=Aside0.mk hp;have HB1:=Aside0.mk hb;clear hp hb))
 go_ret;exact⟨_,rfl,HP1.out,rfl,HB1.out⟩
theorem arrive_calls (h:Pool W base g gw gm gp gn vp L x) (hL:L≤100000) (h0:0≤x.a) (h1:x.a≤1000000) (th:Int):
  Calls Tryz.prog 93 #[.pointer (some ⟨gp,0,none⟩),.int .i64 th] W fun e w'=>∃v,e= .returned v∧Pool w' base g gw gm gp gn vp (L+1) {x with a:=x.a+1}∧StepIs w' g gw gm gp .wait v∧Below base W w':=by
 have HP:=Aside0.mk h;obtain⟨c0,_,_,_,_,_⟩:=h.cells;clear h;obtain⟨n,c,a,st,pairs,left,picks⟩:=x;simp only at c0 h0 h1 ⊢;go_enter Tryz.func93,Tryz.ntmps93
 go_wp2_with (first|(go_at_call 91;(with_reducible refine(pool_add1 HP.out hL h0 h1 th).mono ?_);rintro e w1 ⟨rfl,hp,hb⟩;have HP1:=Aside0.mk hp;have HB1:=Aside0.mk hb;clear hp hb))
 go_ret;exact⟨_,rfl,HP1.out,rfl,HB1.out⟩
theorem wait_no (h:Pool W base g gw gm gp gn vp L x) (hL:L≤100000) (th:Int) (hs:x.st.length≤1000000) (ha:x.a≠x.st.length):
  Calls Tryz.prog 115 #[.pointer (some ⟨gp,0,none⟩),.int .i64 th] W fun e w'=>∃v,e= .returned v∧Pool w' base g gw gm gp gn vp (L+1) x∧StepIs w' g gw gm gp .wait v∧Below base W w':=by
 have HP:=Aside0.mk (h.below (below_drew1 (Below.refl _ _)));have hbs:=Aside0.mk h.bs;obtain⟨c0,_,c2,_,_,_⟩:=h.cells;obtain⟨m,hm⟩:∃m,x.st.length=m:=⟨_,rfl⟩;obtain⟨z,hz⟩:∃z,x.a=z:=⟨_,rfl⟩;rw[hm]at ha c2 hs;rw[hz]at ha;have HZ:=Aside0.mk hz;have HMM:=Aside0.mk hm;have d1:(z==(m:Int))=false:=beq_eq_false_iff_ne.2 ha;have d2:(z != (m:Int))=true:=bne_iff_ne.2 ha;clear h ha hm hz;go_enter Tryz.func115,Tryz.ntmps115
 go_wp2_with (fail)
 go_region_with (first|(go_at_call 130;(with_reducible refine(pool_load HP.out hL th HZ.out).mono ?_);rintro e w1 ⟨rfl,hp,hb⟩;obtain⟨_,_,e2,_,e4,_⟩:=hp.cells;rw[HMM.out]at e2;have f4:=hp.free 4;have HP1:=Aside0.mk hp;have HB1:=Aside0.mk (below_ofDrew hb);clear hp hb))
 all_goals go_wp2_with (fail)
 all_goals go_ret
 all_goals exact⟨_,rfl,HP1.out,rfl,HB1.out⟩
theorem wait_yes (h:Pool W base g gw gm gp gn vp L x) (hL:L≤100000) (th:Int) (hs:x.st.length≤1000000) (ha:x.a=x.st.length) (hl0:0≤x.left) (hl1:x.left≤1000000):
  Calls Tryz.prog 115 #[.pointer (some ⟨gp,0,none⟩),.int .i64 th] W fun e w'=>∃v,e= .returned v∧Pool w' base g gw gm gp gn vp (L+1) {x with left:=x.left-1}∧StepIs w' g gw gm gp .done v∧Below base W w':=by
 have HP:=Aside0.mk (h.below (below_drew1 (Below.refl _ _)));have hbs:=Aside0.mk h.b1;obtain⟨c0,_,c2,_,_,_⟩:=h.cells;obtain⟨m,hm⟩:∃m,x.st.length=m:=⟨_,rfl⟩;obtain⟨lf,hlf⟩:∃m,x.left=m:=⟨_,rfl⟩;rw[hm]at ha c2 hs;rw[hlf]at hl0 hl1 ⊢;have HZ:=Aside0.mk ha;have HMM:=Aside0.mk hm;have HLF:=Aside0.mk hlf;have d1:((m:Int)==(m:Int))=true:=beq_self_eq_true _;have d2:((m:Int) != (m:Int))=false:=by simp
 clear h ha hm hlf;go_enter Tryz.func115,Tryz.ntmps115
 go_wp2_with (fail)
 go_region_with (first|(go_at_call 130;(with_reducible refine(pool_load HP.out hL th HZ.out).mono ?_);rintro e w1 ⟨rfl,hp,hb⟩;obtain⟨_,_,e2,_,e4,_⟩:=hp.cells;rw[HMM.out]at e2;rw[HLF.out]at e4;have f4:=hp.free 4;have HP1:=Aside0.mk hp;have HB1:=Aside0.mk (below_ofDrew hb);clear hp hb))
 all_goals go_wp2_with (fail)
 all_goals go_ret
 all_goals exact⟨_,rfl,HP1.out.setLeft _,rfl,HB1.out.trans (below_set_ hbs.out _)⟩
theorem work1_calls (h:Pool W base g gw gm gp gn vp L x) (th t:Int) (b1 b2:Nat) (hx1:Bx W g gw gm b1 TPtr (.pointer (some ⟨gp,0,none⟩))) (hx2:Bx W g gw gm b2 3 (.int .i64 t)) (hp:x.pairs.length≤1000000):
  Calls Tryz.prog 114 #[.int .i64 th,.pointer (some ⟨b1,0,none⟩),.pointer (some ⟨b2,0,none⟩)] W fun e w'=>∃v vp',e= .returned v∧Pool w' base g gw gm gp gn vp' L {x with pairs:=x.pairs++[(t,th)]}∧StepIs w' g gw gm gp .claim v∧Below base W w':=by
 have HBD:=Aside0.mk (h.below (below_drew1 (Below.refl _ _)));have hbs:=Aside0.mk h.bs;have p3:=h.cells.2.2.2.1;have p1:W.cell? ⟨b1,0,none⟩=some (.pointer (some ⟨gp,0,none⟩)):=by simp[World.cell?,hx1.blk]
 have p2:W.cell? ⟨b2,0,none⟩=some (.int .i64 t):=by simp[World.cell?,hx2.blk]
 have ca1:∀o,(W.drew.alloc o).cell? ⟨b1,0,none⟩=some (.pointer (some ⟨gp,0,none⟩)):=fun o=>((below_alloc (Below.refl W.heap.size _) o).cell (p:=⟨b1,0,none⟩) hx1.far.lt).trans p1;have ca2:∀o,(W.drew.alloc o).cell? ⟨b2,0,none⟩=some (.int .i64 t):=fun o=>((below_alloc (Below.refl W.heap.size _) o).cell (p:=⟨b2,0,none⟩) hx2.far.lt).trans p2;have ca3:∀o,(W.drew.alloc o).cell? ⟨gp,3,none⟩=some vp:=fun o=>((below_alloc (Below.refl W.heap.size _) o).cell (p:=⟨gp,3,none⟩) h.lt).trans p3;have HX1:=Aside0.mk (Bx.mk (W:=W.drew) hx1.blk (hx1.far.keep (Nat.le_refl _) rfl))
 have HX2:=Aside0.mk (Bx.mk (W:=W.drew) hx2.blk (hx2.far.keep (Nat.le_refl _) rfl));have HLL:=Aside0.mk hp;clear h hx1 hx2 hp;obtain⟨n,c,a,st,pairs,left,picks⟩:=x;simp only at HBD HLL ⊢;go_enter Tryz.func114,Tryz.ntmps114
 go_wp2_with (fail)
 refine sz_ 13 (S:=fun w'=>w'.cell? ⟨b1,0,none⟩=some (.pointer (some ⟨gp,0,none⟩))∧w'.cell? ⟨gp,3,none⟩=some vp∧w'.cell? ⟨b2,0,none⟩=some (.int .i64 t)) (ds:=[12]) ⟨p1,p3,p2⟩ (fun hHeld=> ?_);refine pz_ 6 11 13 64 ?_;refine tz_ 0 5 13 65 hHeld ?_;refine tz_ 1 6 13 67 hHeld ?_;refine pz_ 2 7 13 71 ?_;refine pz_ 3 8 13 79 ?_;refine tz_ 4 9 13 95 hHeld ?_;refine tz_ 5 10 13 127 hHeld ?_;refine pz_ 7 12 13 255 ?_;refine one_ (i:=8) (N:=some 13) (bv 13 511) rfl rfl (by kernel_rfl) (by decide) (fun K hK=> ?_);refine value_ (w1:= ?_) (v:= ?_) (by rfl) rfl ?_ ?_;rotate_left 2
 ·go_simp;constructor
  ·rfl
  ·rfl
 refine hK.out _ _ ⟨ca1 _,ca3 _,ca2 _⟩ (fun hHeld=> ?_);clear hK K;refine norm_ (a':= ?_) ?_ ?_;rotate_left
 ·show Act.put _ (some 13) _=_;simp only[Act.put,List.setIfInBounds_toArray,List.set_cons_zero,List.set_cons_succ,i64_w,i32_w];rfl
 refine one_ (i:=9) (N:=some 14) (bv 13 1023) rfl rfl (by kernel_rfl) (by decide) (fun K hK=> ?_);refine Kd.R_append_step kP (w0:=W) base (by rfl) (.tmp 9) (.tmp 13) 42 TPair (.agg #[.int .i64 0,.int .i64 0]) 16 rfl Tryz.underlying42 infoPair rfl (by decide) (by omega) vp pairs (t,th) [.int .i64 t,.int .i64 th] (fun _=>True) (fun _=>False) rfl rfl (kP_mkM _ _ _ _) (fun _ hk=>hk.elim) (fun _ _=>trivial) HBD.out.prs (below_drew1 (Below.refl _ _)) hbs.out (by have:=HLL.out;omega) ?_;intro v1 w1 hv1 hb1 hg1 hat1;obtain⟨A1,k1,rfl⟩:=Kd.R_slice hv1;obtain⟨z1,z2,z3⟩:=HBD.out.push hv1 hg1 hat1
 have hc1:w1.cell? ⟨gp,3,none⟩=some vp:=by simp only[World.cell?,hg1.block gp HBD.out.lt HBD.out.pne.1];exact HBD.out.cells.2.2.2.1
 have hf1:w1.frozen? ⟨gp,3,none⟩=false:=by simp only[World.frozen?,hg1.block gp HBD.out.lt HBD.out.pne.1];exact HBD.out.free 3
 rw[List.length_append,List.length_cons,List.length_nil]at z1 z2 z3 ⊢;have HZ1:=Aside0.mk z1;have HZ2:=Aside0.mk (below_ofDrew z2);have HZ3:=Aside0.mk z3;have hcb1:=HX1.out.grown HBD.out (.inl rfl) hg1;have hcb2:=HX2.out.grown HBD.out (.inr rfl) hg1;clear hv1 hb1 hg1 hat1 z1 z2 z3;refine hK.out _ _ ⟨hcb1,hc1,hcb2⟩ (fun hHeld=> ?_);clear hK K;refine norm_ (a':= ?_) ?_ ?_;rotate_left
 ·show Act.put _ (some 14) _=_;simp only[Act.put,List.setIfInBounds_toArray,List.set_cons_zero,List.set_cons_succ,i64_w,i32_w];rfl
 refine pz_ 10 15 13 2047 ?_;refine pz_ 11 16 13 4095 ?_;refine last_ (i:=12) (N:=none) (bv 13 8191) rfl rfl (by kernel_rfl) (by decide) (fun K hK=> ?_);refine skip_ (w1:= ?_) (by rfl) rfl ?_ ?_;rotate_left
 ·go_simp;rfl
 refine hK.out _ _ ?_;clear hK K;refine done_ (by kernel_rfl) ?_;have bx:=HZ3.out b1 _ _ (.inl rfl) HX1.out;obtain⟨w9,hw9⟩:∃w9,w1.setCell ⟨gp,3,none⟩ (.slice A1 (pairs.length+1) k1)=w9:=⟨_,rfl⟩;rw[hw9]at HZ1 HZ2 bx ⊢;clear hw9 hc1 hf1 hcb1 hcb2 HZ3 HX1 HX2 ca1 ca2 ca3 p1 p2 p3;have r1:w9.cell? ⟨b1,0,none⟩=some (.pointer (some ⟨gp,0,none⟩)):=by simp[World.cell?,bx.blk]
 clear bx
 go_wp2_with (fail)
 go_ret;exact⟨_,rfl,⟨_,HZ1.out⟩,rfl,HZ2.out⟩
end
end
end Go.Proofs.YtfnimdhghglanaaGreat.Hand
end
section
namespace Go.Proofs.YtfnimdhghglanaaGreat.Hand
def Ph.pick (x:Ph) (k:Nat):Ph:=
 match x.st.getD k .done with
 | .claim=>if x.c+1≤x.n then{x with c:=x.c+1,st:=x.st.set k (.work x.c),picks:=x.picks+1}else{x with c:=x.c+1,st:=x.st.set k .arrive,picks:=x.picks+1}
 | .work t=>{x with pairs:=x.pairs++[(t,(k:Int))],st:=x.st.set k .claim,picks:=x.picks+1}
 | .arrive=>{x with a:=x.a+1,st:=x.st.set k .wait,picks:=x.picks+1}
 | .wait=>if x.a=x.st.length then{x with left:=x.left-1,st:=x.st.set k .done,picks:=x.picks+1}else{x with picks:=x.picks+1}
 | .done=>{x with picks:=x.picks+1}
def ph0 (n:Int) (w:Nat):Ph:=⟨n,0,0,List.replicate w .claim,[],w,0⟩
def Ph.run (x:Ph) (l:List Int):Ph:=l.foldl (fun x p=>x.pick p.toNat) x
def Stp.isWork:Stp→Bool| .work _=>true|_=>false
def Stp.isDone:Stp→Bool| .done=>true|_=>false
def Stp.past:Stp→Bool| .wait=>true| .done=>true|_=>false
def Stp.late:Stp→Bool| .arrive=>true| .wait=>true| .done=>true|_=>false
structure Ph.Inv (x:Ph) (w:Nat):Prop where
 len:x.st.length=w
 n0:0≤x.n
 c0:0≤x.c
 p0:0≤x.picks
 cp:x.c≤x.picks
 a:x.a=x.st.countP Stp.past
 left:x.left+x.st.countP Stp.isDone=w
 held:(x.pairs.length:Int)+x.st.countP Stp.isWork=min x.c x.n
 two:2*(x.pairs.length:Int)+x.st.countP Stp.isWork≤x.picks
 late:0<x.st.countP Stp.late→x.n<x.c
 full:0<x.st.countP Stp.isDone→x.a=w
theorem countP_set {α:Type} (f:α→Bool) (l:List α) (k:Nat) (h:k<l.length) (u:α):(l.set k u).countP f+(f l[k]).toNat=l.countP f+(f u).toNat:=by
 induction l generalizing k with
 |nil=>simp at h
 |cons y ys ih=>
  cases k with
  |zero=>
   simp only[List.set_cons_zero,List.countP_cons,List.getElem_cons_zero];cases f y<;>cases f u<;>simp<;>omega
  |succ k=>
   have:=ih k (by simpa using h);simp only[List.set_cons_succ,List.countP_cons,List.getElem_cons_succ];omega
theorem inv0 (n:Int) (w:Nat) (h:0≤n):(ph0 n w).Inv w:=by
 have e:∀f:Stp→Bool,f .claim=false→(List.replicate w Stp.claim).countP f=0:=fun f hf=>by
  rw[List.countP_eq_zero];intro a ha;rw[List.eq_of_mem_replicate ha,hf];simp
 have e1:=e Stp.past rfl;have e2:=e Stp.isDone rfl;have e3:=e Stp.isWork rfl;have e4:=e Stp.late rfl;refine⟨by simp[ph0],h,by simp[ph0],by simp[ph0],by simp[ph0],?_,?_,?_,?_,?_,?_⟩<;>simp only[ph0,List.length_nil]<;>omega
theorem getD_of {x:Ph} {k:Nat} (h:k<x.st.length):x.st.getD k .done=x.st[k]:=by simp[List.getD_eq_getElem?_getD,List.getElem?_eq_getElem h]
theorem pick_inv {x:Ph} {w:Nat} (h:x.Inv w) (k:Nat) (hk:k<w):(x.pick k).Inv w:=by
 obtain⟨h1,h2,h3,h4,h5,h6,h7,h8,h9,h10,h11⟩:=h;have hk':k<x.st.length:=by omega
 have q:=fun f u=>countP_set f x.st k hk' u;unfold Ph.pick;rw[getD_of hk'];cases e:x.st[k]with
 |claim=>
  simp only
  split
  ·have q1:=q Stp.past (.work x.c);have q2:=q Stp.isDone (.work x.c);have q3:=q Stp.isWork (.work x.c);have q4:=q Stp.late (.work x.c);rw[e]at q1 q2 q3 q4;simp only[Stp.past,Stp.isDone,Stp.isWork,Stp.late,Bool.toNat_true,Bool.toNat_false]at q1 q2 q3 q4;refine⟨by simpa using h1,h2,by simp only;omega,by simp only;omega,by simp only;omega,by simp only;omega,by simp only;omega,by simp only;omega,by simp only;omega,by simp only;omega,by simp only;omega⟩
  ·have q1:=q Stp.past .arrive;have q2:=q Stp.isDone .arrive;have q3:=q Stp.isWork .arrive;have q4:=q Stp.late .arrive;rw[e]at q1 q2 q3 q4;simp only[Stp.past,Stp.isDone,Stp.isWork,Stp.late,Bool.toNat_true,Bool.toNat_false]at q1 q2 q3 q4;refine⟨by simpa using h1,h2,by simp only;omega,by simp only;omega,by simp only;omega,by simp only;omega,by simp only;omega,by simp only;omega,by simp only;omega,by simp only;omega,by simp only;omega⟩
 |work t=>
  simp only;have q1:=q Stp.past .claim;have q2:=q Stp.isDone .claim;have q3:=q Stp.isWork .claim;have q4:=q Stp.late .claim;rw[e]at q1 q2 q3 q4;simp only[Stp.past,Stp.isDone,Stp.isWork,Stp.late,Bool.toNat_true,Bool.toNat_false]at q1 q2 q3 q4;refine⟨by simpa using h1,h2,h3,by simp only;omega,by simp only;omega,by simp only;omega,by simp only;omega,by simp only[List.length_append,List.length_cons,List.length_nil];omega,by simp only[List.length_append,List.length_cons,List.length_nil];omega,by simp only;omega,by simp only;omega⟩
 |arrive=>
  simp only;have q1:=q Stp.past .wait;have q2:=q Stp.isDone .wait;have q3:=q Stp.isWork .wait;have q4:=q Stp.late .wait;rw[e]at q1 q2 q3 q4;simp only[Stp.past,Stp.isDone,Stp.isWork,Stp.late,Bool.toNat_true,Bool.toNat_false]at q1 q2 q3 q4;have hle:=List.countP_le_length (p:=Stp.past) (l:=x.st.set k .wait);rw[List.length_set]at hle;refine⟨by simpa using h1,h2,h3,by simp only;omega,by simp only;omega,by simp only;omega,by simp only;omega,by simp only;omega,by simp only;omega,by simp only;omega,fun hd=> ?_⟩;simp only at hd ⊢;have:=h11 (by omega);omega
 |wait=>
  simp only
  split
  ·rename_i ha;have q1:=q Stp.past .done;have q2:=q Stp.isDone .done;have q3:=q Stp.isWork .done;have q4:=q Stp.late .done;rw[e]at q1 q2 q3 q4;simp only[Stp.past,Stp.isDone,Stp.isWork,Stp.late,Bool.toNat_true,Bool.toNat_false]at q1 q2 q3 q4;refine⟨by simpa using h1,h2,h3,by simp only;omega,by simp only;omega,by simp only;omega,by simp only;omega,by simp only;omega,by simp only;omega,by simp only;omega,fun _=>by simp only;omega⟩
  ·exact⟨h1,h2,h3,by simp only;omega,by simp only;omega,h6,h7,h8,by simp only;omega,h10,h11⟩
 |done=>
  exact⟨h1,h2,h3,by simp only;omega,by simp only;omega,h6,h7,h8,by simp only;omega,h10,h11⟩
theorem pick_st {x:Ph} (k:Nat):(x.pick k).st.length=x.st.length∧(x.pick k).picks=x.picks+1∧(x.pick k).n=x.n:=by
 unfold Ph.pick
 (repeat' split)<;>simp
end Go.Proofs.YtfnimdhghglanaaGreat.Hand
end
section
namespace Go.Proofs.YtfnimdhghglanaaGreat.Hand
open Go.RowKit Go.Proofs.YtfnimdhghglanaaGreatW PrintWords PrintLast PrintMore
attribute [local go_sem] max2_int min2_int max_two min_two max_three min_three max_four min_four
section
theorem eqIn_func (d:Nat) (f:Fn) (first cap:Array Value) (w:World):(Op.equalIn (d+1) TStep (.func f first cap) .nilFunc).run Tryz.prog w= .ok false w:=by
 simp[Op.equalIn,run_underlying Tryz.underlying112]
theorem eqIn_nil (d:Nat) (w:World):(Op.equalIn (d+1) TStep .nilFunc .nilFunc).run Tryz.prog w= .ok true w:=by
 simp[Op.equalIn,run_underlying Tryz.underlying112]
theorem neq_func (f:Fn) (first cap:Array Value) (w:World):(binOp .neq 112 (.func f first cap) .nilFunc).run Tryz.prog w= .ok (.bool true) w:=by
 simp only[binOp];simp[Op.equal,Op.maxDepth,eqIn_func 9999]
theorem neq_nil (w:World):(binOp .neq 112 .nilFunc .nilFunc).run Tryz.prog w= .ok (.bool false) w:=by
 simp only[binOp];simp[Op.equal,Op.maxDepth,eqIn_nil 9999]
attribute [local go_sem high] neq_func neq_nil
theorem st_func {P:Program} {a:Addr} {f:Fn} {x y:Array Value} {m:Mode} {w:World}:(store a (.func f x y) m).run P w=stored P w a (.func f x y) m:=run_store P w a _ m rfl
theorem st_nilF {P:Program} {a:Addr} {m:Mode} {w:World}:(store a .nilFunc m).run P w=stored P w a .nilFunc m:=run_store P w a _ m rfl
attribute [local go_sem] st_func st_nilF
section
variable {W W':World} {base g gw gm gp gn L:Nat} {vp:Value} {x:Ph}
theorem Pool.step (h:Pool W base g gw gm gp gn vp L x) (k:Nat) (hk:k<x.st.length) {s:Stp} (e:x.st[k]=s):∃v,W.cell? ⟨gn,k,none⟩=some v∧W.frozen? ⟨gn,k,none⟩=false∧StepIs W g gw gm gp s v:=by
 obtain⟨cs,h1,h2,h3⟩:=h.nxt;obtain⟨v,h4,h5⟩:=h3 k hk;rw[e]at h5;exact⟨v,by simp[World.cell?,h1,h4],by simp[World.frozen?,h1],h5⟩
structure Picked (W w':World) (base g gw gm gp gn L:Nat) (x:Ph):Prop where
 is:∃vp,Pool w' base g gw gm gp gn vp L x
 bl:Below base W w'
theorem Pool.up (h:Pool W base g gw gm gp gn vp L x):Pool W base g gw gm gp gn vp (L+1) x:=by
 obtain⟨⟨log,hl,hi⟩,h2,h3,h4,h5,h6,h7,h8,h9⟩:=h;exact⟨⟨log,by omega,hi⟩,h2,h3,h4,h5,h6,h7,h8,h9⟩
theorem pick_claim_yes (h:Pool W base g gw gm gp gn vp L x) (hL:L≤90000) (k:Nat) (hk:k<x.st.length) (e:x.st[k]= .claim) (hs:x.st.length≤64) (hp0:0≤x.picks) (hp1:x.picks≤100000) (hc0:0≤x.c) (hc1:x.c≤100000) (hcn:x.c+1≤x.n):
  Calls Tryz.prog 36 #[.pointer (some ⟨gp,0,none⟩),.int .i64 k] W fun e w'=>e= .returned (.tuple #[])∧Picked W w' base g gw gm gp gn (L+1) {x with c:=x.c+1,st:=x.st.set k (.work x.c),picks:=x.picks+1}:=by
 have hbs:=Aside0.mk h.b1;have hbn:=Aside0.mk h.b2;have c5:=h.cells.2.2.2.2.2;have f5:=h.free 5;have HP1:=h.setPicks (x.picks+1);have HB1:=Aside0.mk ((Below.refl base W).trans (below_set_ (W:=W) (j:=5) h.b1 (.int .i64 (x.picks+1))));clear h;obtain⟨n,c,a,st,pairs,left,picks⟩:=x;have HCN:=Aside0.mk (show c+1≤n from hcn);clear hcn;simp only at c5 HP1 HB1 hk e hs hp0 hp1 hc0 hc1 ⊢;obtain⟨m,hm⟩:∃m,st.length=m:=⟨_,rfl⟩;rw[hm]at hk hs;have HM:=Aside0.mk hm;have HE:=Aside0.mk e;have HK:=Aside0.mk hk;have HS:=Aside0.mk hs;clear hm e;go_enter Tryz.func36,Tryz.ntmps36;go_upto_region 1 with (fail)
 obtain⟨W1,hW1⟩:∃W1,W.setCell ⟨gp,5,none⟩ (.int .i64 (picks+1))=W1:=⟨_,rfl⟩;rw[hW1]at HP1 HB1 ⊢;clear hW1 c5 f5;have c2:=HP1.cells.2.2.1;simp only at c2;rw[HM.out]at c2;obtain⟨v,cn,fn,hv⟩:=HP1.step k (by rw[HM.out];exact hk) HE.out;obtain rfl:=hv;have HP:=Aside0.mk (HP1.below (below_drew1 (Below.refl _ _)));have HQ:=Aside0.mk HP1;clear HP1
 go_wp2_with (fail)
 go_region_with (first|(go_at_call 60;(with_reducible refine(claim_yes HP.out (by omega) hc0 (by simp only;omega) k HCN.out).mono ?_);rintro e w2 ⟨v2,rfl,hp,hst,hb⟩;have HS2:=Aside0.mk hst;obtain⟨q1,q2,rfl,_,_⟩:=hst;obtain⟨_,_,e2,_,_,_⟩:=hp.cells;simp only at e2;rw[HM.out]at e2;obtain⟨v3,cz,fz,_⟩:=hp.step k (by simp only;rw[HM.out];exact HK.out) rfl;have HP2:=Aside0.mk hp;have HB2:=Aside0.mk (HB1.out.trans (below_ofDrew hb));clear hp hb))
 all_goals go_wp2_with (fail)
 all_goals go_end0
 all_goals exact⟨rfl,⟨_,HP2.out.setStep k (by simp only;rw[HM.out];exact HK.out) HS2.out⟩,HB2.out.trans (below_set_ hbn.out _)⟩
theorem pick_claim_no (h:Pool W base g gw gm gp gn vp L x) (hL:L≤90000) (k:Nat) (hk:k<x.st.length) (e:x.st[k]= .claim) (hs:x.st.length≤64) (hp0:0≤x.picks) (hp1:x.picks≤100000) (hc0:0≤x.c) (hc1:x.c≤100000) (hcn:¬x.c+1≤x.n):
  Calls Tryz.prog 36 #[.pointer (some ⟨gp,0,none⟩),.int .i64 k] W fun e w'=>e= .returned (.tuple #[])∧Picked W w' base g gw gm gp gn (L+1) {x with c:=x.c+1,st:=x.st.set k .arrive,picks:=x.picks+1}:=by
 have hbs:=Aside0.mk h.b1;have hbn:=Aside0.mk h.b2;have c5:=h.cells.2.2.2.2.2;have f5:=h.free 5;have HP1:=h.setPicks (x.picks+1);have HB1:=Aside0.mk ((Below.refl base W).trans (below_set_ (W:=W) (j:=5) h.b1 (.int .i64 (x.picks+1))));clear h;obtain⟨n,c,a,st,pairs,left,picks⟩:=x;have HCN:=Aside0.mk (show n<c+1 from Int.not_le.1 hcn);clear hcn;simp only at c5 HP1 HB1 hk e hs hp0 hp1 hc0 hc1 ⊢;obtain⟨m,hm⟩:∃m,st.length=m:=⟨_,rfl⟩;rw[hm]at hk hs;have HM:=Aside0.mk hm;have HE:=Aside0.mk e;have HK:=Aside0.mk hk;have HS:=Aside0.mk hs;clear hm e;go_enter Tryz.func36,Tryz.ntmps36
 go_upto_region 1 with (fail)
 obtain⟨W1,hW1⟩:∃W1,W.setCell ⟨gp,5,none⟩ (.int .i64 (picks+1))=W1:=⟨_,rfl⟩;rw[hW1]at HP1 HB1 ⊢;clear hW1 c5 f5;have c2:=HP1.cells.2.2.1;simp only at c2;rw[HM.out]at c2;obtain⟨v,cn,fn,hv⟩:=HP1.step k (by rw[HM.out];exact hk) HE.out;obtain rfl:=hv;have HP:=Aside0.mk (HP1.below (below_drew1 (Below.refl _ _)));have HQ:=Aside0.mk HP1;clear HP1
 go_wp2_with (fail)
 go_region_with (first|(go_at_call 60;(with_reducible refine(claim_no HP.out (by omega) hc0 (by simp only;omega) k (Int.not_le.2 HCN.out)).mono ?_);rintro e w2 ⟨v2,rfl,hp,hst,hb⟩;have HS2:=Aside0.mk hst;obtain rfl:=hst;obtain⟨_,_,e2,_,_,_⟩:=hp.cells;simp only at e2;rw[HM.out]at e2;obtain⟨v3,cz,fz,_⟩:=hp.step k (by simp only;rw[HM.out];exact HK.out) rfl;have HP2:=Aside0.mk hp;have HB2:=Aside0.mk (HB1.out.trans (below_ofDrew hb));clear hp hb))
 all_goals go_wp2_with (fail)
 all_goals go_end0
 all_goals exact⟨rfl,⟨_,HP2.out.setStep k (by simp only;rw[HM.out];exact HK.out) HS2.out⟩,HB2.out.trans (below_set_ hbn.out _)⟩
theorem pick_arrive (h:Pool W base g gw gm gp gn vp L x) (hL:L≤90000) (k:Nat) (hk:k<x.st.length) (e:x.st[k]= .arrive) (hs:x.st.length≤64) (hp0:0≤x.picks) (hp1:x.picks≤100000) (ha0:0≤x.a) (ha1:x.a≤100000):
  Calls Tryz.prog 36 #[.pointer (some ⟨gp,0,none⟩),.int .i64 k] W fun e w'=>e= .returned (.tuple #[])∧Picked W w' base g gw gm gp gn (L+1) {x with a:=x.a+1,st:=x.st.set k .wait,picks:=x.picks+1}:=by
 have hbs:=Aside0.mk h.b1;have hbn:=Aside0.mk h.b2;have c5:=h.cells.2.2.2.2.2;have f5:=h.free 5;have HP1:=h.setPicks (x.picks+1);have HB1:=Aside0.mk ((Below.refl base W).trans (below_set_ (W:=W) (j:=5) h.b1 (.int .i64 (x.picks+1))));clear h;obtain⟨n,c,a,st,pairs,left,picks⟩:=x;simp only at c5 HP1 HB1 hk e hs hp0 hp1 ha0 ha1 ⊢;obtain⟨m,hm⟩:∃m,st.length=m:=⟨_,rfl⟩;rw[hm]at hk hs;have HM:=Aside0.mk hm;have HE:=Aside0.mk e;have HK:=Aside0.mk hk;have HS:=Aside0.mk hs;clear hm e;go_enter Tryz.func36,Tryz.ntmps36;go_upto_region 1 with (fail)
 obtain⟨W1,hW1⟩:∃W1,W.setCell ⟨gp,5,none⟩ (.int .i64 (picks+1))=W1:=⟨_,rfl⟩;rw[hW1]at HP1 HB1 ⊢;clear hW1 c5 f5;have c2:=HP1.cells.2.2.1;simp only at c2;rw[HM.out]at c2;obtain⟨v,cn,fn,hv⟩:=HP1.step k (by rw[HM.out];exact hk) HE.out;obtain rfl:=hv;have HP:=Aside0.mk (HP1.below (below_drew1 (Below.refl _ _)));have HQ:=Aside0.mk HP1;clear HP1
 go_wp2_with (fail)
 go_region_with (first|(go_at_call 93;(with_reducible refine(arrive_calls HP.out (by omega) ha0 (by simp only;omega) k).mono ?_);rintro e w2 ⟨v2,rfl,hp,hst,hb⟩;have HS2:=Aside0.mk hst;obtain rfl:=hst;obtain⟨_,_,e2,_,_,_⟩:=hp.cells;simp only at e2;rw[HM.out]at e2;obtain⟨v3,cz,fz,_⟩:=hp.step k (by simp only;rw[HM.out];exact HK.out) rfl;have HP2:=Aside0.mk hp;have HB2:=Aside0.mk (HB1.out.trans (below_ofDrew hb));clear hp hb))
 all_goals go_wp2_with (fail)
 all_goals go_end0
 all_goals exact⟨rfl,⟨_,HP2.out.setStep k (by simp only;rw[HM.out];exact HK.out) HS2.out⟩,HB2.out.trans (below_set_ hbn.out _)⟩
theorem pick_wait_yes (h:Pool W base g gw gm gp gn vp L x) (hL:L≤90000) (k:Nat) (hk:k<x.st.length) (e:x.st[k]= .wait) (hs:x.st.length≤64) (hp0:0≤x.picks) (hp1:x.picks≤100000) (haw:x.a=x.st.length) (hl0:0≤x.left) (hl1:x.left≤100000):
  Calls Tryz.prog 36 #[.pointer (some ⟨gp,0,none⟩),.int .i64 k] W fun e w'=>e= .returned (.tuple #[])∧Picked W w' base g gw gm gp gn (L+1) {x with left:=x.left-1,st:=x.st.set k .done,picks:=x.picks+1}:=by
 have hbs:=Aside0.mk h.b1;have hbn:=Aside0.mk h.b2;have c5:=h.cells.2.2.2.2.2;have f5:=h.free 5;have HP1:=h.setPicks (x.picks+1);have HB1:=Aside0.mk ((Below.refl base W).trans (below_set_ (W:=W) (j:=5) h.b1 (.int .i64 (x.picks+1))));clear h;obtain⟨n,c,a,st,pairs,left,picks⟩:=x;have HCN:=Aside0.mk (show a=(st.length:Int)from haw);clear haw;simp only at c5 HP1 HB1 hk e hs hp0 hp1 hl0 hl1 ⊢;obtain⟨m,hm⟩:∃m,st.length=m:=⟨_,rfl⟩;rw[hm]at hk hs;have HM:=Aside0.mk hm;have HE:=Aside0.mk e;have HK:=Aside0.mk hk;have HS:=Aside0.mk hs;clear hm e;go_enter Tryz.func36,Tryz.ntmps36
 go_upto_region 1 with (fail)
 obtain⟨W1,hW1⟩:∃W1,W.setCell ⟨gp,5,none⟩ (.int .i64 (picks+1))=W1:=⟨_,rfl⟩;rw[hW1]at HP1 HB1 ⊢;clear hW1 c5 f5;have c2:=HP1.cells.2.2.1;simp only at c2;rw[HM.out]at c2;obtain⟨v,cn,fn,hv⟩:=HP1.step k (by rw[HM.out];exact hk) HE.out;obtain rfl:=hv;have HP:=Aside0.mk (HP1.below (below_drew1 (Below.refl _ _)));have HQ:=Aside0.mk HP1;clear HP1
 go_wp2_with (fail)
 go_region_with (first|(go_at_call 115;(with_reducible refine(wait_yes HP.out (by omega) k (by simp only;rw[HM.out];have:=HS.out;omega) HCN.out hl0 (by simp only;omega)).mono ?_);rintro e w2 ⟨v2,rfl,hp,hst,hb⟩;have HS2:=Aside0.mk hst;obtain rfl:=hst;obtain⟨_,_,e2,_,_,_⟩:=hp.cells;simp only at e2;rw[HM.out]at e2;obtain⟨v3,cz,fz,_⟩:=hp.step k (by simp only;rw[HM.out];exact HK.out) rfl;have HP2:=Aside0.mk hp;have HB2:=Aside0.mk (HB1.out.trans (below_ofDrew hb));clear hp hb))
 all_goals go_wp2_with (fail)
 all_goals go_end0
 all_goals exact⟨rfl,⟨_,HP2.out.setStep k (by simp only;rw[HM.out];exact HK.out) HS2.out⟩,HB2.out.trans (below_set_ hbn.out _)⟩
theorem pick_wait_no (h:Pool W base g gw gm gp gn vp L x) (hL:L≤90000) (k:Nat) (hk:k<x.st.length) (e:x.st[k]= .wait) (hs:x.st.length≤64) (hp0:0≤x.picks) (hp1:x.picks≤100000) (haw:x.a≠x.st.length):
  Calls Tryz.prog 36 #[.pointer (some ⟨gp,0,none⟩),.int .i64 k] W fun e w'=>e= .returned (.tuple #[])∧Picked W w' base g gw gm gp gn (L+1) {x with st:=x.st.set k .wait,picks:=x.picks+1}:=by
 have hbs:=Aside0.mk h.b1;have hbn:=Aside0.mk h.b2;have c5:=h.cells.2.2.2.2.2;have f5:=h.free 5;have HP1:=h.setPicks (x.picks+1);have HB1:=Aside0.mk ((Below.refl base W).trans (below_set_ (W:=W) (j:=5) h.b1 (.int .i64 (x.picks+1))));clear h;obtain⟨n,c,a,st,pairs,left,picks⟩:=x;have HCN:=Aside0.mk (show¬(a=(st.length:Int))from haw);clear haw;simp only at c5 HP1 HB1 hk e hs hp0 hp1 ⊢;obtain⟨m,hm⟩:∃m,st.length=m:=⟨_,rfl⟩;rw[hm]at hk hs;have HM:=Aside0.mk hm;have HE:=Aside0.mk e;have HK:=Aside0.mk hk;have HS:=Aside0.mk hs;clear hm e;go_enter Tryz.func36,Tryz.ntmps36;go_upto_region 1 with (fail)
 obtain⟨W1,hW1⟩:∃W1,W.setCell ⟨gp,5,none⟩ (.int .i64 (picks+1))=W1:=⟨_,rfl⟩;rw[hW1]at HP1 HB1 ⊢;clear hW1 c5 f5;have c2:=HP1.cells.2.2.1;simp only at c2;rw[HM.out]at c2;obtain⟨v,cn,fn,hv⟩:=HP1.step k (by rw[HM.out];exact hk) HE.out;obtain rfl:=hv;have HP:=Aside0.mk (HP1.below (below_drew1 (Below.refl _ _)));have HQ:=Aside0.mk HP1;clear HP1
 go_wp2_with (fail)
 go_region_with (first|(go_at_call 115;(with_reducible refine(wait_no HP.out (by omega) k (by simp only;rw[HM.out];have:=HS.out;omega) HCN.out).mono ?_);rintro e w2 ⟨v2,rfl,hp,hst,hb⟩;have HS2:=Aside0.mk hst;obtain rfl:=hst;obtain⟨_,_,e2,_,_,_⟩:=hp.cells;simp only at e2;rw[HM.out]at e2;obtain⟨v3,cz,fz,_⟩:=hp.step k (by simp only;rw[HM.out];exact HK.out) rfl;have HP2:=Aside0.mk hp;have HB2:=Aside0.mk (HB1.out.trans (below_ofDrew hb));clear hp hb))
 all_goals go_wp2_with (fail)
 all_goals go_end0
 all_goals exact⟨rfl,⟨_,HP2.out.setStep k (by simp only;rw[HM.out];exact HK.out) HS2.out⟩,HB2.out.trans (below_set_ hbn.out _)⟩
theorem pick_work (t:Int) (h:Pool W base g gw gm gp gn vp L x) (hL:L≤90000) (k:Nat) (hk:k<x.st.length) (e:x.st[k]=(.work t)) (hs:x.st.length≤64) (hp0:0≤x.picks) (hp1:x.picks≤100000) (hpl:x.pairs.length≤100000):
  Calls Tryz.prog 36 #[.pointer (some ⟨gp,0,none⟩),.int .i64 k] W fun e w'=>e= .returned (.tuple #[])∧Picked W w' base g gw gm gp gn (L+1) {x with pairs:=x.pairs++[(t,(k:Int))],st:=x.st.set k .claim,picks:=x.picks+1}:=by
 have hbs:=Aside0.mk h.b1;have hbn:=Aside0.mk h.b2;have c5:=h.cells.2.2.2.2.2;have f5:=h.free 5;have HP1:=h.setPicks (x.picks+1);have HB1:=Aside0.mk ((Below.refl base W).trans (below_set_ (W:=W) (j:=5) h.b1 (.int .i64 (x.picks+1))));clear h;obtain⟨n,c,a,st,pairs,left,picks⟩:=x;simp only at c5 HP1 HB1 hk e hs hp0 hp1 hpl ⊢;obtain⟨m,hm⟩:∃m,st.length=m:=⟨_,rfl⟩;rw[hm]at hk hs;have HM:=Aside0.mk hm;have HE:=Aside0.mk e;have HK:=Aside0.mk hk;have HS:=Aside0.mk hs;clear hm e;go_enter Tryz.func36,Tryz.ntmps36;go_upto_region 1 with (fail)
 obtain⟨W1,hW1⟩:∃W1,W.setCell ⟨gp,5,none⟩ (.int .i64 (picks+1))=W1:=⟨_,rfl⟩;rw[hW1]at HP1 HB1 ⊢;clear hW1 c5 f5;have c2:=HP1.cells.2.2.1;simp only at c2;rw[HM.out]at c2;obtain⟨v,cn,fn,hv⟩:=HP1.step k (by rw[HM.out];exact hk) HE.out;obtain⟨b1,b2,rfl,hx1,hx2⟩:=hv;have HX1:=Aside0.mk (Bx.mk (W:=W1.drew) hx1.blk (hx1.far.keep (Nat.le_refl _) rfl));have HX2:=Aside0.mk (Bx.mk (W:=W1.drew) hx2.blk (hx2.far.keep (Nat.le_refl _) rfl));clear hx1 hx2;have HP:=Aside0.mk (HP1.below (below_drew1 (Below.refl _ _)));have HQ:=Aside0.mk HP1;clear HP1
 go_wp2_with (fail)
 go_region_with (first|(go_at_call 114;(with_reducible refine(work1_calls HP.out k t b1 b2 HX1.out HX2.out (by simp only;omega)).mono ?_);rintro e w2 ⟨v2,vp2,rfl,hp,hst,hb⟩;have HS2:=Aside0.mk hst;obtain rfl:=hst;obtain⟨_,_,e2,_,_,_⟩:=hp.cells;simp only at e2;rw[HM.out]at e2;obtain⟨v3,cz,fz,_⟩:=hp.step k (by simp only;rw[HM.out];exact HK.out) rfl;have HP2:=Aside0.mk hp;have HB2:=Aside0.mk (HB1.out.trans (below_ofDrew hb));clear hp hb))
 all_goals go_wp2_with (fail)
 all_goals go_end0
 all_goals exact⟨rfl,⟨_,HP2.out.up.setStep k (by simp only;rw[HM.out];exact HK.out) HS2.out⟩,HB2.out.trans (below_set_ hbn.out _)⟩
theorem pick_done (h:Pool W base g gw gm gp gn vp L x) (hL:L≤90000) (k:Nat) (hk:k<x.st.length) (e:x.st[k]= .done) (hs:x.st.length≤64) (hp0:0≤x.picks) (hp1:x.picks≤100000):
  Calls Tryz.prog 36 #[.pointer (some ⟨gp,0,none⟩),.int .i64 k] W fun e w'=>e= .returned (.tuple #[])∧Picked W w' base g gw gm gp gn (L+1) {x with picks:=x.picks+1}:=by
 have hbs:=Aside0.mk h.b1;have hbn:=Aside0.mk h.b2;have c5:=h.cells.2.2.2.2.2;have f5:=h.free 5;have HP1:=h.setPicks (x.picks+1);have HB1:=Aside0.mk ((Below.refl base W).trans (below_set_ (W:=W) (j:=5) h.b1 (.int .i64 (x.picks+1))));clear h;obtain⟨n,c,a,st,pairs,left,picks⟩:=x;simp only at c5 HP1 HB1 hk e hs hp0 hp1 ⊢;obtain⟨m,hm⟩:∃m,st.length=m:=⟨_,rfl⟩;rw[hm]at hk hs;have HM:=Aside0.mk hm;have HE:=Aside0.mk e;have HK:=Aside0.mk hk;have HS:=Aside0.mk hs;clear hm e;go_enter Tryz.func36,Tryz.ntmps36;go_upto_region 1 with (fail)
 obtain⟨W1,hW1⟩:∃W1,W.setCell ⟨gp,5,none⟩ (.int .i64 (picks+1))=W1:=⟨_,rfl⟩;rw[hW1]at HP1 HB1 ⊢;clear hW1 c5 f5;have c2:=HP1.cells.2.2.1;simp only at c2;rw[HM.out]at c2;obtain⟨v,cn,fn,hv⟩:=HP1.step k (by rw[HM.out];exact hk) HE.out;obtain rfl:=hv;have HP:=Aside0.mk (HP1.below (below_drew1 (Below.refl _ _)));have HQ:=Aside0.mk HP1;clear HP1
 go_wp2_with (fail)
 go_end0
 exact⟨rfl,⟨_,HQ.out.up⟩,HB1.out⟩
end
end
end Go.Proofs.YtfnimdhghglanaaGreat.Hand
end
section
namespace Go.Proofs.YtfnimdhghglanaaGreat.Hand
open Go.RowKit Go.Proofs.YtfnimdhghglanaaGreatW PrintWords PrintLast PrintMore
attribute [local go_sem] max2_int min2_int max_two min_two max_three min_three max_four min_four
attribute [local go_sem] st_func st_nilF
section
section
variable {W W':World} {base g gw gm gp gn L:Nat} {vp:Value} {x:Ph}
theorem pick_calls (h:Pool W base g gw gm gp gn vp L x) {w:Nat} (hi:x.Inv w) (hL:L≤90000) (k:Nat) (hk:k<w) (hw:w≤64) (hn:x.n≤64) (hp:x.picks≤100000):
  Calls Tryz.prog 36 #[.pointer (some ⟨gp,0,none⟩),.int .i64 k] W fun e w'=>e= .returned (.tuple #[])∧Picked W w' base g gw gm gp gn (L+1) (x.pick k):=by
 have hk':k<x.st.length:=by rw[hi.len];exact hk
 have hs:x.st.length≤64:=by rw[hi.len];exact hw
 have hp0:=hi.p0;have e1:=hi.cp;have e2:=hi.a;have e3:=List.countP_le_length (p:=Stp.past) (l:=x.st);have e4:=List.countP_le_length (p:=Stp.isDone) (l:=x.st);have e5:=hi.left;have e6:=hi.held;unfold Ph.pick;rw[getD_of hk'];cases e:x.st[k]with
 |claim=>
  simp only;by_cases hc:x.c+1≤x.n
  ·rw[if_pos hc];exact pick_claim_yes h hL k hk' e hs hp0 hp hi.c0 (by omega) hc
  ·rw[if_neg hc];exact pick_claim_no h hL k hk' e hs hp0 hp hi.c0 (by omega) hc
 |work t=>exact pick_work t h hL k hk' e hs hp0 hp (by omega)
 |arrive=>exact pick_arrive h hL k hk' e hs hp0 hp (by omega) (by omega)
 |wait=>
  simp only;by_cases hc:x.a=x.st.length
  ·rw[if_pos hc];exact pick_wait_yes h hL k hk' e hs hp0 hp hc (by rw[hi.len]at e4;omega) (by omega)
  ·rw[if_neg hc];have h2:=pick_wait_no h hL k hk' e hs hp0 hp hc;have e7:x.st.set k Stp.wait=x.st:=by rw[←e];exact List.set_getElem_self hk'
   rw[e7]at h2;exact h2
 |done=>exact pick_done h hL k hk' e hs hp0 hp
theorem Far.under {log:List Acc} {c a:Int} {k b:Nat} (h:Is W b g gw gm ⟨log,0,[c,a],[]⟩) (hk:k<b) (hlt:k<W.heap.size):Far W g gw gm k:=by
 obtain⟨vl,cw,cm,hB⟩:=h;have h1:=hB.hg;have h2:=hB.wlt.1;have h3:=hB.mlt.1;exact⟨hlt,by omega,by omega,by omega,vl,hB.cell.1,fun e=>by have:=Kd.R_base hB.lo k e;omega⟩
end
theorem infoStep:(Tryz.prog.info? TStep).map (fun i=>(i.zero,i.size,i.bytes))=some (some .nilFunc,1,8):=by kernel_rfl
theorem make_steps (n:Nat) (hn:n≤64):∃C:Array Value,C.size=n∧(∀i,i<n→C[i]?=some .nilFunc)∧∀w,(Instr.makeSlice 78 (.int .i64 n) (.int .i64 n)).run Tryz.prog w= .ok (.slice (some ⟨w.heap.size,0,none⟩) n n) (w.alloc (.cells C TStep)):=by
 obtain⟨i0,hi,hzz⟩:=Option.map_eq_some_iff.1 infoStep;simp only[Prod.mk.injEq]at hzz;obtain⟨hz0,hz1,hz2⟩:=hzz;refine⟨madeCells (Value.cells .nilFunc) (n*1),by rw[size_madeCells,Nat.mul_one],fun i hi=> ?_,fun w=> ?_⟩
 ·simp[madeCells,Value.cells,hi,Nat.mod_one]
 ·have hr:=run_make (P:=Tryz.prog) w 78 TStep i0 .nilFunc Tryz.underlying78 hi hz0 .i64 .i64 (n:Int) (n:Int) (by omega) (by omega)
   (by rw[hz2];omega) (by omega)
  simp only[Int.toNat_natCast]at hr;rw[hz1]at hr;exact hr
def phK (n:Int) (w k:Nat):Ph:=⟨n,0,0,List.replicate k .claim++List.replicate (w-k) .done,[],w,0⟩
theorem phK_set (n:Int) (w k:Nat) (hk:k<w):{phK n w k with st:=(phK n w k).st.set k .claim}=phK n w (k+1):=by
 unfold phK;simp only
 congr 1
 rw[List.set_append_right _ _ (by simp)];obtain⟨m,hm⟩:∃m,w-k=m+1:=⟨w-k-1,by omega⟩;rw[hm,show w-(k+1)=m by omega,List.length_replicate,Nat.sub_self,List.replicate_succ,List.set_cons_zero,List.replicate_succ'];simp
theorem mkPool {W:World} {base g gw gm gp gn:Nat} {C:Array Value} {n:Int} {w:Nat} (hC:C.size=w) (hz:∀i,i<w→C[i]?=some .nilFunc) (hi:Is W base g gw gm ⟨[],0,[0,0],[]⟩)
  (hb:W.heap[gp]?=some (.cells #[.pointer (some ⟨g,0,none⟩),.int .i64 n,.slice (some ⟨gn,0,none⟩) w w,.slice none 0 0,.int .i64 w,.int .i64 0] TPool (0,0))) (hn:W.heap[gn]?=some (.cells C TStep (0,0))) (f1:Far W g gw gm gp) (f2:Far W g gw gm gn) (b1:base≤gp) (b2:base≤gn):
  Pool W base g gw gm gp gn (.slice none 0 0) 0 (phK n w 0):=by
 refine⟨⟨[],Nat.le_refl _,hi⟩,?_,Kd.R_nil _ _ _ _ _,⟨C,hn,by simp[phK,hC],fun i hi=>⟨_,hz i (by simpa [phK]using hi),?_⟩⟩,f1,f2,fun k hk=>by simp[Value.ownBlock]at hk,b1,b2⟩
 ·simpa [phK]using hb
 ·simp[phK];rfl
theorem new20 (W:World):Calls Tryz.prog 59 #[.int .i64 2,.int .i64 0] W fun e w'=>∃g gw gm,e= .returned (.pointer (some ⟨g,0,none⟩))∧Is w' W.heap.size g gw gm ⟨[],0,[0,0],[]⟩∧Below W.heap.size W w':=new_calls 2 0 W (by decide) (by decide)
def Started (W w':World) (n:Int) (w k:Nat) (v:Value):Prop:=∃gp g gw gm gn vp,v= .pointer (some ⟨gp,0,none⟩)∧Pool w' W.heap.size g gw gm gp gn vp 0 (phK n w k)∧Below W.heap.size W w'
theorem start_calls (n:Int) (w:Nat) (W:World) (hw:w≤64) (hn:0≤n) (hn1:n≤64):
  Calls Tryz.prog 35 #[.int .i64 n,.int .i64 w] W fun e w'=>∃v,e= .returned v∧Started W w' n w w v:=by
 obtain⟨C,hC,hCz,hA⟩:=make_steps w hw;have HC:=Aside0.mk hC;have HCZ:=Aside0.mk hCz;clear hC hCz;go_enter Tryz.func35,Tryz.ntmps35;go_upto_region 2 with (fail)
 go_region_with (first|(go_at_call 59;(with_reducible refine(new20 _).mono ?_);rintro e w1 ⟨g,gw,gm,rfl,hi,hb⟩;have HI:=Aside0.mk hi;have HB:=Aside0.mk hb;clear hi hb))
 ·have hi:Is w1 W.heap.size g gw gm ⟨[],0,[0,0],[]⟩:=HI.out;have hb1:Below W.heap.size W w1:=below_ofDrew HB.out;have hbb:=below_alloc (below_alloc (Below.refl w1.heap.size w1) (.cells C TStep)) (.cells #[.pointer (some ⟨g,0,none⟩),.int .i64 n,.slice (some ⟨w1.heap.size,0,none⟩) w w,.slice none 0 0,.int .i64 w,.int .i64 0] TPool)
  have hp:=mkPool (gp:=w1.heap.size+1) (gn:=w1.heap.size) (n:=n) HC.out HCZ.out (hi.left hbb).is (by show((w1.heap.push _).push _)[_]?=_;exact push_get (by simp)) (by show((w1.heap.push _).push _)[_]?=_;rw[Array.getElem?_push,if_neg (by simp)];exact push_get rfl) (hi.far hbb (by omega) (by simp)) (hi.far hbb (Nat.le_refl _) (by simp;omega)) (by have:=hb1.size;omega) hb1.size;have hb2:=hb1.trans (hbb.mono hb1.size)
  obtain⟨w2,hw2⟩:∃w2,(w1.alloc (.cells C TStep)).alloc (.cells #[.pointer (some ⟨g,0,none⟩),.int .i64 n,.slice (some ⟨w1.heap.size,0,none⟩) w w,.slice none 0 0,.int .i64 w,.int .i64 0] TPool)=w2:=⟨_,rfl⟩;rw[hw2]at hp hb2 ⊢;clear hw2 hbb hi hb1 HI HB;obtain⟨gp,hgp⟩:∃gp,w1.heap.size+1=gp:=⟨_,rfl⟩;rw[hgp]at hp ⊢;clear hgp;obtain⟨gn,hgn⟩:∃gn,w1.heap.size=gn:=⟨_,rfl⟩;rw[hgn]at hp ⊢;clear hgn;have HP:=Aside0.mk hp;have HB2:=Aside0.mk hb2;have c2:=hp.cells.2.2.1;have hll:(phK n w 0).st.length=w:=by simp[phK]
  rw[hll]at c2;clear hp hb2 hll hA
  go_wp2_with (fail)
  go_loopw [19] (fun i w'=>∃k:Nat,k≤w∧i= .int .i64 k∧∃vp,Aside0 (Pool w' W.heap.size g gw gm gp gn vp 0 (phK n w k))∧Aside0 (Below W.heap.size W w')) (fun i _=>w-(intOf i).toNat)
  case atStart=>exact⟨0,Nat.zero_le _,rfl,_,HP,HB2⟩
  case round=>
   clear HP HB2 c2;obtain⟨k,hk,rfl,vp,HP,HB⟩:=hrel;have hll:(phK n w k).st.length=w:=by simp[phK];omega
   have HLL:=Aside0.mk hll;have c2:=HP.out.cells.2.2.1;rw[hll]at c2;clear hll;by_cases hlt:k<w
   ·obtain⟨v,cn,fn,_⟩:=HP.out.step k (by rw[HLL.out];exact hlt) rfl
    go_wp2_with (fail)
    go_roundw
    case rel=>
     have h5:=HP.out.setStep k (by rw[HLL.out];exact hlt) (st:= .claim) rfl;rw[phK_set n w k hlt]at h5;exact⟨k+1,by omega,by go_num,vp,⟨h5⟩,⟨below_set HB.out HP.out.b2⟩⟩
    case measure=>simp[intOf];omega
   ·obtain rfl:k=w:=by omega
    go_wp2_with (fail)
    go_ret;exact⟨_,rfl,gp,g,gw,gm,gn,vp,rfl,HP.out,HB.out⟩
 ·have hi:Is w1 (W.heap.size+1) g gw gm ⟨[],0,[0,0],[]⟩:=by have:=HI.out;simpa using this
  have hb1:Below W.heap.size W w1:=(below_alloc (below_ofDrew (Below.refl W.heap.size W.drew)) (.cells C TStep)).trans (HB.out.mono (by simp));have hgn:w1.heap[W.heap.size]?=some (.cells C TStep (0,0)):=by
   rw[HB.out.block W.heap.size (by simp)];exact push_get rfl
  have hlt:W.heap.size<w1.heap.size:=by have:=HB.out.size;simp at this;omega
  have hbb:=below_alloc (Below.refl w1.heap.size w1) (.cells #[.pointer (some ⟨g,0,none⟩),.int .i64 n,.slice (some ⟨W.heap.size,0,none⟩) w w,.slice none 0 0,.int .i64 w,.int .i64 0] TPool);have hp:=mkPool (gp:=w1.heap.size) (gn:=W.heap.size) (n:=n) HC.out HCZ.out (IsMem.lower (hi.left hbb).is (Nat.le_succ _)) (by show(w1.heap.push _)[_]?=_;exact push_get rfl) (by show(w1.heap.push _)[_]?=_;rw[Array.getElem?_push,if_neg (by omega)];exact hgn) (hi.far hbb (Nat.le_refl _) (by simp)) (Far.under (hi.left hbb).is (by omega) (by simp;omega)) hb1.size (Nat.le_refl _)
  have hb2:=hb1.trans (hbb.mono hb1.size);obtain⟨w2,hw2⟩:∃w2,w1.alloc (.cells #[.pointer (some ⟨g,0,none⟩),.int .i64 n,.slice (some ⟨W.heap.size,0,none⟩) w w,.slice none 0 0,.int .i64 w,.int .i64 0] TPool)=w2:=⟨_,rfl⟩;rw[hw2]at hp hb2 ⊢;clear hw2 hbb hi hb1 HI HB hlt;obtain⟨gp,hgp⟩:∃gp,w1.heap.size=gp:=⟨_,rfl⟩;rw[hgp]at hp ⊢;clear hgp;obtain⟨gn,hgn2⟩:∃gn,W.heap.size=gn∧True:=⟨_,rfl,trivial⟩;have hp2:Pool w2 W.heap.size g gw gm gp gn (.slice none 0 0) 0 (phK n w 0):=by rw[←hgn2.1];exact hp
  rw[hgn2.1];clear hgn hgn2 hp;have hp:=hp2;clear hp2;have HP:=Aside0.mk hp;have HB2:=Aside0.mk hb2;have c2:=hp.cells.2.2.1;have hll:(phK n w 0).st.length=w:=by simp[phK]
  rw[hll]at c2;clear hp hb2 hll hA
  go_wp2_with (fail)
  go_loopw [19] (fun i w'=>∃k:Nat,k≤w∧i= .int .i64 k∧∃vp,Aside0 (Pool w' W.heap.size g gw gm gp gn vp 0 (phK n w k))∧Aside0 (Below W.heap.size W w')) (fun i _=>w-(intOf i).toNat)
  case atStart=>exact⟨0,Nat.zero_le _,rfl,_,HP,HB2⟩
  case round=>
   clear HP HB2 c2;obtain⟨k,hk,rfl,vp,HP,HB⟩:=hrel;have hll:(phK n w k).st.length=w:=by simp[phK];omega
   have HLL:=Aside0.mk hll;have c2:=HP.out.cells.2.2.1;rw[hll]at c2;clear hll;by_cases hlt:k<w
   ·obtain⟨v,cn,fn,_⟩:=HP.out.step k (by rw[HLL.out];exact hlt) rfl
    go_wp2_with (fail)
    go_roundw
    case rel=>
     have h5:=HP.out.setStep k (by rw[HLL.out];exact hlt) (st:= .claim) rfl;rw[phK_set n w k hlt]at h5;exact⟨k+1,by omega,by go_num,vp,⟨h5⟩,⟨below_set HB.out HP.out.b2⟩⟩
    case measure=>simp[intOf];omega
   ·obtain rfl:k=w:=by omega
    go_wp2_with (fail)
    go_ret;exact⟨_,rfl,gp,g,gw,gm,gn,vp,rfl,HP.out,HB.out⟩
theorem valid_yes (t w:Int) (W:World) (h0:0≤t) (h1:t≤64) (h2:1≤w) (h3:w≤64):
  Calls Tryz.prog 34 #[.int .i64 t,.int .i64 w] W fun e w'=>e= .returned (.bool true)∧w'=W:=by
 have d0:decide (0≤t)=true:=decide_eq_true h0;have d1:decide (t≤64)=true:=decide_eq_true h1;have d2:decide (1≤w)=true:=decide_eq_true h2;have d3:decide (w≤64)=true:=decide_eq_true h3;go_enter Tryz.func34,Tryz.ntmps34
 go_wp2
 go_ret;exact⟨by simp,rfl⟩
theorem started0 (n:Int) (w:Nat):phK n w w=ph0 n w:=by simp[phK,ph0]
theorem row_int {w:World} {A:Option Addr} {l:List Int} (h:Kd.C (Kd.int .i64) w A l.length l) (k:Nat) (hk:k<l.length):∃ad,A=some ad∧w.cell? (ad.add k)=some (.int .i64 l[k]):=by
 obtain⟨ad,c,e1,_,hK,hc0⟩:=Kd.C_get h 0 (k:Int) (by omega) (by omega);rw[Int.toNat_natCast]at hK hc0;have e4:l.getD k 0=l[k]:=by simp[List.getD_eq_getElem?_getD,List.getElem?_eq_getElem hk]
 rw[e4]at hK;obtain rfl:c=[.int .i64 l[k]]:=hK;refine⟨ad,e1,?_⟩;have:=hc0 0 _ rfl
 simpa [Kd.int,Kd.scalar]using this
def Out (W w':World) (pairs:List (Int×Int)) (u:Value) (e:Ending):Prop:=∃v,e= .returned (.tuple #[v,u])∧Kd.R kP TPair w' W.heap.size (fun _=>True) v pairs∧Below W.heap.size W w'
def pickAt (l:List Int) (w i:Nat):Nat:=if i<l.length then(l.getD i 0).toNat else(i-l.length)%w
def Ph.steps (x:Ph) (f:Nat→Nat):Nat→Ph
 |0=>x
 |k+1=>(x.steps f k).pick (f k)
theorem steps_inv {x:Ph} {w:Nat} (h:x.Inv w) {f:Nat→Nat} (hf:∀k,f k<w):∀k,(x.steps f k).Inv w∧(x.steps f k).picks=x.picks+k∧(x.steps f k).n=x.n
 |0=>⟨h,by simp[Ph.steps],rfl⟩
 |k+1=>by
  obtain⟨i1,i2,i3⟩:=steps_inv h hf k;obtain⟨_,e2,e3⟩:=pick_st (x:=x.steps f k) (f k);exact⟨pick_inv i1 _ (hf k),by simp only[Ph.steps];omega,e3.trans i3⟩
theorem pickAt_lt {l:List Int} {w:Nat} (hw:1≤w) (hr:∀p∈l,0≤p∧p<w) (k:Nat):pickAt l w k<w:=by
 unfold pickAt
 split
 ·rename_i h;have:=hr l[k] (List.getElem_mem h);rw[show l.getD k 0=l[k]by simp[List.getD_eq_getElem?_getD,List.getElem?_eq_getElem h]];omega
 ·exact Nat.mod_lt _ (by omega)
theorem finish_calls (n:Int) (w:Nat) (l:List Int) (A:Option Addr) (c:Nat) (W:World) (hn:0≤n) (hn1:n≤64) (hw0:1≤w) (hw:w≤64) (hl:l.length≤80000) (hr:∀p∈l,0≤p∧p<w) (hC:Kd.C (Kd.int .i64) W A l.length l)
  (N:Nat) (hN:N≤80000) (hz:((ph0 n w).steps (pickAt l w) N).left=0) (hlt:∀j,j<N→0<((ph0 n w).steps (pickAt l w) j).left):
  Calls Tryz.prog 16 #[.int .i64 n,.int .i64 w,.slice A l.length c] W fun e w'=>Out W w' ((ph0 n w).steps (pickAt l w) N).pairs (.int .i64 N) e:=by
 have HR:=Aside0.mk hr;have HC:=Aside0.mk hC;have HW0:=Aside0.mk hw0;have HW:=Aside0.mk hw;have HN:=Aside0.mk hn;have HN1:=Aside0.mk hn1;have HZ:=Aside0.mk hz;have HLT:=Aside0.mk hlt;have HPL:=Aside0.mk (pickAt_lt hw0 hr);clear hr hC hw0 hw hn hn1 hz hlt;go_enter Tryz.func16,Tryz.ntmps16
 go_wp2_with (first|(go_at_call 34;(with_reducible refine(valid_yes n w _ HN.out HN1.out (by have:=HW0.out;omega) (by have:=HW.out;omega)).mono ?_);rintro e w1 ⟨rfl,rfl⟩)|(go_at_call 35;(with_reducible refine(start_calls n w _ HW.out HN.out HN1.out).mono ?_);rintro e w2 ⟨v,rfl,gp,g,gw,gm,gn,vp,rfl,hp,hb⟩;rw[started0]at hp;have HP0:=Aside0.mk hp;have HB0:=Aside0.mk hb;clear hp hb))
 go_loopw [9] (fun i w'=>∃k:Nat,k≤N∧i= .int .i64 k∧∃vp,Aside0 (Pool w' w1.heap.size g gw gm gp gn vp k ((ph0 n w).steps (pickAt l w) k))∧Aside0 (Below w1.heap.size w1 w')) (fun i _=>N-(intOf i).toNat)
 case atStart=>exact⟨0,Nat.zero_le _,rfl,_,HP0,HB0⟩
 case round=>
  clear HP0 HB0;obtain⟨k,hk,rfl,vp,HP,HB⟩:=hrel;have c4:=HP.out.cells.2.2.2.2.1;obtain⟨q1,q2,q3⟩:=steps_inv (inv0 n w HN.out) HPL.out k;have HINV:=Aside0.mk q1;have HPK:=Aside0.mk (show((ph0 n w).steps (pickAt l w) k).picks=k by rw[q2];simp[ph0]);have HPK2:=Aside0.mk (show((ph0 n w).steps (pickAt l w) k).picks≤100000 by rw[q2];simp only[ph0];omega);have HNX:=Aside0.mk (show((ph0 n w).steps (pickAt l w) k).n≤64 by rw[q3];exact HN1.out);have HKL:=Aside0.mk (show k≤90000 by omega);clear q1 q2 q3;by_cases hlt:k<N
  ·obtain⟨lf,hlf⟩:∃z,((ph0 n w).steps (pickAt l w) k).left=z:=⟨_,rfl⟩;have hpos:=HLT.out k hlt;rw[hlf]at c4 hpos;have d4:decide (0<lf)=true:=decide_eq_true hpos;clear hlf hpos;by_cases hkl:k<l.length
   ·obtain⟨ad,e2,hc⟩:=row_int (Kd.C_below HC.out HB.out) k hkl;cases e2;have hin:=HR.out l[k] (List.getElem_mem hkl);obtain⟨p,hp⟩:∃p:Nat,l[k]=(p:Int):=⟨l[k].toNat,by omega⟩;rw[hp]at hc hin;have HPA:=Aside0.mk (show pickAt l w k=p by unfold pickAt;rw[if_pos hkl,show l.getD k 0=l[k]by simp[List.getD_eq_getElem?_getD,List.getElem?_eq_getElem hkl],hp];simp);have HPW:=Aside0.mk (show p<w by omega);have dk:decide ((k:Int)<(l.length:Int))=true:=decide_eq_true (by omega);clear hp hin
    go_wp2_with (first|(go_at_call 36;(with_reducible refine(pick_calls HP.out HINV.out HKL.out p HPW.out HW.out HNX.out HPK2.out).mono ?_);rintro e w4 ⟨rfl,hpk⟩;have HPI:=Aside0.mk hpk;clear hpk))
    go_roundw
    case rel=>
     obtain⟨⟨vp2,hq⟩,hb⟩:=HPI.out;refine⟨k+1,by omega,by go_num,vp2,⟨?_⟩,⟨HB.out.trans hb⟩⟩;rw[show(ph0 n w).steps (pickAt l w) (k+1)=((ph0 n w).steps (pickAt l w) k).pick p by rw[←HPA.out];rfl];exact hq
    case measure=>simp[intOf];omega
   ·have hw1:=HW0.out;have hw2:=HW.out;obtain⟨p,hp⟩:∃p:Nat,(k-l.length)%w=p:=⟨_,rfl⟩;have hpe:((k:Int)-(l.length:Int))%(w:Int)=(p:Int):=by rw[←hp];rw[Int.natCast_emod];congr 1;omega
    have HPA:=Aside0.mk (show pickAt l w k=p by unfold pickAt;rw[if_neg hkl];exact hp);have HPW:=Aside0.mk (show p<w by rw[←hp];exact Nat.mod_lt _ (by omega));have dk:decide ((k:Int)<(l.length:Int))=false:=decide_eq_false (by omega);have hge:(0:Int)≤(k:Int)-(l.length:Int):=by omega
    clear hp
    go_wp2_with (first|(go_at_call 36;(with_reducible refine(pick_calls HP.out HINV.out HKL.out p HPW.out HW.out HNX.out HPK2.out).mono ?_);rintro e w4 ⟨rfl,hpk⟩;have HPI:=Aside0.mk hpk;clear hpk))
    go_roundw
    case rel=>
     obtain⟨⟨vp2,hq⟩,hb⟩:=HPI.out;refine⟨k+1,by omega,by go_num,vp2,⟨?_⟩,⟨HB.out.trans hb⟩⟩;rw[show(ph0 n w).steps (pickAt l w) (k+1)=((ph0 n w).steps (pickAt l w) k).pick p by rw[←HPA.out];rfl];exact hq
    case measure=>simp[intOf];omega
  ·obtain rfl:k=N:=by omega
   rw[HZ.out]at c4;have c3:=HP.out.cells.2.2.2.1;have c5:=HP.out.cells.2.2.2.2.2;rw[HPK.out]at c5;have HQ:=Aside0.mk HP.out.prs;clear HP
   go_wp2_with (fail)
   go_quiet (fail)
   go_wp2_with (fail)
   go_ret2
   exact⟨_,rfl,Kd.R_below HQ.out (pw_below_drewN (Below.refl _ _) _),pw_below_drewN HB.out _⟩
end
end Go.Proofs.YtfnimdhghglanaaGreat.Hand
end
section
namespace Go.Proofs.YtfnimdhghglanaaGreat.Hand
section
theorem all_done {x:Ph} {w:Nat} (h:x.Inv w) (hz:x.left=0) (k:Nat) (hk:k<x.st.length):x.st[k]= .done:=by
 have e:x.st.countP Stp.isDone=x.st.length:=by have:=h.left;have:=h.len;omega
 have:=List.countP_eq_length.1 e x.st[k] (List.getElem_mem hk);cases e2:x.st[k]<;>rw[e2]at this<;>first|rfl|simp[Stp.isDone]at this
theorem pick_over {x:Ph} {w:Nat} (h:x.Inv w) (hz:x.left=0) (k:Nat) (hk:k<w):x.pick k={x with picks:=x.picks+1}:=by
 have hk':k<x.st.length:=by rw[h.len];exact hk
 unfold Ph.pick;rw[getD_of hk',all_done h hz k hk']
theorem ended_all {x:Ph} {w:Nat} (h:x.Inv w) (hw:1≤w) (hz:x.left=0):(x.pairs.length:Int)=x.n:=by
 have hd:0<x.st.countP Stp.isDone:=by have:=h.left;omega
 have hl:x.n<x.c:=h.late (by
  refine Nat.lt_of_lt_of_le hd (List.countP_mono_left (fun s _ hs=> ?_));cases s<;>simp_all [Stp.isDone,Stp.late])
 have h0:x.st.countP Stp.isWork=0:=by
  rw[List.countP_eq_zero];intro s hs;obtain⟨k,hk,rfl⟩:=List.getElem_of_mem hs;rw[all_done h hz k hk];simp[Stp.isWork]
 have:=h.held;rw[h0]at this;omega
def Stp.wt:Stp→Nat| .claim=>3| .work _=>4| .arrive=>2| .wait=>1| .done=>0
def Ph.M (x:Ph):Nat:=2*(x.n-x.c).toNat+(x.st.map Stp.wt).sum
theorem stp_sum_set (l:List Stp) (k:Nat) (h:k<l.length) (u:Stp):((l.set k u).map Stp.wt).sum+l[k].wt=(l.map Stp.wt).sum+u.wt:=by
 induction l generalizing k with
 |nil=>simp at h
 |cons y ys ih=>
  cases k with
  |zero=>simp;omega
  |succ k=>
   have:=ih k (by simpa using h);simp only[List.set_cons_succ,List.map_cons,List.sum_cons,List.getElem_cons_succ];omega
theorem pick_M {x:Ph} {w:Nat} (h:x.Inv w) (k:Nat) (hk:k<w):(x.pick k).M+1≤x.M∨x.pick k={x with picks:=x.picks+1}:=by
 have hk':k<x.st.length:=by rw[h.len];exact hk
 have q:=fun u=>stp_sum_set x.st k hk' u;unfold Ph.pick;rw[getD_of hk'];cases e:x.st[k]with
 |claim=>
  left;simp only
  split
  ·have q1:=q (.work x.c);rw[e]at q1;simp only[Stp.wt]at q1;simp only[Ph.M];omega
  ·have q1:=q .arrive;rw[e]at q1;simp only[Stp.wt]at q1;simp only[Ph.M];omega
 |work t=>
  left;have q1:=q .claim;rw[e]at q1;simp only[Stp.wt]at q1;simp only[Ph.M];omega
 |arrive=>
  left;have q1:=q .wait;rw[e]at q1;simp only[Stp.wt]at q1;simp only[Ph.M];omega
 |wait=>
  simp only
  split
  ·left;have q1:=q .done;rw[e]at q1;simp only[Stp.wt]at q1;simp only[Ph.M];omega
  ·exact .inr rfl
 |done=>exact .inr rfl
theorem pick_M_le {x:Ph} {w:Nat} (h:x.Inv w) (k:Nat) (hk:k<w):(x.pick k).M≤x.M:=by
 rcases pick_M h k hk with e|e
 ·omega
 ·rw[e];exact Nat.le_refl _
theorem idle_all {x:Ph} {w:Nat} (h:x.Inv w) (hi:∀k,k<w→x.pick k={x with picks:=x.picks+1}):x.left=0:=by
 have key:∀k (hk:k<x.st.length),(x.st[k]= .wait∧x.a≠x.st.length)∨x.st[k]= .done:=by
  intro k hk;have e:=hi k (by rw[←h.len];exact hk);have e2:(x.pick k).M=x.M:=by rw[e];rfl
  have q:=fun u=>stp_sum_set x.st k hk u;unfold Ph.pick at e2;rw[getD_of hk]at e2;cases es:x.st[k]with
  |claim=>
   rw[es]at e2;simp only at e2
   split at e2
   ·have q1:=q (.work x.c);rw[es]at q1;simp only[Stp.wt]at q1;simp only[Ph.M]at e2;omega
   ·have q1:=q .arrive;rw[es]at q1;simp only[Stp.wt]at q1;simp only[Ph.M]at e2;omega
  |work t=>
   have q1:=q .claim;rw[es]at q1 e2;simp only[Stp.wt]at q1;simp only[Ph.M]at e2;omega
  |arrive=>
   have q1:=q .wait;rw[es]at q1 e2;simp only[Stp.wt]at q1;simp only[Ph.M]at e2;omega
  |wait=>
   left;refine⟨rfl,fun ha=> ?_⟩;rw[es]at e2;simp only[if_pos ha]at e2;have q1:=q .done;rw[es]at q1;simp only[Stp.wt]at q1;simp only[Ph.M]at e2;omega
  |done=>exact .inr rfl
 have hp:x.st.countP Stp.past=x.st.length:=by
  rw[List.countP_eq_length];intro s hs;obtain⟨k,hk,rfl⟩:=List.getElem_of_mem hs;rcases key k hk with ⟨e,_⟩|e<;>rw[e]<;>rfl
 have ha:x.a=x.st.length:=by rw[h.a,hp]
 have hd:x.st.countP Stp.isDone=x.st.length:=by
  rw[List.countP_eq_length];intro s hs;obtain⟨k,hk,rfl⟩:=List.getElem_of_mem hs;rcases key k hk with ⟨_,e⟩|e
  ·exact absurd ha e
  ·rw[e];rfl
 have h1:=h.left;have h2:=h.len;omega
section
variable {x:Ph} {w:Nat} {f:Nat→Nat}
theorem steps_add (x:Ph) (f:Nat→Nat) (s:Nat):∀m,x.steps f (s+m)=(x.steps f s).steps (fun j=>f (s+j)) m
 |0=>rfl
 |m+1=>by
  show(x.steps f (s+m)).pick (f (s+m))=_;rw[steps_add x f s m];rfl
theorem steps_M_le (h:x.Inv w) (hf:∀k,f k<w):∀m,(x.steps f m).M≤x.M
 |0=>Nat.le_refl _
 |m+1=>Nat.le_trans (pick_M_le (steps_inv h hf m).1 _ (hf m)) (steps_M_le h hf m)
theorem window_M (h:x.Inv w) (hf:∀k,f k<w) (m:Nat) (hall:∀t,t<w→∃j,j<m∧f j=t):(x.steps f m).M+1≤x.M∨x.left=0:=by
 have key:∀m,(x.steps f m).M+1≤x.M∨(x.steps f m={x with picks:=x.picks+m}∧∀j,j<m→x.pick (f j)={x with picks:=x.picks+1}):=by
  intro m
  induction m with
  |zero=>exact .inr ⟨by simp[Ph.steps],fun j hj=>absurd hj (by omega)⟩
  |succ m ih=>
   rcases ih with e|⟨e,hid⟩
   ·exact .inl (by have:=pick_M_le (steps_inv h hf m).1 _ (hf m);show((x.steps f m).pick (f m)).M+1≤_;omega)
   ·have hi:=(steps_inv h hf m).1;have hM:(x.steps f m).M=x.M:=by rw[e];rfl
    rcases pick_M hi (f m) (hf m)with e2|e2
    ·exact .inl (by show((x.steps f m).pick (f m)).M+1≤_;omega)
    ·rcases pick_M h (f m) (hf m)with e3|e3
     ·left;show((x.steps f m).pick (f m)).M+1≤_;have e4:((x.steps f m).pick (f m)).M=(x.pick (f m)).M:=by
       rw[e];unfold Ph.pick;simp only
       (repeat' split)<;>rfl
      omega
     ·right;refine⟨?_,fun j hj=> ?_⟩
      ·show(x.steps f m).pick (f m)=_;rw[e2,e];simp;omega
      ·rcases Nat.lt_succ_iff_lt_or_eq.1 hj with hj|rfl
       ·exact hid j hj
       ·exact e3
 rcases key m with e|⟨_,e⟩
 ·exact .inl e
 ·refine .inr (idle_all h (fun k hk=> ?_));obtain⟨j,hj,rfl⟩:=hall k hk;exact e j hj
theorem steps_over (h:x.Inv w) (hf:∀k,f k<w) (hz:x.left=0):∀m,(x.steps f m).left=0
 |0=>hz
 |m+1=>by
  have:=pick_over (steps_inv h hf m).1 (steps_over h hf hz m) (f m) (hf m);show((x.steps f m).pick (f m)).left=0;rw[this];exact steps_over h hf hz m
theorem windows_end (h:x.Inv w) (hf:∀k,f k<w) (m:Nat) (hall:∀s t,t<w→∃j,j<m∧f (s*m+j)=t):∀r,(x.steps f (r*m)).M+r≤x.M∨(x.steps f (r*m)).left=0
 |0=> .inl (by simp[Ph.steps])
 |r+1=>by
  have e:(r+1)*m=r*m+m:=Nat.succ_mul r m;have hi:=(steps_inv h hf (r*m)).1;rcases windows_end h hf m hall r with e1|e1
  ·rcases window_M hi (f:=fun j=>f (r*m+j)) (fun k=>hf _) m (fun t ht=>hall r t ht)with e2|e2
   ·left;rw[e,steps_add];omega
   ·right;rw[e,steps_add];exact steps_over hi (fun k=>hf _) e2 m
  ·right;rw[e,steps_add];exact steps_over hi (fun k=>hf _) e1 m
theorem windows_over (h:x.Inv w) (hf:∀k,f k<w) (m:Nat) (hall:∀s t,t<w→∃j,j<m∧f (s*m+j)=t):(x.steps f ((x.M+1)*m)).left=0:=by
 rcases windows_end h hf m hall (x.M+1)with e|e
 ·omega
 ·exact e
end
theorem M_start (n:Int) (w:Nat) (hn:0≤n):((ph0 n w).M:Int)=2*n+3*w:=by
 have:((List.replicate w Stp.claim).map Stp.wt).sum=3*w:=by
  rw[List.map_replicate,List.sum_replicate_nat];simp[Stp.wt,Nat.mul_comm]
 simp only[Ph.M,ph0];rw[this];omega
theorem least {P:Nat→Prop} (hd:∀n,P n∨¬P n):∀n,P n→∃m,m≤n∧P m∧∀j,j<m→¬P j:=by
 intro n
 induction n using Nat.strongRecOn with
 |ind n ih=>
  intro h;by_cases h2:∃j,j<n∧P j
  ·obtain⟨j,hj,hp⟩:=h2;obtain⟨m,h3,h4,h5⟩:=ih j hj hp;exact⟨m,by omega,h4,h5⟩
  ·exact⟨n,Nat.le_refl _,h,fun j hj hp=>h2 ⟨j,hj,hp⟩⟩
theorem left_nonneg {x:Ph} {w:Nat} (h:x.Inv w):0≤x.left:=by
 have h1:=h.left;have h2:=List.countP_le_length (p:=Stp.isDone) (l:=x.st);have h3:=h.len;omega
theorem finish_ends (n:Int) (w:Nat) (l:List Int) (hn:0≤n) (hw:1≤w) (hr:∀p∈l,0≤p∧p<w):∃N:Nat,(N:Int)≤l.length+(2*n+3*w+1)*w∧((ph0 n w).steps (pickAt l w) N).left=0∧∀j,j<N→0<((ph0 n w).steps (pickAt l w) j).left:=by
 have hf:=pickAt_lt hw hr;have h0:=inv0 n w hn;have hi:=(steps_inv h0 hf l.length).1;have hall:∀s t,t<w→∃j,j<w∧pickAt l w (l.length+(s*w+j))=t:=fun s t ht=>⟨t,ht,by
  unfold pickAt;rw[if_neg (by omega),Nat.add_sub_cancel_left,Nat.add_comm,Nat.mul_comm,Nat.add_mul_mod_self_left,Nat.mod_eq_of_lt ht]⟩
 have hend:=windows_over hi (f:=fun j=>pickAt l w (l.length+j)) (fun k=>hf _) w hall;rw[←steps_add]at hend;have hM:=steps_M_le h0 hf l.length;have hM0:=M_start n w hn;obtain⟨m,h1,h2,h3⟩:=least (P:=fun N=>((ph0 n w).steps (pickAt l w) N).left=0) (fun _=>Decidable.em _) _ hend;refine⟨m,?_,h2,fun j hj=> ?_⟩
 ·have e1:(m:Int)≤((l.length+(((ph0 n w).steps (pickAt l w) l.length).M+1)*w:Nat):Int):=by exact_mod_cast h1
  rw[Int.natCast_add,Int.natCast_mul,Int.natCast_add]at e1;have e2:((((ph0 n w).steps (pickAt l w) l.length).M:Int)+(1:Nat))*(w:Int)≤(2*n+3*w+1)*w:=Int.mul_le_mul_of_nonneg_right (by omega) (by omega);omega
 ·have:=left_nonneg (steps_inv h0 hf j).1;have:=h3 j hj;omega
structure Ph.Once (x:Ph) (w:Nat):Prop where
 rng:∀p∈x.pairs,0≤p.1∧p.1<x.c∧p.1<x.n∧0≤p.2∧p.2<w
 held:∀k t,x.st.getD k .done= .work t→0≤t∧t<x.c∧t<x.n
 held2:∀k k' t,x.st.getD k .done= .work t→x.st.getD k' .done= .work t→k=k'
 apart:∀k t,x.st.getD k .done= .work t→∀p∈x.pairs,p.1≠t∧(p.2=(k:Int)→p.1<t)
 incr:x.pairs.Pairwise (fun p q=>p.1≠q.1∧(p.2=q.2→p.1<q.1))
theorem once0 (n:Int) (w:Nat):(ph0 n w).Once w:=by
 have e:∀k t,(ph0 n w).st.getD k .done≠ .work t:=fun k t=>by
  simp only[ph0,List.getD_eq_getElem?_getD,List.getElem?_replicate]
  split<;>simp
 exact⟨by simp[ph0],fun k t h=>absurd h (e k t),fun k _ t h=>absurd h (e k t),fun k t h=>absurd h (e k t),by simp[ph0]⟩
theorem stp_getD_set {l:List Stp} {k:Nat} (hk:k<l.length) (u:Stp) (j:Nat):(l.set k u).getD j .done=if k=j then u else l.getD j .done:=by
 simp only[List.getD_eq_getElem?_getD,List.getElem?_set];by_cases e:k=j
 ·rw[if_pos e,if_pos e];subst e;rw[if_pos hk];rfl
 ·rw[if_neg e,if_neg e]
theorem pick_once {x:Ph} {w:Nat} (h:x.Inv w) (ho:x.Once w) (k:Nat) (hk:k<w):(x.pick k).Once w:=by
 have hk':k<x.st.length:=by rw[h.len];exact hk
 obtain⟨h1,h2,h3,h4,h5⟩:=ho;have hc:=h.c0;have hnw:∀(u:Stp) (j:Nat) (t:Int),(∀t,u≠ .work t)→(x.st.set k u).getD j .done= .work t→k≠j∧x.st.getD j .done= .work t:=fun u j t hu e=>by
  rw[stp_getD_set hk']at e;by_cases ek:k=j
  ·rw[if_pos ek]at e;exact absurd e (hu t)
  ·rw[if_neg ek]at e;exact⟨ek,e⟩
 unfold Ph.pick;rw[getD_of hk'];cases e:x.st[k]with
 |claim=>
  simp only
  split
  ·rename_i hcn;have hw:∀j t,(x.st.set k (.work x.c)).getD j .done= .work t→(k=j∧t=x.c)∨(k≠j∧x.st.getD j .done= .work t):=fun j t e=>by
    rw[stp_getD_set hk']at e;by_cases ek:k=j
    ·rw[if_pos ek]at e
     injection e with e
     exact .inl ⟨ek,e.symm⟩
    ·rw[if_neg ek]at e;exact .inr ⟨ek,e⟩
   refine⟨fun p hp=> ?_,fun j t ht=> ?_,fun j j' t ht ht'=> ?_,fun j t ht p hp=> ?_,h5⟩
   ·have:=h1 p hp;simp only;omega
   ·rcases hw j t ht with ⟨_,rfl⟩|⟨_,e2⟩
    ·simp only;omega
    ·have:=h2 j t e2;simp only;omega
   ·rcases hw j t ht with ⟨e1,e2⟩|⟨e1,e2⟩
    ·rcases hw j' t ht' with ⟨e3,e4⟩|⟨e3,e4⟩
     ·omega
     ·have:=h2 j' t e4;omega
    ·rcases hw j' t ht' with ⟨e3,e4⟩|⟨e3,e4⟩
     ·have:=h2 j t e2;omega
     ·exact h3 j j' t e2 e4
   ·rcases hw j t ht with ⟨e1,e2⟩|⟨e1,e2⟩
    ·have:=h1 p hp;omega
    ·exact h4 j t e2 p hp
  ·refine⟨fun p hp=> ?_,fun j t ht=> ?_,fun j j' t ht ht'=> ?_,fun j t ht p hp=> ?_,h5⟩
   ·have:=h1 p hp;simp only;omega
   ·have:=h2 j t (hnw _ j t (fun _ e=>by cases e) ht).2;simp only;omega
   ·exact h3 j j' t (hnw _ j t (fun _ e=>by cases e) ht).2 (hnw _ j' t (fun _ e=>by cases e) ht').2
   ·exact h4 j t (hnw _ j t (fun _ e=>by cases e) ht).2 p hp
 |work t0=>
  simp only;have hx:x.st.getD k .done= .work t0:=by rw[getD_of hk',e]
  have g2:=h2 k t0 hx;refine⟨fun p hp=> ?_,fun j t ht=> ?_,fun j j' t ht ht'=> ?_,fun j t ht p hp=> ?_,?_⟩
  ·rcases List.mem_append.1 hp with hp|hp
   ·exact h1 p hp
   ·obtain rfl:=List.mem_singleton.1 hp;simp only;omega
  ·exact h2 j t (hnw _ j t (fun _ e=>by cases e) ht).2
  ·exact h3 j j' t (hnw _ j t (fun _ e=>by cases e) ht).2 (hnw _ j' t (fun _ e=>by cases e) ht').2
  ·obtain⟨q1,q2⟩:=hnw _ j t (fun _ e=>by cases e) ht;rcases List.mem_append.1 hp with hp|hp
   ·exact h4 j t q2 p hp
   ·obtain rfl:=List.mem_singleton.1 hp;refine⟨fun e=> ?_,fun e=> ?_⟩
    ·simp only at e;subst e;exact q1 (h3 k j t0 hx q2)
    ·simp only at e;omega
  ·rw[List.pairwise_append];refine⟨h5,by simp,fun p hp q hq=> ?_⟩;obtain rfl:=List.mem_singleton.1 hq;exact⟨(h4 k t0 hx p hp).1,(h4 k t0 hx p hp).2⟩
 |arrive=>
  simp only;exact⟨h1,fun j t ht=>h2 j t (hnw _ j t (fun _ e=>by cases e) ht).2,fun j j' t ht ht'=>h3 j j' t (hnw _ j t (fun _ e=>by cases e) ht).2 (hnw _ j' t (fun _ e=>by cases e) ht').2,fun j t ht p hp=>h4 j t (hnw _ j t (fun _ e=>by cases e) ht).2 p hp,h5⟩
 |wait=>
  simp only
  split
  ·exact⟨h1,fun j t ht=>h2 j t (hnw _ j t (fun _ e=>by cases e) ht).2,fun j j' t ht ht'=>h3 j j' t (hnw _ j t (fun _ e=>by cases e) ht).2 (hnw _ j' t (fun _ e=>by cases e) ht').2,fun j t ht p hp=>h4 j t (hnw _ j t (fun _ e=>by cases e) ht).2 p hp,h5⟩
  ·exact⟨h1,h2,h3,h4,h5⟩
 |done=>exact⟨h1,h2,h3,h4,h5⟩
theorem steps_once {x:Ph} {w:Nat} (h:x.Inv w) (ho:x.Once w) {f:Nat→Nat} (hf:∀k,f k<w):∀m,(x.steps f m).Once w
 |0=>ho
 |m+1=>pick_once (steps_inv h hf m).1 (steps_once h ho hf m) _ (hf m)
end
end Go.Proofs.YtfnimdhghglanaaGreat.Hand
end
