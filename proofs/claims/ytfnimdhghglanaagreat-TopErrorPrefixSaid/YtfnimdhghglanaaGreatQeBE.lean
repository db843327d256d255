/- TopErrorPrefix, part 31 of 41; no condition. (Printed from the session's own texts: what is not used left out, spaces spared.) -/
import Derived.Test.YtfnimdhghglanaaGreatQeAB
import Derived.Test.YtfnimdhghglanaaGreatQeAD
import Derived.Deep.RegionWith
import Derived.Deep.RegionLaw
import Derived.BigRegion
import Derived.Lib.SliceRun
set_option maxRecDepth 100000
set_option maxHeartbeats 8000000
set_option linter.unusedVariables false
set_option linter.unusedSimpArgs false
section
namespace Go.Proofs.YtfnimdhghglanaaGreat.Hand
open Go.RowKit Go.Proofs.YtfnimdhghglanaaGreatW.PrintWords Go.Proofs.YtfnimdhghglanaaGreatW.PrintLast Go.Proofs.YtfnimdhghglanaaGreatW.PrintMore
attribute [local go_sem] max2_int min2_int max_two min_two max_three min_three max_four min_four
section
section
variable {W:World} {base g gw gm:Nat} {log:List Acc} {c a:Int}
theorem below_ofDrew {W W':World} {b:Nat} (h:Below b W.drew W'):Below b W W':=⟨h.os,h.tape,h.output,h.size,h.block⟩
theorem wrap_in {z:Int} (h0:0≤z) (h1:z≤1000000000):wrap64 z=z:=by unfold wrap64;omega
theorem fit_of (hl:log.length≤1000000):(⟨log,0,[c,a],[]⟩:St).fit:=⟨by simp,by simp,hl,by simp,by simp⟩
theorem padd0 (h:Is W base g gw gm ⟨log,0,[c,a],[]⟩) (hl:log.length≤1000000) (h0:0≤c) (h1:c≤1000000) (th:Int):
  Calls Tryz.prog 91 #[.pointer (some ⟨g,0,none⟩),.int .i64 th,.int .i64 0,.int .i64 1] W fun e w'=>e= .returned (.int .i64 (c+1))∧∃log',log'.length=log.length+1∧Left W w' base g gw gm ⟨log',0,[c+1,a],[]⟩:=by
 have h2:=add_calls h (fit_of hl) th 0 1;have e:(⟨log,0,[c,a],[]⟩:St).add th 0 1=(⟨log++[⟨th,2,0,c,c+1,true⟩],0,[c+1,a],[]⟩,c+1):=by
  unfold St.add;rw[if_pos (by unfold inL;simp)];have e1:rd [c,a] 0=c:=rfl;simp only[St.upd,e1,wrap_in (show 0≤c+1 by omega) (by omega)];rfl
 rw[e]at h2;exact h2.mono fun e w' ⟨he,hl⟩=>⟨he,_,by simp,hl⟩
theorem padd1 (h:Is W base g gw gm ⟨log,0,[c,a],[]⟩) (hl:log.length≤1000000) (h0:0≤a) (h1:a≤1000000) (th:Int):
  Calls Tryz.prog 91 #[.pointer (some ⟨g,0,none⟩),.int .i64 th,.int .i64 1,.int .i64 1] W fun e w'=>e= .returned (.int .i64 (a+1))∧∃log',log'.length=log.length+1∧Left W w' base g gw gm ⟨log',0,[c,a+1],[]⟩:=by
 have h2:=add_calls h (fit_of hl) th 1 1;have e:(⟨log,0,[c,a],[]⟩:St).add th 1 1=(⟨log++[⟨th,2,1,a,a+1,true⟩],0,[c,a+1],[]⟩,a+1):=by
  unfold St.add;rw[if_pos (by unfold inL;simp)];have e1:rd [c,a] 1=a:=rfl;simp only[St.upd,e1,wrap_in (show 0≤a+1 by omega) (by omega)];rfl
 rw[e]at h2;exact h2.mono fun e w' ⟨he,hl⟩=>⟨he,_,by simp,hl⟩
theorem pload1 (h:Is W base g gw gm ⟨log,0,[c,a],[]⟩) (hl:log.length≤1000000) (th:Int):
  Calls Tryz.prog 130 #[.pointer (some ⟨g,0,none⟩),.int .i64 th,.int .i64 1] W fun e w'=>e= .returned (.int .i64 a)∧∃log',log'.length=log.length+1∧Left W w' base g gw gm ⟨log',0,[c,a],[]⟩:=by
 have h2:=load_calls h (fit_of hl) th 1;have e:(⟨log,0,[c,a],[]⟩:St).load th 1=(⟨log++[⟨th,1,1,a,a,true⟩],0,[c,a],[]⟩,a):=by
  unfold St.load;rw[if_pos (by unfold inL;simp)];rfl
 rw[e]at h2;exact h2.mono fun e w' ⟨he,hl⟩=>⟨he,_,by simp,hl⟩
end
section
variable {W W':World} {base g gw gm gp gn L:Nat} {vp:Value} {x:Ph}
theorem pool_add0 (h:Pool W base g gw gm gp gn vp L x) (hL:L≤100000) (h0:0≤x.c) (h1:x.c≤1000000) (th:Int):
  Calls Tryz.prog 91 #[.pointer (some ⟨g,0,none⟩),.int .i64 th,.int .i64 0,.int .i64 1] W fun e w'=>e= .returned (.int .i64 (x.c+1))∧Pool w' base g gw gm gp gn vp (L+1) {x with c:=x.c+1}∧Below base W w':=by
 obtain⟨log,hl,hi⟩:=h.is;refine(padd0 hi (by omega) h0 h1 th).mono ?_;rintro e w' ⟨he,log',hl',l⟩;exact⟨he,h.mem l (by omega),l.bl⟩
theorem pool_add1 (h:Pool W base g gw gm gp gn vp L x) (hL:L≤100000) (h0:0≤x.a) (h1:x.a≤1000000) (th:Int):
  Calls Tryz.prog 91 #[.pointer (some ⟨g,0,none⟩),.int .i64 th,.int .i64 1,.int .i64 1] W fun e w'=>e= .returned (.int .i64 (x.a+1))∧Pool w' base g gw gm gp gn vp (L+1) {x with a:=x.a+1}∧Below base W w':=by
 obtain⟨log,hl,hi⟩:=h.is;refine(padd1 hi (by omega) h0 h1 th).mono ?_;rintro e w' ⟨he,log',hl',l⟩;exact⟨he,h.mem l (by omega),l.bl⟩
theorem pool_load (h:Pool W base g gw gm gp gn vp L x) (hL:L≤100000) (th:Int) {z:Int} (hz:x.a=z):
  Calls Tryz.prog 130 #[.pointer (some ⟨g,0,none⟩),.int .i64 th,.int .i64 1] W fun e w'=>e= .returned (.int .i64 z)∧Pool w' base g gw gm gp gn vp (L+1) x∧Below base W w':=by
 obtain⟨log,hl,hi⟩:=h.is;subst hz;refine(pload1 hi (by omega) th).mono ?_;rintro e w' ⟨he,log',hl',l⟩;exact⟨he,h.mem l (by omega),l.bl⟩
theorem Bx.grown (h:Pool W base g gw gm gp gn vp L x) {k t:Nat} {u:Value} (hb:Bx W g gw gm k t u) (ht:t=TPtr∨t=3) (hg:W.grownBy W' vp.ownBlock):W'.cell? ⟨k,0,none⟩=some u:=by
 have e:W'.heap[k]?=W.heap[k]?:=hg.block k hb.far.lt (fun e=>by
  obtain⟨cs2,h2⟩:=Kd.R_typed h.prs _ e.symm;rcases ht with rfl|rfl
  ·exact ne_type hb.blk h2 (by decide) rfl
  ·exact ne_type hb.blk h2 (by decide) rfl)
 simp[World.cell?,e,hb.blk]
theorem work_calls (gp:Nat) (t:Int) (W:World):
  Calls Tryz.prog 92 #[.pointer (some ⟨gp,0,none⟩),.int .i64 t] W fun e w'=>e= .returned (.func (.func 114) #[] #[.pointer (some ⟨W.heap.size,0,none⟩),.pointer (some ⟨W.heap.size+1,0,none⟩)])∧
   w'=(W.alloc (.cells #[.pointer (some ⟨gp,0,none⟩)] TPtr)).alloc (.cells #[.int .i64 t] 3):=by
 go_enter Tryz.func92,Tryz.ntmps92
 go_wp2
 go_ret;exact⟨by simp,rfl⟩
theorem work_is (h:Pool W base g gw gm gp gn vp L x) (t:Int):
  Pool ((W.alloc (.cells #[.pointer (some ⟨gp,0,none⟩)] TPtr)).alloc (.cells #[.int .i64 t] 3)) base g gw gm gp gn vp L x∧StepIs ((W.alloc (.cells #[.pointer (some ⟨gp,0,none⟩)] TPtr)).alloc (.cells #[.int .i64 t] 3)) g gw gm gp (.work t) (.func (.func 114) #[] #[.pointer (some ⟨W.heap.size,0,none⟩),.pointer (some ⟨W.heap.size+1,0,none⟩)]):=by
 have hb:Below W.heap.size W ((W.alloc (.cells #[.pointer (some ⟨gp,0,none⟩)] TPtr)).alloc (.cells #[.int .i64 t] 3)):=below_alloc (below_alloc (Below.refl _ _) _) _;refine⟨h.below hb,_,_,rfl,⟨?_,h.far hb (Nat.le_refl _) (by simp;omega)⟩,⟨?_,h.far hb (by omega) (by simp)⟩⟩
 ·show((W.heap.push _).push _)[_]?=_;rw[Array.getElem?_push,if_neg (by simp)];exact push_get rfl
 ·show((W.heap.push _).push _)[_]?=_;exact push_get (by simp)
theorem claim_yes (h:Pool W base g gw gm gp gn vp L x) (hL:L≤100000) (h0:0≤x.c) (h1:x.c≤1000000) (th:Int) (hn:x.c+1≤x.n):
  Calls Tryz.prog 60 #[.pointer (some ⟨gp,0,none⟩),.int .i64 th] W fun e w'=>∃v,e= .returned v∧Pool w' base g gw gm gp gn vp (L+1) {x with c:=x.c+1}∧StepIs w' g gw gm gp (.work x.c) v∧Below base W w':=by
 have HP:=Aside0.mk h;obtain⟨c0,_,_,_,_,_⟩:=h.cells;have d1:decide (x.c+1≤x.n)=true:=decide_eq_true hn;clear h;obtain⟨n,c,a,st,pairs,left,picks⟩:=x;simp only at c0 d1 h0 h1 hn ⊢;clear hn;go_enter Tryz.func60,Tryz.ntmps60
 go_wp2_with (first|(go_at_call 91;(with_reducible refine(pool_add0 HP.out hL h0 h1 th).mono ?_);rintro e w1 ⟨rfl,hp,hb⟩;obtain⟨_,c1,_,_,_,_⟩:=hp.cells;simp only at c1;have HP1:=Aside0.mk hp;have HB1:=Aside0.mk hb;clear hp hb)|(go_at_call 92;(with_reducible refine(work_calls gp _ _).mono ?_);rintro e w2 ⟨rfl,rfl⟩))
 go_ret;obtain⟨k1,k2⟩:=work_is HP1.out c;exact⟨_,rfl,k1,k2,HB1.out.trans ((below_alloc (below_alloc (Below.refl _ _) _) _).mono HP1.out.bs)⟩
theorem claim_no (h:Pool W base g gw gm gp gn vp L x) (hL:L≤100000) (h0:0≤x.c) (h1:x.c≤1000000) (th:Int) (hn:¬x.c+1≤x.n):
  Calls Tryz.prog 60 #[.pointer (some ⟨gp,0,none⟩),.int .i64 th] W fun e w'=>∃v,e= .returned v∧Pool w' base g gw gm gp gn vp (L+1) {x with c:=x.c+1}∧StepIs w' g gw gm gp .arrive v∧Below base W w':=by
 have HP:=Aside0.mk h;obtain⟨c0,_,_,_,_,_⟩:=h.cells;have d1:decide (x.c+1≤x.n)=false:=decide_eq_false hn;clear h;obtain⟨n,c,a,st,pairs,left,picks⟩:=x;simp only at c0 d1 h0 h1 hn ⊢;clear hn;go_enter Tryz.func60,Tryz.ntmps60
 go_wp2_with (first|(go_at_call 91;(with_reducible refine(pool_add0 HP.out hL h0 h1 th).mono ?_);rintro e w1 ⟨rfl,hp,hb⟩;obtain⟨_,c1,_,_,_,_⟩:=hp.cells;simp only at c1;have HP1:=Aside0.mk hp;have HB1:=Aside0.mk hb;clear hp hb))
 go_ret;exact⟨_,rfl,HP1.out,rfl,HB1.out⟩
theorem arrive_calls (h:Pool W base g gw gm gp gn vp L x) (hL:L≤100000) (h0:0≤x.a) (h1:x.a≤1000000) (th:Int):
  Calls Tryz.prog 93 #[.pointer (some ⟨gp,0,none⟩),.int .i64 th] W fun e w'=>∃v,e= .returned v∧Pool w' base g gw gm gp gn vp (L+1) {x with a:=x.a+1}∧StepIs w' g gw gm gp .wait v∧Below base W w':=by
 have HP:=Aside0.mk h;obtain⟨c0,_,_,_,_,_⟩:=h.cells;clear h;obtain⟨n,c,a,st,pairs,left,picks⟩:=x;simp only at c0 h0 h1 ⊢;go_enter Tryz.func93,Tryz.ntmps93
 go_wp2_with (first|(go_at_call 91;(with_reducible refine(pool_add1 HP.out hL h0 h1 th).mono ?_);rintro e w1 ⟨rfl,hp,hb⟩;have HP1:=Aside0.mk hp;have HB1:=Aside0.mk hb;clear hp hb))
 go_ret;exact⟨_,rfl,HP1.out,rfl,HB1.out⟩
theorem wait_no (h:Pool W base g gw gm gp gn vp L x) (hL:L≤100000) (th:Int) (hs:x.st.length≤1000000) (ha:x.a≠x.st.length):
  Calls Tryz.prog 115 #[.pointer (some ⟨gp,0,none⟩),.int .i64 th] W fun e w'=>∃v,e= .returned v∧Pool w' base g gw gm gp gn vp (L+1) x∧StepIs w' g gw gm gp .wait v∧Below base W w':=by
 have HP:=Aside0.mk (h.below (below_drew1 (Below.refl _ _)));have hbs:=Aside0.mk h.bs;obtain⟨c0,_,c2,_,_,_⟩:=h.cells;obtain⟨m,hm⟩:∃m,x.st.length=m:=⟨_,rfl⟩;obtain⟨z,hz⟩:∃z,x.a=z:=⟨_,rfl⟩;rw[hm]at ha c2 hs;rw[hz]at ha;have HZ:=Aside0.mk hz;have HMM:=Aside0.mk hm;have d1:(z==(m:Int))=false:=beq_eq_false_iff_ne.2 ha;have d2:(z != (m:Int))=true:=bne_iff_ne.2 ha;clear h ha hm hz;go_enter Tryz.func115,Tryz.ntmps115
 go_wp2_with (fail)
 go_region_with (first|(go_at_call 130;(with_reducible refine(pool_load HP.out hL th HZ.out).mono ?_);rintro e w1 ⟨rfl,hp,hb⟩;obtain⟨_,_,e2,_,e4,_⟩:=hp.cells;rw[HMM.out]at e2;have f4:=hp.free 4;have HP1:=Aside0.mk hp;have HB1:=Aside0.mk (below_ofDrew hb);clear hp hb))
 all_goals go_wp2_with (fail)
 all_goals go_ret
 all_goals exact⟨_,rfl,HP1.out,rfl,HB1.out⟩
theorem wait_yes (h:Pool W base g gw gm gp gn vp L x) (hL:L≤100000) (th:Int) (hs:x.st.length≤1000000) (ha:x.a=x.st.length) (hl0:0≤x.left) (hl1:x.left≤1000000):
  Calls Tryz.prog 115 #[.pointer (some ⟨gp,0,none⟩),.int .i64 th] W fun e w'=>∃v,e= .returned v∧Pool w' base g gw gm gp gn vp (L+1) {x with left:=x.left-1}∧StepIs w' g gw gm gp .done v∧Below base W w':=by
 have HP:=Aside0.mk (h.below (below_drew1 (Below.refl _ _)));have hbs:=Aside0.mk h.b1;obtain⟨c0,_,c2,_,_,_⟩:=h.cells;obtain⟨m,hm⟩:∃m,x.st.length=m:=⟨_,rfl⟩;obtain⟨lf,hlf⟩:∃m,x.left=m:=⟨_,rfl⟩;rw[hm]at ha c2 hs;rw[hlf]at hl0 hl1 ⊢;have HZ:=Aside0.mk ha;have HMM:=Aside0.mk hm;have HLF:=Aside0.mk hlf;have d1:((m:Int)==(m:Int))=true:=beq_self_eq_true _;have d2:((m:Int) != (m:Int))=false:=by simp
 clear h ha hm hlf;go_enter Tryz.func115,Tryz.ntmps115
 go_wp2_with (fail)
 go_region_with (first|(go_at_call 130;(with_reducible refine(pool_load HP.out hL th HZ.out).mono ?_);rintro e w1 ⟨rfl,hp,hb⟩;obtain⟨_,_,e2,_,e4,_⟩:=hp.cells;rw[HMM.out]at e2;rw[HLF.out]at e4;have f4:=hp.free 4;have HP1:=Aside0.mk hp;have HB1:=Aside0.mk (below_ofDrew hb);clear hp hb))
 all_goals go_wp2_with (fail)
 all_goals go_ret
 all_goals exact⟨_,rfl,HP1.out.setLeft _,rfl,HB1.out.trans (below_set_ hbs.out _)⟩
theorem work1_calls (h:Pool W base g gw gm gp gn vp L x) (th t:Int) (b1 b2:Nat) (hx1:Bx W g gw gm b1 TPtr (.pointer (some ⟨gp,0,none⟩))) (hx2:Bx W g gw gm b2 3 (.int .i64 t)) (hp:x.pairs.length≤1000000):
  Calls Tryz.prog 114 #[.int .i64 th,.pointer (some ⟨b1,0,none⟩),.pointer (some ⟨b2,0,none⟩)] W fun e w'=>∃v vp',e= .returned v∧Pool w' base g gw gm gp gn vp' L {x with pairs:=x.pairs++[(t,th)]}∧StepIs w' g gw gm gp .claim v∧Below base W w':=by
 have HBD:=Aside0.mk (h.below (below_drew1 (Below.refl _ _)));have hbs:=Aside0.mk h.bs;have p3:=h.cells.2.2.2.1;have p1:W.cell? ⟨b1,0,none⟩=some (.pointer (some ⟨gp,0,none⟩)):=by simp[World.cell?,hx1.blk]
 have p2:W.cell? ⟨b2,0,none⟩=some (.int .i64 t):=by simp[World.cell?,hx2.blk]
 have ca1:∀o,(W.drew.alloc o).cell? ⟨b1,0,none⟩=some (.pointer (some ⟨gp,0,none⟩)):=fun o=>((below_alloc (Below.refl W.heap.size _) o).cell (p:=⟨b1,0,none⟩) hx1.far.lt).trans p1;have ca2:∀o,(W.drew.alloc o).cell? ⟨b2,0,none⟩=some (.int .i64 t):=fun o=>((below_alloc (Below.refl W.heap.size _) o).cell (p:=⟨b2,0,none⟩) hx2.far.lt).trans p2;have ca3:∀o,(W.drew.alloc o).cell? ⟨gp,3,none⟩=some vp:=fun o=>((below_alloc (Below.refl W.heap.size _) o).cell (p:=⟨gp,3,none⟩) h.lt).trans p3;have HX1:=Aside0.mk (Bx.mk (W:=W.drew) hx1.blk (hx1.far.keep (Nat.le_refl _) rfl))
 have HX2:=Aside0.mk (Bx.mk (W:=W.drew) hx2.blk (hx2.far.keep (Nat.le_refl _) rfl));have HLL:=Aside0.mk hp;clear h hx1 hx2 hp;obtain⟨n,c,a,st,pairs,left,picks⟩:=x;simp only at HBD HLL ⊢;go_enter Tryz.func114,Tryz.ntmps114
 go_wp2_with (fail)
 refine sz_ 13 (S:=fun w'=>w'.cell? ⟨b1,0,none⟩=some (.pointer (some ⟨gp,0,none⟩))∧w'.cell? ⟨gp,3,none⟩=some vp∧w'.cell? ⟨b2,0,none⟩=some (.int .i64 t)) (ds:=[12]) ⟨p1,p3,p2⟩ (fun hHeld=> ?_);refine pz_ 6 11 13 64 ?_;refine tz_ 0 5 13 65 hHeld ?_;refine tz_ 1 6 13 67 hHeld ?_;refine pz_ 2 7 13 71 ?_;refine pz_ 3 8 13 79 ?_;refine tz_ 4 9 13 95 hHeld ?_;refine tz_ 5 10 13 127 hHeld ?_;refine pz_ 7 12 13 255 ?_;refine one_ (i:=8) (N:=some 13) (bv 13 511) rfl rfl (by kernel_rfl) (by decide) (fun K hK=> ?_);refine value_ (w1:= ?_) (v:= ?_) (by rfl) rfl ?_ ?_;rotate_left 2
 ·go_simp;constructor
  ·rfl
  ·rfl
 refine hK.out _ _ ⟨ca1 _,ca3 _,ca2 _⟩ (fun hHeld=> ?_);clear hK K;refine norm_ (a':= ?_) ?_ ?_;rotate_left
 ·show Act.put _ (some 13) _=_;simp only[Act.put,List.setIfInBounds_toArray,List.set_cons_zero,List.set_cons_succ,i64_w,i32_w];rfl
 refine one_ (i:=9) (N:=some 14) (bv 13 1023) rfl rfl (by kernel_rfl) (by decide) (fun K hK=> ?_);refine Kd.R_append_step kP (w0:=W) base (by rfl) (.tmp 9) (.tmp 13) 42 TPair (.agg #[.int .i64 0,.int .i64 0]) 16 rfl Tryz.underlying42 infoPair rfl (by decide) (by omega) vp pairs (t,th) [.int .i64 t,.int .i64 th] (fun _=>True) (fun _=>False) rfl rfl (kP_mkM _ _ _ _) (fun _ hk=>hk.elim) (fun _ _=>trivial) HBD.out.prs (below_drew1 (Below.refl _ _)) hbs.out (by have:=HLL.out;omega) ?_;intro v1 w1 hv1 hb1 hg1 hat1;obtain⟨A1,k1,rfl⟩:=Kd.R_slice hv1;obtain⟨z1,z2,z3⟩:=HBD.out.push hv1 hg1 hat1
 have hc1:w1.cell? ⟨gp,3,none⟩=some vp:=by simp only[World.cell?,hg1.block gp HBD.out.lt HBD.out.pne.1];exact HBD.out.cells.2.2.2.1
 have hf1:w1.frozen? ⟨gp,3,none⟩=false:=by simp only[World.frozen?,hg1.block gp HBD.out.lt HBD.out.pne.1];exact HBD.out.free 3
 rw[List.length_append,List.length_cons,List.length_nil]at z1 z2 z3 ⊢;have HZ1:=Aside0.mk z1;have HZ2:=Aside0.mk (below_ofDrew z2);have HZ3:=Aside0.mk z3;have hcb1:=HX1.out.grown HBD.out (.inl rfl) hg1;have hcb2:=HX2.out.grown HBD.out (.inr rfl) hg1;clear hv1 hb1 hg1 hat1 z1 z2 z3;refine hK.out _ _ ⟨hcb1,hc1,hcb2⟩ (fun hHeld=> ?_);clear hK K;refine norm_ (a':= ?_) ?_ ?_;rotate_left
 ·show Act.put _ (some 14) _=_;simp only[Act.put,List.setIfInBounds_toArray,List.set_cons_zero,List.set_cons_succ,i64_w,i32_w];rfl
 refine pz_ 10 15 13 2047 ?_;refine pz_ 11 16 13 4095 ?_;refine last_ (i:=12) (N:=none) (bv 13 8191) rfl rfl (by kernel_rfl) (by decide) (fun K hK=> ?_);refine skip_ (w1:= ?_) (by rfl) rfl ?_ ?_;rotate_left
 ·go_simp;rfl
 refine hK.out _ _ ?_;clear hK K;refine done_ (by kernel_rfl) ?_;have bx:=HZ3.out b1 _ _ (.inl rfl) HX1.out;obtain⟨w9,hw9⟩:∃w9,w1.setCell ⟨gp,3,none⟩ (.slice A1 (pairs.length+1) k1)=w9:=⟨_,rfl⟩;rw[hw9]at HZ1 HZ2 bx ⊢;clear hw9 hc1 hf1 hcb1 hcb2 HZ3 HX1 HX2 ca1 ca2 ca3 p1 p2 p3;have r1:w9.cell? ⟨b1,0,none⟩=some (.pointer (some ⟨gp,0,none⟩)):=by simp[World.cell?,bx.blk]
 clear bx
 go_wp2_with (fail)
 go_ret;exact⟨_,rfl,⟨_,HZ1.out⟩,rfl,HZ2.out⟩
end
end
end Go.Proofs.YtfnimdhghglanaaGreat.Hand
end
section
namespace Go.Proofs.YtfnimdhghglanaaGreat.Hand
def Ph.pick (x:Ph) (k:Nat):Ph:=
 match x.st.getD k .done with
 | .claim=>if x.c+1≤x.n then{x with c:=x.c+1,st:=x.st.set k (.work x.c),picks:=x.picks+1}else{x with c:=x.c+1,st:=x.st.set k .arrive,picks:=x.picks+1}
 | .work t=>{x with pairs:=x.pairs++[(t,(k:Int))],st:=x.st.set k .claim,picks:=x.picks+1}
 | .arrive=>{x with a:=x.a+1,st:=x.st.set k .wait,picks:=x.picks+1}
 | .wait=>if x.a=x.st.length then{x with left:=x.left-1,st:=x.st.set k .done,picks:=x.picks+1}else{x with picks:=x.picks+1}
 | .done=>{x with picks:=x.picks+1}
def ph0 (n:Int) (w:Nat):Ph:=⟨n,0,0,List.replicate w .claim,[],w,0⟩
def Ph.run (x:Ph) (l:List Int):Ph:=l.foldl (fun x p=>x.pick p.toNat) x
def Stp.isWork:Stp→Bool| .work _=>true|_=>false
def Stp.isDone:Stp→Bool| .done=>true|_=>false
def Stp.past:Stp→Bool| .wait=>true| .done=>true|_=>false
def Stp.late:Stp→Bool| .arrive=>true| .wait=>true| .done=>true|_=>false
structure Ph.Inv (x:Ph) (w:Nat):Prop where
 len:x.st.length=w
 n0:0≤x.n
 c0:0≤x.c
 p0:0≤x.picks
 cp:x.c≤x.picks
 a:x.a=x.st.countP Stp.past
 left:x.left+x.st.countP Stp.isDone=w
 held:(x.pairs.length:Int)+x.st.countP Stp.isWork=min x.c x.n
 two:2*(x.pairs.length:Int)+x.st.countP Stp.isWork≤x.picks
 late:0<x.st.countP Stp.late→x.n<x.c
 full:0<x.st.countP Stp.isDone→x.a=w
theorem countP_set {α:Type} (f:α→Bool) (l:List α) (k:Nat) (h:k<l.length) (u:α):(l.set k u).countP f+(f l[k]).toNat=l.countP f+(f u).toNat:=by
 induction l generalizing k with
 |nil=>simp at h
 |cons y ys ih=>
  cases k with
  |zero=>
   simp only[List.set_cons_zero,List.countP_cons,List.getElem_cons_zero];cases f y<;>cases f u<;>simp<;>omega
  |succ k=>
   have:=ih k (by simpa using h);simp only[List.set_cons_succ,List.countP_cons,List.getElem_cons_succ];omega
theorem inv0 (n:Int) (w:Nat) (h:0≤n):(ph0 n w).Inv w:=by
 have e:∀f:Stp→Bool,f .claim=false→(List.replicate w Stp.claim).countP f=0:=fun f hf=>by
  rw[List.countP_eq_zero];intro a ha;rw[List.eq_of_mem_replicate ha,hf];simp
 have e1:=e Stp.past rfl;have e2:=e Stp.isDone rfl;have e3:=e Stp.isWork rfl;have e4:=e Stp.late rfl;refine⟨by simp[ph0],h,by simp[ph0],by simp[ph0],by simp[ph0],?_,?_,?_,?_,?_,?_⟩<;>simp only[ph0,List.length_nil]<;>omega
theorem getD_of {x:Ph} {k:Nat} (h:k<x.st.length):x.st.getD k .done=x.st[k]:=by simp[List.getD_eq_getElem?_getD,List.getElem?_eq_getElem h]
theorem pick_inv {x:Ph} {w:Nat} (h:x.Inv w) (k:Nat) (hk:k<w):(x.pick k).Inv w:=by
 obtain⟨h1,h2,h3,h4,h5,h6,h7,h8,h9,h10,h11⟩:=h;have hk':k<x.st.length:=by omega
 have q:=fun f u=>countP_set f x.st k hk' u;unfold Ph.pick;rw[getD_of hk'];cases e:x.st[k]with
 |claim=>
  simp only
  split
  ·have q1:=q Stp.past (.work x.c);have q2:=q Stp.isDone (.work x.c);have q3:=q Stp.isWork (.work x.c);have q4:=q Stp.late (.work x.c);rw[e]at q1 q2 q3 q4;simp only[Stp.past,Stp.isDone,Stp.isWork,Stp.late,Bool.toNat_true,Bool.toNat_false]at q1 q2 q3 q4;refine⟨by simpa using h1,h2,by simp only;omega,by simp only;omega,by simp only;omega,by simp only;omega,by simp only;omega,by simp only;omega,by simp only;omega,by simp only;omega,by simp only;omega⟩
  ·have q1:=q Stp.past .arrive;have q2:=q Stp.isDone .arrive;have q3:=q Stp.isWork .arrive;have q4:=q Stp.late .arrive;rw[e]at q1 q2 q3 q4;simp only[Stp.past,Stp.isDone,Stp.isWork,Stp.late,Bool.toNat_true,Bool.toNat_false]at q1 q2 q3 q4;refine⟨by simpa using h1,h2,by simp only;omega,by simp only;omega,by simp only;omega,by simp only;omega,by simp only;omega,by simp only;omega,by simp only;omega,by simp only;omega,by simp only;omega⟩
 |work t=>
  simp only;have q1:=q Stp.past .claim;have q2:=q Stp.isDone .claim;have q3:=q Stp.isWork .claim;have q4:=q Stp.late .claim;rw[e]at q1 q2 q3 q4;simp only[Stp.past,Stp.isDone,Stp.isWork,Stp.late,Bool.toNat_true,Bool.toNat_false]at q1 q2 q3 q4;refine⟨by simpa using h1,h2,h3,by simp only;omega,by simp only;omega,by simp only;omega,by simp only;omega,by simp only[List.length_append,List.length_cons,List.length_nil];omega,by simp only[List.length_append,List.length_cons,List.length_nil];omega,by simp only;omega,by simp only;omega⟩
 |arrive=>
  simp only;have q1:=q Stp.past .wait;have q2:=q Stp.isDone .wait;have q3:=q Stp.isWork .wait;have q4:=q Stp.late .wait;rw[e]at q1 q2 q3 q4;simp only[Stp.past,Stp.isDone,Stp.isWork,Stp.late,Bool.toNat_true,Bool.toNat_false]at q1 q2 q3 q4;have hle:=List.countP_le_length (p:=Stp.past) (l:=x.st.set k .wait);rw[List.length_set]at hle;refine⟨by simpa using h1,h2,h3,by simp only;omega,by simp only;omega,by simp only;omega,by simp only;omega,by simp only;omega,by simp only;omega,by simp only;omega,fun hd=> ?_⟩;simp only at hd ⊢;have:=h11 (by omega);omega
 |wait=>
  simp only
  split
  ·rename_i ha;have q1:=q Stp.past .done;have q2:=q Stp.isDone .done;have q3:=q Stp.isWork .done;have q4:=q Stp.late .done;rw[e]at q1 q2 q3 q4;simp only[Stp.past,Stp.isDone,Stp.isWork,Stp.late,Bool.toNat_true,Bool.toNat_false]at q1 q2 q3 q4;refine⟨by simpa using h1,h2,h3,by simp only;omega,by simp only;omega,by simp only;omega,by simp only;omega,by simp only;omega,by simp only;omega,by simp only;omega,fun _=>by simp only;omega⟩
  ·exact⟨h1,h2,h3,by simp only;omega,by simp only;omega,h6,h7,h8,by simp only;omega,h10,h11⟩
 |done=>
  exact⟨h1,h2,h3,by simp only;omega,by simp only;omega,h6,h7,h8,by simp only;omega,h10,h11⟩
theorem pick_st {x:Ph} (k:Nat):(x.pick k).st.length=x.st.length∧(x.pick k).picks=x.picks+1∧(x.pick k).n=x.n:=by
 unfold Ph.pick
 (repeat' split)<;>simp
end Go.Proofs.YtfnimdhghglanaaGreat.Hand
end
section
namespace Go.Proofs.YtfnimdhghglanaaGreat.Hand
open Go.RowKit Go.Proofs.YtfnimdhghglanaaGreatW.PrintWords Go.Proofs.YtfnimdhghglanaaGreatW.PrintLast Go.Proofs.YtfnimdhghglanaaGreatW.PrintMore
attribute [local go_sem] max2_int min2_int max_two min_two max_three min_three max_four min_four
section
theorem eqIn_func (d:Nat) (f:Fn) (first cap:Array Value) (w:World):(Op.equalIn (d+1) TStep (.func f first cap) .nilFunc).run Tryz.prog w= .ok false w:=by
 simp[Op.equalIn,run_underlying Tryz.underlying112]
theorem eqIn_nil (d:Nat) (w:World):(Op.equalIn (d+1) TStep .nilFunc .nilFunc).run Tryz.prog w= .ok true w:=by
 simp[Op.equalIn,run_underlying Tryz.underlying112]
theorem neq_func (f:Fn) (first cap:Array Value) (w:World):(binOp .neq 112 (.func f first cap) .nilFunc).run Tryz.prog w= .ok (.bool true) w:=by
 simp only[binOp];simp[Op.equal,Op.maxDepth,eqIn_func 9999]
theorem neq_nil (w:World):(binOp .neq 112 .nilFunc .nilFunc).run Tryz.prog w= .ok (.bool false) w:=by
 simp only[binOp];simp[Op.equal,Op.maxDepth,eqIn_nil 9999]
attribute [local go_sem high] neq_func neq_nil
theorem st_func {P:Program} {a:Addr} {f:Fn} {x y:Array Value} {m:Mode} {w:World}:(store a (.func f x y) m).run P w=stored P w a (.func f x y) m:=run_store P w a _ m rfl
theorem st_nilF {P:Program} {a:Addr} {m:Mode} {w:World}:(store a .nilFunc m).run P w=stored P w a .nilFunc m:=run_store P w a _ m rfl
attribute [local go_sem] st_func st_nilF
section
variable {W W':World} {base g gw gm gp gn L:Nat} {vp:Value} {x:Ph}
theorem Pool.step (h:Pool W base g gw gm gp gn vp L x) (k:Nat) (hk:k<x.st.length) {s:Stp} (e:x.st[k]=s):∃v,W.cell? ⟨gn,k,none⟩=some v∧W.frozen? ⟨gn,k,none⟩=false∧StepIs W g gw gm gp s v:=by
 obtain⟨cs,h1,h2,h3⟩:=h.nxt;obtain⟨v,h4,h5⟩:=h3 k hk;rw[e]at h5;exact⟨v,by simp[World.cell?,h1,h4],by simp[World.frozen?,h1],h5⟩
structure Picked (W w':World) (base g gw gm gp gn L:Nat) (x:Ph):Prop where
 is:∃vp,Pool w' base g gw gm gp gn vp L x
 bl:Below base W w'
theorem Pool.up (h:Pool W base g gw gm gp gn vp L x):Pool W base g gw gm gp gn vp (L+1) x:=by
 obtain⟨⟨log,hl,hi⟩,h2,h3,h4,h5,h6,h7,h8,h9⟩:=h;exact⟨⟨log,by omega,hi⟩,h2,h3,h4,h5,h6,h7,h8,h9⟩
theorem pick_claim_yes (h:Pool W base g gw gm gp gn vp L x) (hL:L≤90000) (k:Nat) (hk:k<x.st.length) (e:x.st[k]= .claim) (hs:x.st.length≤64) (hp0:0≤x.picks) (hp1:x.picks≤100000) (hc0:0≤x.c) (hc1:x.c≤100000) (hcn:x.c+1≤x.n):
  Calls Tryz.prog 36 #[.pointer (some ⟨gp,0,none⟩),.int .i64 k] W fun e w'=>e= .returned (.tuple #[])∧Picked W w' base g gw gm gp gn (L+1) {x with c:=x.c+1,st:=x.st.set k (.work x.c),picks:=x.picks+1}:=by
 have hbs:=Aside0.mk h.b1;have hbn:=Aside0.mk h.b2;have c5:=h.cells.2.2.2.2.2;have f5:=h.free 5;have HP1:=h.setPicks (x.picks+1);have HB1:=Aside0.mk ((Below.refl base W).trans (below_set_ (W:=W) (j:=5) h.b1 (.int .i64 (x.picks+1))));clear h;obtain⟨n,c,a,st,pairs,left,picks⟩:=x;have HCN:=Aside0.mk (show c+1≤n from hcn);clear hcn;simp only at c5 HP1 HB1 hk e hs hp0 hp1 hc0 hc1 ⊢;obtain⟨m,hm⟩:∃m,st.length=m:=⟨_,rfl⟩;rw[hm]at hk hs;have HM:=Aside0.mk hm;have HE:=Aside0.mk e;have HK:=Aside0.mk hk;have HS:=Aside0.mk hs;clear hm e;go_enter Tryz.func36,Tryz.ntmps36;go_upto_region 1 with (fail)
 obtain⟨W1,hW1⟩:∃W1,W.setCell ⟨gp,5,none⟩ (.int .i64 (picks+1))=W1:=⟨_,rfl⟩;rw[hW1]at HP1 HB1 ⊢;clear hW1 c5 f5;have c2:=HP1.cells.2.2.1;simp only at c2;rw[HM.out]at c2;obtain⟨v,cn,fn,hv⟩:=HP1.step k (by rw[HM.out];exact hk) HE.out;obtain rfl:=hv;have HP:=Aside0.mk (HP1.below (below_drew1 (Below.refl _ _)));have HQ:=Aside0.mk HP1;clear HP1
 go_wp2_with (fail)
 go_region_with (first|(go_at_call 60;(with_reducible refine(claim_yes HP.out (by omega) hc0 (by simp only;omega) k HCN.out).mono ?_);rintro e w2 ⟨v2,rfl,hp,hst,hb⟩;have HS2:=Aside0.mk hst;obtain⟨q1,q2,rfl,_,_⟩:=hst;obtain⟨_,_,e2,_,_,_⟩:=hp.cells;simp only at e2;rw[HM.out]at e2;obtain⟨v3,cz,fz,_⟩:=hp.step k (by simp only;rw[HM.out];exact HK.out) rfl;have HP2:=Aside0.mk hp;have HB2:=Aside0.mk (HB1.out.trans (below_ofDrew hb));clear hp hb))
 all_goals go_wp2_with (fail)
 all_goals go_end0
 all_goals exact⟨rfl,⟨_,HP2.out.setStep k (by simp only;rw[HM.out];exact HK.out) HS2.out⟩,HB2.out.trans (below_set_ hbn.out _)⟩
theorem pick_claim_no (h:Pool W base g gw gm gp gn vp L x) (hL:L≤90000) (k:Nat) (hk:k<x.st.length) (e:x.st[k]= .claim) (hs:x.st.length≤64) (hp0:0≤x.picks) (hp1:x.picks≤100000) (hc0:0≤x.c) (hc1:x.c≤100000) (hcn:¬x.c+1≤x.n):
  Calls Tryz.prog 36 #[.pointer (some ⟨gp,0,none⟩),.int .i64 k] W fun e w'=>e= .returned (.tuple #[])∧Picked W w' base g gw gm gp gn (L+1) {x with c:=x.c+1,st:=x.st.set k .arrive,picks:=x.picks+1}:=by
 have hbs:=Aside0.mk h.b1;have hbn:=Aside0.mk h.b2;have c5:=h.cells.2.2.2.2.2;have f5:=h.free 5;have HP1:=h.setPicks (x.picks+1);have HB1:=Aside0.mk ((Below.refl base W).trans (below_set_ (W:=W) (j:=5) h.b1 (.int .i64 (x.picks+1))));clear h;obtain⟨n,c,a,st,pairs,left,picks⟩:=x;have HCN:=Aside0.mk (show n<c+1 from Int.not_le.1 hcn);clear hcn;simp only at c5 HP1 HB1 hk e hs hp0 hp1 hc0 hc1 ⊢;obtain⟨m,hm⟩:∃m,st.length=m:=⟨_,rfl⟩;rw[hm]at hk hs;have HM:=Aside0.mk hm;have HE:=Aside0.mk e;have HK:=Aside0.mk hk;have HS:=Aside0.mk hs;clear hm e;go_enter Tryz.func36,Tryz.ntmps36
 go_upto_region 1 with (fail)
 obtain⟨W1,hW1⟩:∃W1,W.setCell ⟨gp,5,none⟩ (.int .i64 (picks+1))=W1:=⟨_,rfl⟩;rw[hW1]at HP1 HB1 ⊢;clear hW1 c5 f5;have c2:=HP1.cells.2.2.1;simp only at c2;rw[HM.out]at c2;obtain⟨v,cn,fn,hv⟩:=HP1.step k (by rw[HM.out];exact hk) HE.out;obtain rfl:=hv;have HP:=Aside0.mk (HP1.below (below_drew1 (Below.refl _ _)));have HQ:=Aside0.mk HP1;clear HP1
 go_wp2_with (fail)
 go_region_with (first|(go_at_call 60;(with_reducible refine(claim_no HP.out (by omega) hc0 (by simp only;omega) k (Int.not_le.2 HCN.out)).mono ?_);rintro e w2 ⟨v2,rfl,hp,hst,hb⟩;have HS2:=Aside0.mk hst;obtain rfl:=hst;obtain⟨_,_,e2,_,_,_⟩:=hp.cells;simp only at e2;rw[HM.out]at e2;obtain⟨v3,cz,fz,_⟩:=hp.step k (by simp only;rw[HM.out];exact HK.out) rfl;have HP2:=Aside0.mk hp;have HB2:=Aside0.mk (HB1.out.trans (below_ofDrew hb));clear hp hb))
 all_goals go_wp2_with (fail)
 all_goals go_end0
 all_goals exact⟨rfl,⟨_,HP2.out.setStep k (by simp only;rw[HM.out];exact HK.out) HS2.out⟩,HB2.out.trans (below_set_ hbn.out _)⟩
theorem pick_arrive (h:Pool W base g gw gm gp gn vp L x) (hL:L≤90000) (k:Nat) (hk:k<x.st.length) (e:x.st[k]= .arrive) (hs:x.st.length≤64) (hp0:0≤x.picks) (hp1:x.picks≤100000) (ha0:0≤x.a) (ha1:x.a≤100000):
  Calls Tryz.prog 36 #[.pointer (some ⟨gp,0,none⟩),.int .i64 k] W fun e w'=>e= .returned (.tuple #[])∧Picked W w' base g gw gm gp gn (L+1) {x with a:=x.a+1,st:=x.st.set k .wait,picks:=x.picks+1}:=by
 have hbs:=Aside0.mk h.b1;have hbn:=Aside0.mk h.b2;have c5:=h.cells.2.2.2.2.2;have f5:=h.free 5;have HP1:=h.setPicks (x.picks+1);have HB1:=Aside0.mk ((Below.refl base W).trans (below_set_ (W:=W) (j:=5) h.b1 (.int .i64 (x.picks+1))));clear h;obtain⟨n,c,a,st,pairs,left,picks⟩:=x;simp only at c5 HP1 HB1 hk e hs hp0 hp1 ha0 ha1 ⊢;obtain⟨m,hm⟩:∃m,st.length=m:=⟨_,rfl⟩;rw[hm]at hk hs;have HM:=Aside0.mk hm;have HE:=Aside0.mk e;have HK:=Aside0.mk hk;have HS:=Aside0.mk hs;clear hm e;go_enter Tryz.func36,Tryz.ntmps36;go_upto_region 1 with (fail)
 obtain⟨W1,hW1⟩:∃W1,W.setCell ⟨gp,5,none⟩ (.int .i64 (picks+1))=W1:=⟨_,rfl⟩;rw[hW1]at HP1 HB1 ⊢;clear hW1 c5 f5;have c2:=HP1.cells.2.2.1;simp only at c2;rw[HM.out]at c2;obtain⟨v,cn,fn,hv⟩:=HP1.step k (by rw[HM.out];exact hk) HE.out;obtain rfl:=hv;have HP:=Aside0.mk (HP1.below (below_drew1 (Below.refl _ _)));have HQ:=Aside0.mk HP1;clear HP1
 go_wp2_with (fail)
 go_region_with (first|(go_at_call 93;(with_reducible refine(arrive_calls HP.out (by omega) ha0 (by simp only;omega) k).mono ?_);rintro e w2 ⟨v2,rfl,hp,hst,hb⟩;have HS2:=Aside0.mk hst;obtain rfl:=hst;obtain⟨_,_,e2,_,_,_⟩:=hp.cells;simp only at e2;rw[HM.out]at e2;obtain⟨v3,cz,fz,_⟩:=hp.step k (by simp only;rw[HM.out];exact HK.out) rfl;have HP2:=Aside0.mk hp;have HB2:=Aside0.mk (HB1.out.trans (below_ofDrew hb));clear hp hb))
 all_goals go_wp2_with (fail)
 all_goals go_end0
 all_goals exact⟨rfl,⟨_,HP2.out.setStep k (by simp only;rw[HM.out];exact HK.out) HS2.out⟩,HB2.out.trans (below_set_ hbn.out _)⟩
theorem pick_wait_yes (h:Pool W base g gw gm gp gn vp L x) (hL:L≤90000) (k:Nat) (hk:k<x.st.length) (e:x.st[k]= .wait) (hs:x.st.length≤64) (hp0:0≤x.picks) (hp1:x.picks≤100000) (haw:x.a=x.st.length) (hl0:0≤x.left) (hl1:x.left≤100000):
  Calls Tryz.prog 36 #[.pointer (some ⟨gp,0,none⟩),.int .i64 k] W fun e w'=>e= .returned (.tuple #[])∧Picked W w' base g gw gm gp gn (L+1) {x with left:=x.left-1,st:=x.st.set k .done,picks:=x.picks+1}:=by
 have hbs:=Aside0.mk h.b1;have hbn:=Aside0.mk h.b2;have c5:=h.cells.2.2.2.2.2;have f5:=h.free 5;have HP1:=h.setPicks (x.picks+1);have HB1:=Aside0.mk ((Below.refl base W).trans (below_set_ (W:=W) (j:=5) h.b1 (.int .i64 (x.picks+1))));clear h;obtain⟨n,c,a,st,pairs,left,picks⟩:=x;have HCN:=Aside0.mk (show a=(st.length:Int)from haw);clear haw;simp only at c5 HP1 HB1 hk e hs hp0 hp1 hl0 hl1 ⊢;obtain⟨m,hm⟩:∃m,st.length=m:=⟨_,rfl⟩;rw[hm]at hk hs;have HM:=Aside0.mk hm;have HE:=Aside0.mk e;have HK:=Aside0.mk hk;have HS:=Aside0.mk hs;clear hm e;go_enter Tryz.func36,Tryz.ntmps36
 go_upto_region 1 with (fail)
 obtain⟨W1,hW1⟩:∃W1,W.setCell ⟨gp,5,none⟩ (.int .i64 (picks+1))=W1:=⟨_,rfl⟩;rw[hW1]at HP1 HB1 ⊢;clear hW1 c5 f5;have c2:=HP1.cells.2.2.1;simp only at c2;rw[HM.out]at c2;obtain⟨v,cn,fn,hv⟩:=HP1.step k (by rw[HM.out];exact hk) HE.out;obtain rfl:=hv;have HP:=Aside0.mk (HP1.below (below_drew1 (Below.refl _ _)));have HQ:=Aside0.mk HP1;clear HP1
 go_wp2_with (fail)
 go_region_with (first|(go_at_call 115;(with_reducible refine(wait_yes HP.out (by omega) k (by simp only;rw[HM.out];have:=HS.out;omega) HCN.out hl0 (by simp only;omega)).mono ?_);rintro e w2 ⟨v2,rfl,hp,hst,hb⟩;have HS2:=Aside0.mk hst;obtain rfl:=hst;obtain⟨_,_,e2,_,_,_⟩:=hp.cells;simp only at e2;rw[HM.out]at e2;obtain⟨v3,cz,fz,_⟩:=hp.step k (by simp only;rw[HM.out];exact HK.out) rfl;have HP2:=Aside0.mk hp;have HB2:=Aside0.mk (HB1.out.trans (below_ofDrew hb));clear hp hb))
 all_goals go_wp2_with (fail)
 all_goals go_end0
 all_goals exact⟨rfl,⟨_,HP2.out.setStep k (by simp only;rw[HM.out];exact HK.out) HS2.out⟩,HB2.out.trans (below_set_ hbn.out _)⟩
theorem pick_wait_no (h:Pool W base g gw gm gp gn vp L x) (hL:L≤90000) (k:Nat) (hk:k<x.st.length) (e:x.st[k]= .wait) (hs:x.st.length≤64) (hp0:0≤x.picks) (hp1:x.picks≤100000) (haw:x.a≠x.st.length):
  Calls Tryz.prog 36 #[.pointer (some ⟨gp,0,none⟩),.int .i64 k] W fun e w'=>e= .returned (.tuple #[])∧Picked W w' base g gw gm gp gn (L+1) {x with st:=x.st.set k .wait,picks:=x.picks+1}:=by
 have hbs:=Aside0.mk h.b1;have hbn:=Aside0.mk h.b2;have c5:=h.cells.2.2.2.2.2;have f5:=h.free 5;have HP1:=h.setPicks (x.picks+1);have HB1:=Aside0.mk ((Below.refl base W).trans (below_set_ (W:=W) (j:=5) h.b1 (.int .i64 (x.picks+1))));clear h;obtain⟨n,c,a,st,pairs,left,picks⟩:=x;have HCN:=Aside0.mk (show¬(a=(st.length:Int))from haw);clear haw;simp only at c5 HP1 HB1 hk e hs hp0 hp1 ⊢;obtain⟨m,hm⟩:∃m,st.length=m:=⟨_,rfl⟩;rw[hm]at hk hs;have HM:=Aside0.mk hm;have HE:=Aside0.mk e;have HK:=Aside0.mk hk;have HS:=Aside0.mk hs;clear hm e;go_enter Tryz.func36,Tryz.ntmps36;go_upto_region 1 with (fail)
 obtain⟨W1,hW1⟩:∃W1,W.setCell ⟨gp,5,none⟩ (.int .i64 (picks+1))=W1:=⟨_,rfl⟩;rw[hW1]at HP1 HB1 ⊢;clear hW1 c5 f5;have c2:=HP1.cells.2.2.1;simp only at c2;rw[HM.out]at c2;obtain⟨v,cn,fn,hv⟩:=HP1.step k (by rw[HM.out];exact hk) HE.out;obtain rfl:=hv;have HP:=Aside0.mk (HP1.below (below_drew1 (Below.refl _ _)));have HQ:=Aside0.mk HP1;clear HP1
 go_wp2_with (fail)
 go_region_with (first|(go_at_call 115;(with_reducible refine(wait_no HP.out (by omega) k (by simp only;rw[HM.out];have:=HS.out;omega) HCN.out).mono ?_);rintro e w2 ⟨v2,rfl,hp,hst,hb⟩;have HS2:=Aside0.mk hst;obtain rfl:=hst;obtain⟨_,_,e2,_,_,_⟩:=hp.cells;simp only at e2;rw[HM.out]at e2;obtain⟨v3,cz,fz,_⟩:=hp.step k (by simp only;rw[HM.out];exact HK.out) rfl;have HP2:=Aside0.mk hp;have HB2:=Aside0.mk (HB1.out.trans (below_ofDrew hb));clear hp hb))
 all_goals go_wp2_with (fail)
 all_goals go_end0
 all_goals exact⟨rfl,⟨_,HP2.out.setStep k (by simp only;rw[HM.out];exact HK.out) HS2.out⟩,HB2.out.trans (below_set_ hbn.out _)⟩
theorem pick_work (t:Int) (h:Pool W base g gw gm gp gn vp L x) (hL:L≤90000) (k:Nat) (hk:k<x.st.length) (e:x.st[k]=(.work t)) (hs:x.st.length≤64) (hp0:0≤x.picks) (hp1:x.picks≤100000) (hpl:x.pairs.length≤100000):
  Calls Tryz.prog 36 #[.pointer (some ⟨gp,0,none⟩),.int .i64 k] W fun e w'=>e= .returned (.tuple #[])∧Picked W w' base g gw gm gp gn (L+1) {x with pairs:=x.pairs++[(t,(k:Int))],st:=x.st.set k .claim,picks:=x.picks+1}:=by
 have hbs:=Aside0.mk h.b1;have hbn:=Aside0.mk h.b2;have c5:=h.cells.2.2.2.2.2;have f5:=h.free 5;have HP1:=h.setPicks (x.picks+1);have HB1:=Aside0.mk ((Below.refl base W).trans (below_set_ (W:=W) (j:=5) h.b1 (.int .i64 (x.picks+1))));clear h;obtain⟨n,c,a,st,pairs,left,picks⟩:=x;simp only at c5 HP1 HB1 hk e hs hp0 hp1 hpl ⊢;obtain⟨m,hm⟩:∃m,st.length=m:=⟨_,rfl⟩;rw[hm]at hk hs;have HM:=Aside0.mk hm;have HE:=Aside0.mk e;have HK:=Aside0.mk hk;have HS:=Aside0.mk hs;clear hm e;go_enter Tryz.func36,Tryz.ntmps36;go_upto_region 1 with (fail)
 obtain⟨W1,hW1⟩:∃W1,W.setCell ⟨gp,5,none⟩ (.int .i64 (picks+1))=W1:=⟨_,rfl⟩;rw[hW1]at HP1 HB1 ⊢;clear hW1 c5 f5;have c2:=HP1.cells.2.2.1;simp only at c2;rw[HM.out]at c2;obtain⟨v,cn,fn,hv⟩:=HP1.step k (by rw[HM.out];exact hk) HE.out;obtain⟨b1,b2,rfl,hx1,hx2⟩:=hv;have HX1:=Aside0.mk (Bx.mk (W:=W1.drew) hx1.blk (hx1.far.keep (Nat.le_refl _) rfl));have HX2:=Aside0.mk (Bx.mk (W:=W1.drew) hx2.blk (hx2.far.keep (Nat.le_refl _) rfl));clear hx1 hx2;have HP:=Aside0.mk (HP1.below (below_drew1 (Below.refl _ _)));have HQ:=Aside0.mk HP1;clear HP1
 go_wp2_with (fail)
 go_region_with (first|(go_at_call 114;(with_reducible refine(work1_calls HP.out k t b1 b2 HX1.out HX2.out (by simp only;omega)).mono ?_);rintro e w2 ⟨v2,vp2,rfl,hp,hst,hb⟩;have HS2:=Aside0.mk hst;obtain rfl:=hst;obtain⟨_,_,e2,_,_,_⟩:=hp.cells;simp only at e2;rw[HM.out]at e2;obtain⟨v3,cz,fz,_⟩:=hp.step k (by simp only;rw[HM.out];exact HK.out) rfl;have HP2:=Aside0.mk hp;have HB2:=Aside0.mk (HB1.out.trans (below_ofDrew hb));clear hp hb))
 all_goals go_wp2_with (fail)
 all_goals go_end0
 all_goals exact⟨rfl,⟨_,HP2.out.up.setStep k (by simp only;rw[HM.out];exact HK.out) HS2.out⟩,HB2.out.trans (below_set_ hbn.out _)⟩
theorem pick_done (h:Pool W base g gw gm gp gn vp L x) (hL:L≤90000) (k:Nat) (hk:k<x.st.length) (e:x.st[k]= .done) (hs:x.st.length≤64) (hp0:0≤x.picks) (hp1:x.picks≤100000):
  Calls Tryz.prog 36 #[.pointer (some ⟨gp,0,none⟩),.int .i64 k] W fun e w'=>e= .returned (.tuple #[])∧Picked W w' base g gw gm gp gn (L+1) {x with picks:=x.picks+1}:=by
 have hbs:=Aside0.mk h.b1;have hbn:=Aside0.mk h.b2;have c5:=h.cells.2.2.2.2.2;have f5:=h.free 5;have HP1:=h.setPicks (x.picks+1);have HB1:=Aside0.mk ((Below.refl base W).trans (below_set_ (W:=W) (j:=5) h.b1 (.int .i64 (x.picks+1))));clear h;obtain⟨n,c,a,st,pairs,left,picks⟩:=x;simp only at c5 HP1 HB1 hk e hs hp0 hp1 ⊢;obtain⟨m,hm⟩:∃m,st.length=m:=⟨_,rfl⟩;rw[hm]at hk hs;have HM:=Aside0.mk hm;have HE:=Aside0.mk e;have HK:=Aside0.mk hk;have HS:=Aside0.mk hs;clear hm e;go_enter Tryz.func36,Tryz.ntmps36;go_upto_region 1 with (fail)
 obtain⟨W1,hW1⟩:∃W1,W.setCell ⟨gp,5,none⟩ (.int .i64 (picks+1))=W1:=⟨_,rfl⟩;rw[hW1]at HP1 HB1 ⊢;clear hW1 c5 f5;have c2:=HP1.cells.2.2.1;simp only at c2;rw[HM.out]at c2;obtain⟨v,cn,fn,hv⟩:=HP1.step k (by rw[HM.out];exact hk) HE.out;obtain rfl:=hv;have HP:=Aside0.mk (HP1.below (below_drew1 (Below.refl _ _)));have HQ:=Aside0.mk HP1;clear HP1
 go_wp2_with (fail)
 go_end0
 exact⟨rfl,⟨_,HQ.out.up⟩,HB1.out⟩
end
end
end Go.Proofs.YtfnimdhghglanaaGreat.Hand
end
