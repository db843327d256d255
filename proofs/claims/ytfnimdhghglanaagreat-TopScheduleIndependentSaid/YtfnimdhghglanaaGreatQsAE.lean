/- TopScheduleIndependent, part 5 of 27; no condition.  -/
import Derived.Test.YtfnimdhghglanaaGreatQsAD
import Derived.Deep.RegionWith
import Derived.Lib.SliceRun
import Derived.BigQuiet
import Derived.Deep.QuietTactic
import Derived.Deep.RegionLaw
import Derived.Deep.RegionHeld3
import Derived.RangeFuncRecord
set_option maxRecDepth 100000
set_option maxHeartbeats 8000000
set_option linter.unusedVariables false
set_option linter.unusedSimpArgs false
section
namespace Go.Proofs.YtfnimdhghglanaaGreat.Hand
open Go.RowKit Go.Proofs.YtfnimdhghglanaaGreatW PrintWords PrintLast PrintMore
section
def Kd.flat {α:Type} (sz:Nat) (enc:α→List Value) (hl:∀x,(enc x).length=sz) (h1:∀x,∀u∈enc x,u.oneCell'=true):Kd α where
 sz:=sz
 E:=[]
 K:=fun _ x cs=>cs=enc x
 M:=fun _ _ _ x cs=>cs=enc x
 K_len:=fun{_ x cs} h=>by rw[h];exact hl x
 K_one:=fun{_ x cs} h u hu=>by rw[h]at hu;exact h1 x u hu
 K_below:=fun _ h=>h
 K_of_M:=fun h=>h
 M_mono:=fun _ h=>h
 M_bound:=fun h=>h
 M_move:=fun _ h=>h
 M_lower:=fun _ h=>h
structure SH where
 A:Option Addr
 n:Nat
 c:Nat
abbrev SH.v (h:SH):Value:= .slice h.A h.n h.c
def SH.nil:SH:=⟨none,0,0⟩
structure SE where
 t:Int
 k:SH
 lp:Int
 kd:Int
 pr:Int
 ar:Int
def SE.cells (x:SE):List Value:=[.int .i64 x.t,.slice x.k.A x.k.n x.k.c,.int .i64 x.lp,.int .i64 x.kd,.int .i64 x.pr,.int .i64 x.ar]
def SE.zero:SE:=⟨0,.nil,0,0,0,0⟩
structure SP where
 pg:Int
 pc:Int
 al:Bool
 tm:SH
def SP.cells (x:SP):List Value:=[.int .i64 x.pg,.int .i64 x.pc,.bool x.al,.slice x.tm.A x.tm.n x.tm.c]
def SP.zero:SP:=⟨0,0,false,.nil⟩
structure SLp where
 r0:Int
 r1:Int
 ps:SH
 sum:Int
def SLp.cells (x:SLp):List Value:=[.int .i64 x.r0,.int .i64 x.r1,.slice x.ps.A x.ps.n x.ps.c,.int .i64 x.sum]
def SLp.zero:SLp:=⟨0,0,.nil,0⟩
structure OpC where
 code:Int
 a:Int
 b:Int
 c:Int
def OpC.cells (x:OpC):List Value:=[.int .i64 x.code,.int .i64 x.a,.int .i64 x.b,.int .i64 x.c]
structure StC where
 pg:Int
 t:Int
def StC.cells (x:StC):List Value:=[.int .i64 x.pg,.int .i64 x.t]
def kH:Kd SH:=Kd.flat 1 (fun h=>[.slice h.A h.n h.c]) (fun _=>rfl) (fun _ u hu=>by simp at hu;subst hu;rfl)
def kE:Kd SE:=Kd.flat 6 SE.cells (fun _=>rfl) (fun _ u hu=>by simp[SE.cells]at hu;rcases hu with rfl|rfl|rfl|rfl|rfl|rfl<;>rfl)
def kPr:Kd SP:=Kd.flat 4 SP.cells (fun _=>rfl) (fun _ u hu=>by simp[SP.cells]at hu;rcases hu with rfl|rfl|rfl|rfl<;>rfl)
def kLp:Kd SLp:=Kd.flat 4 SLp.cells (fun _=>rfl) (fun _ u hu=>by simp[SLp.cells]at hu;rcases hu with rfl|rfl|rfl|rfl<;>rfl)
def kOp:Kd OpC:=Kd.flat 4 OpC.cells (fun _=>rfl) (fun _ u hu=>by simp[OpC.cells]at hu;rcases hu with rfl|rfl|rfl|rfl<;>rfl)
def kSt:Kd StC:=Kd.flat 2 StC.cells (fun _=>rfl) (fun _ u hu=>by simp[StC.cells]at hu;rcases hu with rfl|rfl<;>rfl)
theorem infoEv:(Tryz.prog.info? 49).map (fun i=>(i.zero,i.size,i.bytes))=some (some (.agg #[.int .i64 0,.slice none 0 0,.int .i64 0,.int .i64 0,.int .i64 0,.int .i64 0]),6,64):=by kernel_rfl
theorem infoEvs:(Tryz.prog.info? 47).map (fun i=>(i.zero,i.size,i.bytes))=some (some (.slice none 0 0),1,24):=by kernel_rfl
theorem infoProc:(Tryz.prog.info? 114).map (fun i=>(i.zero,i.size,i.bytes))=some (some (.agg #[.int .i64 0,.int .i64 0,.bool false,.slice none 0 0]),4,48):=by kernel_rfl
theorem infoLP:(Tryz.prog.info? 91).map (fun i=>(i.zero,i.size,i.bytes))=some (some (.agg #[.int .i64 0,.int .i64 0,.slice none 0 0,.int .i64 0]),4,48):=by kernel_rfl
structure Keep (Mt:Nat→Prop) (w w':World):Prop where
 size:w.heap.size≤w'.heap.size
 block:∀k,k<w.heap.size→¬Mt k→w'.heap[k]?=w.heap[k]?
def Alw (Mt:Nat→Prop) (w:World) (P:World→Prop):Prop:=∀w',Keep Mt w w'→P w'
section
variable {Mt Mt':Nat→Prop} {w w' w2:World} {P Q:World→Prop}
theorem Keep.refl (Mt:Nat→Prop) (w:World):Keep Mt w w:=⟨Nat.le_refl _,fun _ _ _=>rfl⟩
theorem Keep.trans (h:Keep Mt w w') (k:Keep Mt w' w2):Keep Mt w w2:=⟨Nat.le_trans h.size k.size,fun j hj hm=>(k.block j (Nat.lt_of_lt_of_le hj h.size) hm).trans (h.block j hj hm)⟩
theorem Keep.mono (h:Keep Mt w w') (hm:∀k,k<w.heap.size→Mt k→Mt' k):Keep Mt' w w':=⟨h.size,fun k hk hn=>h.block k hk (fun e=>hn (hm k hk e))⟩
theorem Keep.of_below (h:Below w.heap.size w w'):Keep Mt w w':=⟨h.size,fun k hk _=>h.block k hk⟩
theorem Keep.set {b j:Nat} (hb:Mt b) (u:Value):Keep Mt w (w.setCell ⟨b,j,none⟩ u):=⟨by simp[World.setCell],fun k _ hn=>Below.heap_setCell w ⟨b,j,none⟩ u k (fun e=>hn (by rw[e];exact hb))⟩
theorem Keep.grown {b:Option Nat} (h:w.grownBy w' b) (hb:∀k,b=some k→Mt k):Keep Mt w w':=⟨h.size,fun k hk hn=>h.block k hk (fun e=>hn (hb k e.symm))⟩
theorem Alw.here (h:Alw Mt w P):P w:=h w (Keep.refl _ _)
theorem Alw.keep (h:Alw Mt w P) (k:Keep Mt w w'):Alw Mt w' P:=fun w2 h2=>h w2 (k.trans h2)
theorem Alw.below (h:Alw Mt w P) (k:Below w.heap.size w w'):Alw Mt w' P:=h.keep (Keep.of_below k)
theorem Alw.fresh (h:Alw Mt w P) (k:Keep Mt w w') (hm:∀k,k<w.heap.size→Mt' k→Mt k):Alw Mt' w' P:=fun w2 h2=>
 h w2 ⟨Nat.le_trans k.size h2.size,fun j hj hn=>(h2.block j (Nat.lt_of_lt_of_le hj k.size) (fun e=>hn (hm j hj e))).trans (k.block j hj hn)⟩
theorem Alw.imp (h:Alw Mt w P) (f:∀w,P w→Q w):Alw Mt w Q:=fun w2 h2=>f w2 (h w2 h2)
theorem Alw.block {b:Nat} (hb:b<w.heap.size) (hm:¬Mt b):Alw Mt w (fun w2=>w2.heap[b]?=w.heap[b]?):=fun w2 h2=>h2.block b hb hm
end
def Rd {α:Type} (d:Kd α) (Mt:Nat→Prop) (w:World) (h:SH) (xs:List α):Prop:=h.n=xs.length∧h.n≤h.c∧Alw Mt w (fun w=>Kd.C d w h.A h.n xs)
section
variable {α:Type} {d:Kd α} {Mt Mt':Nat→Prop} {w w':World} {h:SH} {xs:List α}
theorem Rd.len (r:Rd d Mt w h xs):h.n=xs.length:=r.1
theorem Rd.cap (r:Rd d Mt w h xs):h.n≤h.c:=r.2.1
theorem Rd.here (r:Rd d Mt w h xs):Kd.C d w h.A h.n xs:=r.2.2.here
theorem Rd.keep (r:Rd d Mt w h xs) (k:Keep Mt w w'):Rd d Mt w' h xs:=⟨r.1,r.2.1,r.2.2.keep k⟩
theorem Rd.below (r:Rd d Mt w h xs) (k:Below w.heap.size w w'):Rd d Mt w' h xs:=r.keep (Keep.of_below k)
theorem Rd.fresh (r:Rd d Mt w h xs) (k:Keep Mt w w') (hm:∀k,k<w.heap.size→Mt' k→Mt k):Rd d Mt' w' h xs:=⟨r.1,r.2.1,r.2.2.fresh k hm⟩
theorem Rd.nil (d:Kd α) (Mt:Nat→Prop) (w:World):Rd d Mt w .nil []:=⟨rfl,Nat.le_refl _,fun _ _=>⟨rfl,by simp[SH.nil],fun h=>absurd h (by simp[SH.nil])⟩⟩
theorem Rd.of_R {e base:Nat} {ok:Nat→Prop} {A:Option Addr} {n c:Nat} (hE:d.E=[]) (r:d.R e w base ok (.slice A n c) xs) (hm:∀k,(Value.slice A n c).ownBlock=some k→¬Mt k):Rd d Mt w ⟨A,n,c⟩ xs:=by
 obtain⟨h1,h2,_⟩:=Kd.R_reads' r;refine⟨h1,h2,fun w2 h3=> ?_⟩;have r2:d.R e w2 base ok (.slice A n c) xs:=R_stay r hE (fun k hk=>h3.block k (Kd.R_lt r k hk) (hm k hk));have:=(Kd.R_reads' r2).2.2
 rwa [←h1]at this
end
structure Ev where
 t:Int
 k:List Int
 lp:Int
 kd:Int
 pr:Int
 ar:Int
 deriving DecidableEq
abbrev KeyAt (Mt:Nat→Prop) (w:World) (h:SH) (xs:List Int):Prop:=Rd (Kd.int .i64) Mt w h xs
structure EvAt (Mt:Nat→Prop) (w:World) (s:SE) (e:Ev):Prop where
 t:s.t=e.t
 lp:s.lp=e.lp
 kd:s.kd=e.kd
 pr:s.pr=e.pr
 ar:s.ar=e.ar
 k:KeyAt Mt w s.k e.k
inductive All2 {α β:Type} (R:α→β→Prop):List α→List β→Prop
 |nil:All2 R [] []
 |cons {a b l m}:R a b→All2 R l m→All2 R (a::l) (b::m)
section
variable {α β:Type} {R S:α→β→Prop} {l l':List α} {m m':List β}
theorem All2.len (h:All2 R l m):l.length=m.length:=by
 induction h with
 |nil=>rfl
 |cons _ _ ih=>simp[ih]
theorem All2.imp (h:All2 R l m) (f:∀a b,R a b→S a b):All2 S l m:=by
 induction h with
 |nil=>exact .nil
 |cons h1 _ ih=>exact .cons (f _ _ h1) ih
theorem All2.append (h:All2 R l m) (k:All2 R l' m'):All2 R (l++l') (m++m'):=by
 induction h with
 |nil=>exact k
 |cons h1 _ ih=>exact .cons h1 ih
theorem All2.get (h:All2 R l m):∀(k:Nat) (h1:k<l.length) (h2:k<m.length),R l[k] m[k]:=by
 induction h with
 |nil=>exact fun k h1=>absurd h1 (by simp)
 |cons h1 _ ih=>
  intro k h2 h3;cases k with
  |zero=>exact h1
  |succ k=>exact ih k (by simpa using h2) (by simpa using h3)
theorem All2.of_get:∀{l:List α} {m:List β},l.length=m.length→(∀(k:Nat) (h1:k<l.length) (h2:k<m.length),R l[k] m[k])→All2 R l m
 | [],[],_,_=> .nil
 |a::l,b::m,h,f=> .cons (f 0 (by simp) (by simp)) (All2.of_get (by simpa using h) (fun k h1 h2=>f (k+1) (by simpa using h1) (by simpa using h2)))
theorem All2.take (h:All2 R l m) (n:Nat):All2 R (l.take n) (m.take n):=by
 induction h generalizing n with
 |nil=>simpa using .nil
 |cons h1 _ ih=>
  cases n with
  |zero=>simpa using .nil
  |succ n=>simpa using .cons h1 (ih n)
theorem All2.drop (h:All2 R l m) (n:Nat):All2 R (l.drop n) (m.drop n):=by
 induction h generalizing n with
 |nil=>simpa using .nil
 |cons h1 h2 ih=>
  cases n with
  |zero=>simpa using .cons h1 h2
  |succ n=>simpa using ih n
theorem All2.set (h:All2 R l m) (n:Nat) {a:α} {b:β} (hab:R a b):All2 R (l.set n a) (m.set n b):=by
 induction h generalizing n with
 |nil=>simpa using .nil
 |cons h1 h2 ih=>
  cases n with
  |zero=>simpa using .cons hab h2
  |succ n=>simpa using .cons h1 (ih n)
end
section
variable {Mt Mt':Nat→Prop} {w w':World}
theorem EvAt.keep {s:SE} {e:Ev} (h:EvAt Mt w s e) (k:Keep Mt w w'):EvAt Mt w' s e:=⟨h.t,h.lp,h.kd,h.pr,h.ar,h.k.keep k⟩
theorem EvAt.fresh {s:SE} {e:Ev} (h:EvAt Mt w s e) (k:Keep Mt w w') (hm:∀k,k<w.heap.size→Mt' k→Mt k):EvAt Mt' w' s e:=⟨h.t,h.lp,h.kd,h.pr,h.ar,h.k.fresh k hm⟩
def EvsAt (Mt:Nat→Prop) (w:World) (h:SH) (es:List Ev):Prop:=∃ss,Rd kE Mt w h ss∧All2 (EvAt Mt w) ss es
theorem EvsAt.keep {h:SH} {es:List Ev} (r:EvsAt Mt w h es) (k:Keep Mt w w'):EvsAt Mt w' h es:=by
 obtain⟨ss,h1,h2⟩:=r;exact⟨ss,h1.keep k,h2.imp fun _ _ h=>h.keep k⟩
theorem EvsAt.below {h:SH} {es:List Ev} (r:EvsAt Mt w h es) (k:Below w.heap.size w w'):EvsAt Mt w' h es:=r.keep (Keep.of_below k)
theorem EvsAt.fresh {h:SH} {es:List Ev} (r:EvsAt Mt w h es) (k:Keep Mt w w') (hm:∀k,k<w.heap.size→Mt' k→Mt k):EvsAt Mt' w' h es:=by
 obtain⟨ss,h1,h2⟩:=r;exact⟨ss,h1.fresh k hm,h2.imp fun _ _ h=>h.fresh k hm⟩
theorem EvsAt.len {h:SH} {es:List Ev} (r:EvsAt Mt w h es):h.n=es.length:=by
 obtain⟨ss,h1,h2⟩:=r;rw[h1.len,h2.len]
def EvssAt (Mt:Nat→Prop) (w:World) (h:SH) (ess:List (List Ev)):Prop:=∃hs,Rd kH Mt w h hs∧All2 (EvsAt Mt w) hs ess
theorem EvssAt.keep {h:SH} {es:List (List Ev)} (r:EvssAt Mt w h es) (k:Keep Mt w w'):EvssAt Mt w' h es:=by
 obtain⟨ss,h1,h2⟩:=r;exact⟨ss,h1.keep k,h2.imp fun _ _ h=>h.keep k⟩
theorem EvssAt.fresh {h:SH} {es:List (List Ev)} (r:EvssAt Mt w h es) (k:Keep Mt w w') (hm:∀k,k<w.heap.size→Mt' k→Mt k):EvssAt Mt' w' h es:=by
 obtain⟨ss,h1,h2⟩:=r;exact⟨ss,h1.fresh k hm,h2.imp fun _ _ h=>h.fresh k hm⟩
end
end
end Go.Proofs.YtfnimdhghglanaaGreat.Hand
end
section
namespace Go.Proofs.YtfnimdhghglanaaGreat.Hand
open Go.RowKit Go.Proofs.YtfnimdhghglanaaGreatW PrintWords PrintLast PrintMore
attribute [local go_sem] max2_int min2_int max_two min_two max_three min_three max_four min_four
theorem cloneInt_calls (A0:Option Addr) (c0 n:Nat) (l0:List Int) (w:World) (hr0:Kd.C (Kd.int .i64) w A0 n l0) (hn:l0.length=n) (hl:n≤1000000):
  Calls Tryz.prog 38 #[.slice A0 n c0] w fun e w'=>∃v:Value,e= .returned v∧Kd.R (Kd.int .i64) 3 w' w.heap.size (fun _=>True) v l0∧Below w.heap.size w w':=by
 subst hn;have qT:∀(w:World) (a:Option Addr) (n c n' c':Nat),(binOp .eql 35 (.slice a n c) (.slice none n' c')).run Tryz.prog w= .ok (.bool a.isNone) w:=fun w a n c n' c'=>Lib.run_eql_slice_nil w _ _ a n c n' c' Tryz.underlying35;have HR:=am hr0;have HL:=am hl;clear hr0 hl;rcases A0 with _|ad
 ·obtain rfl:l0=[]:=by
   have h:=HR.out;cases l0 with
   |nil=>rfl
   |cons x xs=>
    obtain⟨ad,h2,_⟩:=h.2.2 (by simp);cases h2
  go_enter Tryz.func38,Tryz.ntmps38
  go_wp2
  go_ret;exact⟨_,rfl,Kd.R_nil _ _ _ _ _,Below.refl _ _⟩
 ·go_enter Tryz.func38,Tryz.ntmps38
  go_wp2_with (first|((with_reducible refine gate_dst (N:=5) rfl ?_);refine Kd.R_lit (Kd.int .i64) _ 3 ?hg (N:=5) ?hd (xs:=([]:List Int)) (inner:=[]) (ok:=fun _=>True) (okp:=fun _=>True) ?hr ?hp (fun _ hk=>hk) trivial (Below.refl _ _) (Nat.le_refl _) (by simp) ?_;(case hd=>rfl);(case hg=>rfl);(case hr=>first|(go_simp;done)|(go_simp;rfl));(case hp=>exact Reps.none _ _);intro v5 w5 ho5 hb5 hg5 hnew5;have HO5:=am ho5;have HB5:=am hb5;clear ho5 hb5 hg5 hnew5)|((with_reducible refine gate_builtin (b:= .append) (xs:= #[.tmp 5,.tmp 6]) rfl ?_);at_builtin;refine Kd.R_append_rows (Kd.int .i64) (Rr:=Kd.K (Kd.int .i64) w5) (w0:=w) w.heap.size rfl (.tmp 5) (.tmp 6) 35 3 (.int .i64 0) 8 rfl Tryz.underlying35 info3 rfl (by decide) (by omega) v5 [] l0 (some ad) l0.length c0 (fun _=>True) (fun _=>False) rfl rfl HO5.out ?aR ?aK (fun _ h=>h.elim) (fun _ _=>trivial) HB5.out HB5.out.size ?aL ?_;(case aR=>exact Kd.C_below HR.out HB5.out);(case aK=>exact(fun q cs hq=>hq));(case aL=>have:=HL.out;simp;omega);intro v7 w7 ho7 hb7 hg7 hat7;have HO7:=am ho7;have HB7:=am hb7;clear ho7 hb7 hg7 hat7))
  go_ret;exact⟨_,rfl,HO7.out,HB7.out⟩
theorem cloneEv_calls (A0:Option Addr) (c0 n:Nat) (l0:List SE) (w:World) (hr0:Kd.C kE w A0 n l0) (hn:l0.length=n) (hl:n≤1000000):
  Calls Tryz.prog 101 #[.slice A0 n c0] w fun e w'=>∃v:Value,e= .returned v∧Kd.R kE 49 w' w.heap.size (fun _=>True) v l0∧Below w.heap.size w w':=by
 subst hn;have qT:∀(w:World) (a:Option Addr) (n c n' c':Nat),(binOp .eql 47 (.slice a n c) (.slice none n' c')).run Tryz.prog w= .ok (.bool a.isNone) w:=fun w a n c n' c'=>Lib.run_eql_slice_nil w _ _ a n c n' c' Tryz.underlying47;have HR:=am hr0;have HL:=am hl;clear hr0 hl;rcases A0 with _|ad
 ·obtain rfl:l0=[]:=by
   have h:=HR.out;cases l0 with
   |nil=>rfl
   |cons x xs=>
    obtain⟨ad,h2,_⟩:=h.2.2 (by simp);cases h2
  go_enter Tryz.func101,Tryz.ntmps101
  go_wp2
  go_ret;exact⟨_,rfl,Kd.R_nil _ _ _ _ _,Below.refl _ _⟩
 ·go_enter Tryz.func101,Tryz.ntmps101
  go_wp2_with (first|((with_reducible refine gate_dst (N:=5) rfl ?_);refine Kd.R_lit kE _ 49 ?hg (N:=5) ?hd (xs:=([]:List SE)) (inner:=[]) (ok:=fun _=>True) (okp:=fun _=>True) ?hr ?hp (fun _ hk=>hk) trivial (Below.refl _ _) (Nat.le_refl _) (by simp) ?_;(case hd=>rfl);(case hg=>rfl);(case hr=>first|(go_simp;done)|(go_simp;rfl));(case hp=>exact Reps.none _ _);intro v5 w5 ho5 hb5 hg5 hnew5;have HO5:=am ho5;have HB5:=am hb5;clear ho5 hb5 hg5 hnew5)|((with_reducible refine gate_builtin (b:= .append) (xs:= #[.tmp 5,.tmp 6]) rfl ?_);at_builtin;refine Kd.R_append_rows kE (Rr:=Kd.K kE w5) (w0:=w) w.heap.size rfl (.tmp 5) (.tmp 6) 47 49 (.agg #[.int .i64 0,.slice none 0 0,.int .i64 0,.int .i64 0,.int .i64 0,.int .i64 0]) 64 rfl Tryz.underlying47 infoEv rfl (by decide) (by omega) v5 [] l0 (some ad) l0.length c0 (fun _=>True) (fun _=>False) rfl rfl HO5.out ?aR ?aK (fun _ h=>h.elim) (fun _ _=>trivial) HB5.out HB5.out.size ?aL ?_;(case aR=>exact Kd.C_below HR.out HB5.out);(case aK=>exact(fun q cs hq=>hq));(case aL=>have:=HL.out;simp;omega);intro v7 w7 ho7 hb7 hg7 hat7;have HO7:=am ho7;have HB7:=am hb7;clear ho7 hb7 hg7 hat7))
  go_ret;exact⟨_,rfl,HO7.out,HB7.out⟩
theorem cloneEvs_calls (A0:Option Addr) (c0 n:Nat) (l0:List SH) (w:World) (hr0:Kd.C kH w A0 n l0) (hn:l0.length=n) (hl:n≤1000000):
  Calls Tryz.prog 79 #[.slice A0 n c0] w fun e w'=>∃v:Value,e= .returned v∧Kd.R kH 47 w' w.heap.size (fun _=>True) v l0∧Below w.heap.size w w':=by
 subst hn;have qT:∀(w:World) (a:Option Addr) (n c n' c':Nat),(binOp .eql 31 (.slice a n c) (.slice none n' c')).run Tryz.prog w= .ok (.bool a.isNone) w:=fun w a n c n' c'=>Lib.run_eql_slice_nil w _ _ a n c n' c' Tryz.underlying31;have HR:=am hr0;have HL:=am hl;clear hr0 hl;rcases A0 with _|ad
 ·obtain rfl:l0=[]:=by
   have h:=HR.out;cases l0 with
   |nil=>rfl
   |cons x xs=>
    obtain⟨ad,h2,_⟩:=h.2.2 (by simp);cases h2
  go_enter Tryz.func79,Tryz.ntmps79
  go_wp2
  go_ret;exact⟨_,rfl,Kd.R_nil _ _ _ _ _,Below.refl _ _⟩
 ·go_enter Tryz.func79,Tryz.ntmps79
  go_wp2_with (first|((with_reducible refine gate_dst (N:=5) rfl ?_);refine Kd.R_lit kH _ 47 ?hg (N:=5) ?hd (xs:=([]:List SH)) (inner:=[]) (ok:=fun _=>True) (okp:=fun _=>True) ?hr ?hp (fun _ hk=>hk) trivial (Below.refl _ _) (Nat.le_refl _) (by simp) ?_;(case hd=>rfl);(case hg=>rfl);(case hr=>first|(go_simp;done)|(go_simp;rfl));(case hp=>exact Reps.none _ _);intro v5 w5 ho5 hb5 hg5 hnew5;have HO5:=am ho5;have HB5:=am hb5;clear ho5 hb5 hg5 hnew5)|((with_reducible refine gate_builtin (b:= .append) (xs:= #[.tmp 5,.tmp 6]) rfl ?_);at_builtin;refine Kd.R_append_rows kH (Rr:=Kd.K kH w5) (w0:=w) w.heap.size rfl (.tmp 5) (.tmp 6) 31 47 (.slice none 0 0) 24 rfl Tryz.underlying31 infoEvs rfl (by decide) (by omega) v5 [] l0 (some ad) l0.length c0 (fun _=>True) (fun _=>False) rfl rfl HO5.out ?aR ?aK (fun _ h=>h.elim) (fun _ _=>trivial) HB5.out HB5.out.size ?aL ?_;(case aR=>exact Kd.C_below HR.out HB5.out);(case aK=>exact(fun q cs hq=>hq));(case aL=>have:=HL.out;simp;omega);intro v7 w7 ho7 hb7 hg7 hat7;have HO7:=am ho7;have HB7:=am hb7;clear ho7 hb7 hg7 hat7))
  go_ret;exact⟨_,rfl,HO7.out,HB7.out⟩
theorem cloneLP_calls (A0:Option Addr) (c0 n:Nat) (l0:List SLp) (w:World) (hr0:Kd.C kLp w A0 n l0) (hn:l0.length=n) (hl:n≤1000000):
  Calls Tryz.prog 80 #[.slice A0 n c0] w fun e w'=>∃v:Value,e= .returned v∧Kd.R kLp 91 w' w.heap.size (fun _=>True) v l0∧Below w.heap.size w w':=by
 subst hn;have qT:∀(w:World) (a:Option Addr) (n c n' c':Nat),(binOp .eql 32 (.slice a n c) (.slice none n' c')).run Tryz.prog w= .ok (.bool a.isNone) w:=fun w a n c n' c'=>Lib.run_eql_slice_nil w _ _ a n c n' c' Tryz.underlying32;have HR:=am hr0;have HL:=am hl;clear hr0 hl;rcases A0 with _|ad
 ·obtain rfl:l0=[]:=by
   have h:=HR.out;cases l0 with
   |nil=>rfl
   |cons x xs=>
    obtain⟨ad,h2,_⟩:=h.2.2 (by simp);cases h2
  go_enter Tryz.func80,Tryz.ntmps80
  go_wp2
  go_ret;exact⟨_,rfl,Kd.R_nil _ _ _ _ _,Below.refl _ _⟩
 ·go_enter Tryz.func80,Tryz.ntmps80
  go_wp2_with (first|((with_reducible refine gate_dst (N:=5) rfl ?_);refine Kd.R_lit kLp _ 91 ?hg (N:=5) ?hd (xs:=([]:List SLp)) (inner:=[]) (ok:=fun _=>True) (okp:=fun _=>True) ?hr ?hp (fun _ hk=>hk) trivial (Below.refl _ _) (Nat.le_refl _) (by simp) ?_;(case hd=>rfl);(case hg=>rfl);(case hr=>first|(go_simp;done)|(go_simp;rfl));(case hp=>exact Reps.none _ _);intro v5 w5 ho5 hb5 hg5 hnew5;have HO5:=am ho5;have HB5:=am hb5;clear ho5 hb5 hg5 hnew5)|((with_reducible refine gate_builtin (b:= .append) (xs:= #[.tmp 5,.tmp 6]) rfl ?_);at_builtin;refine Kd.R_append_rows kLp (Rr:=Kd.K kLp w5) (w0:=w) w.heap.size rfl (.tmp 5) (.tmp 6) 32 91 (.agg #[.int .i64 0,.int .i64 0,.slice none 0 0,.int .i64 0]) 48 rfl Tryz.underlying32 infoLP rfl (by decide) (by omega) v5 [] l0 (some ad) l0.length c0 (fun _=>True) (fun _=>False) rfl rfl HO5.out ?aR ?aK (fun _ h=>h.elim) (fun _ _=>trivial) HB5.out HB5.out.size ?aL ?_;(case aR=>exact Kd.C_below HR.out HB5.out);(case aK=>exact(fun q cs hq=>hq));(case aL=>have:=HL.out;simp;omega);intro v7 w7 ho7 hb7 hg7 hat7;have HO7:=am ho7;have HB7:=am hb7;clear ho7 hb7 hg7 hat7))
  go_ret;exact⟨_,rfl,HO7.out,HB7.out⟩
theorem cloneProc_calls (A0:Option Addr) (c0 n:Nat) (l0:List SP) (w:World) (hr0:Kd.C kPr w A0 n l0) (hn:l0.length=n) (hl:n≤1000000):
  Calls Tryz.prog 107 #[.slice A0 n c0] w fun e w'=>∃v:Value,e= .returned v∧Kd.R kPr 114 w' w.heap.size (fun _=>True) v l0∧Below w.heap.size w w':=by
 subst hn;have qT:∀(w:World) (a:Option Addr) (n c n' c':Nat),(binOp .eql 89 (.slice a n c) (.slice none n' c')).run Tryz.prog w= .ok (.bool a.isNone) w:=fun w a n c n' c'=>Lib.run_eql_slice_nil w _ _ a n c n' c' Tryz.underlying89;have HR:=am hr0;have HL:=am hl;clear hr0 hl;rcases A0 with _|ad
 ·obtain rfl:l0=[]:=by
   have h:=HR.out;cases l0 with
   |nil=>rfl
   |cons x xs=>
    obtain⟨ad,h2,_⟩:=h.2.2 (by simp);cases h2
  go_enter Tryz.func107,Tryz.ntmps107
  go_wp2
  go_ret;exact⟨_,rfl,Kd.R_nil _ _ _ _ _,Below.refl _ _⟩
 ·go_enter Tryz.func107,Tryz.ntmps107
  go_wp2_with (first|((with_reducible refine gate_dst (N:=5) rfl ?_);refine Kd.R_lit kPr _ 114 ?hg (N:=5) ?hd (xs:=([]:List SP)) (inner:=[]) (ok:=fun _=>True) (okp:=fun _=>True) ?hr ?hp (fun _ hk=>hk) trivial (Below.refl _ _) (Nat.le_refl _) (by simp) ?_;(case hd=>rfl);(case hg=>rfl);(case hr=>first|(go_simp;done)|(go_simp;rfl));(case hp=>exact Reps.none _ _);intro v5 w5 ho5 hb5 hg5 hnew5;have HO5:=am ho5;have HB5:=am hb5;clear ho5 hb5 hg5 hnew5)|((with_reducible refine gate_builtin (b:= .append) (xs:= #[.tmp 5,.tmp 6]) rfl ?_);at_builtin;refine Kd.R_append_rows kPr (Rr:=Kd.K kPr w5) (w0:=w) w.heap.size rfl (.tmp 5) (.tmp 6) 89 114 (.agg #[.int .i64 0,.int .i64 0,.bool false,.slice none 0 0]) 48 rfl Tryz.underlying89 infoProc rfl (by decide) (by omega) v5 [] l0 (some ad) l0.length c0 (fun _=>True) (fun _=>False) rfl rfl HO5.out ?aR ?aK (fun _ h=>h.elim) (fun _ _=>trivial) HB5.out HB5.out.size ?aL ?_;(case aR=>exact Kd.C_below HR.out HB5.out);(case aK=>exact(fun q cs hq=>hq));(case aL=>have:=HL.out;simp;omega);intro v7 w7 ho7 hb7 hg7 hat7;have HO7:=am ho7;have HB7:=am hb7;clear ho7 hb7 hg7 hat7))
  go_ret;exact⟨_,rfl,HO7.out,HB7.out⟩
def cmpI (x y:Int):Int:=if x<y then -1 else if y<x then 1 else 0
def cmpK:List Int→List Int→Int
 | [],[]=>0
 | [],_::_=> -1
 |_::_,[]=>1
 |x::xs,y::ys=>if cmpI x y≠0 then cmpI x y else cmpK xs ys
def cmpE (a b:Ev):Int:=if cmpI a.t b.t≠0 then cmpI a.t b.t else cmpK a.k b.k
theorem nan_calls (x:Int) (W:World):Calls Tryz.prog 136 #[.int .i64 x] W fun e w'=>e= .returned (.bool false)∧w'=W:=by
 go_enter Tryz.func136,Tryz.ntmps136
 go_wp2
 go_ret;exact⟨by simp,rfl⟩
theorem compare_calls (x y:Int) (W:World):Calls Tryz.prog 121 #[.int .i64 x,.int .i64 y] W fun e w'=>e= .returned (.int .i64 (cmpI x y))∧w'=W:=by
 unfold cmpI;by_cases h1:x<y
 ·rw[if_pos h1];have d1:decide (x<y)=true:=decide_eq_true h1;go_enter Tryz.func121,Tryz.ntmps121
  go_wp2_with (first|(go_at_call 136;(with_reducible refine(nan_calls _ _).mono ?_);rintro e wx ⟨rfl,rfl⟩))
  go_ret;exact⟨rfl,rfl⟩
 ·rw[if_neg h1];have d1:decide (x<y)=false:=decide_eq_false h1;by_cases h2:y<x
  ·rw[if_pos h2];have d2:decide (y<x)=true:=decide_eq_true h2;clear h1;go_enter Tryz.func121,Tryz.ntmps121
   go_wp2_with (first|(go_at_call 136;(with_reducible refine(nan_calls _ _).mono ?_);rintro e wx ⟨rfl,rfl⟩))
   go_ret;exact⟨rfl,rfl⟩
  ·rw[if_neg h2];have d2:decide (y<x)=false:=decide_eq_false h2;clear h1 h2;go_enter Tryz.func121,Tryz.ntmps121
   go_wp2_with (first|(go_at_call 136;(with_reducible refine(nan_calls _ _).mono ?_);rintro e wx ⟨rfl,rfl⟩))
   go_ret;exact⟨rfl,rfl⟩
def or2 (a b:Int):Int:=if a≠0 then a else b
theorem first_calls (a b:Int) (g c:Nat) (W:World) (h0:W.cell? ⟨g,0,none⟩=some (.int .i64 a)) (h1:W.cell? ⟨g,1,none⟩=some (.int .i64 b)):
  Calls Tryz.prog 120 #[.slice (some ⟨g,0,none⟩) 2 c] W fun e w'=>e= .returned (.int .i64 (or2 a b))∧w'=W:=by
 have hor:Calls Tryz.prog 135 #[.slice (some ⟨g,0,none⟩) 2 c] W fun e w'=>e= .returned (.int .i64 (or2 a b))∧w'=W:=by
  unfold or2;by_cases ha:a=0
  ·rw[if_neg (fun h=>h ha)];subst ha;by_cases hb:b=0
   ·subst hb;go_enter Tryz.func135,Tryz.ntmps135
    go_wp2
    go_loop [8] (fun i=>i= .int .i64 0∨i= .int .i64 1∨i= .int .i64 2) (fun i=>2-(intOf i).toNat)
    case atStart=>exact .inl rfl
    case round=>
     rcases hrel with rfl|rfl|rfl
     ·go_wp2
      go_round
      case rel=>exact .inr (.inl rfl)
      case measure=>simp[intOf]
     ·go_wp2
      go_round
      case rel=>exact .inr (.inr rfl)
      case measure=>simp[intOf]
     ·go_wp2
      go_ret;exact⟨rfl,rfl⟩
   ·have d1:(b==0)=false:=beq_eq_false_iff_ne.2 hb;have d2:(b != 0)=true:=bne_iff_ne.2 hb;clear hb;go_enter Tryz.func135,Tryz.ntmps135
    go_wp2
    go_loop [8] (fun i=>i= .int .i64 0∨i= .int .i64 1) (fun i=>2-(intOf i).toNat)
    case atStart=>exact .inl rfl
    case round=>
     rcases hrel with rfl|rfl
     ·go_wp2
      go_round
      case rel=>exact .inr rfl
      case measure=>simp[intOf]
     ·go_wp2
      go_ret;exact⟨rfl,rfl⟩
  ·rw[if_pos ha];have d1:(a==0)=false:=beq_eq_false_iff_ne.2 ha;have d2:(a != 0)=true:=bne_iff_ne.2 ha;clear ha;go_enter Tryz.func135,Tryz.ntmps135
   go_wp2
   go_loop [8] (fun i=>i= .int .i64 0) (fun i=>2-(intOf i).toNat)
   case atStart=>rfl
   case round=>
    obtain rfl:=hrel
    go_wp2
    go_ret;exact⟨rfl,rfl⟩
 have HOR:=am hor;clear hor h0 h1;go_enter Tryz.func120,Tryz.ntmps120
 go_wp2_with (first|(go_at_call 135;(with_reducible refine HOR.out.mono ?_);rintro e wx ⟨rfl,rfl⟩))
 go_ret;exact⟨rfl,rfl⟩
theorem cmpK_drop (a b:List Int):∀k,(∀j (h1:j<a.length) (h2:j<b.length),j<k→a[j]=b[j])→k≤a.length→k≤b.length→cmpK a b=cmpK (a.drop k) (b.drop k):=by
 induction a generalizing b with
 |nil=>
  intro k _ h _;obtain rfl:k=0:=by simpa using h
  rfl
 |cons x xs ih=>
  intro k hk h1 h2;cases k with
  |zero=>rfl
  |succ k=>
   cases b with
   |nil=>simp at h2
   |cons y ys=>
    have e:x=y:=hk 0 (by simp) (by simp) (by omega);subst e;have:cmpI x x=0:=by unfold cmpI;simp
    simp only[cmpK,this,List.drop_succ_cons];rw[if_neg (by simp)];exact ih ys k (fun j g1 g2 g3=>hk (j+1) (by simpa using g1) (by simpa using g2) (by omega)) (by simpa using h1) (by simpa using h2)
theorem rowI {w:World} {A:Option Addr} {l:List Int} (h:Kd.C (Kd.int .i64) w A l.length l) (k:Nat) (hk:k<l.length):∃ad,A=some ad∧w.cell? (ad.add k)=some (.int .i64 l[k]):=by
 obtain⟨ad,c,e1,_,hK,hc0⟩:=Kd.C_get h 0 (k:Int) (by omega) (by omega);rw[Int.toNat_natCast]at hK hc0;have e4:l.getD k 0=l[k]:=by simp[List.getD_eq_getElem?_getD,List.getElem?_eq_getElem hk]
 rw[e4]at hK;obtain rfl:c=[.int .i64 l[k]]:=hK;refine⟨ad,e1,?_⟩;have:=hc0 0 _ rfl
 simpa [Kd.int,Kd.scalar]using this
theorem at_int {w:World} {A:Option Addr} {n:Nat} {l:List Int} (h:Kd.C (Kd.int .i64) w A n l) (k:Nat) (hk:k<n):∃ad x,A=some ad∧w.cell? (ad.add k)=some (.int .i64 x)∧∃(h2:k<l.length),l[k]=x:=by
 have hl:l.length=n:=h.1;subst hl;obtain⟨ad,e,hc⟩:=rowI h k hk;exact⟨ad,_,e,hc,hk,rfl⟩
theorem scompare_calls (A0 A1:Option Addr) (n0 n1 c0 c1:Nat) (a b:List Int) (W:World) (h0:Kd.C (Kd.int .i64) W A0 n0 a) (h1:Kd.C (Kd.int .i64) W A1 n1 b) (hl0:n0≤1000000) (hl1:n1≤1000000):
  Calls Tryz.prog 137 #[.slice A0 n0 c0,.slice A1 n1 c1] W fun e w'=>e= .returned (.int .i64 (cmpK a b))∧w'=W:=by
 have e0:a.length=n0:=h0.1;have e1:b.length=n1:=h1.1;have H0:=am h0;have H1:=am h1;have E0:=am e0;have E1:=am e1;obtain⟨r,hr⟩:∃r,cmpK a b=r:=⟨_,rfl⟩;rw[hr];have HRR:=am hr;clear h0 h1 e0 e1 hr;go_enter Tryz.func137,Tryz.ntmps137
 go_wp2
 go_loop [11] (fun i=>∃k:Nat,k≤n0∧k≤n1∧i= .int .i64 k∧Aside0 (∀j (h1:j<a.length) (h2:j<b.length),j<k→a[j]=b[j])) (fun i=>n0-(intOf i).toNat)
 case atStart=>exact⟨0,Nat.zero_le _,Nat.zero_le _,rfl,⟨fun j _ _ h=>absurd h (by omega)⟩⟩
 case round=>
  obtain⟨k,hk,hk1,rfl,HE⟩:=hrel;have hd:=cmpK_drop a b k HE.out (by rw[E0.out];exact hk) (by rw[E1.out];exact hk1);by_cases g0:k<n0
  ·obtain⟨ad0,x,q0,c00,hk2,hx⟩:=at_int H0.out k g0;cases q0;have d0:decide ((k:Int)<n0)=true:=dt (by omega);have ea:a.drop k=x::a.drop (k+1):=by rw[List.drop_eq_getElem_cons hk2,hx]
   by_cases g1:k<n1
   ·obtain⟨ad1,y,q1,c11,hk3,hy⟩:=at_int H1.out k g1;cases q1;have d1:decide ((n1:Int)≤k)=false:=df (by omega);have eb:b.drop k=y::b.drop (k+1):=by rw[List.drop_eq_getElem_cons hk3,hy]
    rw[ea,eb]at hd;obtain⟨c,hc⟩:∃c,cmpI x y=c:=⟨_,rfl⟩;have HC:=am hc;by_cases gc:c=0
    ·have hxy:x=y:=by
      unfold cmpI at hc
      split at hc
      ·omega
      ·split at hc
       ·omega
       ·omega
     have HN:=am (show∀j (h1:j<a.length) (h2:j<b.length),j<k+1→a[j]=b[j]from fun j g1 g2 g3=>by
      rcases Nat.lt_succ_iff_lt_or_eq.1 g3 with g|rfl
      ·exact HE.out j g1 g2 g
      ·rw[hx,hy,hxy])
     subst gc;clear hd ea eb hx hy hc HE hxy
     go_wp2_with (first|(go_at_call 121;(with_reducible refine(compare_calls x y _).mono ?_);rw[HC.out];rintro e wx ⟨rfl,rfl⟩))
     go_round
     case rel=>exact⟨k+1,by omega,by omega,by go_num,HN⟩
     case measure=>simp[intOf];omega
    ·have er:c=r:=by
      rw[←HRR.out,hd];simp only[cmpK];rw[hc,if_pos gc]
     subst er;have dc:(c==0)=false:=beq_eq_false_iff_ne.2 gc;have dc2:(c != 0)=true:=bne_iff_ne.2 gc;clear hd ea eb hx hy hc HE gc HRR
     go_wp2_with (first|(go_at_call 121;(with_reducible refine(compare_calls x y _).mono ?_);rw[HC.out];rintro e wx ⟨rfl,rfl⟩))
     go_ret;exact⟨rfl,rfl⟩
   ·have d1:decide ((n1:Int)≤k)=true:=dt (by omega);have eb:b.drop k=[]:=List.drop_eq_nil_of_le (by rw[E1.out];omega);rw[ea,eb]at hd;have er:r=1:=by rw[←HRR.out,hd];rfl
    subst er;clear hd ea eb hx HE HRR
    go_wp2
    go_ret;exact⟨rfl,rfl⟩
  ·obtain rfl:k=n0:=by omega
   have ea:a.drop k=[]:=List.drop_eq_nil_of_le (by rw[E0.out];omega);by_cases g1:k<n1
   ·have d1:decide ((k:Int)<n1)=true:=dt (by omega);have er:r= -1:=by
     rw[←HRR.out,hd,ea,List.drop_eq_getElem_cons (by rw[E1.out];exact g1)];rfl
    subst er;clear hd ea HE HRR
    go_wp2
    go_ret;exact⟨rfl,rfl⟩
   ·have d1:decide ((k:Int)<n1)=false:=df (by omega);have er:r=0:=by
     rw[←HRR.out,hd,ea,List.drop_eq_nil_of_le (by rw[E1.out];omega)];rfl
    subst er;clear hd ea HE HRR
    go_wp2
    go_ret;exact⟨rfl,rfl⟩
theorem cmpKeys_calls (A0 A1:Option Addr) (n0 n1 c0 c1:Nat) (a b:List Int) (W:World) (h0:Kd.C (Kd.int .i64) W A0 n0 a) (h1:Kd.C (Kd.int .i64) W A1 n1 b) (hl0:n0≤1000000) (hl1:n1≤1000000):
  Calls Tryz.prog 122 #[.slice A0 n0 c0,.slice A1 n1 c1] W fun e w'=>e= .returned (.int .i64 (cmpK a b))∧w'=W:=by
 have HC:=am (scompare_calls A0 A1 n0 n1 c0 c1 a b W h0 h1 hl0 hl1);clear h0 h1;go_enter Tryz.func122,Tryz.ntmps122
 go_wp2_with (first|(go_at_call 137;(with_reducible refine HC.out.mono ?_);rintro e wx ⟨rfl,rfl⟩))
 go_ret;exact⟨rfl,rfl⟩
theorem cell_new (w:World) (a:Array Value) (t:TypeId) (n j:Nat) (v:Value) (hn:n=w.heap.size) (hv:a[j]?=some v):(w.alloc (.cells a t)).cell? ⟨n,j,none⟩=some v:=by
 subst hn;simp only[World.cell?,World.alloc_heap_new];exact hv
theorem cmpEvents_calls (x y:SE) (ex ey:Ev) (W:World) (hx:x.t=ex.t) (hy:y.t=ey.t) (h0:Kd.C (Kd.int .i64) W x.k.A x.k.n ex.k) (h1:Kd.C (Kd.int .i64) W y.k.A y.k.n ey.k) (hl0:x.k.n≤1000000) (hl1:y.k.n≤1000000):
  Calls Tryz.prog 103 #[.agg #[.int .i64 x.t,.slice x.k.A x.k.n x.k.c,.int .i64 x.lp,.int .i64 x.kd,.int .i64 x.pr,.int .i64 x.ar],.agg #[.int .i64 y.t,.slice y.k.A y.k.n y.k.c,.int .i64 y.lp,.int .i64 y.kd,.int .i64 y.pr,.int .i64 y.ar]] W fun e w'=>e= .returned (.int .i64 (cmpE ex ey))∧Below W.heap.size W w':=by
 obtain⟨xt,xk,xl,xd,xp,xa⟩:=x;obtain⟨yt,yk,yl,yd,yp,ya⟩:=y;simp only at hx hy h0 h1 hl0 hl1 ⊢;have HE:=am (show or2 (cmpI xt yt) (cmpK ex.k ey.k)=cmpE ex ey by rw[hx,hy];rfl);have hb:∀o1 o2,Below W.heap.size W ((W.alloc o1).alloc o2):=fun o1 o2=>below_alloc (below_alloc (Below.refl _ _) _) _;have HCK:=am (fun o1 o2=>cmpKeys_calls xk.A yk.A xk.n yk.n xk.c yk.c ex.k ey.k (((W.alloc o1).alloc o2).drew) (Kd.C_below h0 (below_drew1 (hb o1 o2))) (Kd.C_below h1 (below_drew1 (hb o1 o2))) hl0 hl1)
 have HF:=am (fun o1 o2=>first_calls (cmpI xt yt) (cmpK ex.k ey.k) (W.heap.size+1+1) 2 ((((W.alloc o1).alloc o2).alloc (Obj.cells #[.int .i64 (cmpI xt yt),.int .i64 (cmpK ex.k ey.k)] 3)).drew) (cell_new _ _ _ _ _ _ (by simp) rfl) (cell_new _ _ _ _ _ _ (by simp) rfl));clear hx hy h0 h1;go_enter Tryz.func103,Tryz.ntmps103;go_upto_region 1 with (fail)
 go_region_held3 (fun w'=>w'.cell? ⟨W.heap.size,0,none⟩=some (.int .i64 xt)∧w'.cell? ⟨W.heap.size,1,none⟩=some (.slice xk.A xk.n xk.c)∧w'.cell? ⟨W.heap.size+1,0,none⟩=some (.int .i64 yt)∧w'.cell? ⟨W.heap.size+1,1,none⟩=some (.slice yk.A yk.n yk.c)) (go_keep) (first|(go_at_call 121;(with_reducible refine(compare_calls _ _ _).mono ?_);rintro e wx ⟨rfl,rfl⟩)|(go_at_call 122;(with_reducible refine(HCK.out _ _).mono ?_);rintro e wx ⟨rfl,rfl⟩)|(go_at_call 120;((with_reducible refine(HF.out _ _).mono ?_);rintro e wx ⟨rfl,rfl⟩)))
 all_goals go_wp2_with (fail)
 all_goals go_ret
 all_goals exact⟨by rw[←HE.out];rfl,below_drew1 (below_alloc (hb _ _) _)⟩
def SE.v (x:SE):Value:= .agg #[.int .i64 x.t,.slice x.k.A x.k.n x.k.c,.int .i64 x.lp,.int .i64 x.kd,.int .i64 x.pr,.int .i64 x.ar]
def Row (W:World) (base g n cap:Nat) (l:List SE):Prop:=Kd.R kE 49 W base (fun _=>True) (.slice (some ⟨g,0,none⟩) n cap) l
theorem Row.len {W:World} {base g n cap:Nat} {l:List SE} (h:Row W base g n cap l):n=l.length:=(Kd.R_reads' h).1
theorem Row.cells {W:World} {base g n cap:Nat} {l:List SE} (h:Row W base g n cap l) (i:Nat) (hi:i<l.length):
  W.cell? ⟨g,i*6,none⟩=some (.int .i64 l[i].t)∧W.cell? ⟨g,i*6+1,none⟩=some (.slice l[i].k.A l[i].k.n l[i].k.c)∧W.cell? ⟨g,i*6+2,none⟩=some (.int .i64 l[i].lp)∧W.cell? ⟨g,i*6+3,none⟩=some (.int .i64 l[i].kd)∧W.cell? ⟨g,i*6+4,none⟩=some (.int .i64 l[i].pr)∧W.cell? ⟨g,i*6+5,none⟩=some (.int .i64 l[i].ar):=by
 have hn:=h.len;obtain⟨c,_,hM,hc,_⟩:=Kd.R_elem h SE.zero (i:Int) (by omega) (by omega);rw[Int.toNat_natCast]at hM hc;have e4:l.getD i SE.zero=l[i]:=by simp[List.getD_eq_getElem?_getD,List.getElem?_eq_getElem hi]
 rw[e4]at hM;obtain rfl:c=SE.cells l[i]:=hM;exact⟨hc 0 _ rfl,hc 1 _ rfl,hc 2 _ rfl,hc 3 _ rfl,hc 4 _ rfl,hc 5 _ rfl⟩
theorem Row.free {W:World} {base g n cap:Nat} {l:List SE} (h:Row W base g n cap l) (j:Nat):W.frozen? ⟨g,j,none⟩=false:=by
 obtain⟨cells,hc⟩:=Kd.R_typed h g (by simp[Value.ownBlock]);exact blk_frozen hc _
theorem Row.set {W:World} {base g n cap:Nat} {l:List SE} (h:Row W base g n cap l) (i:Nat) (hi:i<l.length) (x:SE):Row (W.setCells g (i*6) x.cells) base g n cap (l.set i x)∧W.grownBy (W.setCells g (i*6) x.cells) (some g):=by
 have hn:=h.len;obtain⟨c,hl,hM,hc,_⟩:=Kd.R_elem h SE.zero (i:Int) (by omega) (by omega);have:=Kd.R_seg (okp:=fun _=>False) h (i:Int) (by omega) (by omega) (c:=c) (seg:=x.cells) (j:=0) (x':=x) hl hc (Nat.le_of_eq (by rfl)) (by
  have e6:c.length=6:=hl;show _=x.cells;rw[List.take_zero,List.nil_append,List.drop_eq_nil_of_le (by rw[e6];exact Nat.le_refl _),List.append_nil]) (fun _ h=>h.elim)
 rw[Int.toNat_natCast]at this;exact this
theorem getD_at {α:Type} (l:List α) (i:Nat) (hi:i<l.length) (z:α):l.getD i z=l[i]:=by simp[List.getD_eq_getElem?_getD,List.getElem?_eq_getElem hi]
def swp (l:List SE) (i j:Nat):List SE:=(l.set i (l.getD j SE.zero)).set j (l.getD i SE.zero)
theorem swp_length (l:List SE) (i j:Nat):(swp l i j).length=l.length:=by simp[swp]
theorem grown_refl (w:World) (r:Option Nat):w.grownBy w r:=⟨rfl,rfl,rfl,Nat.le_refl _,fun _ _ _=>rfl⟩
theorem grown_trans {w w1 w2:World} {r:Option Nat} (h:w.grownBy w1 r) (k:w1.grownBy w2 r):w.grownBy w2 r:=⟨k.os.trans h.os,k.tape.trans h.tape,k.output.trans h.output,Nat.le_trans h.size k.size,fun j hj hn=>(k.block j (Nat.lt_of_lt_of_le hj h.size) hn).trans (h.block j hj hn)⟩
theorem grown_drew (w:World) (r:Option Nat):w.grownBy w.drew r:=grown_of_below (below_drew (Below.refl _ _)) r
structure RowTo (W w':World) (base g n cap:Nat) (l':List SE):Prop where
 row:Row w' base g n cap l'
 grown:W.grownBy w' (some g)
 below:Below base W w'
theorem RowTo.refl {W:World} {base g n cap:Nat} {l:List SE} (h:Row W base g n cap l):RowTo W W base g n cap l:=⟨h,grown_refl _ _,Below.refl _ _⟩
theorem RowTo.trans {W w1 w2:World} {base g n cap:Nat} {l l':List SE} (h:RowTo W w1 base g n cap l) (k:RowTo w1 w2 base g n cap l'):RowTo W w2 base g n cap l':=⟨k.row,grown_trans h.grown k.grown,h.below.trans k.below⟩
theorem RowTo.drew {W w1:World} {base g n cap:Nat} {l:List SE} (h:RowTo W w1 base g n cap l):RowTo W w1.drew base g n cap l:=⟨Kd.R_drew h.row,grown_trans h.grown (grown_drew _ _),below_drew h.below⟩
theorem Row.put {W:World} {base g n cap:Nat} {l:List SE} (h:Row W base g n cap l) (i:Nat) (hi:i<l.length) (x:SE):RowTo W (W.setCells g (i*6) x.cells) base g n cap (l.set i x):=by
 obtain⟨h1,h2⟩:=h.set i hi x;have hb:=Kd.R_base h g (by simp[Value.ownBlock]);have hlt:=Kd.R_lt h g (by simp[Value.ownBlock]);exact⟨h1,h2,(Below.refl base W).grown h2 (by omega) (fun k hk=>by injection hk with hk;omega)⟩
theorem Row.swap {W:World} {base g n cap:Nat} {l:List SE} (h:Row W base g n cap l) (i j:Nat) (hi:i<l.length) (hj:j<l.length) (x y:SE) (hx:x=l.getD i SE.zero) (hy:y=l.getD j SE.zero):
  RowTo W ((W.setCells g (i*6) y.cells).setCells g (j*6) x.cells) base g n cap (swp l i j):=by
 have h1:=h.put i hi y;have h2:=h1.row.put j (by rw[List.length_set];exact hj) x;have:=h1.trans h2
 rwa [hx,hy]at this ⊢
def swpR (l:List SE) (a b:Nat):Nat→List SE
 |0=>l
 |k+1=>swp (swpR l a b k) (a+k) (b+k)
theorem swpR_length (l:List SE) (a b k:Nat):(swpR l a b k).length=l.length:=by
 induction k with
 |zero=>rfl
 |succ k ih=>rw[swpR,swp_length,ih]
theorem swapRange_calls {W:World} {base g N cap:Nat} {l:List SE} (fv:Value) (h:Row W base g N cap l) (a b n:Nat) (hab:a+n≤b) (hb:b+n≤l.length) (hs:l.length≤1000000):
  Calls Tryz.prog 155 #[.slice (some ⟨g,0,none⟩) N cap,.int .i64 a,.int .i64 b,.int .i64 n,fv] W fun e w'=>e= .returned (.tuple #[])∧Row w' base g N cap (swpR l a b n)∧W.grownBy w' (some g)∧Below base W w':=by
 have hN:=h.len;subst hN;have H:=am h;clear h;go_enter Tryz.func155,Tryz.ntmps155
 go_wp2_with (fail)
 go_loopw [10] (fun i w'=>∃k:Nat,k≤n∧i= .int .i64 k∧Aside0 (Row w' base g l.length cap (swpR l a b k))∧Aside0 (W.grownBy w' (some g))∧Aside0 (Below base W w')) (fun i _=>n-(intOf i).toNat)
 case atStart=>exact⟨0,Nat.zero_le _,rfl,H,⟨grown_refl _ _⟩,⟨Below.refl _ _⟩⟩
 case round=>
  obtain⟨k,hk,rfl,HR,HG,HB⟩:=hrel;by_cases hlt:k<n
  ·have hl:=swpR_length l a b k;obtain⟨p0,p1,p2,p3,p4,p5⟩:=HR.out.cells (a+k) (by omega);obtain⟨q0,q1,q2,q3,q4,q5⟩:=HR.out.cells (b+k) (by omega);have fr:=HR.out.free;have HD:=am (show(swpR l a b k)[a+k]=(swpR l a b k).getD (a+k) SE.zero from(getD_at _ _ _ _).symm);have HD2:=am (show(swpR l a b k)[b+k]=(swpR l a b k).getD (b+k) SE.zero from(getD_at _ _ _ _).symm);generalize (swpR l a b k)[a+k]=x at*;generalize (swpR l a b k)[b+k]=y at*;obtain⟨xt,⟨xA,xn,xc⟩,xl,xd,xp,xa⟩:=x;obtain⟨yt,⟨yA,yn,yc⟩,yl,yd,yp,ya⟩:=y;simp only at p0 p1 p2 p3 p4 p5 q0 q1 q2 q3 q4 q5;have HL:=am hl
   have w1:IntKind.i64.wrap ((a:Int)+(k:Int))=(a:Int)+k:=(i64_w _).trans (by unfold Go.RowKit.wrap64;omega);have w2:IntKind.i64.wrap ((b:Int)+(k:Int))=(b:Int)+k:=(i64_w _).trans (by unfold Go.RowKit.wrap64;omega);have t1:((a:Int)+(k:Int)).toNat=a+k:=by omega
   have t2:((b:Int)+(k:Int)).toNat=b+k:=by omega
   have z1:(0:Int)≤(a:Int)+k:=by omega
   have z2:(0:Int)≤(b:Int)+k:=by omega
   have m1:(a:Int)+k<(l.length:Nat):=by omega
   have m2:(b:Int)+k<(l.length:Nat):=by omega
   have d1:decide ((k:Int)<(n:Int))=true:=dt (by omega);clear hl;go_upto_region 3 with (fail)
   go_region_with (fail)
   all_goals clear p0 p1 p2 p3 p4 p5 q0 q1 q2 q3 q4 q5
   all_goals go_wp2_with (fail)
   all_goals go_roundw
   all_goals first
    |(simp[intOf];omega;done)
    |(exact(fun HT=>⟨k+1,by omega,by go_num,⟨HT.row⟩,⟨HT.grown⟩,⟨HT.below⟩⟩) ((⟨HR.out,HG.out,HB.out⟩:RowTo W wr base g l.length cap (swpR l a b k)).trans (HR.out.swap (a+k) (b+k) (by rw[HL.out];omega) (by rw[HL.out];omega) _ _ HD.out HD2.out).drew))
    |(exact(fun HT=>⟨k+1,by omega,by go_num,⟨HT.row⟩,⟨HT.grown⟩,⟨HT.below⟩⟩) ((⟨HR.out,HG.out,HB.out⟩:RowTo W wr base g l.length cap (swpR l a b k)).trans (HR.out.swap' (a+k) (b+k) (by rw[HL.out];omega) (by rw[HL.out];omega) (by omega) _ _ HD.out HD2.out).drew))
  ·obtain rfl:k=n:=by omega
   have d1:decide ((k:Int)<(k:Int))=false:=df (by omega)
   go_wp2_with (fail)
   go_end0
   exact⟨rfl,HR.out,HG.out,HB.out⟩
theorem swapRange_calls' {W:World} {base g N cap:Nat} {l:List SE} (fv:Value) (h:Row W base g N cap l) (xa xb xn:Int) (a b n:Nat) (ea:xa=(a:Nat)) (eb:xb=(b:Nat)) (en:xn=(n:Nat)) (hab:a+n≤b) (hb:b+n≤l.length) (hs:l.length≤1000000):
  Calls Tryz.prog 155 #[.slice (some ⟨g,0,none⟩) N cap,.int .i64 xa,.int .i64 xb,.int .i64 xn,fv] W fun e w'=>e= .returned (.tuple #[])∧RowTo W w' base g N cap (swpR l a b n):=by
 subst ea eb en;exact(swapRange_calls fv h a b n hab hb hs).mono fun e w' ⟨h1,h2,h3,h4⟩=>⟨h1,h2,h3,h4⟩
theorem getD_set {α:Type} (l:List α) (i k:Nat) (x z:α) (hi:i<l.length):(l.set i x).getD k z=if k=i then x else l.getD k z:=by
 rw[List.getD_eq_getElem?_getD,List.getD_eq_getElem?_getD,List.getElem?_set];by_cases h:k=i
 ·subst h;rw[if_pos rfl,if_pos rfl,if_pos hi];rfl
 ·rw[if_neg (fun e=>h e.symm),if_neg h]
theorem swp_get (l:List SE) (i j k:Nat) (hi:i<l.length) (hj:j<l.length):(swp l i j).getD k SE.zero=if k=j then l.getD i SE.zero else if k=i then l.getD j SE.zero else l.getD k SE.zero:=by
 unfold swp;rw[getD_set _ _ _ _ _ (by rw[List.length_set];exact hj)]
 split
 ·rfl
 ·rw[getD_set _ _ _ _ _ hi]
theorem swpR_get (l:List SE) (a b n:Nat) (hab:a+n≤b) (hb:b+n≤l.length) (k:Nat):(swpR l a b n).getD k SE.zero=if a≤k∧k<a+n then l.getD (k+(b-a)) SE.zero else if b≤k∧k<b+n then l.getD (k-(b-a)) SE.zero else l.getD k SE.zero:=by
 induction n generalizing k with
 |zero=>
  rw[if_neg (by omega),if_neg (by omega)];rfl
 |succ n ih=>
  have ih:=ih (by omega) (by omega);rw[swpR,swp_get _ _ _ _ (by rw[swpR_length];omega) (by rw[swpR_length];omega)];rw[ih (a+n),ih (b+n),ih k];rw[if_neg (by omega:¬(a≤a+n∧a+n<a+n)),if_neg (by omega:¬(b≤a+n∧a+n<b+n)),if_neg (by omega:¬(a≤b+n∧b+n<a+n)),if_neg (by omega:¬(b≤b+n∧b+n<b+n))];by_cases h1:k=b+n
  ·subst h1;rw[if_pos rfl,if_neg (by omega),if_pos (by omega)]
   congr 1
   omega
  ·rw[if_neg h1];by_cases h2:k=a+n
   ·subst h2;rw[if_pos rfl,if_pos (by omega)]
    congr 1
    omega
   ·rw[if_neg h2];by_cases h3:a≤k∧k<a+n
    ·rw[if_pos h3,if_pos (show a≤k∧k<a+(n+1)by omega)]
    ·rw[if_neg h3,if_neg (show¬(a≤k∧k<a+(n+1))by omega)];by_cases h4:b≤k∧k<b+n
     ·rw[if_pos h4,if_pos (show b≤k∧k<b+(n+1)by omega)]
     ·rw[if_neg h4,if_neg (show¬(b≤k∧k<b+(n+1))by omega)]
def rotT (l:List SE) (a m b k:Nat):SE:=if a≤k∧k<a+(b-m)then l.getD (k+(m-a)) SE.zero else if a+(b-m)≤k∧k<b then l.getD (k-(b-m)) SE.zero else l.getD k SE.zero
def rotL (l:List SE) (a m b:Nat):List SE:=(List.range l.length).map (rotT l a m b)
theorem rotL_length (l:List SE) (a m b:Nat):(rotL l a m b).length=l.length:=by simp[rotL]
theorem rotL_get (l:List SE) (a m b k:Nat) (hk:k<l.length):(rotL l a m b).getD k SE.zero=rotT l a m b k:=by
 rw[getD_at _ _ (by rw[rotL_length];exact hk)];simp[rotL]
theorem ext_getD {l l':List SE} (h:l.length=l'.length) (f:∀k,k<l.length→l.getD k SE.zero=l'.getD k SE.zero):l=l':=by
 refine List.ext_getElem h fun k h1 h2=> ?_;have:=f k h1
 rwa [getD_at _ _ h1,getD_at _ _ h2]at this
structure RotI (l l':List SE) (a m b p q:Nat):Prop where
 len:l'.length=l.length
 out:∀k,k<m-p∨m+q≤k→l'.getD k SE.zero=rotT l a m b k
 lo:∀k,m-p≤k→k<m-p+q→rotT l a m b k=l'.getD (k+p) SE.zero
 hi:∀k,m-p+q≤k→k<m+q→rotT l a m b k=l'.getD (k-q) SE.zero
theorem RotI.start (l:List SE) (a m b:Nat) (h1:a≤m) (h2:m≤b):RotI l l a m b (m-a) (b-m):=by
 refine⟨rfl,fun k h=> ?_,fun k g1 g2=> ?_,fun k g1 g2=> ?_⟩
 ·unfold rotT;rw[if_neg (by omega),if_neg (by omega)]
 ·unfold rotT;rw[if_pos (by omega)]
 ·unfold rotT;rw[if_neg (by omega),if_pos (by omega)]
theorem RotI.left {l l':List SE} {a m b p q:Nat} (h:RotI l l' a m b p q) (hq:q<p) (hpm:p≤m) (hb:m+q≤l.length):RotI l (swpR l' (m-p) m q) a m b (p-q) q:=by
 have g:=swpR_get l' (m-p) m q (by omega) (by rw[h.len];omega);refine⟨by rw[swpR_length,h.len],fun k hk=> ?_,fun k h1 h2=> ?_,fun k h1 h2=> ?_⟩
 ·rw[g];by_cases c:m-p≤k∧k<m-p+q
  ·rw[if_pos c,h.lo k c.1 c.2]
   congr 1
   omega
  ·rw[if_neg c,if_neg (by omega)];exact h.out k (by omega)
 ·rw[g,if_neg (by omega),if_pos (by omega),h.hi k (by omega) (by omega)]
  congr 1
  omega
 ·rw[g,if_neg (by omega),if_neg (by omega),h.hi k (by omega) (by omega)]
theorem RotI.right {l l':List SE} {a m b p q:Nat} (h:RotI l l' a m b p q) (hq:p<q) (hpm:p≤m) (hb:m+q≤l.length):RotI l (swpR l' (m-p) (m+q-p) p) a m b p (q-p):=by
 have g:=swpR_get l' (m-p) (m+q-p) p (by omega) (by rw[h.len];omega);refine⟨by rw[swpR_length,h.len],fun k hk=> ?_,fun k h1 h2=> ?_,fun k h1 h2=> ?_⟩
 ·rw[g];by_cases c:m+q-p≤k∧k<m+q-p+p
  ·rw[if_neg (by omega),if_pos c,h.hi k (by omega) (by omega)]
   congr 1
   omega
  ·rw[if_neg (by omega),if_neg c];exact h.out k (by omega)
 ·rw[g,if_neg (by omega),if_neg (by omega),h.lo k (by omega) (by omega)]
 ·rw[g,if_pos (by omega),h.lo k (by omega) (by omega)]
  congr 1
  omega
theorem RotI.stop {l l':List SE} {a m b p:Nat} (h:RotI l l' a m b p p) (hpm:p≤m) (hb:m+p≤l.length):swpR l' (m-p) m p=rotL l a m b:=by
 have g:=swpR_get l' (m-p) m p (by omega) (by rw[h.len];omega);refine ext_getD (by rw[swpR_length,h.len,rotL_length]) fun k hk=> ?_;rw[swpR_length,h.len]at hk;rw[rotL_get _ _ _ _ _ hk,g];by_cases c:m-p≤k∧k<m-p+p
 ·rw[if_pos c,h.lo k c.1 c.2]
  congr 1
  omega
 ·rw[if_neg c];by_cases c2:m≤k∧k<m+p
  ·rw[if_pos c2,h.hi k (by omega) (by omega)]
   congr 1
   omega
  ·rw[if_neg c2];exact h.out k (by omega)
theorem rotate_calls {W:World} {base g N cap:Nat} {l:List SE} (fv:Value) (h:Row W base g N cap l) (a m b:Nat) (h1:a<m) (h2:m<b) (hb:b≤l.length) (hs:l.length≤1000000):
  Calls Tryz.prog 150 #[.slice (some ⟨g,0,none⟩) N cap,.int .i64 a,.int .i64 m,.int .i64 b,fv] W fun e w'=>e= .returned (.tuple #[])∧RowTo W w' base g N cap (rotL l a m b):=by
 have H:=am (RowTo.refl h);have w1:IntKind.i64.wrap ((m:Int)-(a:Int))=((m-a:Nat):Int):=(i64_w _).trans (by unfold Go.RowKit.wrap64;omega);have w2:IntKind.i64.wrap ((b:Int)-(m:Int))=((b-m:Nat):Int):=(i64_w _).trans (by unfold Go.RowKit.wrap64;omega);clear h;go_enter Tryz.func150,Tryz.ntmps150
 go_wp2_with (fail)
 go_loopw [10,11] (fun i j w'=>∃p q:Nat,0<p∧0<q∧p≤m-a∧q≤b-m∧i= .int .i64 p∧j= .int .i64 q∧∃l',Aside0 (RowTo W w' base g N cap l')∧Aside0 (RotI l l' a m b p q)) (fun i j _=>(intOf i).toNat+(intOf j).toNat)
 case atStart=>exact⟨m-a,b-m,by omega,by omega,Nat.le_refl _,Nat.le_refl _,rfl,rfl,l,H,⟨RotI.start l a m b (by omega) (by omega)⟩⟩
 case round=>
  clear H;obtain⟨p,q,hp,hq,hpa,hqb,rfl,rfl,l',HR,HI⟩:=hrel;have hln:=HI.out.len;by_cases e:p=q
  ·subst e;have HC:=am (swapRange_calls' fv HR.out.row ((m:Int)-p) m p (m-p) m p (by omega) rfl rfl (by omega) (by rw[hln];omega) (by rw[hln];exact hs));have e1:((p:Int) != (p:Int))=false:=by simp
   have w3:IntKind.i64.wrap ((m:Int)-(p:Int))=(m:Int)-p:=(i64_w _).trans (by unfold Go.RowKit.wrap64;omega)
   go_wp2_with (first|(go_at_call 155;(with_reducible refine HC.out.mono ?_);rintro e wx ⟨rfl,hx⟩;have HX:=am hx;clear hx))
   go_end0
   have:=HR.out.trans HX.out;rw[HI.out.stop (by omega) (by omega)]at this;exact⟨rfl,this⟩
  ·have e0:((p:Int) != (q:Int))=true:=by simp;omega
   by_cases hlt:q<p
   ·have e1:decide ((q:Int)<(p:Int))=true:=dt (by omega);have HC:=am (swapRange_calls' fv HR.out.row ((m:Int)-p) m q (m-p) m q (by omega) rfl rfl (by omega) (by rw[hln];omega) (by rw[hln];exact hs));have w3:IntKind.i64.wrap ((m:Int)-(p:Int))=(m:Int)-p:=(i64_w _).trans (by unfold Go.RowKit.wrap64;omega);have w4:IntKind.i64.wrap ((p:Int)-(q:Int))=((p-q:Nat):Int):=(i64_w _).trans (by unfold Go.RowKit.wrap64;omega)
    go_wp2_with (first|(go_at_call 155;(with_reducible refine HC.out.mono ?_);rintro e wx ⟨rfl,hx⟩;have HX:=am hx;clear hx))
    go_roundw
    case rel=>exact⟨p-q,q,by omega,by omega,by omega,by omega,rfl,rfl,_,⟨HR.out.trans HX.out⟩,⟨HI.out.left (by omega) (by omega) (by omega)⟩⟩
    case measure=>simp[intOf];omega
   ·have e1:decide ((q:Int)<(p:Int))=false:=df (by omega);have HC:=am (swapRange_calls' fv HR.out.row ((m:Int)-p) ((m:Int)+q-p) p (m-p) (m+q-p) p (by omega) (by omega) rfl (by omega) (by rw[hln];omega) (by rw[hln];exact hs));have w3:IntKind.i64.wrap ((m:Int)-(p:Int))=(m:Int)-p:=(i64_w _).trans (by unfold Go.RowKit.wrap64;omega);have w5:IntKind.i64.wrap ((m:Int)+(q:Int))=(m:Int)+q:=(i64_w _).trans (by unfold Go.RowKit.wrap64;omega);have w6:IntKind.i64.wrap ((m:Int)+(q:Int)-(p:Int))=(m:Int)+q-p:=(i64_w _).trans (by unfold Go.RowKit.wrap64;omega)
    have w4:IntKind.i64.wrap ((q:Int)-(p:Int))=((q-p:Nat):Int):=(i64_w _).trans (by unfold Go.RowKit.wrap64;omega)
    go_wp2_with (first|(go_at_call 155;(with_reducible refine HC.out.mono ?_);rintro e wx ⟨rfl,hx⟩;have HX:=am hx;clear hx))
    go_roundw
    case rel=>exact⟨p,q-p,by omega,by omega,by omega,by omega,rfl,rfl,_,⟨HR.out.trans HX.out⟩,⟨HI.out.right (by omega) (by omega) (by omega)⟩⟩
    case measure=>simp[intOf];omega
structure Weak (cmp:SE→SE→Int):Prop where
 asym:∀x y,cmp x y<0→¬cmp y x<0
 trans:∀x y z,¬cmp y x<0→¬cmp z y<0→¬cmp z x<0
structure Cmp (W:World) (g:Nat) (l0:List SE) (cmp:SE→SE→Int):Prop where
 weak:Weak cmp
 call:∀W',Keep (·=g) W W'→∀x y,x∈l0→y∈l0→Calls Tryz.prog 103 #[x.v,y.v] W' fun e w'=>e= .returned (.int .i64 (cmp x y))∧Below W'.heap.size W' w'
theorem RowTo.keep {W w':World} {base g n cap:Nat} {l:List SE} (h:RowTo W w' base g n cap l):Keep (·=g) W w':=Keep.grown h.grown (fun k hk=>by injection hk with hk;exact hk.symm)
theorem Row.base_le {W:World} {base g n cap:Nat} {l:List SE} (h:Row W base g n cap l):base≤W.heap.size:=by
 have hb:=Kd.R_base h g (by simp[Value.ownBlock]);have hlt:=Kd.R_lt h g (by simp[Value.ownBlock]);omega
theorem RowTo.more {W w1 w2:World} {base g n cap:Nat} {l:List SE} (h:RowTo W w1 base g n cap l) (k:Below w1.heap.size w1 w2):RowTo W w2 base g n cap l:=⟨Kd.R_below h.row k,grown_trans h.grown (grown_of_below k _),h.below.trans (k.mono h.row.base_le)⟩
def leA (cmp:SE→SE→Int) (l:List SE) (x y:Nat):Prop:=¬cmp (l.getD y SE.zero) (l.getD x SE.zero)<0
def SortedOn (cmp:SE→SE→Int) (l:List SE) (a b:Nat):Prop:=∀p q,a≤p→p<q→q<b→leA cmp l p q
structure Seg (l l':List SE) (a b:Nat):Prop where
 len:l'.length=l.length
 perm:l'.Perm l
 out:∀k,k<a∨b≤k→l'.getD k SE.zero=l.getD k SE.zero
 src:∀k,a≤k→k<b→∃k',a≤k'∧k'<b∧l'.getD k SE.zero=l.getD k' SE.zero
theorem Seg.refl (l:List SE) (a b:Nat):Seg l l a b:=⟨rfl,.refl _,fun _ _=>rfl,fun k h1 h2=>⟨k,h1,h2,rfl⟩⟩
theorem Seg.trans {l l1 l2:List SE} {a b:Nat} (h:Seg l l1 a b) (k:Seg l1 l2 a b):Seg l l2 a b:=⟨k.len.trans h.len,k.perm.trans h.perm,fun i hi=>(k.out i hi).trans (h.out i hi),fun i h1 h2=>by
 obtain⟨j,g1,g2,g3⟩:=k.src i h1 h2;obtain⟨n,f1,f2,f3⟩:=h.src j g1 g2;exact⟨n,f1,f2,g3.trans f3⟩⟩
theorem Seg.wide {l l':List SE} {a b a' b':Nat} (h:Seg l l' a b) (ha:a'≤a) (hb:b≤b'):Seg l l' a' b':=⟨h.len,h.perm,fun k hk=>h.out k (by omega),fun k h1 h2=>by
 by_cases c:a≤k∧k<b
 ·obtain⟨j,g1,g2,g3⟩:=h.src k c.1 c.2;exact⟨j,by omega,by omega,g3⟩
 ·exact⟨k,h1,h2,h.out k (by omega)⟩⟩
theorem swp_perm (l:List SE) (i j:Nat) (hi:i<l.length) (hj:j<l.length):(swp l i j).Perm l:=by
 unfold swp;rw[getD_at l j hj,getD_at l i hi];exact List.set_set_perm hi hj
theorem Seg.swp {l:List SE} {a b i j:Nat} (h1:a≤i) (h2:i<b) (h3:a≤j) (h4:j<b) (hb:b≤l.length):Seg l (swp l i j) a b:=⟨swp_length _ _ _,swp_perm l i j (by omega) (by omega),fun k hk=>by rw[swp_get _ _ _ _ (by omega) (by omega),if_neg (by omega),if_neg (by omega)],fun k g1 g2=>by
 rw[swp_get _ _ _ _ (by omega) (by omega)];by_cases c1:k=j
 ·rw[if_pos c1];exact⟨i,h1,h2,rfl⟩
 ·rw[if_neg c1];by_cases c2:k=i
  ·rw[if_pos c2];exact⟨j,h3,h4,rfl⟩
  ·rw[if_neg c2];exact⟨k,g1,g2,rfl⟩⟩
def InsI (cmp:SE→SE→Int) (l:List SE) (a i j:Nat):Prop:=∀p q,a≤p→p<q→q≤i→q≠j→leA cmp l p q
theorem InsI.start {cmp:SE→SE→Int} {l:List SE} {a i:Nat} (h:SortedOn cmp l a i):InsI cmp l a i i:=fun p q h1 h2 h3 h4=>h p q h1 h2 (by omega)
theorem InsI.step {cmp:SE→SE→Int} {l:List SE} {a i j:Nat} (hw:Weak cmp) (h:InsI cmp l a i j) (haj:a<j) (hji:j≤i) (hi:i<l.length) (hc:cmp (l.getD j SE.zero) (l.getD (j-1) SE.zero)<0):InsI cmp (swp l j (j-1)) a i (j-1):=by
 intro p q h1 h2 h3 h4;unfold leA;rw[swp_get _ _ _ _ (by omega) (by omega),swp_get _ _ _ _ (by omega) (by omega),if_neg h4];by_cases e1:q=j
 ·subst e1;rw[if_pos rfl];by_cases e2:p=q-1
  ·rw[if_pos e2];exact hw.asym _ _ hc
  ·rw[if_neg e2,if_neg (by omega)];exact h p (q-1) h1 (by omega) (by omega) (by omega)
 ·rw[if_neg e1];by_cases e2:p=j-1
  ·rw[if_pos e2];exact h j q (by omega) (by omega) h3 e1
  ·rw[if_neg e2];by_cases e3:p=j
   ·rw[if_pos e3];exact h (j-1) q (by omega) (by omega) h3 e1
   ·rw[if_neg e3];exact h p q h1 h2 h3 e1
theorem InsI.stop {cmp:SE→SE→Int} {l:List SE} {a i j:Nat} (hw:Weak cmp) (h:InsI cmp l a i j) (hj:a≤j) (hji:j≤i) (hc:j=a∨¬cmp (l.getD j SE.zero) (l.getD (j-1) SE.zero)<0):SortedOn cmp l a (i+1):=by
 intro p q h1 h2 h3;by_cases e:q=j
 ·subst e;rcases hc with hc|hc
  ·omega
  ·by_cases e2:p=q-1
   ·rw[e2];exact hc
   ·exact hw.trans _ _ _ (h p (q-1) h1 (by omega) (by omega) (by omega)) hc
 ·exact h p q h1 h2 (by omega) e
theorem insertion_calls {W:World} {base g N cap:Nat} {l:List SE} {cmp:SE→SE→Int} (h:Row W base g N cap l) (hc:Cmp W g l cmp) (a b:Nat) (hab:a≤b) (hb:b≤l.length) (hs:l.length≤1000000):
  Calls Tryz.prog 133 #[.slice (some ⟨g,0,none⟩) N cap,.int .i64 a,.int .i64 b,.func (.func 103) #[] #[]] W fun e w'=>e= .returned (.tuple #[])∧∃l',RowTo W w' base g N cap l'∧Seg l l' a b∧SortedOn cmp l' a b:=by
 have hN:=h.len;have H:=am (RowTo.refl h);have HC:=am hc;have HW:=am hc.weak;have w1:IntKind.i64.wrap ((a:Int)+1)=((a+1:Nat):Int):=(i64_w _).trans (by unfold Go.RowKit.wrap64;omega);clear h hc;subst hN;go_enter Tryz.func133,Tryz.ntmps133
 go_wp2_with (fail)
 go_loopw [8] (fun i w'=>∃p:Nat,a+1≤p∧(p≤b∨p=a+1)∧i= .int .i64 p∧∃l',Aside0 (RowTo W w' base g l.length cap l')∧Aside0 (Seg l l' a b)∧Aside0 (SortedOn cmp l' a p)) (fun i _=>b-(intOf i).toNat)
 case atStart=>exact⟨a+1,Nat.le_refl _,.inr rfl,rfl,l,H,⟨Seg.refl _ _ _⟩,⟨fun p q h1 h2 h3=>by omega⟩⟩
 case round=>
  clear H w1;obtain⟨i,ha1,hp1,rfl,l1,HR,HS,HT⟩:=hrel;by_cases hib:i<b
  ·have d1:decide ((i:Int)<(b:Int))=true:=dt (by omega);have w1:IntKind.i64.wrap ((i:Int)+1)=((i+1:Nat):Int):=(i64_w _).trans (by unfold Go.RowKit.wrap64;omega)
   go_wp2_with (fail)
   go_loopw [9] (fun jv w'=>∃j:Nat,a≤j∧j≤i∧jv= .int .i64 j∧∃l',Aside0 (RowTo W w' base g l.length cap l')∧Aside0 (Seg l l' a b)∧Aside0 (InsI cmp l' a i j)) (fun jv _=>(intOf jv).toNat)
   case atStart=>exact⟨i,by omega,Nat.le_refl _,rfl,l1,HR,HS,⟨InsI.start HT.out⟩⟩
   case round=>
    clear HR HS HT l1;obtain⟨j,hj1,hj2,rfl,l2,HR,HS,HI⟩:=hrel;by_cases hja:a<j
    ·have d2:decide ((a:Int)<(j:Int))=true:=dt (by omega);have hl:=HS.out.len;obtain⟨p0,p1,p2,p3,p4,p5⟩:=HR.out.row.cells j (by omega);obtain⟨q0,q1,q2,q3,q4,q5⟩:=HR.out.row.cells (j-1) (by omega);have fr:=HR.out.row.free;have HX:=am (getD_at l2 j (by omega) SE.zero);have HY:=am (getD_at l2 (j-1) (by omega) SE.zero);have hm1:l2[j]∈l:=HS.out.perm.subset (List.getElem_mem _);have hm2:l2[j-1]∈l:=HS.out.perm.subset (List.getElem_mem _);have hcall:=HC.out.call wr.drew (HR.out.drew.keep) _ _ hm1 hm2;clear hm1 hm2;generalize l2[j]=x at*;generalize l2[j-1]=y at*
     obtain⟨c,hcc⟩:∃c,cmp x y=c:=⟨_,rfl⟩;rw[hcc]at hcall;have HCC:=am hcc;clear hcc;obtain⟨xt,⟨xA,xn,xc⟩,xl,xd,xp,xa⟩:=x;obtain⟨yt,⟨yA,yn,yc⟩,yl,yd,yp,ya⟩:=y;simp only[SE.v]at p0 p1 p2 p3 p4 p5 q0 q1 q2 q3 q4 q5 hcall;have HCALL:=am hcall;have HL:=am hl;clear hcall hl;have HLT:=am (show∀wx,Below wr.drew.heap.size wr.drew wx→∀j,wx.cell? ⟨g,j,none⟩=wr.cell? ⟨g,j,none⟩from fun wx hb j=>hb.cell (p:=⟨g,j,none⟩) (Kd.R_lt HR.out.drew.row g (by simp[Value.ownBlock])));have w3:IntKind.i64.wrap ((j:Int)-1)=((j-1:Nat):Int):=(i64_w _).trans (by unfold Go.RowKit.wrap64;omega)
     have m1:(j:Int)<(l.length:Nat):=by omega
     have m2:((j-1:Nat):Int)<(l.length:Nat):=by omega
     by_cases hlt:c<0
     ·have d3:decide (c<0)=true:=decide_eq_true hlt;go_upto_region 4 with (fail)
      go_region_held3 (fun w'=>w'.cell? ⟨g,j*6,none⟩=some (.int .i64 xt)∧w'.cell? ⟨g,j*6+1,none⟩=some (.slice xA xn xc)∧w'.cell? ⟨g,j*6+2,none⟩=some (.int .i64 xl)∧w'.cell? ⟨g,j*6+3,none⟩=some (.int .i64 xd)∧w'.cell? ⟨g,j*6+4,none⟩=some (.int .i64 xp)∧w'.cell? ⟨g,j*6+5,none⟩=some (.int .i64 xa)
       ∧w'.cell? ⟨g,(j-1)*6,none⟩=some (.int .i64 yt)∧w'.cell? ⟨g,(j-1)*6+1,none⟩=some (.slice yA yn yc)∧w'.cell? ⟨g,(j-1)*6+2,none⟩=some (.int .i64 yl)∧w'.cell? ⟨g,(j-1)*6+3,none⟩=some (.int .i64 yd)∧w'.cell? ⟨g,(j-1)*6+4,none⟩=some (.int .i64 yp)∧w'.cell? ⟨g,(j-1)*6+5,none⟩=some (.int .i64 ya)) (go_keep)
       (first|(go_at_call 103;(with_reducible refine HCALL.out.mono ?_);rintro e wx ⟨rfl,hb⟩;have HB:=am hb;have hcl:=HLT.out wx hb;clear hb))
      have HRX:=am (HR.out.drew.more HB.out);have p0:=(hcl _).trans p0;have p1:=(hcl _).trans p1;have p2:=(hcl _).trans p2;have p3:=(hcl _).trans p3;have p4:=(hcl _).trans p4;have p5:=(hcl _).trans p5;have q0:=(hcl _).trans q0;have q1:=(hcl _).trans q1;have q2:=(hcl _).trans q2;have q3:=(hcl _).trans q3;have q4:=(hcl _).trans q4;have q5:=(hcl _).trans q5;have fr:=HRX.out.row.free;clear hcl HB;go_upto_region 6 with (fail)
      go_region_with (fail)
      all_goals clear p0 p1 p2 p3 p4 p5 q0 q1 q2 q3 q4 q5 fr
      all_goals go_wp2_with (fail)
      all_goals go_roundw
      all_goals first
       |(simp[intOf];omega;done)
       |(exact(fun HT=>⟨j-1,by omega,by omega,rfl,_,⟨HT⟩,⟨HS.out.trans (Seg.swp (by omega) (by omega) (by omega) (by omega) (by rw[HL.out];exact hb))⟩,⟨HI.out.step HW.out hja hj2 (by rw[HL.out];omega) (by rw[HX.out,HY.out,HCC.out];exact hlt)⟩⟩) (HRX.out.trans (HRX.out.row.swap j (j-1) (by rw[HL.out];omega) (by rw[HL.out];omega) _ _ HX.out.symm HY.out.symm).drew))
       |(exact(fun HT=>⟨j-1,by omega,by omega,rfl,_,⟨HT⟩,⟨HS.out.trans (Seg.swp (by omega) (by omega) (by omega) (by omega) (by rw[HL.out];exact hb))⟩,⟨HI.out.step HW.out hja hj2 (by rw[HL.out];omega) (by rw[HX.out,HY.out,HCC.out];exact hlt)⟩⟩) (HRX.out.trans (HRX.out.row.swap' j (j-1) (by rw[HL.out];omega) (by rw[HL.out];omega) (by omega) _ _ HX.out.symm HY.out.symm).drew))
     ·have d3:decide (c<0)=false:=decide_eq_false hlt;go_upto_region 4 with (fail)
      go_region_held3 (fun w'=>w'.cell? ⟨g,j*6,none⟩=some (.int .i64 xt)∧w'.cell? ⟨g,j*6+1,none⟩=some (.slice xA xn xc)∧w'.cell? ⟨g,j*6+2,none⟩=some (.int .i64 xl)∧w'.cell? ⟨g,j*6+3,none⟩=some (.int .i64 xd)∧w'.cell? ⟨g,j*6+4,none⟩=some (.int .i64 xp)∧w'.cell? ⟨g,j*6+5,none⟩=some (.int .i64 xa)
       ∧w'.cell? ⟨g,(j-1)*6,none⟩=some (.int .i64 yt)∧w'.cell? ⟨g,(j-1)*6+1,none⟩=some (.slice yA yn yc)∧w'.cell? ⟨g,(j-1)*6+2,none⟩=some (.int .i64 yl)∧w'.cell? ⟨g,(j-1)*6+3,none⟩=some (.int .i64 yd)∧w'.cell? ⟨g,(j-1)*6+4,none⟩=some (.int .i64 yp)∧w'.cell? ⟨g,(j-1)*6+5,none⟩=some (.int .i64 ya)) (go_keep)
       (first|(go_at_call 103;(with_reducible refine HCALL.out.mono ?_);rintro e wx ⟨rfl,hb⟩;have HB:=am hb;have hcl:=HLT.out wx hb;clear hb))
      clear p0 p1 p2 p3 p4 p5 q0 q1 q2 q3 q4 q5 fr
      go_wp2_with (fail)
      go_roundw
      case rel=>
       exact⟨i+1,by omega,by omega,rfl,l2,⟨HR.out.drew.more HB.out⟩,HS,⟨HI.out.stop HW.out hj1 hj2 (.inr (by rw[HX.out,HY.out,HCC.out];omega))⟩⟩
      case measure=>simp[intOf];omega
    ·have d2:decide ((a:Int)<(j:Int))=false:=df (by omega);go_upto_region 4 with (fail)
     go_upto_region 4 with (fail)
     refine sz_ 17 (S:=fun w'=>True) (ds:=[]) trivial (fun hHeld=> ?_);refine pz_ 0 18 17 1 ?_;refine pz_ 1 19 17 3 ?_;refine pz_ 2 20 17 7 ?_;refine pz_ 3 21 17 15 ?_;refine uz_ 4 22 17 31 ?_;refine uz_ 5 23 17 63 ?_;refine uz_ 6 24 17 127 ?_;refine uz_ 7 25 17 255 ?_;refine uz_ 8 26 17 511 ?_;refine uz_ 9 27 17 1023 ?_;refine uz_ 10 28 17 2047 ?_;refine uz_ 11 29 17 4095 ?_;refine uz_ 12 30 17 8191 ?_;refine uz_ 13 31 17 16383 ?_;refine uz_ 14 32 17 32767 ?_;refine uz_ 15 33 17 65535 ?_;refine pz_ 16 34 17 131071 ?_;refine done_ (by kernel_rfl) ?_
     go_wp2_with (fail)
     go_roundw
     case rel=>
      exact⟨i+1,by omega,by omega,rfl,l2,⟨HR.out.drew⟩,HS,⟨HI.out.stop HW.out hj1 hj2 (.inl (by omega))⟩⟩
     case measure=>simp[intOf];omega
  ·have d1:decide ((i:Int)<(b:Int))=false:=df (by omega)
   go_wp2_with (fail)
   go_end0
   exact⟨rfl,l1,HR.out,HS.out,fun p q h1 h2 h3=>HT.out p q h1 h2 (by omega)⟩
end Go.Proofs.YtfnimdhghglanaaGreat.Hand
end
section
namespace Go.Proofs.YtfnimdhghglanaaGreat.Hand
section
theorem rotL_same {l:List SE} {a m b:Nat} (h:a=m∨m=b) (h1:a≤m) (h2:m≤b):rotL l a m b=l:=by
 refine ext_getD (rotL_length _ _ _ _) fun k hk=> ?_;rw[rotL_length]at hk;rw[rotL_get _ _ _ _ _ hk];unfold rotT;by_cases c1:a≤k∧k<a+(b-m)
 ·rw[if_pos c1]
  congr 1
  omega
 ·rw[if_neg c1];by_cases c2:a+(b-m)≤k∧k<b
  ·rw[if_pos c2]
   congr 1
   omega
  ·rw[if_neg c2]
structure Split (cmp:SE→SE→Int) (l:List SE) (a i m j b:Nat):Prop where
 s1:SortedOn cmp l a m
 s2:SortedOn cmp l m b
 ai:a≤i
 im:i≤m
 mj:m≤j
 jb:j≤b
 lo:∀p q,a≤p→p<i→j≤q→q<b→leA cmp l p q
 hi:∀p q,i≤p→p<m→m≤q→q<j→leA cmp l q p
section
variable {cmp:SE→SE→Int} {l:List SE} {a i m j b:Nat}
theorem rot_at (h:Split cmp l a i m j b) (hb:b≤l.length) (k:Nat) (hk:k<l.length):(rotL l i m j).getD k SE.zero=l.getD (if i≤k∧k<i+(j-m)then k+(m-i)else if i+(j-m)≤k∧k<j then k-(j-m)else k) SE.zero:=by
 rw[rotL_get _ _ _ _ _ hk];unfold rotT
 split
 ·rfl
 ·split<;>rfl
theorem Split.cross (h:Split cmp l a i m j b) (hb:b≤l.length) (p q:Nat) (h1:a≤p) (h2:p<i+(j-m)) (h3:i+(j-m)≤q) (h4:q<b):leA cmp (rotL l i m j) p q:=by
 have g1:=h.ai;have g2:=h.im;have g3:=h.mj;have g4:=h.jb;unfold leA;rw[rot_at h hb p (by omega),rot_at h hb q (by omega)];by_cases c1:i≤p
 ·rw[if_pos (show i≤p∧p<i+(j-m)by omega),if_neg (show¬(i≤q∧q<i+(j-m))by omega)];by_cases c2:q<j
  ·rw[if_pos (show i+(j-m)≤q∧q<j by omega)];exact h.hi _ _ (by omega) (by omega) (by omega) (by omega)
  ·rw[if_neg (show¬(i+(j-m)≤q∧q<j)by omega)];exact h.s2 _ _ (by omega) (by omega) (by omega)
 ·rw[if_neg (show¬(i≤p∧p<i+(j-m))by omega),if_neg (show¬(i+(j-m)≤p∧p<j)by omega),if_neg (show¬(i≤q∧q<i+(j-m))by omega)];by_cases c2:q<j
  ·rw[if_pos (show i+(j-m)≤q∧q<j by omega)];exact h.s1 _ _ (by omega) (by omega) (by omega)
  ·rw[if_neg (show¬(i+(j-m)≤q∧q<j)by omega)];exact h.lo _ _ (by omega) (by omega) (by omega) (by omega)
theorem Split.p1 (h:Split cmp l a i m j b) (hb:b≤l.length):SortedOn cmp (rotL l i m j) a i:=by
 have g1:=h.ai;have g2:=h.im;have g3:=h.mj;have g4:=h.jb;intro p q h1 h2 h3;unfold leA;rw[rot_at h hb p (by omega),rot_at h hb q (by omega),if_neg (show¬(i≤p∧p<i+(j-m))by omega),if_neg (show¬(i+(j-m)≤p∧p<j)by omega),if_neg (show¬(i≤q∧q<i+(j-m))by omega),if_neg (show¬(i+(j-m)≤q∧q<j)by omega)];exact h.s1 _ _ h1 h2 (by omega)
theorem Split.p2 (h:Split cmp l a i m j b) (hb:b≤l.length):SortedOn cmp (rotL l i m j) i (i+(j-m)):=by
 have g1:=h.ai;have g2:=h.im;have g3:=h.mj;have g4:=h.jb;intro p q h1 h2 h3;unfold leA;rw[rot_at h hb p (by omega),rot_at h hb q (by omega),if_pos (show i≤p∧p<i+(j-m)by omega),if_pos (show i≤q∧q<i+(j-m)by omega)];exact h.s2 _ _ (by omega) (by omega) (by omega)
theorem Split.p3 (h:Split cmp l a i m j b) (hb:b≤l.length):SortedOn cmp (rotL l i m j) (i+(j-m)) j:=by
 have g1:=h.ai;have g2:=h.im;have g3:=h.mj;have g4:=h.jb;intro p q h1 h2 h3;unfold leA;rw[rot_at h hb p (by omega),rot_at h hb q (by omega),if_neg (show¬(i≤p∧p<i+(j-m))by omega),if_pos (show i+(j-m)≤p∧p<j by omega),if_neg (show¬(i≤q∧q<i+(j-m))by omega),if_pos (show i+(j-m)≤q∧q<j by omega)];exact h.s1 _ _ (by omega) (by omega) (by omega)
theorem Split.p4 (h:Split cmp l a i m j b) (hb:b≤l.length):SortedOn cmp (rotL l i m j) j b:=by
 have g1:=h.ai;have g2:=h.im;have g3:=h.mj;have g4:=h.jb;intro p q h1 h2 h3;unfold leA;rw[rot_at h hb p (by omega),rot_at h hb q (by omega),if_neg (show¬(i≤p∧p<i+(j-m))by omega),if_neg (show¬(i+(j-m)≤p∧p<j)by omega),if_neg (show¬(i≤q∧q<i+(j-m))by omega),if_neg (show¬(i+(j-m)≤q∧q<j)by omega)];exact h.s2 _ _ (by omega) h2 h3
end
theorem shift_up (l:List SE) (a k:Nat) (h1:a≤k) (h2:k+1<l.length):swp (rotL l a (a+1) (k+1)) k (k+1)=rotL l a (a+1) (k+2):=by
 refine ext_getD (by rw[swp_length,rotL_length,rotL_length]) fun x hx=> ?_;rw[swp_length,rotL_length]at hx;rw[swp_get _ _ _ _ (by rw[rotL_length];omega) (by rw[rotL_length];omega),rotL_get _ _ _ _ _ hx,rotL_get _ _ _ _ _ hx,rotL_get _ _ _ _ _ (by omega),rotL_get _ _ _ _ _ (by omega)];unfold rotT
 repeat' split
 all_goals first
  |omega
  |rfl
  |(congr 1<;>omega)
theorem shift_down (l:List SE) (m k:Nat) (h1:0<k) (h2:k≤m) (h3:m<l.length):swp (rotL l k m (m+1)) k (k-1)=rotL l (k-1) m (m+1):=by
 refine ext_getD (by rw[swp_length,rotL_length,rotL_length]) fun x hx=> ?_;rw[swp_length,rotL_length]at hx;rw[swp_get _ _ _ _ (by rw[rotL_length];omega) (by rw[rotL_length];omega),rotL_get _ _ _ _ _ hx,rotL_get _ _ _ _ _ hx,rotL_get _ _ _ _ _ (by omega),rotL_get _ _ _ _ _ (by omega)];unfold rotT
 repeat' split
 all_goals first
  |omega
  |rfl
  |(congr 1<;>omega)
theorem SortedOn.away {cmp:SE→SE→Int} {l l':List SE} {a b c d:Nat} (h:SortedOn cmp l c d) (s:Seg l l' a b) (hd:d≤a∨b≤c):SortedOn cmp l' c d:=fun p q h1 h2 h3=>by
 unfold leA;rw[s.out p (by omega),s.out q (by omega)];exact h p q h1 h2 h3
theorem SortedOn.join {cmp:SE→SE→Int} {l:List SE} {a c b:Nat} (h1:SortedOn cmp l a c) (h2:SortedOn cmp l c b) (hx:∀p q,a≤p→p<c→c≤q→q<b→leA cmp l p q):SortedOn cmp l a b:=fun p q g1 g2 g3=>by
 by_cases k1:q<c
 ·exact h1 p q g1 g2 k1
 ·by_cases k2:p<c
  ·exact hx p q g1 k2 (by omega) g3
  ·exact h2 p q (by omega) g2 g3
theorem cross_seg {cmp:SE→SE→Int} {l l':List SE} {a c b:Nat} (hx:∀p q,a≤p→p<c→c≤q→q<b→leA cmp l p q) (s:Seg l l' a c∨Seg l l' c b):∀p q,a≤p→p<c→c≤q→q<b→leA cmp l' p q:=by
 intro p q g1 g2 g3 g4;unfold leA;rcases s with s|s
 ·obtain⟨p',k1,k2,k3⟩:=s.src p g1 g2;rw[k3,s.out q (by omega)];exact hx p' q k1 k2 g3 g4
 ·obtain⟨q',k1,k2,k3⟩:=s.src q g3 g4;rw[k3,s.out p (by omega)];exact hx p q' g1 g2 k1 k2
theorem rotL_eq (l:List SE) (a m b:Nat) (h1:a≤m) (h2:m≤b) (h3:b≤l.length):rotL l a m b=l.take a++((l.take b).drop m++((l.take m).drop a++l.drop b)):=by
 refine List.ext_getElem? fun k=> ?_;have hx:(rotL l a m b)[k]?=if k<l.length then some (rotT l a m b k)else none:=by
  by_cases hk:k<l.length
  ·rw[if_pos hk,List.getElem?_eq_getElem (by rw[rotL_length];exact hk)];simp[rotL]
  ·rw[if_neg hk,List.getElem?_eq_none (by rw[rotL_length];omega)]
 rw[hx];have hg:∀j,j<l.length→l[j]?=some (l.getD j SE.zero):=fun j hj=>by rw[getD_at l j hj,List.getElem?_eq_getElem hj]
 have hgn:∀j,l.length≤j→l[j]?=none:=fun j hj=>List.getElem?_eq_none hj;simp only[List.getElem?_append,List.length_take,List.length_drop,List.getElem?_take,List.getElem?_drop];unfold rotT
 repeat' split
 all_goals first
  |omega
  |rfl
  |(rw[hg _ (by omega)]<;>first|rfl|(congr 2<;>omega))
  |(rw[hgn _ (by omega)])
theorem rotL_perm (l:List SE) (a m b:Nat) (h1:a≤m) (h2:m≤b) (h3:b≤l.length):(rotL l a m b).Perm l:=by
 rw[rotL_eq l a m b h1 h2 h3];have e:l=l.take a++((l.take m).drop a++((l.take b).drop m++l.drop b)):=by
  refine List.ext_getElem? fun k=> ?_;have hgn:∀j,l.length≤j→l[j]?=none:=fun j hj=>List.getElem?_eq_none hj;simp only[List.getElem?_append,List.length_take,List.length_drop,List.getElem?_take,List.getElem?_drop]
  repeat' split
  all_goals first
   |omega
   |rfl
   |(congr 1<;>omega)
   |(rw[hgn _ (by omega)])
 conv=>rhs;rw[e]
 refine List.Perm.append_left _ ?_;rw[←List.append_assoc,←List.append_assoc];exact List.Perm.append_right _ List.perm_append_comm
theorem rotL_seg (l:List SE) (a i m j b:Nat) (h0:a≤i) (h1:i≤m) (h2:m≤j) (h3:j≤b) (h4:b≤l.length):Seg l (rotL l i m j) a b:=by
 refine⟨rotL_length _ _ _ _,rotL_perm l i m j h1 h2 (by omega),fun k hk=> ?_,fun k g1 g2=> ?_⟩
 ·by_cases hl:k<l.length
  ·rw[rotL_get _ _ _ _ _ hl];unfold rotT;rw[if_neg (by omega),if_neg (by omega)]
  ·rw[List.getD_eq_getElem?_getD,List.getD_eq_getElem?_getD,List.getElem?_eq_none (by rw[rotL_length];omega),List.getElem?_eq_none (by omega)]
 ·rw[rotL_get _ _ _ _ _ (by omega)];unfold rotT
  split
  ·exact⟨_,by omega,by omega,rfl⟩
  ·split
   ·exact⟨_,by omega,by omega,rfl⟩
   ·exact⟨k,g1,g2,rfl⟩
end
end Go.Proofs.YtfnimdhghglanaaGreat.Hand
end
