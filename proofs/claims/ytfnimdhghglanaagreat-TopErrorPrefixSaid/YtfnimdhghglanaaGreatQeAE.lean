/- TopErrorPrefix, part 5 of 41; no condition. (Printed from the session's own texts: what is not used left out, spaces spared.) -/
import Derived.Test.YtfnimdhghglanaaGreatQeAD
import Derived.Deep.RegionWith
import Derived.Lib.SliceRun
import Derived.BigQuiet
import Derived.Deep.QuietTactic
import Derived.Deep.RegionLaw
import Derived.Deep.RegionHeld3
import Derived.RangeFuncRecord
set_option maxRecDepth 100000
set_option maxHeartbeats 8000000
set_option linter.unusedVariables false
set_option linter.unusedSimpArgs false
section
namespace Go.Proofs.YtfnimdhghglanaaGreat.Hand
open Go.RowKit Go.Proofs.YtfnimdhghglanaaGreatW.PrintWords Go.Proofs.YtfnimdhghglanaaGreatW.PrintLast Go.Proofs.YtfnimdhghglanaaGreatW.PrintMore
section
def Kd.flat {α:Type} (sz:Nat) (enc:α→List Value) (hl:∀x,(enc x).length=sz) (h1:∀x,∀u∈enc x,u.oneCell'=true):Kd α where
 sz:=sz
 E:=[]
 K:=fun _ x cs=>cs=enc x
 M:=fun _ _ _ x cs=>cs=enc x
 K_len:=fun{_ x cs} h=>by rw[h];exact hl x
 K_one:=fun{_ x cs} h u hu=>by rw[h]at hu;exact h1 x u hu
 K_below:=fun _ h=>h
 K_of_M:=fun h=>h
 M_mono:=fun _ h=>h
 M_bound:=fun h=>h
 M_move:=fun _ h=>h
 M_lower:=fun _ h=>h
structure SH where
 A:Option Addr
 n:Nat
 c:Nat
abbrev SH.v (h:SH):Value:= .slice h.A h.n h.c
def SH.nil:SH:=⟨none,0,0⟩
structure SE where
 t:Int
 k:SH
 lp:Int
 kd:Int
 pr:Int
 ar:Int
def SE.cells (x:SE):List Value:=[.int .i64 x.t,.slice x.k.A x.k.n x.k.c,.int .i64 x.lp,.int .i64 x.kd,.int .i64 x.pr,.int .i64 x.ar]
def SE.zero:SE:=⟨0,.nil,0,0,0,0⟩
structure SP where
 pg:Int
 pc:Int
 al:Bool
 tm:SH
def SP.cells (x:SP):List Value:=[.int .i64 x.pg,.int .i64 x.pc,.bool x.al,.slice x.tm.A x.tm.n x.tm.c]
def SP.zero:SP:=⟨0,0,false,.nil⟩
structure SLp where
 r0:Int
 r1:Int
 ps:SH
 sum:Int
def SLp.cells (x:SLp):List Value:=[.int .i64 x.r0,.int .i64 x.r1,.slice x.ps.A x.ps.n x.ps.c,.int .i64 x.sum]
def SLp.zero:SLp:=⟨0,0,.nil,0⟩
structure OpC where
 code:Int
 a:Int
 b:Int
 c:Int
def OpC.cells (x:OpC):List Value:=[.int .i64 x.code,.int .i64 x.a,.int .i64 x.b,.int .i64 x.c]
structure StC where
 pg:Int
 t:Int
def StC.cells (x:StC):List Value:=[.int .i64 x.pg,.int .i64 x.t]
def kH:Kd SH:=Kd.flat 1 (fun h=>[.slice h.A h.n h.c]) (fun _=>rfl) (fun _ u hu=>by simp at hu;subst hu;rfl)
def kE:Kd SE:=Kd.flat 6 SE.cells (fun _=>rfl) (fun _ u hu=>by simp[SE.cells]at hu;rcases hu with rfl|rfl|rfl|rfl|rfl|rfl<;>rfl)
def kPr:Kd SP:=Kd.flat 4 SP.cells (fun _=>rfl) (fun _ u hu=>by simp[SP.cells]at hu;rcases hu with rfl|rfl|rfl|rfl<;>rfl)
def kLp:Kd SLp:=Kd.flat 4 SLp.cells (fun _=>rfl) (fun _ u hu=>by simp[SLp.cells]at hu;rcases hu with rfl|rfl|rfl|rfl<;>rfl)
def kOp:Kd OpC:=Kd.flat 4 OpC.cells (fun _=>rfl) (fun _ u hu=>by simp[OpC.cells]at hu;rcases hu with rfl|rfl|rfl|rfl<;>rfl)
def kSt:Kd StC:=Kd.flat 2 StC.cells (fun _=>rfl) (fun _ u hu=>by simp[StC.cells]at hu;rcases hu with rfl|rfl<;>rfl)
theorem infoEv:(Tryz.prog.info? 49).map (fun i=>(i.zero,i.size,i.bytes))=some (some (.agg #[.int .i64 0,.slice none 0 0,.int .i64 0,.int .i64 0,.int .i64 0,.int .i64 0]),6,64):=by kernel_rfl
theorem infoEvs:(Tryz.prog.info? 47).map (fun i=>(i.zero,i.size,i.bytes))=some (some (.slice none 0 0),1,24):=by kernel_rfl
theorem infoProc:(Tryz.prog.info? 114).map (fun i=>(i.zero,i.size,i.bytes))=some (some (.agg #[.int .i64 0,.int .i64 0,.bool false,.slice none 0 0]),4,48):=by kernel_rfl
theorem infoLP:(Tryz.prog.info? 91).map (fun i=>(i.zero,i.size,i.bytes))=some (some (.agg #[.int .i64 0,.int .i64 0,.slice none 0 0,.int .i64 0]),4,48):=by kernel_rfl
structure Keep (Mt:Nat→Prop) (w w':World):Prop where
 size:w.heap.size≤w'.heap.size
 block:∀k,k<w.heap.size→¬Mt k→w'.heap[k]?=w.heap[k]?
def Alw (Mt:Nat→Prop) (w:World) (P:World→Prop):Prop:=∀w',Keep Mt w w'→P w'
section
variable {Mt Mt':Nat→Prop} {w w' w2:World} {P Q:World→Prop}
theorem Keep.refl (Mt:Nat→Prop) (w:World):Keep Mt w w:=⟨Nat.le_refl _,fun _ _ _=>rfl⟩
theorem Keep.trans (h:Keep Mt w w') (k:Keep Mt w' w2):Keep Mt w w2:=⟨Nat.le_trans h.size k.size,fun j hj hm=>(k.block j (Nat.lt_of_lt_of_le hj h.size) hm).trans (h.block j hj hm)⟩
theorem Keep.mono (h:Keep Mt w w') (hm:∀k,k<w.heap.size→Mt k→Mt' k):Keep Mt' w w':=⟨h.size,fun k hk hn=>h.block k hk (fun e=>hn (hm k hk e))⟩
theorem Keep.of_below (h:Below w.heap.size w w'):Keep Mt w w':=⟨h.size,fun k hk _=>h.block k hk⟩
theorem Keep.set {b j:Nat} (hb:Mt b) (u:Value):Keep Mt w (w.setCell ⟨b,j,none⟩ u):=⟨by simp[World.setCell],fun k _ hn=>Below.heap_setCell w ⟨b,j,none⟩ u k (fun e=>hn (by rw[e];exact hb))⟩
theorem Keep.grown {b:Option Nat} (h:w.grownBy w' b) (hb:∀k,b=some k→Mt k):Keep Mt w w':=⟨h.size,fun k hk hn=>h.block k hk (fun e=>hn (hb k e.symm))⟩
theorem Alw.here (h:Alw Mt w P):P w:=h w (Keep.refl _ _)
theorem Alw.keep (h:Alw Mt w P) (k:Keep Mt w w'):Alw Mt w' P:=fun w2 h2=>h w2 (k.trans h2)
theorem Alw.below (h:Alw Mt w P) (k:Below w.heap.size w w'):Alw Mt w' P:=h.keep (Keep.of_below k)
theorem Alw.fresh (h:Alw Mt w P) (k:Keep Mt w w') (hm:∀k,k<w.heap.size→Mt' k→Mt k):Alw Mt' w' P:=fun w2 h2=>
 h w2 ⟨Nat.le_trans k.size h2.size,fun j hj hn=>(h2.block j (Nat.lt_of_lt_of_le hj k.size) (fun e=>hn (hm j hj e))).trans (k.block j hj hn)⟩
theorem Alw.imp (h:Alw Mt w P) (f:∀w,P w→Q w):Alw Mt w Q:=fun w2 h2=>f w2 (h w2 h2)
theorem Alw.block {b:Nat} (hb:b<w.heap.size) (hm:¬Mt b):Alw Mt w (fun w2=>w2.heap[b]?=w.heap[b]?):=fun w2 h2=>h2.block b hb hm
end
def Rd {α:Type} (d:Kd α) (Mt:Nat→Prop) (w:World) (h:SH) (xs:List α):Prop:=h.n=xs.length∧h.n≤h.c∧Alw Mt w (fun w=>Kd.C d w h.A h.n xs)
section
variable {α:Type} {d:Kd α} {Mt Mt':Nat→Prop} {w w':World} {h:SH} {xs:List α}
theorem Rd.len (r:Rd d Mt w h xs):h.n=xs.length:=r.1
theorem Rd.cap (r:Rd d Mt w h xs):h.n≤h.c:=r.2.1
theorem Rd.here (r:Rd d Mt w h xs):Kd.C d w h.A h.n xs:=r.2.2.here
theorem Rd.keep (r:Rd d Mt w h xs) (k:Keep Mt w w'):Rd d Mt w' h xs:=⟨r.1,r.2.1,r.2.2.keep k⟩
theorem Rd.below (r:Rd d Mt w h xs) (k:Below w.heap.size w w'):Rd d Mt w' h xs:=r.keep (Keep.of_below k)
theorem Rd.fresh (r:Rd d Mt w h xs) (k:Keep Mt w w') (hm:∀k,k<w.heap.size→Mt' k→Mt k):Rd d Mt' w' h xs:=⟨r.1,r.2.1,r.2.2.fresh k hm⟩
theorem Rd.nil (d:Kd α) (Mt:Nat→Prop) (w:World):Rd d Mt w .nil []:=⟨rfl,Nat.le_refl _,fun _ _=>⟨rfl,by simp[SH.nil],fun h=>absurd h (by simp[SH.nil])⟩⟩
theorem Rd.of_R {e base:Nat} {ok:Nat→Prop} {A:Option Addr} {n c:Nat} (hE:d.E=[]) (r:d.R e w base ok (.slice A n c) xs) (hm:∀k,(Value.slice A n c).ownBlock=some k→¬Mt k):Rd d Mt w ⟨A,n,c⟩ xs:=by
 obtain⟨h1,h2,_⟩:=Kd.R_reads' r;refine⟨h1,h2,fun w2 h3=> ?_⟩;have r2:d.R e w2 base ok (.slice A n c) xs:=R_stay r hE (fun k hk=>h3.block k (Kd.R_lt r k hk) (hm k hk));have:=(Kd.R_reads' r2).2.2
 rwa [←h1]at this
end
structure Ev where
 t:Int
 k:List Int
 lp:Int
 kd:Int
 pr:Int
 ar:Int
 deriving DecidableEq
abbrev KeyAt (Mt:Nat→Prop) (w:World) (h:SH) (xs:List Int):Prop:=Rd (Kd.int .i64) Mt w h xs
structure EvAt (Mt:Nat→Prop) (w:World) (s:SE) (e:Ev):Prop where
 t:s.t=e.t
 lp:s.lp=e.lp
 kd:s.kd=e.kd
 pr:s.pr=e.pr
 ar:s.ar=e.ar
 k:KeyAt Mt w s.k e.k
inductive All2 {α β:Type} (R:α→β→Prop):List α→List β→Prop
 |nil:All2 R [] []
 |cons {a b l m}:R a b→All2 R l m→All2 R (a::l) (b::m)
section
variable {α β:Type} {R S:α→β→Prop} {l l':List α} {m m':List β}
theorem All2.len (h:All2 R l m):l.length=m.length:=by
 induction h with
 |nil=>rfl
 |cons _ _ ih=>simp[ih]
theorem All2.imp (h:All2 R l m) (f:∀a b,R a b→S a b):All2 S l m:=by
 induction h with
 |nil=>exact .nil
 |cons h1 _ ih=>exact .cons (f _ _ h1) ih
theorem All2.append (h:All2 R l m) (k:All2 R l' m'):All2 R (l++l') (m++m'):=by
 induction h with
 |nil=>exact k
 |cons h1 _ ih=>exact .cons h1 ih
theorem All2.get (h:All2 R l m):∀(k:Nat) (h1:k<l.length) (h2:k<m.length),R l[k] m[k]:=by
 induction h with
 |nil=>exact fun k h1=>absurd h1 (by simp)
 |cons h1 _ ih=>
  intro k h2 h3;cases k with
  |zero=>exact h1
  |succ k=>exact ih k (by simpa using h2) (by simpa using h3)
theorem All2.of_get:∀{l:List α} {m:List β},l.length=m.length→(∀(k:Nat) (h1:k<l.length) (h2:k<m.length),R l[k] m[k])→All2 R l m
 | [],[],_,_=> .nil
 |a::l,b::m,h,f=> .cons (f 0 (by simp) (by simp)) (All2.of_get (by simpa using h) (fun k h1 h2=>f (k+1) (by simpa using h1) (by simpa using h2)))
theorem All2.take (h:All2 R l m) (n:Nat):All2 R (l.take n) (m.take n):=by
 induction h generalizing n with
 |nil=>simpa using .nil
 |cons h1 _ ih=>
  cases n with
  |zero=>simpa using .nil
  |succ n=>simpa using .cons h1 (ih n)
theorem All2.drop (h:All2 R l m) (n:Nat):All2 R (l.drop n) (m.drop n):=by
 induction h generalizing n with
 |nil=>simpa using .nil
 |cons h1 h2 ih=>
  cases n with
  |zero=>simpa using .cons h1 h2
  |succ n=>simpa using ih n
theorem All2.set (h:All2 R l m) (n:Nat) {a:α} {b:β} (hab:R a b):All2 R (l.set n a) (m.set n b):=by
 induction h generalizing n with
 |nil=>simpa using .nil
 |cons h1 h2 ih=>
  cases n with
  |zero=>simpa using .cons hab h2
  |succ n=>simpa using .cons h1 (ih n)
end
section
variable {Mt Mt':Nat→Prop} {w w':World}
theorem EvAt.keep {s:SE} {e:Ev} (h:EvAt Mt w s e) (k:Keep Mt w w'):EvAt Mt w' s e:=⟨h.t,h.lp,h.kd,h.pr,h.ar,h.k.keep k⟩
theorem EvAt.fresh {s:SE} {e:Ev} (h:EvAt Mt w s e) (k:Keep Mt w w') (hm:∀k,k<w.heap.size→Mt' k→Mt k):EvAt Mt' w' s e:=⟨h.t,h.lp,h.kd,h.pr,h.ar,h.k.fresh k hm⟩
def EvsAt (Mt:Nat→Prop) (w:World) (h:SH) (es:List Ev):Prop:=∃ss,Rd kE Mt w h ss∧All2 (EvAt Mt w) ss es
theorem EvsAt.keep {h:SH} {es:List Ev} (r:EvsAt Mt w h es) (k:Keep Mt w w'):EvsAt Mt w' h es:=by
 obtain⟨ss,h1,h2⟩:=r;exact⟨ss,h1.keep k,h2.imp fun _ _ h=>h.keep k⟩
theorem EvsAt.below {h:SH} {es:List Ev} (r:EvsAt Mt w h es) (k:Below w.heap.size w w'):EvsAt Mt w' h es:=r.keep (Keep.of_below k)
theorem EvsAt.fresh {h:SH} {es:List Ev} (r:EvsAt Mt w h es) (k:Keep Mt w w') (hm:∀k,k<w.heap.size→Mt' k→Mt k):EvsAt Mt' w' h es:=by
 obtain⟨ss,h1,h2⟩:=r;exact⟨ss,h1.fresh k hm,h2.imp fun _ _ h=>h.fresh k hm⟩
theorem EvsAt.len {h:SH} {es:List Ev} (r:EvsAt Mt w h es):h.n=es.length:=by
 obtain⟨ss,h1,h2⟩:=r;rw[h1.len,h2.len]
def EvssAt (Mt:Nat→Prop) (w:World) (h:SH) (ess:List (List Ev)):Prop:=∃hs,Rd kH Mt w h hs∧All2 (EvsAt Mt w) hs ess
theorem EvssAt.keep {h:SH} {es:List (List Ev)} (r:EvssAt Mt w h es) (k:Keep Mt w w'):EvssAt Mt w' h es:=by
 obtain⟨ss,h1,h2⟩:=r;exact⟨ss,h1.keep k,h2.imp fun _ _ h=>h.keep k⟩
theorem EvssAt.fresh {h:SH} {es:List (List Ev)} (r:EvssAt Mt w h es) (k:Keep Mt w w') (hm:∀k,k<w.heap.size→Mt' k→Mt k):EvssAt Mt' w' h es:=by
 obtain⟨ss,h1,h2⟩:=r;exact⟨ss,h1.fresh k hm,h2.imp fun _ _ h=>h.fresh k hm⟩
end
end
end Go.Proofs.YtfnimdhghglanaaGreat.Hand
end
section
namespace Go.Proofs.YtfnimdhghglanaaGreat.Hand
open Go.RowKit Go.Proofs.YtfnimdhghglanaaGreatW.PrintWords Go.Proofs.YtfnimdhghglanaaGreatW.PrintLast Go.Proofs.YtfnimdhghglanaaGreatW.PrintMore
attribute [local go_sem] max2_int min2_int max_two min_two max_three min_three max_four min_four
theorem cloneInt_calls (A0:Option Addr) (c0 n:Nat) (l0:List Int) (w:World) (hr0:Kd.C (Kd.int .i64) w A0 n l0) (hn:l0.length=n) (hl:n≤1000000):
  Calls Tryz.prog 38 #[.slice A0 n c0] w fun e w'=>∃v:Value,e= .returned v∧Kd.R (Kd.int .i64) 3 w' w.heap.size (fun _=>True) v l0∧Below w.heap.size w w':=by
 subst hn;have qT:∀(w:World) (a:Option Addr) (n c n' c':Nat),(binOp .eql 35 (.slice a n c) (.slice none n' c')).run Tryz.prog w= .ok (.bool a.isNone) w:=fun w a n c n' c'=>Lib.run_eql_slice_nil w _ _ a n c n' c' Tryz.underlying35;have HR:=am hr0;have HL:=am hl;clear hr0 hl;rcases A0 with _|ad
 ·obtain rfl:l0=[]:=by
   have h:=HR.out;cases l0 with
   |nil=>rfl
   |cons x xs=>
    obtain⟨ad,h2,_⟩:=h.2.2 (by simp);cases h2
  go_enter Tryz.func38,Tryz.ntmps38
  go_wp2
  go_ret;exact⟨_,rfl,Kd.R_nil _ _ _ _ _,Below.refl _ _⟩
 ·go_enter Tryz.func38,Tryz.ntmps38
  go_wp2_with (first|((with_reducible refine gate_dst (N:=5) rfl ?_);refine Kd.R_lit (Kd.int .i64) _ 3 ?hg (N:=5) ?hd (xs:=([]:List Int)) (inner:=[]) (ok:=fun _=>True) (okp:=fun _=>True) ?hr ?hp (fun _ hk=>hk) trivial (Below.refl _ _) (Nat.le_refl _) (by simp) ?_;(case hd=>rfl);(case hg=>rfl);(case hr=>first|(go_simp;done)|(go_simp;rfl));(case hp=>exact Reps.none _ _);intro v5 w5 ho5 hb5 hg5 hnew5;have HO5:=am ho5;have HB5:=am hb5;clear ho5 hb5 hg5 hnew5)|((with_reducible refine gate_builtin (b:= .append) (xs:= #[.tmp 5,.tmp 6]) rfl ?_);at_builtin;refine Kd.R_append_rows (Kd.int .i64) (Rr:=Kd.K (Kd.int .i64) w5) (w0:=w) w.heap.size rfl (.tmp 5) (.tmp 6) 35 3 (.int .i64 0) 8 rfl Tryz.underlying35 info3 rfl (by decide) (by omega) v5 [] l0 (some ad) l0.length c0 (fun _=>True) (fun _=>False) rfl rfl HO5.out ?aR ?aK (fun _ h=>h.elim) (fun _ _=>trivial) HB5.out HB5.out.size ?aL ?_;(case aR=>exact Kd.C_below HR.out HB5.out);(case aK=>exact(fun q cs hq=>hq));(case aL=>have:=HL.out;simp;omega);intro v7 w7 ho7 hb7 hg7 hat7;have HO7:=am ho7;have HB7:=am hb7;clear ho7 hb7 hg7 hat7))
  go_ret;exact⟨_,rfl,HO7.out,HB7.out⟩
theorem cloneEv_calls (A0:Option Addr) (c0 n:Nat) (l0:List SE) (w:World) (hr0:Kd.C kE w A0 n l0) (hn:l0.length=n) (hl:n≤1000000):
  Calls Tryz.prog 101 #[.slice A0 n c0] w fun e w'=>∃v:Value,e= .returned v∧Kd.R kE 49 w' w.heap.size (fun _=>True) v l0∧Below w.heap.size w w':=by
 subst hn;have qT:∀(w:World) (a:Option Addr) (n c n' c':Nat),(binOp .eql 47 (.slice a n c) (.slice none n' c')).run Tryz.prog w= .ok (.bool a.isNone) w:=fun w a n c n' c'=>Lib.run_eql_slice_nil w _ _ a n c n' c' Tryz.underlying47;have HR:=am hr0;have HL:=am hl;clear hr0 hl;rcases A0 with _|ad
 ·obtain rfl:l0=[]:=by
   have h:=HR.out;cases l0 with
   |nil=>rfl
   |cons x xs=>
    obtain⟨ad,h2,_⟩:=h.2.2 (by simp);cases h2
  go_enter Tryz.func101,Tryz.ntmps101
  go_wp2
  go_ret;exact⟨_,rfl,Kd.R_nil _ _ _ _ _,Below.refl _ _⟩
 ·go_enter Tryz.func101,Tryz.ntmps101
  go_wp2_with (first|((with_reducible refine gate_dst (N:=5) rfl ?_);refine Kd.R_lit kE _ 49 ?hg (N:=5) ?hd (xs:=([]:List SE)) (inner:=[]) (ok:=fun _=>True) (okp:=fun _=>True) ?hr ?hp (fun _ hk=>hk) trivial (Below.refl _ _) (Nat.le_refl _) (by simp) ?_;(case hd=>rfl);(case hg=>rfl);(case hr=>first|(go_simp;done)|(go_simp;rfl));(case hp=>exact Reps.none _ _);intro v5 w5 ho5 hb5 hg5 hnew5;have HO5:=am ho5;have HB5:=am hb5;clear ho5 hb5 hg5 hnew5)|((with_reducible refine gate_builtin (b:= .append) (xs:= #[.tmp 5,.tmp 6]) rfl ?_);at_builtin;refine Kd.R_append_rows kE (Rr:=Kd.K kE w5) (w0:=w) w.heap.size rfl (.tmp 5) (.tmp 6) 47 49 (.agg #[.int .i64 0,.slice none 0 0,.int .i64 0,.int .i64 0,.int .i64 0,.int .i64 0]) 64 rfl Tryz.underlying47 infoEv rfl (by decide) (by omega) v5 [] l0 (some ad) l0.length c0 (fun _=>True) (fun _=>False) rfl rfl HO5.out ?aR ?aK (fun _ h=>h.elim) (fun _ _=>trivial) HB5.out HB5.out.size ?aL ?_;(case aR=>exact Kd.C_below HR.out HB5.out);(case aK=>exact(fun q cs hq=>hq));(case aL=>have:=HL.out;simp;omega);intro v7 w7 ho7 hb7 hg7 hat7;have HO7:=am ho7;have HB7:=am hb7;clear ho7 hb7 hg7 hat7))
  go_ret;exact⟨_,rfl,HO7.out,HB7.out⟩
theorem cloneEvs_calls (A0:Option Addr) (c0 n:Nat) (l0:List SH) (w:World) (hr0:Kd.C kH w A0 n l0) (hn:l0.length=n) (hl:n≤1000000):
  Calls Tryz.prog 79 #[.slice A0 n c0] w fun e w'=>∃v:Value,e= .returned v∧Kd.R kH 47 w' w.heap.size (fun _=>True) v l0∧Below w.heap.size w w':=by
 subst hn;have qT:∀(w:World) (a:Option Addr) (n c n' c':Nat),(binOp .eql 31 (.slice a n c) (.slice none n' c')).run Tryz.prog w= .ok (.bool a.isNone) w:=fun w a n c n' c'=>Lib.run_eql_slice_nil w _ _ a n c n' c' Tryz.underlying31;have HR:=am hr0;have HL:=am hl;clear hr0 hl;rcases A0 with _|ad
 ·obtain rfl:l0=[]:=by
   have h:=HR.out;cases l0 with
   |nil=>rfl
   |cons x xs=>
    obtain⟨ad,h2,_⟩:=h.2.2 (by simp);cases h2
  go_enter Tryz.func79,Tryz.ntmps79
  go_wp2
  go_ret;exact⟨_,rfl,Kd.R_nil _ _ _ _ _,Below.refl _ _⟩
 ·go_enter Tryz.func79,Tryz.ntmps79
  go_wp2_with (first|((with_reducible refine gate_dst (N:=5) rfl ?_);refine Kd.R_lit kH _ 47 ?hg (N:=5) ?hd (xs:=([]:List SH)) (inner:=[]) (ok:=fun _=>True) (okp:=fun _=>True) ?hr ?hp (fun _ hk=>hk) trivial (Below.refl _ _) (Nat.le_refl _) (by simp) ?_;(case hd=>rfl);(case hg=>rfl);(case hr=>first|(go_simp;done)|(go_simp;rfl));(case hp=>exact Reps.none _ _);intro v5 w5 ho5 hb5 hg5 hnew5;have HO5:=am ho5;have HB5:=am hb5;clear ho5 hb5 hg5 hnew5)|((with_reducible refine gate_builtin (b:= .append) (xs:= #[.tmp 5,.tmp 6]) rfl ?_);at_builtin;refine Kd.R_append_rows kH (Rr:=Kd.K kH w5) (w0:=w) w.heap.size rfl (.tmp 5) (.tmp 6) 31 47 (.slice none 0 0) 24 rfl Tryz.underlying31 infoEvs rfl (by decide) (by omega) v5 [] l0 (some ad) l0.length c0 (fun _=>True) (fun _=>False) rfl rfl HO5.out ?aR ?aK (fun _ h=>h.elim) (fun _ _=>trivial) HB5.out HB5.out.size ?aL ?_;(case aR=>exact Kd.C_below HR.out HB5.out);(case aK=>exact(fun q cs hq=>hq));(case aL=>have:=HL.out;simp;omega);intro v7 w7 ho7 hb7 hg7 hat7;have HO7:=am ho7;have HB7:=am hb7;clear ho7 hb7 hg7 hat7))
  go_ret;exact⟨_,rfl,HO7.out,HB7.out⟩
theorem cloneLP_calls (A0:Option Addr) (c0 n:Nat) (l0:List SLp) (w:World) (hr0:Kd.C kLp w A0 n l0) (hn:l0.length=n) (hl:n≤1000000):
  Calls Tryz.prog 80 #[.slice A0 n c0] w fun e w'=>∃v:Value,e= .returned v∧Kd.R kLp 91 w' w.heap.size (fun _=>True) v l0∧Below w.heap.size w w':=by
 subst hn;have qT:∀(w:World) (a:Option Addr) (n c n' c':Nat),(binOp .eql 32 (.slice a n c) (.slice none n' c')).run Tryz.prog w= .ok (.bool a.isNone) w:=fun w a n c n' c'=>Lib.run_eql_slice_nil w _ _ a n c n' c' Tryz.underlying32;have HR:=am hr0;have HL:=am hl;clear hr0 hl;rcases A0 with _|ad
 ·obtain rfl:l0=[]:=by
   have h:=HR.out;cases l0 with
   |nil=>rfl
   |cons x xs=>
    obtain⟨ad,h2,_⟩:=h.2.2 (by simp);cases h2
  go_enter Tryz.func80,Tryz.ntmps80
  go_wp2
  go_ret;exact⟨_,rfl,Kd.R_nil _ _ _ _ _,Below.refl _ _⟩
 ·go_enter Tryz.func80,Tryz.ntmps80
  go_wp2_with (first|((with_reducible refine gate_dst (N:=5) rfl ?_);refine Kd.R_lit kLp _ 91 ?hg (N:=5) ?hd (xs:=([]:List SLp)) (inner:=[]) (ok:=fun _=>True) (okp:=fun _=>True) ?hr ?hp (fun _ hk=>hk) trivial (Below.refl _ _) (Nat.le_refl _) (by simp) ?_;(case hd=>rfl);(case hg=>rfl);(case hr=>first|(go_simp;done)|(go_simp;rfl));(case hp=>exact Reps.none _ _);intro v5 w5 ho5 hb5 hg5 hnew5;have HO5:=am ho5;have HB5:=am hb5;clear ho5 hb5 hg5 hnew5)|((with_reducible refine gate_builtin (b:= .append) (xs:= #[.tmp 5,.tmp 6]) rfl ?_);at_builtin;refine Kd.R_append_rows kLp (Rr:=Kd.K kLp w5) (w0:=w) w.heap.size rfl (.tmp 5) (.tmp 6) 32 91 (.agg #[.int .i64 0,.int .i64 0,.slice none 0 0,.int .i64 0]) 48 rfl Tryz.underlying32 infoLP rfl (by decide) (by omega) v5 [] l0 (some ad) l0.length c0 (fun _=>True) (fun _=>False) rfl rfl HO5.out ?aR ?aK (fun _ h=>h.elim) (fun _ _=>trivial) HB5.out HB5.out.size ?aL ?_;(case aR=>exact Kd.C_below HR.out HB5.out);(case aK=>exact(fun q cs hq=>hq));(case aL=>have:=HL.out;simp;omega);intro v7 w7 ho7 hb7 hg7 hat7;have HO7:=am ho7;have HB7:=am hb7;clear ho7 hb7 hg7 hat7))
  go_ret;exact⟨_,rfl,HO7.out,HB7.out⟩
theorem cloneProc_calls (A0:Option Addr) (c0 n:Nat) (l0:List SP) (w:World) (hr0:Kd.C kPr w A0 n l0) (hn:l0.length=n) (hl:n≤1000000):
  Calls Tryz.prog 107 #[.slice A0 n c0] w fun e w'=>∃v:Value,e= .returned v∧Kd.R kPr 114 w' w.heap.size (fun _=>True) v l0∧Below w.heap.size w w':=by
 subst hn;have qT:∀(w:World) (a:Option Addr) (n c n' c':Nat),(binOp .eql 89 (.slice a n c) (.slice none n' c')).run Tryz.prog w= .ok (.bool a.isNone) w:=fun w a n c n' c'=>Lib.run_eql_slice_nil w _ _ a n c n' c' Tryz.underlying89;have HR:=am hr0;have HL:=am hl;clear hr0 hl;rcases A0 with _|ad
 ·obtain rfl:l0=[]:=by
   have h:=HR.out;cases l0 with
   |nil=>rfl
   |cons x xs=>
    obtain⟨ad,h2,_⟩:=h.2.2 (by simp);cases h2
  go_enter Tryz.func107,Tryz.ntmps107
  go_wp2
  go_ret;exact⟨_,rfl,Kd.R_nil _ _ _ _ _,Below.refl _ _⟩
 ·go_enter Tryz.func107,Tryz.ntmps107
  go_wp2_with (first|((with_reducible refine gate_dst (N:=5) rfl ?_);refine Kd.R_lit kPr _ 114 ?hg (N:=5) ?hd (xs:=([]:List SP)) (inner:=[]) (ok:=fun _=>True) (okp:=fun _=>True) ?hr ?hp (fun _ hk=>hk) trivial (Below.refl _ _) (Nat.le_refl _) (by simp) ?_;(case hd=>rfl);(case hg=>rfl);(case hr=>first|(go_simp;done)|(go_simp;rfl));(case hp=>exact Reps.none _ _);intro v5 w5 ho5 hb5 hg5 hnew5;have HO5:=am ho5;have HB5:=am hb5;clear ho5 hb5 hg5 hnew5)|((with_reducible refine gate_builtin (b:= .append) (xs:= #[.tmp 5,.tmp 6]) rfl ?_);at_builtin;refine Kd.R_append_rows kPr (Rr:=Kd.K kPr w5) (w0:=w) w.heap.size rfl (.tmp 5) (.tmp 6) 89 114 (.agg #[.int .i64 0,.int .i64 0,.bool false,.slice none 0 0]) 48 rfl Tryz.underlying89 infoProc rfl (by decide) (by omega) v5 [] l0 (some ad) l0.length c0 (fun _=>True) (fun _=>False) rfl rfl HO5.out ?aR ?aK (fun _ h=>h.elim) (fun _ _=>trivial) HB5.out HB5.out.size ?aL ?_;(case aR=>exact Kd.C_below HR.out HB5.out);(case aK=>exact(fun q cs hq=>hq));(case aL=>have:=HL.out;simp;omega);intro v7 w7 ho7 hb7 hg7 hat7;have HO7:=am ho7;have HB7:=am hb7;clear ho7 hb7 hg7 hat7))
  go_ret;exact⟨_,rfl,HO7.out,HB7.out⟩
def cmpI (x y:Int):Int:=if x<y then -1 else if y<x then 1 else 0
def cmpK:List Int→List Int→Int
 | [],[]=>0
 | [],_::_=> -1
 |_::_,[]=>1
 |x::xs,y::ys=>if cmpI x y≠0 then cmpI x y else cmpK xs ys
def cmpE (a b:Ev):Int:=if cmpI a.t b.t≠0 then cmpI a.t b.t else cmpK a.k b.k
theorem nan_calls (x:Int) (W:World):Calls Tryz.prog 136 #[.int .i64 x] W fun e w'=>e= .returned (.bool false)∧w'=W:=by
 go_enter Tryz.func136,Tryz.ntmps136
 go_wp2
 go_ret;exact⟨by simp,rfl⟩
theorem compare_calls (x y:Int) (W:World):Calls Tryz.prog 121 #[.int .i64 x,.int .i64 y] W fun e w'=>e= .returned (.int .i64 (cmpI x y))∧w'=W:=by
 unfold cmpI;by_cases h1:x<y
 ·rw[if_pos h1];have d1:decide (x<y)=true:=decide_eq_true h1;go_enter Tryz.func121,Tryz.ntmps121
  go_wp2_with (first|(go_at_call 136;(with_reducible refine(nan_calls _ _).mono ?_);rintro e wx ⟨rfl,rfl⟩))
  go_ret;exact⟨rfl,rfl⟩
 ·rw[if_neg h1];have d1:decide (x<y)=false:=decide_eq_false h1;by_cases h2:y<x
  ·rw[if_pos h2];have d2:decide (y<x)=true:=decide_eq_true h2;clear h1;go_enter Tryz.func121,Tryz.ntmps121
   go_wp2_with (first|(go_at_call 136;(with_reducible refine(nan_calls _ _).mono ?_);rintro e wx ⟨rfl,rfl⟩))
   go_ret;exact⟨rfl,rfl⟩
  ·rw[if_neg h2];have d2:decide (y<x)=false:=decide_eq_false h2;clear h1 h2;go_enter Tryz.func121,Tryz.ntmps121
   go_wp2_with (first|(go_at_call 136;(with_reducible refine(nan_calls _ _).mono ?_);rintro e wx ⟨rfl,rfl⟩))
   go_ret;exact⟨rfl,rfl⟩
def or2 (a b:Int):Int:=if a≠0 then a else b
theorem first_calls (a b:Int) (g c:Nat) (W:World) (h0:W.cell? ⟨g,0,none⟩=some (.int .i64 a)) (h1:W.cell? ⟨g,1,none⟩=some (.int .i64 b)):
  Calls Tryz.prog 120 #[.slice (some ⟨g,0,none⟩) 2 c] W fun e w'=>e= .returned (.int .i64 (or2 a b))∧w'=W:=by
 have hor:Calls Tryz.prog 135 #[.slice (some ⟨g,0,none⟩) 2 c] W fun e w'=>e= .returned (.int .i64 (or2 a b))∧w'=W:=by
  unfold or2;by_cases ha:a=0
  ·rw[if_neg (fun h=>h ha)];subst ha;by_cases hb:b=0
   ·subst hb;go_enter Tryz.func135,Tryz.ntmps135
    go_wp2
    go_loop [8] (fun i=>i= .int .i64 0∨i= .int .i64 1∨i= .int .i64 2) (fun i=>2-(intOf i).toNat)
    case atStart=>exact .inl rfl
    case round=>
     rcases hrel with rfl|rfl|rfl
     ·go_wp2
      go_round
      case rel=>exact .inr (.inl rfl)
      case measure=>simp[intOf]
     ·go_wp2
      go_round
      case rel=>exact .inr (.inr rfl)
      case measure=>simp[intOf]
     ·go_wp2
      go_ret;exact⟨rfl,rfl⟩
   ·have d1:(b==0)=false:=beq_eq_false_iff_ne.2 hb;have d2:(b != 0)=true:=bne_iff_ne.2 hb;clear hb;go_enter Tryz.func135,Tryz.ntmps135
    go_wp2
    go_loop [8] (fun i=>i= .int .i64 0∨i= .int .i64 1) (fun i=>2-(intOf i).toNat)
    case atStart=>exact .inl rfl
    case round=>
     rcases hrel with rfl|rfl
     ·go_wp2
      go_round
      case rel=>exact .inr rfl
      case measure=>simp[intOf]
     ·go_wp2
      go_ret;exact⟨rfl,rfl⟩
  ·rw[if_pos ha];have d1:(a==0)=false:=beq_eq_false_iff_ne.2 ha;have d2:(a != 0)=true:=bne_iff_ne.2 ha;clear ha;go_enter Tryz.func135,Tryz.ntmps135
   go_wp2
   go_loop [8] (fun i=>i= .int .i64 0) (fun i=>2-(intOf i).toNat)
   case atStart=>rfl
   case round=>
    obtain rfl:=hrel
    go_wp2
    go_ret;exact⟨rfl,rfl⟩
 have HOR:=am hor;clear hor h0 h1;go_enter Tryz.func120,Tryz.ntmps120
 go_wp2_with (first|(go_at_call 135;(with_reducible refine HOR.out.mono ?_);rintro e wx ⟨rfl,rfl⟩))
 go_ret;exact⟨rfl,rfl⟩
theorem cmpK_drop (a b:List Int):∀k,(∀j (h1:j<a.length) (h2:j<b.length),j<k→a[j]=b[j])→k≤a.length→k≤b.length→cmpK a b=cmpK (a.drop k) (b.drop k):=by
 induction a generalizing b with
 |nil=>
  intro k _ h _;obtain rfl:k=0:=by simpa using h
  rfl
 |cons x xs ih=>
  intro k hk h1 h2;cases k with
  |zero=>rfl
  |succ k=>
   cases b with
   |nil=>simp at h2
   |cons y ys=>
    have e:x=y:=hk 0 (by simp) (by simp) (by omega);subst e;have:cmpI x x=0:=by unfold cmpI;simp
    simp only[cmpK,this,List.drop_succ_cons];rw[if_neg (by simp)];exact ih ys k (fun j g1 g2 g3=>hk (j+1) (by simpa using g1) (by simpa using g2) (by omega)) (by simpa using h1) (by simpa using h2)
theorem rowI {w:World} {A:Option Addr} {l:List Int} (h:Kd.C (Kd.int .i64) w A l.length l) (k:Nat) (hk:k<l.length):∃ad,A=some ad∧w.cell? (ad.add k)=some (.int .i64 l[k]):=by
 obtain⟨ad,c,e1,_,hK,hc0⟩:=Kd.C_get h 0 (k:Int) (by omega) (by omega);rw[Int.toNat_natCast]at hK hc0;have e4:l.getD k 0=l[k]:=by simp[List.getD_eq_getElem?_getD,List.getElem?_eq_getElem hk]
 rw[e4]at hK;obtain rfl:c=[.int .i64 l[k]]:=hK;refine⟨ad,e1,?_⟩;have:=hc0 0 _ rfl
 simpa [Kd.int,Kd.scalar]using this
theorem at_int {w:World} {A:Option Addr} {n:Nat} {l:List Int} (h:Kd.C (Kd.int .i64) w A n l) (k:Nat) (hk:k<n):∃ad x,A=some ad∧w.cell? (ad.add k)=some (.int .i64 x)∧∃(h2:k<l.length),l[k]=x:=by
 have hl:l.length=n:=h.1;subst hl;obtain⟨ad,e,hc⟩:=rowI h k hk;exact⟨ad,_,e,hc,hk,rfl⟩
theorem scompare_calls (A0 A1:Option Addr) (n0 n1 c0 c1:Nat) (a b:List Int) (W:World) (h0:Kd.C (Kd.int .i64) W A0 n0 a) (h1:Kd.C (Kd.int .i64) W A1 n1 b) (hl0:n0≤1000000) (hl1:n1≤1000000):
  Calls Tryz.prog 137 #[.slice A0 n0 c0,.slice A1 n1 c1] W fun e w'=>e= .returned (.int .i64 (cmpK a b))∧w'=W:=by
 have e0:a.length=n0:=h0.1;have e1:b.length=n1:=h1.1;have H0:=am h0;have H1:=am h1;have E0:=am e0;have E1:=am e1;obtain⟨r,hr⟩:∃r,cmpK a b=r:=⟨_,rfl⟩;rw[hr];have HRR:=am hr;clear h0 h1 e0 e1 hr;go_enter Tryz.func137,Tryz.ntmps137
 go_wp2
 go_loop [11] (fun i=>∃k:Nat,k≤n0∧k≤n1∧i= .int .i64 k∧Aside0 (∀j (h1:j<a.length) (h2:j<b.length),j<k→a[j]=b[j])) (fun i=>n0-(intOf i).toNat)
 case atStart=>exact⟨0,Nat.zero_le _,Nat.zero_le _,rfl,⟨fun j _ _ h=>absurd h (by omega)⟩⟩
 case round=>
  obtain⟨k,hk,hk1,rfl,HE⟩:=hrel;have hd:=cmpK_drop a b k HE.out (by rw[E0.out];exact hk) (by rw[E1.out];exact hk1);by_cases g0:k<n0
  ·obtain⟨ad0,x,q0,c00,hk2,hx⟩:=at_int H0.out k g0;cases q0;have d0:decide ((k:Int)<n0)=true:=decide_eq_true (by omega);have ea:a.drop k=x::a.drop (k+1):=by rw[List.drop_eq_getElem_cons hk2,hx]
   by_cases g1:k<n1
   ·obtain⟨ad1,y,q1,c11,hk3,hy⟩:=at_int H1.out k g1;cases q1;have d1:decide ((n1:Int)≤k)=false:=decide_eq_false (by omega);have eb:b.drop k=y::b.drop (k+1):=by rw[List.drop_eq_getElem_cons hk3,hy]
    rw[ea,eb]at hd;obtain⟨c,hc⟩:∃c,cmpI x y=c:=⟨_,rfl⟩;have HC:=am hc;by_cases gc:c=0
    ·have hxy:x=y:=by
      unfold cmpI at hc
      split at hc
      ·omega
      ·split at hc
       ·omega
       ·omega
     have HN:=am (show∀j (h1:j<a.length) (h2:j<b.length),j<k+1→a[j]=b[j]from fun j g1 g2 g3=>by
      rcases Nat.lt_succ_iff_lt_or_eq.1 g3 with g|rfl
      ·exact HE.out j g1 g2 g
      ·rw[hx,hy,hxy])
     subst gc;clear hd ea eb hx hy hc HE hxy
     go_wp2_with (first|(go_at_call 121;(with_reducible refine(compare_calls x y _).mono ?_);rw[HC.out];rintro e wx ⟨rfl,rfl⟩))
     go_round
     case rel=>exact⟨k+1,by omega,by omega,by go_num,HN⟩
     case measure=>simp[intOf];omega
    ·have er:c=r:=by
      rw[←HRR.out,hd];simp only[cmpK];rw[hc,if_pos gc]
     subst er;have dc:(c==0)=false:=beq_eq_false_iff_ne.2 gc;have dc2:(c != 0)=true:=bne_iff_ne.2 gc;clear hd ea eb hx hy hc HE gc HRR
     go_wp2_with (first|(go_at_call 121;(with_reducible refine(compare_calls x y _).mono ?_);rw[HC.out];rintro e wx ⟨rfl,rfl⟩))
     go_ret;exact⟨rfl,rfl⟩
   ·have d1:decide ((n1:Int)≤k)=true:=decide_eq_true (by omega);have eb:b.drop k=[]:=List.drop_eq_nil_of_le (by rw[E1.out];omega);rw[ea,eb]at hd;have er:r=1:=by rw[←HRR.out,hd];rfl
    subst er;clear hd ea eb hx HE HRR
    go_wp2
    go_ret;exact⟨rfl,rfl⟩
  ·obtain rfl:k=n0:=by omega
   have ea:a.drop k=[]:=List.drop_eq_nil_of_le (by rw[E0.out];omega);by_cases g1:k<n1
   ·have d1:decide ((k:Int)<n1)=true:=decide_eq_true (by omega);have er:r= -1:=by
     rw[←HRR.out,hd,ea,List.drop_eq_getElem_cons (by rw[E1.out];exact g1)];rfl
    subst er;clear hd ea HE HRR
    go_wp2
    go_ret;exact⟨rfl,rfl⟩
   ·have d1:decide ((k:Int)<n1)=false:=decide_eq_false (by omega);have er:r=0:=by
     rw[←HRR.out,hd,ea,List.drop_eq_nil_of_le (by rw[E1.out];omega)];rfl
    subst er;clear hd ea HE HRR
    go_wp2
    go_ret;exact⟨rfl,rfl⟩
theorem cmpKeys_calls (A0 A1:Option Addr) (n0 n1 c0 c1:Nat) (a b:List Int) (W:World) (h0:Kd.C (Kd.int .i64) W A0 n0 a) (h1:Kd.C (Kd.int .i64) W A1 n1 b) (hl0:n0≤1000000) (hl1:n1≤1000000):
  Calls Tryz.prog 122 #[.slice A0 n0 c0,.slice A1 n1 c1] W fun e w'=>e= .returned (.int .i64 (cmpK a b))∧w'=W:=by
 have HC:=am (scompare_calls A0 A1 n0 n1 c0 c1 a b W h0 h1 hl0 hl1);clear h0 h1;go_enter Tryz.func122,Tryz.ntmps122
 go_wp2_with (first|(go_at_call 137;(with_reducible refine HC.out.mono ?_);rintro e wx ⟨rfl,rfl⟩))
 go_ret;exact⟨rfl,rfl⟩
theorem cell_new (w:World) (a:Array Value) (t:TypeId) (n j:Nat) (v:Value) (hn:n=w.heap.size) (hv:a[j]?=some v):(w.alloc (.cells a t)).cell? ⟨n,j,none⟩=some v:=by
 subst hn;simp only[World.cell?,World.alloc_heap_new];exact hv
theorem cmpEvents_calls (x y:SE) (ex ey:Ev) (W:World) (hx:x.t=ex.t) (hy:y.t=ey.t) (h0:Kd.C (Kd.int .i64) W x.k.A x.k.n ex.k) (h1:Kd.C (Kd.int .i64) W y.k.A y.k.n ey.k) (hl0:x.k.n≤1000000) (hl1:y.k.n≤1000000):
  Calls Tryz.prog 103 #[.agg #[.int .i64 x.t,.slice x.k.A x.k.n x.k.c,.int .i64 x.lp,.int .i64 x.kd,.int .i64 x.pr,.int .i64 x.ar],.agg #[.int .i64 y.t,.slice y.k.A y.k.n y.k.c,.int .i64 y.lp,.int .i64 y.kd,.int .i64 y.pr,.int .i64 y.ar]] W fun e w'=>e= .returned (.int .i64 (cmpE ex ey))∧Below W.heap.size W w':=by
 obtain⟨xt,xk,xl,xd,xp,xa⟩:=x;obtain⟨yt,yk,yl,yd,yp,ya⟩:=y;simp only at hx hy h0 h1 hl0 hl1 ⊢;have HE:=am (show or2 (cmpI xt yt) (cmpK ex.k ey.k)=cmpE ex ey by rw[hx,hy];rfl);have hb:∀o1 o2,Below W.heap.size W ((W.alloc o1).alloc o2):=fun o1 o2=>below_alloc (below_alloc (Below.refl _ _) _) _;have HCK:=am (fun o1 o2=>cmpKeys_calls xk.A yk.A xk.n yk.n xk.c yk.c ex.k ey.k (((W.alloc o1).alloc o2).drew) (Kd.C_below h0 (below_drew1 (hb o1 o2))) (Kd.C_below h1 (below_drew1 (hb o1 o2))) hl0 hl1)
 have HF:=am (fun o1 o2=>first_calls (cmpI xt yt) (cmpK ex.k ey.k) (W.heap.size+1+1) 2 ((((W.alloc o1).alloc o2).alloc (Obj.cells #[.int .i64 (cmpI xt yt),.int .i64 (cmpK ex.k ey.k)] 3)).drew) (cell_new _ _ _ _ _ _ (by simp) rfl) (cell_new _ _ _ _ _ _ (by simp) rfl));clear hx hy h0 h1;go_enter Tryz.func103,Tryz.ntmps103;go_upto_region 1 with (fail)
 go_region_held3 (fun w'=>w'.cell? ⟨W.heap.size,0,none⟩=some (.int .i64 xt)∧w'.cell? ⟨W.heap.size,1,none⟩=some (.slice xk.A xk.n xk.c)∧w'.cell? ⟨W.heap.size+1,0,none⟩=some (.int .i64 yt)∧w'.cell? ⟨W.heap.size+1,1,none⟩=some (.slice yk.A yk.n yk.c)) (go_keep) (first|(go_at_call 121;(with_reducible refine(compare_calls _ _ _).mono ?_);rintro e wx ⟨rfl,rfl⟩)|(go_at_call 122;(with_reducible refine(HCK.out _ _).mono ?_);rintro e wx ⟨rfl,rfl⟩)|(go_at_call 120;((with_reducible refine(HF.out _ _).mono ?_);rintro e wx ⟨rfl,rfl⟩)))
 all_goals go_wp2_with (fail)
 all_goals go_ret
 all_goals exact⟨by rw[←HE.out];rfl,below_drew1 (below_alloc (hb _ _) _)⟩
end Go.Proofs.YtfnimdhghglanaaGreat.Hand
end
