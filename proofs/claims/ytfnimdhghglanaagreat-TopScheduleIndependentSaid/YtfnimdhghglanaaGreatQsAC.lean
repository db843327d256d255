/- TopScheduleIndependent, part 3 of 27; no condition.  -/
import Derived.Test.YtfnimdhghglanaaGreatQsAB
import Derived.Test.YtfnimdhghglanaaGreatProg
import Derived.Below
import Derived.Deep.Draws
import Derived.OwnWalk
import Derived.WalkKit
import Derived.KernelRfl
set_option maxRecDepth 100000
set_option maxHeartbeats 8000000
set_option linter.unusedVariables false
set_option linter.unusedSimpArgs false
section
namespace Go.Proofs.YtfnimdhghglanaaGreat.Hand
open Go.RowKit Go.Proofs.YtfnimdhghglanaaGreatW PrintWords PrintLast PrintMore
structure Acc where
 th:Int
 kd:Int
 ix:Int
 old:Int
 new:Int
 ok:Bool
def Acc.cells (x:Acc):List Value:=[.int .i64 x.th,.int .i64 x.kd,.int .i64 x.ix,.int .i64 x.old,.int .i64 x.new,.bool x.ok]
def Acc.zero:Acc:=⟨0,0,0,0,0,false⟩
def kA:Kd Acc:=Kd.iso (Kd.pair (Kd.int .i64) (Kd.pair (Kd.int .i64) (Kd.pair (Kd.int .i64) (Kd.pair (Kd.int .i64) (Kd.pair (Kd.int .i64) Kd.bool))))) (fun x:Acc=>(x.th,x.kd,x.ix,x.old,x.new,x.ok))
theorem kA_mkM (w:World) (base:Nat) (ok:Nat→Prop) (x:Acc):kA.M w base ok x x.cells:=
 ⟨[.int .i64 x.th],[.int .i64 x.kd,.int .i64 x.ix,.int .i64 x.old,.int .i64 x.new,.bool x.ok],rfl,rfl,⟨[.int .i64 x.kd],[.int .i64 x.ix,.int .i64 x.old,.int .i64 x.new,.bool x.ok],rfl,rfl,⟨[.int .i64 x.ix],[.int .i64 x.old,.int .i64 x.new,.bool x.ok],rfl,rfl,⟨[.int .i64 x.old],[.int .i64 x.new,.bool x.ok],rfl,rfl,⟨[.int .i64 x.new],[.bool x.ok],rfl,rfl,rfl⟩⟩⟩⟩⟩
structure Mut where
 held:Bool
 th:Int
def Mut.cells (x:Mut):List Value:=[.bool x.held,.int .i64 x.th]
def kM:Kd Mut:=Kd.iso (Kd.pair Kd.bool (Kd.int .i64)) (fun x:Mut=>(x.held,x.th))
theorem kM_mkM (w:World) (base:Nat) (ok:Nat→Prop) (x:Mut):kM.M w base ok x x.cells:=⟨[.bool x.held],[.int .i64 x.th],rfl,rfl,rfl⟩
section
structure MemB (W:World) (base g gw gm:Nat) (vl:Value) (cw cm:Nat) (log:List Acc) (V:Int) (ws:List Int) (ms:List Mut):Prop where
 blk:W.heap[g]?=some (.cells #[vl,.int .i64 V,.slice (some ⟨gw,0,none⟩) ws.length cw,.slice (some ⟨gm,0,none⟩) ms.length cm] 150 (0,0))
 lo:Kd.R kA 206 W base (fun _=>True) vl log
 words:Kd.R (Kd.int .i64) 3 W base (fun _=>True) (.slice (some ⟨gw,0,none⟩) ws.length cw) ws
 mus:Kd.R kM 227 W base (fun _=>True) (.slice (some ⟨gm,0,none⟩) ms.length cm) ms
 hg:base≤g
def IsMem (W:World) (base g gw gm:Nat) (log:List Acc) (V:Int) (ws:List Int) (ms:List Mut):Prop:=∃vl cw cm,MemB W base g gw gm vl cw cm log V ws ms
structure MF (W W':World) (g gw gm:Nat):Prop where
 os:W'.os=W.os
 tape:W'.tape=W.tape
 output:W'.output=W.output
 size:W.heap.size≤W'.heap.size
 block:∀k,k<W.heap.size→k≠g→k≠gw→k≠gm→(∃v,W.cell? ⟨g,0,none⟩=some v∧v.ownBlock≠some k)→W'.heap[k]?=W.heap[k]?
 log:∀v,W.cell? ⟨g,0,none⟩=some v→∃v',W'.cell? ⟨g,0,none⟩=some v'∧(v'.ownBlock=v.ownBlock∨∃b,v'.ownBlock=some b∧W.heap.size≤b)
theorem MF.refl (W:World) (g gw gm:Nat):MF W W g gw gm:=⟨rfl,rfl,rfl,Nat.le_refl _,fun _ _ _ _ _ _=>rfl,fun v hv=>⟨v,hv,.inl rfl⟩⟩
theorem MF.trans {A B C:World} {g gw gm:Nat} (h:MF A B g gw gm) (k:MF B C g gw gm):MF A C g gw gm:=
 ⟨k.os.trans h.os,k.tape.trans h.tape,k.output.trans h.output,Nat.le_trans h.size k.size,fun j hj h1 h2 h3 h4=>by
  have e:=h.block j hj h1 h2 h3 h4;obtain⟨v,hv,hn⟩:=h4;obtain⟨v',hv',ho⟩:=h.log v hv;refine(k.block j (Nat.lt_of_lt_of_le hj h.size) h1 h2 h3 ⟨v',hv',fun e2=> ?_⟩).trans e;rcases ho with ho|⟨b,hb,hle⟩
  ·exact hn (ho▸e2)
  ·rw[hb]at e2
   injection e2 with e2
   omega,fun v hv=>by
  obtain⟨v',hv',ho⟩:=h.log v hv;obtain⟨v2,hv2,ho2⟩:=k.log v' hv';refine⟨v2,hv2,?_⟩;rcases ho2 with ho2|⟨b,hb,hle⟩
  ·rw[ho2];exact ho
  ·exact .inr ⟨b,hb,Nat.le_trans h.size hle⟩⟩
theorem MF.below {W W':World} {g gw gm:Nat} (hg:g<W.heap.size) (h:Below W.heap.size W W'):MF W W' g gw gm:=⟨h.os,h.tape,h.output,h.size,fun k hk _ _ _ _=>h.block k hk,fun v hv=>⟨v,(h.cell (p:=⟨g,0,none⟩) hg).trans hv,.inl rfl⟩⟩
theorem MF.set {W:World} {g gw gm:Nat} {b j:Nat} (hb:(b=g∧j≠0)∨(b=gw∧gw≠g)∨(b=gm∧gm≠g)) (u:Value):MF W (W.setCell ⟨b,j,none⟩ u) g gw gm:=
 ⟨rfl,rfl,rfl,by simp[World.setCell],fun k _ h1 h2 h3 _=>Below.heap_setCell W ⟨b,j,none⟩ u k (by rcases hb with ⟨rfl,_⟩|⟨rfl,_⟩|⟨rfl,_⟩<;>assumption),fun v hv=>⟨v,by
  rw[World.cell?_setCell_other _ _ _ _ (fun e=>by injection e with e1 e2;rcases hb with ⟨h1,h2⟩|⟨h1,h2⟩|⟨h1,h2⟩<;>omega)];exact hv,.inl rfl⟩⟩
theorem grown_set (W:World) (b j:Nat) (u:Value):W.grownBy (W.setCell ⟨b,j,none⟩ u) (some b):=
 ⟨rfl,rfl,rfl,by simp[World.setCell],fun k _ hk=>Below.heap_setCell W ⟨b,j,none⟩ u k (fun e=>hk (by rw[e]))⟩
section
variable {W W':World} {base g gw gm cw cm:Nat} {vl:Value} {log:List Acc} {V:Int} {ws:List Int} {ms:List Mut}
theorem MemB.lt (h:MemB W base g gw gm vl cw cm log V ws ms):g<W.heap.size:=(Array.getElem?_eq_some_iff.1 h.blk).1
theorem MemB.wblk (h:MemB W base g gw gm vl cw cm log V ws ms):∃cells,W.heap[gw]?=some (.cells cells 3 (0,0)):=Kd.R_typed h.words gw rfl
theorem MemB.mblk (h:MemB W base g gw gm vl cw cm log V ws ms):∃cells,W.heap[gm]?=some (.cells cells 227 (0,0)):=Kd.R_typed h.mus gm rfl
theorem MemB.wne (h:MemB W base g gw gm vl cw cm log V ws ms):gw≠g:=by
 obtain⟨cells,e⟩:=h.wblk;rintro rfl;have:=h.blk;rw[e]at this
 injection this with this
 injection this with _ ht
 exact absurd ht (by decide)
theorem MemB.wlt (h:MemB W base g gw gm vl cw cm log V ws ms):base≤gw∧gw<W.heap.size:=⟨Kd.R_base h.words gw rfl,Kd.R_lt h.words gw rfl⟩
theorem MemB.mlt (h:MemB W base g gw gm vl cw cm log V ws ms):base≤gm∧gm<W.heap.size:=⟨Kd.R_base h.mus gm rfl,Kd.R_lt h.mus gm rfl⟩
theorem MemB.cell (h:MemB W base g gw gm vl cw cm log V ws ms):W.cell? ⟨g,0,none⟩=some vl∧W.cell? ⟨g,1,none⟩=some (.int .i64 V)∧W.cell? ⟨g,2,none⟩=some (.slice (some ⟨gw,0,none⟩) ws.length cw)∧W.cell? ⟨g,3,none⟩=some (.slice (some ⟨gm,0,none⟩) ms.length cm):=by
 have e:=h.blk;refine⟨?_,?_,?_,?_⟩<;>simp[World.cell?,e]
theorem MemB.free (h:MemB W base g gw gm vl cw cm log V ws ms) (j:Nat):W.frozen? ⟨g,j,none⟩=false:=by
 have e:=h.blk;simp[World.frozen?,e]
theorem MemB.below (h:MemB W base g gw gm vl cw cm log V ws ms) (hb:Below W.heap.size W W'):MemB W' base g gw gm vl cw cm log V ws ms:=
 ⟨(hb.block g h.lt).trans h.blk,Kd.R_below h.lo hb,Kd.R_below h.words hb,Kd.R_below h.mus hb,h.hg⟩
theorem IsMem.below (h:IsMem W base g gw gm log V ws ms) (hb:Below W.heap.size W W'):IsMem W' base g gw gm log V ws ms:=by
 obtain⟨vl,cw,cm,h⟩:=h;exact⟨vl,cw,cm,h.below hb⟩
theorem IsMem.lower {base':Nat} (h:IsMem W base g gw gm log V ws ms) (hb:base'≤base):IsMem W base' g gw gm log V ws ms:=by
 obtain⟨vl,cw,cm,h1,h2,h3,h4,h5⟩:=h;exact⟨vl,cw,cm,h1,Kd.R_lower h2 hb,Kd.R_lower h3 hb,Kd.R_lower h4 hb,Nat.le_trans hb h5⟩
theorem MemB.far (h:MemB W base g gw gm vl cw cm log V ws ms) {b j t:Nat} {cells:Array Value} (hb:W.heap[b]?=some (.cells cells t (0,0))) (h1:b≠g) (h2:b≠gw) (h3:b≠gm) (ht:t≠206) (u:Value):MemB (W.setCell ⟨b,j,none⟩ u) base g gw gm vl cw cm log V ws ms:=by
 have hgw:W.grownBy (W.setCell ⟨b,j,none⟩ u) (some b):=grown_set W b j u;refine⟨(Below.heap_setCell W ⟨b,j,none⟩ u g (by simpa using h1.symm)).trans h.blk,Kd.R_set h.lo hb (fun q hq=> ?_) j u,?_,?_,h.hg⟩
 ·rcases List.mem_cons.1 hq with rfl|hq
  ·exact fun e=>ht e.symm
  ·exact absurd hq (by simp[kA,Kd.iso,Kd.pair,Kd.int,Kd.bool,Kd.scalar])
 ·exact Kd.R_grown1 h.words (by rfl) hgw (by simp[Value.ownBlock];exact h2)
 ·exact Kd.R_grown1 h.mus (by rfl) hgw (by simp[Value.ownBlock];exact h3)
theorem blk_set {b t i:Nat} {cs:Array Value} (hb:W.heap[b]?=some (.cells cs t (0,0))) (u:Value):(W.setCell ⟨b,i,none⟩ u).heap[b]?=some (.cells (cs.setIfInBounds i u) t (0,0)):=by
 simp[World.setCell,Array.getElem?_modify,hb]
theorem below_set_ {b j:Nat} (hb:base≤b) (u:Value):Below base W (W.setCell ⟨b,j,none⟩ u):=(Below.refl base W).setCell (p:=⟨b,j,none⟩) hb u
theorem MemB.setWord (h:MemB W base g gw gm vl cw cm log V ws ms) (i:Nat) (u:Int):MemB (W.setCell ⟨gw,i,none⟩ (.int .i64 u)) base g gw gm vl cw cm log V (ws.set i u) ms:=by
 obtain⟨cells,e⟩:=h.wblk;have hr:=(Kd.R_putg h.words (i:Int) u).1;rw[Int.toNat_natCast]at hr;refine⟨?_,Kd.R_set h.lo e (fun q hq=> ?_) i _,by rw[List.length_set];exact hr,Kd.R_set h.mus e (fun q hq=> ?_) i _,h.hg⟩
 ·rw[List.length_set];exact(Below.heap_setCell W ⟨gw,i,none⟩ _ g (by simpa using h.wne.symm)).trans h.blk
 ·rcases List.mem_cons.1 hq with rfl|hq
  ·decide
  ·exact absurd hq (by simp[kA,Kd.iso,Kd.pair,Kd.int,Kd.bool,Kd.scalar])
 ·rcases List.mem_cons.1 hq with rfl|hq
  ·decide
  ·exact absurd hq (by simp[kM,Kd.iso,Kd.pair,Kd.int,Kd.bool,Kd.scalar])
theorem MemB.grownLog (h:MemB W base g gw gm vl cw cm log V ws ms) (hg:W.grownBy W' vl.ownBlock):W'.heap[g]?=W.heap[g]?∧
  Kd.R (Kd.int .i64) 3 W' base (fun _=>True) (.slice (some ⟨gw,0,none⟩) ws.length cw) ws∧Kd.R kM 227 W' base (fun _=>True) (.slice (some ⟨gm,0,none⟩) ms.length cm) ms:=by
 have hty:=Kd.R_typed h.lo;have ne:∀b t cells,W.heap[b]?=some (.cells cells t (0,0))→t≠206→some b≠vl.ownBlock:=by
  intro b t cells hb ht e;obtain⟨cs,e2⟩:=hty b e.symm;rw[hb]at e2
  injection e2 with e2
  injection e2 with _ e3
  exact ht e3
 obtain⟨c1,e1⟩:=h.wblk;obtain⟨c2,e2⟩:=h.mblk;exact⟨hg.block g h.lt (ne _ _ _ h.blk (by decide)),Kd.R_grown1 h.words (by rfl) hg (fun e=>ne _ _ _ e1 (by decide) e.symm),Kd.R_grown1 h.mus (by rfl) hg (fun e=>ne _ _ _ e2 (by decide) e.symm)⟩
theorem MemB.pushLog (h:MemB W base g gw gm vl cw cm log V ws ms) {v1:Value} {log1:List Acc} (hl:Kd.R kA 206 W' base (fun _=>True) v1 log1) (hg:W.grownBy W' vl.ownBlock) (hat:v1.ownBlock=vl.ownBlock∨∃b,v1.ownBlock=some b∧W.heap.size≤b):
  MemB (W'.setCell ⟨g,0,none⟩ v1) base g gw gm v1 cw cm log1 V ws ms∧MF W (W'.setCell ⟨g,0,none⟩ v1) g gw gm∧Below base W (W'.setCell ⟨g,0,none⟩ v1):=by
 obtain⟨e,h2,h3⟩:=h.grownLog hg;have hba:=Kd.R_base h.lo;have h':MemB W' base g gw gm v1 cw cm log1 V ws ms∨True:= .inr trivial;clear h';have hb:W'.heap[g]?=some (.cells #[vl,.int .i64 V,.slice (some ⟨gw,0,none⟩) ws.length cw,.slice (some ⟨gm,0,none⟩) ms.length cm] 150 (0,0)):=e.trans h.blk;have mf:MF W (W'.setCell ⟨g,0,none⟩ v1) g gw gm:=⟨hg.os,hg.tape,hg.output,by simpa [World.setCell]using hg.size,fun k hk h1 _ _ ht=>by
  obtain⟨v,hv,hn⟩:=ht;rw[h.cell.1]at hv
  injection hv with hv
  subst hv;exact(Below.heap_setCell W' ⟨g,0,none⟩ v1 k h1).trans (hg.block k hk (fun e=>hn e.symm)),fun v hv=>⟨v1,World.cell?_setCell_same' _ _ _ (by simp[World.cell?,hb]),by
   rw[h.cell.1]at hv
   injection hv with hv
   subst hv;exact hat⟩⟩
 have bl:Below base W W':=⟨hg.os,hg.tape,hg.output,hg.size,fun k hk=>by
  rcases Nat.lt_or_ge k W.heap.size with hlt|hge
  ·exact hg.block k hlt (fun e=>by have:=hba k e.symm;omega)
  ·have:=h.lt;have:=h.hg;omega⟩
 refine⟨⟨blk_set hb _,Kd.R_set hl hb (fun q hq=> ?_) 0 _,Kd.R_set h2 hb (fun q hq=> ?_) 0 _,Kd.R_set h3 hb (fun q hq=> ?_) 0 _,h.hg⟩,mf,bl.trans (below_set_ h.hg _)⟩
 ·rcases List.mem_cons.1 hq with rfl|hq
  ·decide
  ·exact absurd hq (by simp[kA,Kd.iso,Kd.pair,Kd.int,Kd.bool,Kd.scalar])
 ·rcases List.mem_cons.1 hq with rfl|hq
  ·decide
  ·exact absurd hq (by simp[Kd.int,Kd.scalar])
 ·rcases List.mem_cons.1 hq with rfl|hq
  ·decide
  ·exact absurd hq (by simp[kM,Kd.iso,Kd.pair,Kd.int,Kd.bool,Kd.scalar])
end
end
end Go.Proofs.YtfnimdhghglanaaGreat.Hand
end
section
namespace Go.Proofs.YtfnimdhghglanaaGreat.Hand
open Go.RowKit Go.Proofs.YtfnimdhghglanaaGreatW PrintWords PrintLast PrintMore
attribute [local go_sem] max2_int min2_int max_two min_two max_three min_three max_four min_four
section
theorem infoAcc:(Tryz.prog.info? 206).map (fun i=>(i.zero,i.size,i.bytes))=some (some (.agg #[.int .i64 0,.int .i64 0,.int .i64 0,.int .i64 0,.int .i64 0,.bool false]),6,48):=by kernel_rfl
section
variable {W:World} {base g gw gm cw cm:Nat} {vl:Value} {log:List Acc} {V:Int} {ws:List Int} {ms:List Mut}
theorem atW_in (h:MemB W base g gw gm vl cw cm log V ws ms) (i:Int) (h0:0≤i) (h1:i<ws.length) (hw:ws.length≤256):
  Calls Tryz.prog 128 #[.pointer (some ⟨g,2,none⟩),.int .i64 i] W fun e w'=>e= .returned (.pointer (some ⟨gw,i.toNat,none⟩))∧w'=W:=by
 obtain⟨c0,c1,c2,c3⟩:=h.cell;clear h c0 c1 c3;go_enter Tryz.func128,Tryz.ntmps128
 go_wp2
 go_ret;exact⟨by simp,rfl⟩
theorem atW_out (h:MemB W base g gw gm vl cw cm log V ws ms) (i:Int) (h0:¬(0≤i∧i<ws.length)) (hw:ws.length≤256):
  Calls Tryz.prog 128 #[.pointer (some ⟨g,2,none⟩),.int .i64 i] W fun e w'=>e= .returned (.pointer none)∧w'=W:=by
 obtain⟨c0,c1,c2,c3⟩:=h.cell;clear h c0 c1 c3;by_cases hi:i<0
 ·clear h0;go_enter Tryz.func128,Tryz.ntmps128
  go_wp2
  go_ret;exact⟨rfl,rfl⟩
 ·have h1:¬i<ws.length:=by omega
  clear h0;go_enter Tryz.func128,Tryz.ntmps128
  go_wp2
  go_ret;exact⟨rfl,rfl⟩
end
section
variable {W:World} {base g gw gm:Nat} {log:List Acc} {V:Int} {ws:List Int} {ms:List Mut}
theorem record_calls (h:IsMem W base g gw gm log V ws ms) (th kd ix old new:Int) (ok:Bool) (hl:log.length≤1000000):
  Calls Tryz.prog 129 #[.pointer (some ⟨g,0,none⟩),.int .i64 th,.int .i64 kd,.int .i64 ix,.int .i64 old,.int .i64 new,.bool ok] W fun e w'=>
   e= .returned (.tuple #[])∧IsMem w' base g gw gm (log++[⟨th,kd,ix,old,new,ok⟩]) V ws ms∧MF W w' g gw gm∧Below base W w':=by
 obtain⟨vl,cw,cm,h⟩:=h;obtain⟨c0,_,_,_⟩:=h.cell;have HH:=Aside0.mk h;have HL:=Aside0.mk hl;have hlt:=h.lt;have hbg:=h.hg;have HF:=Aside0.mk (h.free 0);have HC:=Aside0.mk c0;clear h hl;go_enter Tryz.func129,Tryz.ntmps129
 go_wp2_with (first|((with_reducible refine gate_builtin (b:= .append) (xs:= #[.tmp 18,.tmp 26]) rfl ?_);at_builtin;refine Kd.R_append kA (w0:=W) base rfl (.tmp 18) (.tmp 26) 146 206 (.agg #[.int .i64 0,.int .i64 0,.int .i64 0,.int .i64 0,.int .i64 0,.bool false]) 48 rfl Tryz.underlying146 infoAcc rfl (by decide) (by omega) vl log ⟨th,kd,ix,old,new,ok⟩ [.int .i64 th,.int .i64 kd,.int .i64 ix,.int .i64 old,.int .i64 new,.bool ok] (fun _=>True) (fun _=>False) rfl rfl ?aP (fun _ hk=>hk.elim) ?aF HH.out.lo ?aB ?aS ?aL ?_;(case aP=>exact kA_mkM _ _ _ _);(case aF=>exact(fun _ _=>trivial));(case aB=>exact Below.refl _ _);(case aS=>omega);(case aL=>have:=HL.out;omega);intro v1 w1 hv1 hb1 hg1 hat1;obtain⟨e1,h21,h31⟩:=HH.out.grownLog hg1;obtain⟨A1,k1,rfl⟩:=Kd.R_slice hv1;have HV:=Aside0.mk hv1;have HG:=Aside0.mk hg1;have HAT:=Aside0.mk hat1;have hc1:w1.cell? ⟨g,0,none⟩=some vl:=(by rw[←HC.out];simp[World.cell?,e1]);have hf1:w1.frozen? ⟨g,0,none⟩=false:=(by rw[←HF.out];simp[World.frozen?,e1]);clear hv1 hg1 hb1 hat1 e1 h21 h31))
 go_end0
 obtain⟨k1,k2,k3⟩:=HH.out.pushLog HV.out HG.out HAT.out;simp only[List.length_append,List.length_cons,List.length_nil,Nat.zero_add]at k1 k2 k3;exact⟨rfl,⟨_,_,_,k1⟩,k2,k3⟩
theorem updLoad_in (h:IsMem W base g gw gm log V ws ms) (th i:Int) (h0:0≤i) (h1:i<ws.length) (hw:ws.length≤256) (hl:log.length≤1000000):
  Calls Tryz.prog 112 #[.pointer (some ⟨g,0,none⟩),.int .i64 th,.int .i64 1,.int .i64 i,.func (.func 149) #[] #[]] W fun e w'=>
   e= .returned (.tuple #[.int .i64 ((rd ws i,true)).1,.bool ((rd ws i,true)).2])∧IsMem w' base g gw gm (log++[⟨th,1,i,rd ws i,((rd ws i,true)).1,((rd ws i,true)).2⟩]) V (ws.set i.toNat ((rd ws i,true)).1) ms∧MF W w' g gw gm∧Below base W w':=by
 obtain⟨vl,cw,cm,h⟩:=h;have HH:=Aside0.mk h;have HL:=Aside0.mk hl;obtain⟨hx,hf⟩:=Kd.R_celln 0 h.words i h0 h1;have hb:=h.wlt.1;clear h hl;have hw2:=HH.out.setWord i.toNat ((rd ws i,true)).1;have HW:=Aside0.mk (show IsMem (W.setCell ⟨gw,i.toNat,none⟩ (.int .i64 ((rd ws i,true)).1)) base g gw gm log V (ws.set i.toNat ((rd ws i,true)).1) ms from⟨_,_,_,hw2⟩);clear hw2;have HM:=Aside0.mk (MF.set (g:=g) (gw:=gw) (gm:=gm) (W:=W) (b:=gw) (j:=i.toNat) (.inr (.inl ⟨rfl,HH.out.wne⟩)) (.int .i64 ((rd ws i,true)).1))
 have HB:=Aside0.mk (below_set_ (W:=W) (b:=gw) (j:=i.toNat) hb (.int .i64 ((rd ws i,true)).1))
 ·go_enter Tryz.func112,Tryz.ntmps112
  go_wp2_with (first|(go_at_call 128;refine(atW_in HH.out i h0 h1 hw).mono ?_;rintro e w1 ⟨rfl,rfl⟩)|(go_at_call 129;refine(record_calls HW.out _ _ _ _ _ _ HL.out).mono ?_;rintro e w2 ⟨rfl,hi2,hm2,hb2⟩;have HI2:=Aside0.mk hi2;have HM2:=Aside0.mk hm2;have HB2:=Aside0.mk hb2;clear hi2 hm2 hb2)|go_in)
  go_ret2
  exact⟨rfl,HI2.out,HM.out.trans HM2.out,HB.out.trans HB2.out⟩
theorem updLoad_out (h:IsMem W base g gw gm log V ws ms) (th i:Int) (h0:¬(0≤i∧i<ws.length)) (hw:ws.length≤256):
  Calls Tryz.prog 112 #[.pointer (some ⟨g,0,none⟩),.int .i64 th,.int .i64 1,.int .i64 i,.func (.func 149) #[] #[]] W fun e w'=>
   e= .returned (.tuple #[.int .i64 0,.bool false])∧w'=W:=by
 obtain⟨vl,cw,cm,h⟩:=h;have HH:=Aside0.mk h;have H0:=Aside0.mk h0;clear h h0;go_enter Tryz.func112,Tryz.ntmps112
 go_wp2_with (first|(go_at_call 128;refine(atW_out HH.out i H0.out hw).mono ?_;rintro e w1 ⟨rfl,rfl⟩))
 go_ret2
 exact⟨rfl,rfl⟩
theorem updAdd_in (h:IsMem W base g gw gm log V ws ms) (th i:Int) (v:Int) (q:Nat) (h0:0≤i) (h1:i<ws.length) (hw:ws.length≤256) (hl:log.length≤1000000) (hq:W.cell? ⟨q,0,none⟩=some (.int .i64 v)):
  Calls Tryz.prog 112 #[.pointer (some ⟨g,0,none⟩),.int .i64 th,.int .i64 2,.int .i64 i,.func (.func 113) #[] #[.pointer (some ⟨q,0,none⟩)]] W fun e w'=>
   e= .returned (.tuple #[.int .i64 ((wrap64 (rd ws i+v),true)).1,.bool ((wrap64 (rd ws i+v),true)).2])∧IsMem w' base g gw gm (log++[⟨th,2,i,rd ws i,((wrap64 (rd ws i+v),true)).1,((wrap64 (rd ws i+v),true)).2⟩]) V (ws.set i.toNat ((wrap64 (rd ws i+v),true)).1) ms∧MF W w' g gw gm∧Below base W w':=by
 obtain⟨vl,cw,cm,h⟩:=h;have HH:=Aside0.mk h;have HL:=Aside0.mk hl;obtain⟨hx,hf⟩:=Kd.R_celln 0 h.words i h0 h1;have hb:=h.wlt.1;clear h hl;have hw2:=HH.out.setWord i.toNat ((wrap64 (rd ws i+v),true)).1;have HW:=Aside0.mk (show IsMem (W.setCell ⟨gw,i.toNat,none⟩ (.int .i64 ((wrap64 (rd ws i+v),true)).1)) base g gw gm log V (ws.set i.toNat ((wrap64 (rd ws i+v),true)).1) ms from⟨_,_,_,hw2⟩);clear hw2;have HM:=Aside0.mk (MF.set (g:=g) (gw:=gw) (gm:=gm) (W:=W) (b:=gw) (j:=i.toNat) (.inr (.inl ⟨rfl,HH.out.wne⟩)) (.int .i64 ((wrap64 (rd ws i+v),true)).1))
 have HB:=Aside0.mk (below_set_ (W:=W) (b:=gw) (j:=i.toNat) hb (.int .i64 ((wrap64 (rd ws i+v),true)).1))
 ·go_enter Tryz.func112,Tryz.ntmps112
  go_wp2_with (first|(go_at_call 128;refine(atW_in HH.out i h0 h1 hw).mono ?_;rintro e w1 ⟨rfl,rfl⟩)|(go_at_call 129;refine(record_calls HW.out _ _ _ _ _ _ HL.out).mono ?_;rintro e w2 ⟨rfl,hi2,hm2,hb2⟩;have HI2:=Aside0.mk hi2;have HM2:=Aside0.mk hm2;have HB2:=Aside0.mk hb2;clear hi2 hm2 hb2)|go_in)
  go_ret2
  exact⟨rfl,HI2.out,HM.out.trans HM2.out,HB.out.trans HB2.out⟩
theorem updAdd_out (h:IsMem W base g gw gm log V ws ms) (th i:Int) (v:Int) (q:Nat) (h0:¬(0≤i∧i<ws.length)) (hw:ws.length≤256):
  Calls Tryz.prog 112 #[.pointer (some ⟨g,0,none⟩),.int .i64 th,.int .i64 2,.int .i64 i,.func (.func 113) #[] #[.pointer (some ⟨q,0,none⟩)]] W fun e w'=>
   e= .returned (.tuple #[.int .i64 0,.bool false])∧w'=W:=by
 obtain⟨vl,cw,cm,h⟩:=h;have HH:=Aside0.mk h;have H0:=Aside0.mk h0;clear h h0;go_enter Tryz.func112,Tryz.ntmps112
 go_wp2_with (first|(go_at_call 128;refine(atW_out HH.out i H0.out hw).mono ?_;rintro e w1 ⟨rfl,rfl⟩))
 go_ret2
 exact⟨rfl,rfl⟩
end
end
end Go.Proofs.YtfnimdhghglanaaGreat.Hand
end
