/- TopErrorPrefix, part 3 of 41; no condition. (Printed from the session's own texts: what is not used left out, spaces spared.) -/
import Derived.Test.YtfnimdhghglanaaGreatQeAA
import Derived.Test.YtfnimdhghglanaaGreatQeAB
import Derived.Test.YtfnimdhghglanaaGreatProg
import Derived.Below
import Derived.Deep.Draws
import Derived.OwnWalk
import Derived.WalkKit
import Derived.KernelRfl
set_option maxRecDepth 100000
set_option maxHeartbeats 8000000
set_option linter.unusedVariables false
set_option linter.unusedSimpArgs false
section
namespace Go.Proofs.YtfnimdhghglanaaGreatW.PrintWords
open Go.RowKit
section
section
variable {P:Program}
theorem run_append_zeros (w:World) (base:Nat) (t ti ty e:TypeId) (i:TypeInfo) (z:Value) (size bytes:Nat) (ht:P.underlying t=some (.slice e)) {k:IntKind} (hti:P.underlying ti=some (.int k)) (hi:P.info? e=some i) (hz:i.zero=some z)
  (hsize:i.size=size) (hby:i.bytes=bytes) (hzs:z.cells.size=size) (hsz:0<size) (hb0:0<bytes)
  (v:Value) (n:Nat) (xs:List Value) (hown:w.ownsRow base e size v n xs) (kx:IntKind) (m:Nat) (h1:∀u∈(Builtin.zeroCells z.cells m).toList,u.oneCell'=true)
  (hbytes:(n+m)*bytes≤140737488355328) (hbase:base≤w.heap.size):
  ∃v' w',(Builtin.append_ #[t,ti] ty #[v,.int kx m]).run P w= .ok v' w'∧w'.ownsRow base e size v' (n+m) (xs++(Builtin.zeroCells z.cells m).toList)∧w.grownBy w' v.ownBlock∧
   (v'.ownBlock=v.ownBlock∨v'.ownBlock=some w.heap.size):=by
 subst hsize;subst hby;have hle:n+m≤140737488355328:=Nat.le_trans (Nat.le_mul_of_pos_right _ hb0) hbytes;have h63:n+m≤maxLen:=by simp only[maxLen];omega
 have hw:IntKind.i64.wrap (m:Int)=m:=by rw[IntKind.wrap_i64];omega
 have hw0:IntKind.i64.wrap 0=0:=by rw[IntKind.wrap_i64];rfl
 have hneg:¬((m:Int)<0):=by omega
 have hmb:m*i.bytes≤140737488355328:=Nat.le_trans (Nat.mul_le_mul_right _ (Nat.le_add_left m n)) hbytes;have hbig:¬(281474976710656<(m:Int)*(i.bytes:Int)):=by
  rw[←Int.natCast_mul];omega
 have hsn:i.size≠0:=by omega
 obtain⟨news,hnews⟩:∃news,news=(Builtin.zeroCells z.cells m).toList:=⟨_,rfl⟩;rw[←hnews]at h1 ⊢;have hl:news.length=m*i.size:=by rw[hnews,Array.length_toList,size_zeroCells,hzs]
 have hna:Builtin.zeroCells z.cells m=news.toArray:=by rw[hnews]
 have hlen:(xs++news).length=(n+m)*i.size:=by rw[List.length_append,hown.1,hl,Nat.add_mul]
 have hnil:m=0→news=[]:=fun h=>List.eq_nil_of_length_eq_zero (by rw[hl,h,Nat.zero_mul]);have grown:∀(old:Nat),old<n+m→∀(row:Option Nat),
   (w.drew.alloc (.cells (xs.toArray++news.toArray++Builtin.zeroCells z.cells (grownCap w (n+m) old e-(n+m))) e)).ownsRow base e i.size
    (.slice (some ⟨w.heap.size,0,none⟩) (n+m) (grownCap w (n+m) old e)) (n+m) (xs++news)∧
   w.grownBy (w.drew.alloc (.cells (xs.toArray++news.toArray++Builtin.zeroCells z.cells (grownCap w (n+m) old e-(n+m))) e)) row:=by
  intro old ho row;have hge:=grownCap_ge w (n+m) old e;have hcm:grownCap w (n+m) old e≤maxLen:=grownCap_le_maxLen w (n+m) old e h63;refine⟨⟨hlen,.inr ⟨w.heap.size,_,_,rfl,hbase,heap_alloc_new w.drew _,hge,hcm,?_,?_⟩⟩,⟨rfl,rfl,rfl,by simp,fun k hk _=>heap_alloc_old w.drew _ hk⟩⟩
  ·simp only[Array.size_append,List.size_toArray,size_zeroCells,hzs,hown.1,hl,←Nat.add_mul]
   congr 1
   omega
  ·simp only[Array.toList_append,List.append_assoc];rw[←List.append_assoc,←hlen];exact List.take_left
 have runs:∀(A:Option Addr) (cap:Nat),cap<n+m→(Builtin.firstCells i.size n (.slice A n cap)).run P w.drew= .ok xs.toArray w.drew→(Builtin.append_ #[t,ti] ty #[.slice A n cap,.int kx m]).run P w=
   .ok (.slice (some ⟨w.heap.size,0,none⟩) (n+m) (grownCap w (n+m) cap e)) (w.drew.alloc (.cells (xs.toArray++news.toArray++Builtin.zeroCells z.cells (grownCap w (n+m) cap e-(n+m))) e)):=by
  intro A cap hcap hfo;have hn:¬(n+m≤cap):=by omega
  have h63':¬(9223372036854775807<((n:Int)+(m:Int))):=by omega
  have hfit:=growslice_fits hcap hbytes;have h48':¬(281474976710656<Builtin.nextslicecap (n+m) cap*i.bytes):=by omega
  by_cases hm:m=0
  ·have hnl:=hnil hm;subst hm;rw[hnl];simp only[Nat.add_zero]at hn h63' h48' ⊢;have h63'':¬(9223372036854775807<(n:Int)):=by omega
   simp[Builtin.append_,run_underlying ht,run_underlying hti,sizeOf,typeInfo,zeroValue,hi,hz,asInt,asIntOf,hw0,hn,h63'',h48',Question.forced,hfo,newRow,grownCap]
  ·have hmz:¬(m*i.size=0):=Nat.mul_ne_zero hm hsn;simp[Builtin.append_,run_underlying ht,run_underlying hti,sizeOf,typeInfo,zeroValue,hi,hz,asInt,asIntOf,hw,hneg,hbig,hn,h63',h48',Question.forced,hfo,newRow,grownCap,hmz,hna]
   congr 2
   apply Array.ext';simp[List.append_assoc]
 rcases hown.2 with ⟨rfl,rfl⟩|⟨g,cap,cur,rfl,hbg,hg,hnc,hcm,hcs,htake⟩
 ·have hx:xs=[]:=List.eq_nil_of_length_eq_zero (by simpa using hown.1);subst hx;by_cases hm:m=0
  ·have hnl:=hnil hm;subst hm;rw[hnl];refine⟨.slice none 0 0,w,?_,World.ownsRow_nil w base e i.size,⟨rfl,rfl,rfl,Nat.le_refl _,fun _ _ _=>rfl⟩,Or.inl rfl⟩;simp[Builtin.append_,run_underlying ht,run_underlying hti,sizeOf,typeInfo,hi,asInt,asIntOf,hw0]
  ·have hgr:=grown 0 (by omega) (Value.ownBlock (.slice none 0 0));exact⟨_,_,runs none 0 (by omega) (by simp[Builtin.firstCells]),hgr.1,hgr.2,Or.inr rfl⟩
 ·by_cases hroom:n+m≤cap
  ·have hfit:n*i.size+news.length≤cur.size:=by rw[hl,hcs,←Nat.add_mul];exact Nat.mul_le_mul_right _ hroom
   obtain⟨cur',h3,h4,h5⟩:=setCells_row news (n*i.size) w cur hg hfit;obtain⟨s1,s2,s3,s4⟩:=setCells_same g news (n*i.size) w;have hst:=run_storeCells_cells (P:=P) g (n*i.size) news 0 w (fun j hj=>by rw[cell_of_row w g _ cur e (0,0) hg];simp;omega) (fun j _=>blk_frozen hg _) h1;simp only[Nat.add_zero]at hst;refine⟨.slice (some ⟨g,0,none⟩) (n+m) cap,w.setCells g (n*i.size) news,?_,⟨hlen,.inr ⟨g,cap,cur',rfl,hbg,h3,hroom,hcm,by rw[h4,hcs],?_⟩⟩,⟨s1,s2,s3,by rw[s4];exact Nat.le_refl _,fun k _ hk=>setCells_far news _ k (fun e=>hk (by simp[Value.ownBlock,e]))⟩,Or.inl rfl⟩
   ·by_cases hm:m=0
    ·have hnl:=hnil hm;subst hm;rw[hnl]at hst ⊢;simp[Builtin.append_,run_underlying ht,run_underlying hti,sizeOf,typeInfo,hi,asInt,asIntOf,hw0,hnc,add_plain,hst]
    ·have hmz:¬(m*i.size=0):=Nat.mul_ne_zero hm hsn;simp[Builtin.append_,run_underlying ht,run_underlying hti,sizeOf,typeInfo,zeroValue,hi,hz,asInt,asIntOf,hw,hneg,hbig,hroom,hmz,hna,add_plain,hst]
   ·rw[h5];have h6:cur.toList.take (n*i.size)=xs:=htake;rw[h6,←hlen];exact List.take_left
  ·have holds:∀j u,xs[j]?=some u→w.cell? ((⟨g,0,none⟩:Addr).add j)=some u:=hown.cells (g:=g) rfl;have hgr:=grown cap (by omega) (Value.ownBlock (.slice (some ⟨g,0,none⟩) n cap));exact⟨_,_,runs (some ⟨g,0,none⟩) cap (by omega) (run_firstCells_some (P:=P) w.drew i.size n _ n cap xs hown.1 (by simpa using holds)),hgr.1,hgr.2,Or.inr rfl⟩
end
namespace Kd
theorem reps_zeros {α:Type} {R:α→List Value→Prop} {z:Value} {size:Nat} {z0:α} (hz:z.cells.size=size) (hs:0<size) (h0:R z0 z.cells.toList) (m:Nat):Reps R size (List.replicate m z0) (Builtin.zeroCells z.cells m).toList:=by
 have h:=reps_made hz hs h0 m;rw[show Builtin.zeroCells z.cells m=madeCells z.cells (m*size)by unfold Builtin.zeroCells madeCells;rw[hz]];exact h
section
variable {P:Program} {ops:Array Oper} {rest:List Oper} {o:Oper} {a:Act} {Q:Exit→Act→World→Prop} {Kc:Act→World→Prop} {α:Type}
theorem R_zeros_run (d:Kd α) {W:World} (base:Nat) (t ti ty e:TypeId) (z:Value) (bytes:Nat) (ht:P.underlying t=some (.slice e)) {k:IntKind} (hti:P.underlying ti=some (.int k)) (hinfo:(P.info? e).map (fun i=>(i.zero,i.size,i.bytes))=some (some z,d.sz,bytes)) (hz:z.cells.size=d.sz) (hs0:0<d.sz) (hb0:0<bytes)
  (v:Value) (xs:List α) (z0:α) {ok:Nat→Prop} (hzero:d.M W base (fun _=>False) z0 z.cells.toList) (hfresh:∀k,W.heap.size≤k→ok k) (HO:d.R e W base ok v xs) (kx:IntKind) (n:Int) (h0:0≤n) (hl:(xs.length+n.toNat)*bytes≤140737488355328) (hbase:base≤W.heap.size):
  ∃v1 w1,(Builtin.append_ #[t,ti] ty #[v,.int kx n]).run P W= .ok v1 w1∧d.R e w1 base ok v1 (xs++List.replicate n.toNat z0)∧W.grownBy w1 v.ownBlock∧(v1.ownBlock=v.ownBlock∨∃b,v1.ownBlock=some b∧W.heap.size≤b):=by
 obtain⟨m,rfl⟩:=Int.eq_ofNat_of_zero_le h0;simp only[Int.toNat_natCast]at hl ⊢;obtain⟨i0,hi,hzz⟩:=Option.map_eq_some_iff.1 hinfo;simp only[Prod.mk.injEq]at hzz;obtain⟨hz0,hz1,hz2⟩:=hzz;obtain⟨hok,inner,hown,hr⟩:=HO;have hnM:Reps (d.M W base (fun _=>False)) d.sz (List.replicate m z0) (Builtin.zeroCells z.cells m).toList:=reps_zeros hz hs0 hzero m;obtain⟨v1,w1,hrun,h2,hg,hat⟩:=run_append_zeros (P:=P) W base t ti ty e i0 z d.sz bytes ht hti hi hz0 hz1 hz2 hz hs0 hb0 v xs.length inner hown kx m (reps_one hnM hs0 (fun _ _ hp=>d.K_one (d.K_of_M hp))) hl hbase
 have hat':v1.ownBlock=v.ownBlock∨∃b,v1.ownBlock=some b∧W.heap.size≤b:=by
  rcases hat with hat|hat
  ·exact .inl hat
  ·exact .inr ⟨_,hat,Nat.le_refl _⟩
 have hne:∀k,some k≠v.ownBlock→k<W.heap.size→some k≠v1.ownBlock:=by
  intro k hk hlt;rcases hat' with hat|⟨b,hb,hle⟩
  ·rw[hat];exact hk
  ·rw[hb];intro he
   injection he with he
   omega
 have step:∀{q:α} {c:List Value} {o:Nat→Prop},d.M W base o q c→(∀k,o k→ok k∧some k≠v.ownBlock)→d.M w1 base (fun k=>ok k∧some k≠v1.ownBlock) q c:=by
  intro q c o hq ho;have h1:=d.M_move (w1:=w1) (fun k hk=>hg.block k hk.2.2.1 (ho k hk.1).2) (d.M_bound hq);exact d.M_mono (fun k hk=>⟨(ho k hk.1).1,hne k (ho k hk.1).2 hk.2.2.1⟩) h1
 refine⟨v1,w1,hrun,⟨fun k hk=> ?_,inner++(Builtin.zeroCells z.cells m).toList,by rw[List.length_append,List.length_replicate];exact h2,reps_append (hr.imp_ (fun _ _ hq=>step hq (fun _ hk=>hk))) (hnM.imp_ (fun _ _ hq=>step hq (fun _ hk=>hk.elim)))⟩,hg,hat'⟩;rcases hat' with hat|⟨b,hb,hle⟩
 ·exact hok k (hat▸hk)
 ·rw[hb]at hk
  injection hk with hk
  exact hfresh k (by omega)
theorem R_append_zeros (d:Kd α) {w0 W:World} (base:Nat) (hgd:o.guard=none) (s x:Operand) (t ti e:TypeId) (z:Value) (bytes:Nat)
  (ho:o.op= .call {callee:= .builtin .append,args:= #[s,x],argTypes:= #[t,ti]})
  (ht:P.underlying t=some (.slice e)) {k:IntKind} (hti:P.underlying ti=some (.int k)) (hinfo:(P.info? e).map (fun i=>(i.zero,i.size,i.bytes))=some (some z,d.sz,bytes)) (hz:z.cells.size=d.sz) (hs0:0<d.sz) (hb0:0<bytes)
  (v:Value) (xs:List α) (z0:α) {kx:IntKind} (n:Int) (ok:Nat→Prop) (hs:a.eval s=v) (hx:a.eval x= .int kx n) (hzero:d.M W base (fun _=>False) z0 z.cells.toList) (hfresh:∀k,W.heap.size≤k→ok k)
  (HO:d.R e W base ok v xs) (h0:0≤n) (HB:Below base w0 W) (hbase:base≤W.heap.size) (hl:(xs.length+n.toNat)*bytes≤140737488355328)
  (h:∀v1 w1,d.R e w1 base ok v1 (xs++List.replicate n.toNat z0)→Below base w0 w1→W.grownBy w1 v.ownBlock→(v1.ownBlock=v.ownBlock∨∃b,v1.ownBlock=some b∧W.heap.size≤b)→wpList P ops Q rest (a.put o.dst v1) w1):
  wpList P ops Q (o::rest) a W:=by
 obtain⟨v1,w1,hr1,h1,hg,hat⟩:=R_zeros_run (P:=P) d base t ti o.type e z bytes ht hti hinfo hz hs0 hb0 v xs z0 hzero hfresh HO kx n h0 hl hbase;refine wpList_plain hgd fun K hK=> ?_;unfold Oper.wp execOp;simp only[ho,resolve,invoke,builtin,Sem.run_bind,Sem.run_pure,Result.andThen_ok,List.map_toArray,List.map_cons,List.map_nil,hs,hx,hr1];exact hK _ _ (h v1 w1 h1 (HB.grown hg hbase (R_base HO)) hg hat)
end
end Kd
end
end Go.Proofs.YtfnimdhghglanaaGreatW.PrintWords
end
section
namespace Go.Proofs.YtfnimdhghglanaaGreatW.PrintWords
open Go.RowKit
namespace Kd
structure Heap {α:Type} (d:Kd α):Prop where
 K:∀{w w1:World} {x:α} {cs:List Value},(∀k,k<w.heap.size→w1.heap[k]?=w.heap[k]?)→d.K w x cs→d.K w1 x cs
theorem cell_heap {w w1:World} (hb:∀k,k<w.heap.size→w1.heap[k]?=w.heap[k]?) {a:Addr} {v:Value} (h:w.cell? a=some v):w1.cell? a=some v:=by
 have:=hb a.block (World.block_lt_of_cell? w a h)
 simpa [World.cell?,this]using h
theorem Heap.C {α:Type} {d:Kd α} (hd:Heap d) {w w1:World} {A:Option Addr} {n:Nat} {xs:List α} (hb:∀k,k<w.heap.size→w1.heap[k]?=w.heap[k]?) (h:d.C w A n xs):d.C w1 A n xs:=
 ⟨h.1,h.2.1,fun hn=>by
  obtain⟨ad,e,hc⟩:=h.2.2 hn;refine⟨ad,e,fun j p hj=> ?_⟩;obtain⟨c,hs,hr,hcell⟩:=hc j p hj;exact⟨c,hs,hd.K hb hr,fun i u hu=>cell_heap hb (hcell i u hu)⟩⟩
end Kd
end Go.Proofs.YtfnimdhghglanaaGreatW.PrintWords
end
section
namespace Go.Proofs.YtfnimdhghglanaaGreatW.PrintWords
open Go.RowKit
section
def Kept (w W:World) (S:Nat→Prop):Prop:=w.heap.size≤W.heap.size∧∀i,i<w.heap.size→¬S i→W.heap[i]?=w.heap[i]?
section
variable {w W W2:World} {S S2 S':Nat→Prop}
theorem Kept.refl (w:World) (S:Nat→Prop):Kept w w S:=⟨Nat.le_refl _,fun _ _ _=>rfl⟩
theorem Kept.of_below (h:Below w.heap.size w W) (S:Nat→Prop):Kept w W S:=⟨h.size,fun i hi _=>h.block i hi⟩
theorem Kept.mono (h:Kept w W S) (hs:∀k,S k→S' k):Kept w W S':=⟨h.1,fun i hi hn=>h.2 i hi (fun hk=>hn (hs i hk))⟩
theorem Kept.then_ (h:Kept w W S) (k:Kept W W2 S2) (hs:∀k,S2 k→S k∨w.heap.size≤k):Kept w W2 S:=
 ⟨Nat.le_trans h.1 k.1,fun i hi hn=>(k.2 i (Nat.lt_of_lt_of_le hi h.1) (fun h2=>(hs i h2).elim hn (fun h3=>by omega))).trans (h.2 i hi hn)⟩
theorem Kept.below (h:Kept w W S) (hb:Below W.heap.size W W2):Kept w W2 S:=h.then_ (Kept.of_below hb (fun _=>False)) (fun _ hk=>hk.elim)
theorem Kept.alloc (h:Kept w W S) (o:Obj):Kept w (W.alloc o) S:=h.below (below_alloc (Below.refl _ _) o)
theorem Kept.drew (h:Kept w W S):Kept w W.drew S:=h
theorem Kept.setCell (h:Kept w W S) {p:Addr} (hp:S p.block∨w.heap.size≤p.block) (u:Value):Kept w (W.setCell p u) S:=
 h.then_ (S2:=fun k=>k=p.block) ⟨by simp[World.setCell],fun i _ hn=>Below.heap_setCell W p u i hn⟩ (fun k hk=>by rw[hk];exact hp)
theorem Kept.keep {g:Nat} (h:KeepBut w W g none) (k:Kept W W2 S2) (hs:∀k,S2 k→w.heap.size≤k):KeepBut w W2 g none:=
 ⟨Nat.le_trans h.1 k.1,fun i hi hg hr=>(k.2 i (Nat.lt_of_lt_of_le hi h.1) (fun h2=>by have:=hs i h2;omega)).trans (h.2 i hi hg hr)⟩
end
end
section
def Foot (P:World→Prop) (W:World) (ok:Nat→Prop):Prop:=∀W':World,(∀k,ok k→k<W.heap.size→W'.heap[k]?=W.heap[k]?)→P W'
theorem heap_lt {W W1:World} {k:Nat} (h:W1.heap[k]?=W.heap[k]?) (hlt:k<W.heap.size):k<W1.heap.size:=by
 rw[Array.getElem?_eq_getElem hlt]at h;exact(Array.getElem?_eq_some_iff.1 h).1
namespace Foot
variable {P Q:World→Prop} {W W1:World} {ok ok':Nat→Prop}
theorem mono (h:Foot P W ok) (hok:∀k,ok k→ok' k):Foot P W ok':=fun W' hW=>h W' (fun k hk hlt=>hW k (hok k hk) hlt)
theorem bound (h:Foot P W ok):Foot P W (fun k=>ok k∧k<W.heap.size):=fun W' hW=>h W' (fun k hk hlt=>hW k ⟨hk,hlt⟩ hlt)
theorem step (h:Foot P W ok) (hm:∀k,ok k→k<W.heap.size→W1.heap[k]?=W.heap[k]?):Foot P W1 ok:=fun W' hW=>h W' (fun k hk hlt=>(hW k hk (heap_lt (hm k hk hlt) hlt)).trans (hm k hk hlt))
theorem imp (h:Foot P W ok) (hi:∀W',P W'→Q W'):Foot Q W ok:=fun W' hW=>hi W' (h W' hW)
theorem old (h:Foot P W ok) (hb:Below W.heap.size W W1):Foot P W1 (fun k=>ok k∧k<W.heap.size):=(h.bound).step (fun k _ hlt=>hb.block k hlt)
end Foot
namespace Kd
def F {α:Type} (d:Kd α) (W:World) (ok:Nat→Prop) (A:Option Addr) (n:Nat) (xs:List α):Prop:=Foot (fun W=>d.C W A n xs) W ok
def FK {α:Type} (d:Kd α) (W:World) (ok:Nat→Prop) (x:α) (c:List Value):Prop:=Foot (fun W=>d.K W x c) W ok
end Kd
end
end Go.Proofs.YtfnimdhghglanaaGreatW.PrintWords
end
section
namespace Go.Proofs.YtfnimdhghglanaaGreatW.PrintWords
open Go.RowKit
namespace Kd
section
variable {α:Type} {d:Kd α} {e base n cc g:Nat} {ok ok' okp S:Nat→Prop} {w w1 W W1:World} {A:Option Addr} {u v v1:Value} {xs:List α} {x:α} {c:List Value}
def N {α:Type} (d:Kd α) (e:Nat) (w:World) (base:Nat) (ok:Nat→Prop) (v:Value) (xs:List α):Prop:=
 (∀k,v.ownBlock=some k→ok k)∧∃rows:List (List Value),rows.length=xs.length∧(raw d.sz).R e w base (fun k=>some k=v.ownBlock) v rows∧∀(j:Nat) (x:α) (c:List Value),xs[j]?=some x→rows[j]?=some c→FK d w (fun k=>ok k∧some k≠v.ownBlock) x c
end
end Kd
end Go.Proofs.YtfnimdhghglanaaGreatW.PrintWords
end
section
end
section
namespace Go.Proofs.YtfnimdhghglanaaGreatW.PrintMore
open Go.RowKit Go.Proofs.YtfnimdhghglanaaGreatW.PrintWords
theorem max2_int (k k':IntKind) (x y:Int):Builtin.max2 (.int k x) (.int k' y)=pure (.int k (if x<y then y else x)):=by simp only[Builtin.max2,gt_iff_lt]
theorem min2_int (k k':IntKind) (x y:Int):Builtin.min2 (.int k x) (.int k' y)=pure (.int k (if y<x then y else x)):=by simp only[Builtin.min2]
theorem max_two (ats:Array TypeId) (ty:TypeId) (a b:Value):Builtin.max_ ats ty #[a,b]=(Builtin.max2 a b>>=fun s=>pure s):=by simp only[Builtin.max_,List.foldlM_cons,List.foldlM_nil]
theorem min_two (ats:Array TypeId) (ty:TypeId) (a b:Value):Builtin.min_ ats ty #[a,b]=(Builtin.min2 a b>>=fun s=>pure s):=by simp only[Builtin.min_,List.foldlM_cons,List.foldlM_nil]
theorem max_three (ats:Array TypeId) (ty:TypeId) (a b c:Value):Builtin.max_ ats ty #[a,b,c]=(Builtin.max2 a b>>=fun s=>Builtin.max2 s c>>=fun s=>pure s):=by simp only[Builtin.max_,List.foldlM_cons,List.foldlM_nil]
theorem min_three (ats:Array TypeId) (ty:TypeId) (a b c:Value):Builtin.min_ ats ty #[a,b,c]=(Builtin.min2 a b>>=fun s=>Builtin.min2 s c>>=fun s=>pure s):=by simp only[Builtin.min_,List.foldlM_cons,List.foldlM_nil]
theorem max_four (ats:Array TypeId) (ty:TypeId) (a b c d:Value):Builtin.max_ ats ty #[a,b,c,d]=(Builtin.max2 a b>>=fun s=>Builtin.max2 s c>>=fun s=>Builtin.max2 s d>>=fun s=>pure s):=by simp only[Builtin.max_,List.foldlM_cons,List.foldlM_nil]
theorem min_four (ats:Array TypeId) (ty:TypeId) (a b c d:Value):Builtin.min_ ats ty #[a,b,c,d]=(Builtin.min2 a b>>=fun s=>Builtin.min2 s c>>=fun s=>Builtin.min2 s d>>=fun s=>pure s):=by simp only[Builtin.min_,List.foldlM_cons,List.foldlM_nil]
end Go.Proofs.YtfnimdhghglanaaGreatW.PrintMore
namespace Go.Proofs.YtfnimdhghglanaaGreatW.PrintWords
open Go.RowKit
section
variable {P:Program} {ops:Array Oper} {rest:List Oper} {o:Oper} {a:Act} {Q:Exit→Act→World→Prop} {W:World}
theorem gate_builtin {b:Builtin} {xs:Array Operand} {ts:Array TypeId} (_ho:o.op= .call {callee:= .builtin b,args:=xs,argTypes:=ts}) (h:wpList P ops Q (o::rest) a W):wpList P ops Q (o::rest) a W:=h
end
def mx (a b:Int):Int:=if a<b then b else a
namespace Kd
section
variable {α:Type} {d:Kd α} {e base:Nat} {ok:Nat→Prop} {W w1:World} {v:Value} {xs:List α}
theorem R_grown1 (h:d.R e W base ok v xs) (hE:d.E=[]) {row:Option Nat} (hg:W.grownBy w1 row) (hne:row≠v.ownBlock):d.R e w1 base ok v xs:=
 R_mono (R_grown (R_tight hE h) hg (fun _ hk e_=>hne (e_.symm.trans hk))) (fun k hk=>h.1 k hk.symm)
end
section
variable {α:Type} {d:Kd α} {e base b b' g N:Nat} {ok ok1:Nat→Prop} {W W2 w1:World} {u v:Value} {xs ys:List α} {S:Nat→Prop}
theorem R_reok (hE:d.E=[]) (h:d.R e W base ok1 v xs) (hok:∀k,v.ownBlock=some k→ok k):d.R e W base ok v xs:=R_mono (R_tight hE h) (fun k hk=>hok k hk.symm)
end
end Kd
end Go.Proofs.YtfnimdhghglanaaGreatW.PrintWords
namespace Go.Proofs.YtfnimdhghglanaaGreatW.PrintWords
open Go.RowKit
namespace Kd
def V {α:Type} (d:Kd α) (_e:Nat) (W:World) (_base:Nat) (ok:Nat→Prop) (v:Value) (xs:List α):Prop:=∃A c,v= .slice A xs.length c∧xs.length≤c∧F d W ok A xs.length xs
end Kd
end Go.Proofs.YtfnimdhghglanaaGreatW.PrintWords
end
section
namespace Go.Proofs.YtfnimdhghglanaaGreat.Hand
open Go.RowKit Go.Proofs.YtfnimdhghglanaaGreatW.PrintWords Go.Proofs.YtfnimdhghglanaaGreatW.PrintLast Go.Proofs.YtfnimdhghglanaaGreatW.PrintMore
structure Acc where
 th:Int
 kd:Int
 ix:Int
 old:Int
 new:Int
 ok:Bool
def Acc.cells (x:Acc):List Value:=[.int .i64 x.th,.int .i64 x.kd,.int .i64 x.ix,.int .i64 x.old,.int .i64 x.new,.bool x.ok]
def Acc.zero:Acc:=⟨0,0,0,0,0,false⟩
def kA:Kd Acc:=Kd.iso (Kd.pair (Kd.int .i64) (Kd.pair (Kd.int .i64) (Kd.pair (Kd.int .i64) (Kd.pair (Kd.int .i64) (Kd.pair (Kd.int .i64) Kd.bool))))) (fun x:Acc=>(x.th,x.kd,x.ix,x.old,x.new,x.ok))
theorem kA_mkM (w:World) (base:Nat) (ok:Nat→Prop) (x:Acc):kA.M w base ok x x.cells:=
 ⟨[.int .i64 x.th],[.int .i64 x.kd,.int .i64 x.ix,.int .i64 x.old,.int .i64 x.new,.bool x.ok],rfl,rfl,⟨[.int .i64 x.kd],[.int .i64 x.ix,.int .i64 x.old,.int .i64 x.new,.bool x.ok],rfl,rfl,⟨[.int .i64 x.ix],[.int .i64 x.old,.int .i64 x.new,.bool x.ok],rfl,rfl,⟨[.int .i64 x.old],[.int .i64 x.new,.bool x.ok],rfl,rfl,⟨[.int .i64 x.new],[.bool x.ok],rfl,rfl,rfl⟩⟩⟩⟩⟩
structure Mut where
 held:Bool
 th:Int
def Mut.cells (x:Mut):List Value:=[.bool x.held,.int .i64 x.th]
def kM:Kd Mut:=Kd.iso (Kd.pair Kd.bool (Kd.int .i64)) (fun x:Mut=>(x.held,x.th))
theorem kM_mkM (w:World) (base:Nat) (ok:Nat→Prop) (x:Mut):kM.M w base ok x x.cells:=⟨[.bool x.held],[.int .i64 x.th],rfl,rfl,rfl⟩
section
structure MemB (W:World) (base g gw gm:Nat) (vl:Value) (cw cm:Nat) (log:List Acc) (V:Int) (ws:List Int) (ms:List Mut):Prop where
 blk:W.heap[g]?=some (.cells #[vl,.int .i64 V,.slice (some ⟨gw,0,none⟩) ws.length cw,.slice (some ⟨gm,0,none⟩) ms.length cm] 150 (0,0))
 lo:Kd.R kA 206 W base (fun _=>True) vl log
 words:Kd.R (Kd.int .i64) 3 W base (fun _=>True) (.slice (some ⟨gw,0,none⟩) ws.length cw) ws
 mus:Kd.R kM 227 W base (fun _=>True) (.slice (some ⟨gm,0,none⟩) ms.length cm) ms
 hg:base≤g
def IsMem (W:World) (base g gw gm:Nat) (log:List Acc) (V:Int) (ws:List Int) (ms:List Mut):Prop:=∃vl cw cm,MemB W base g gw gm vl cw cm log V ws ms
structure MF (W W':World) (g gw gm:Nat):Prop where
 os:W'.os=W.os
 tape:W'.tape=W.tape
 output:W'.output=W.output
 size:W.heap.size≤W'.heap.size
 block:∀k,k<W.heap.size→k≠g→k≠gw→k≠gm→(∃v,W.cell? ⟨g,0,none⟩=some v∧v.ownBlock≠some k)→W'.heap[k]?=W.heap[k]?
 log:∀v,W.cell? ⟨g,0,none⟩=some v→∃v',W'.cell? ⟨g,0,none⟩=some v'∧(v'.ownBlock=v.ownBlock∨∃b,v'.ownBlock=some b∧W.heap.size≤b)
theorem MF.refl (W:World) (g gw gm:Nat):MF W W g gw gm:=⟨rfl,rfl,rfl,Nat.le_refl _,fun _ _ _ _ _ _=>rfl,fun v hv=>⟨v,hv,.inl rfl⟩⟩
theorem MF.trans {A B C:World} {g gw gm:Nat} (h:MF A B g gw gm) (k:MF B C g gw gm):MF A C g gw gm:=
 ⟨k.os.trans h.os,k.tape.trans h.tape,k.output.trans h.output,Nat.le_trans h.size k.size,fun j hj h1 h2 h3 h4=>by
  have e:=h.block j hj h1 h2 h3 h4;obtain⟨v,hv,hn⟩:=h4;obtain⟨v',hv',ho⟩:=h.log v hv;refine(k.block j (Nat.lt_of_lt_of_le hj h.size) h1 h2 h3 ⟨v',hv',fun e2=> ?_⟩).trans e;rcases ho with ho|⟨b,hb,hle⟩
  ·exact hn (ho▸e2)
  ·rw[hb]at e2
   injection e2 with e2
   omega,fun v hv=>by
  obtain⟨v',hv',ho⟩:=h.log v hv;obtain⟨v2,hv2,ho2⟩:=k.log v' hv';refine⟨v2,hv2,?_⟩;rcases ho2 with ho2|⟨b,hb,hle⟩
  ·rw[ho2];exact ho
  ·exact .inr ⟨b,hb,Nat.le_trans h.size hle⟩⟩
theorem MF.below {W W':World} {g gw gm:Nat} (hg:g<W.heap.size) (h:Below W.heap.size W W'):MF W W' g gw gm:=⟨h.os,h.tape,h.output,h.size,fun k hk _ _ _ _=>h.block k hk,fun v hv=>⟨v,(h.cell (p:=⟨g,0,none⟩) hg).trans hv,.inl rfl⟩⟩
theorem MF.set {W:World} {g gw gm:Nat} {b j:Nat} (hb:(b=g∧j≠0)∨(b=gw∧gw≠g)∨(b=gm∧gm≠g)) (u:Value):MF W (W.setCell ⟨b,j,none⟩ u) g gw gm:=
 ⟨rfl,rfl,rfl,by simp[World.setCell],fun k _ h1 h2 h3 _=>Below.heap_setCell W ⟨b,j,none⟩ u k (by rcases hb with ⟨rfl,_⟩|⟨rfl,_⟩|⟨rfl,_⟩<;>assumption),fun v hv=>⟨v,by
  rw[World.cell?_setCell_other _ _ _ _ (fun e=>by injection e with e1 e2;rcases hb with ⟨h1,h2⟩|⟨h1,h2⟩|⟨h1,h2⟩<;>omega)];exact hv,.inl rfl⟩⟩
theorem grown_set (W:World) (b j:Nat) (u:Value):W.grownBy (W.setCell ⟨b,j,none⟩ u) (some b):=
 ⟨rfl,rfl,rfl,by simp[World.setCell],fun k _ hk=>Below.heap_setCell W ⟨b,j,none⟩ u k (fun e=>hk (by rw[e]))⟩
section
variable {W W':World} {base g gw gm cw cm:Nat} {vl:Value} {log:List Acc} {V:Int} {ws:List Int} {ms:List Mut}
theorem MemB.lt (h:MemB W base g gw gm vl cw cm log V ws ms):g<W.heap.size:=(Array.getElem?_eq_some_iff.1 h.blk).1
theorem MemB.wblk (h:MemB W base g gw gm vl cw cm log V ws ms):∃cells,W.heap[gw]?=some (.cells cells 3 (0,0)):=Kd.R_typed h.words gw rfl
theorem MemB.mblk (h:MemB W base g gw gm vl cw cm log V ws ms):∃cells,W.heap[gm]?=some (.cells cells 227 (0,0)):=Kd.R_typed h.mus gm rfl
theorem MemB.wne (h:MemB W base g gw gm vl cw cm log V ws ms):gw≠g:=by
 obtain⟨cells,e⟩:=h.wblk;rintro rfl;have:=h.blk;rw[e]at this
 injection this with this
 injection this with _ ht
 exact absurd ht (by decide)
theorem MemB.wlt (h:MemB W base g gw gm vl cw cm log V ws ms):base≤gw∧gw<W.heap.size:=⟨Kd.R_base h.words gw rfl,Kd.R_lt h.words gw rfl⟩
theorem MemB.mlt (h:MemB W base g gw gm vl cw cm log V ws ms):base≤gm∧gm<W.heap.size:=⟨Kd.R_base h.mus gm rfl,Kd.R_lt h.mus gm rfl⟩
theorem MemB.cell (h:MemB W base g gw gm vl cw cm log V ws ms):W.cell? ⟨g,0,none⟩=some vl∧W.cell? ⟨g,1,none⟩=some (.int .i64 V)∧W.cell? ⟨g,2,none⟩=some (.slice (some ⟨gw,0,none⟩) ws.length cw)∧W.cell? ⟨g,3,none⟩=some (.slice (some ⟨gm,0,none⟩) ms.length cm):=by
 have e:=h.blk;refine⟨?_,?_,?_,?_⟩<;>simp[World.cell?,e]
theorem MemB.free (h:MemB W base g gw gm vl cw cm log V ws ms) (j:Nat):W.frozen? ⟨g,j,none⟩=false:=by
 have e:=h.blk;simp[World.frozen?,e]
theorem MemB.below (h:MemB W base g gw gm vl cw cm log V ws ms) (hb:Below W.heap.size W W'):MemB W' base g gw gm vl cw cm log V ws ms:=
 ⟨(hb.block g h.lt).trans h.blk,Kd.R_below h.lo hb,Kd.R_below h.words hb,Kd.R_below h.mus hb,h.hg⟩
theorem IsMem.below (h:IsMem W base g gw gm log V ws ms) (hb:Below W.heap.size W W'):IsMem W' base g gw gm log V ws ms:=by
 obtain⟨vl,cw,cm,h⟩:=h;exact⟨vl,cw,cm,h.below hb⟩
theorem IsMem.lower {base':Nat} (h:IsMem W base g gw gm log V ws ms) (hb:base'≤base):IsMem W base' g gw gm log V ws ms:=by
 obtain⟨vl,cw,cm,h1,h2,h3,h4,h5⟩:=h;exact⟨vl,cw,cm,h1,Kd.R_lower h2 hb,Kd.R_lower h3 hb,Kd.R_lower h4 hb,Nat.le_trans hb h5⟩
theorem MemB.far (h:MemB W base g gw gm vl cw cm log V ws ms) {b j t:Nat} {cells:Array Value} (hb:W.heap[b]?=some (.cells cells t (0,0))) (h1:b≠g) (h2:b≠gw) (h3:b≠gm) (ht:t≠206) (u:Value):MemB (W.setCell ⟨b,j,none⟩ u) base g gw gm vl cw cm log V ws ms:=by
 have hgw:W.grownBy (W.setCell ⟨b,j,none⟩ u) (some b):=grown_set W b j u;refine⟨(Below.heap_setCell W ⟨b,j,none⟩ u g (by simpa using h1.symm)).trans h.blk,Kd.R_set h.lo hb (fun q hq=> ?_) j u,?_,?_,h.hg⟩
 ·rcases List.mem_cons.1 hq with rfl|hq
  ·exact fun e=>ht e.symm
  ·exact absurd hq (by simp[kA,Kd.iso,Kd.pair,Kd.int,Kd.bool,Kd.scalar])
 ·exact Kd.R_grown1 h.words (by rfl) hgw (by simp[Value.ownBlock];exact h2)
 ·exact Kd.R_grown1 h.mus (by rfl) hgw (by simp[Value.ownBlock];exact h3)
theorem blk_set {b t i:Nat} {cs:Array Value} (hb:W.heap[b]?=some (.cells cs t (0,0))) (u:Value):(W.setCell ⟨b,i,none⟩ u).heap[b]?=some (.cells (cs.setIfInBounds i u) t (0,0)):=by
 simp[World.setCell,Array.getElem?_modify,hb]
theorem below_set_ {b j:Nat} (hb:base≤b) (u:Value):Below base W (W.setCell ⟨b,j,none⟩ u):=(Below.refl base W).setCell (p:=⟨b,j,none⟩) hb u
theorem MemB.setWord (h:MemB W base g gw gm vl cw cm log V ws ms) (i:Nat) (u:Int):MemB (W.setCell ⟨gw,i,none⟩ (.int .i64 u)) base g gw gm vl cw cm log V (ws.set i u) ms:=by
 obtain⟨cells,e⟩:=h.wblk;have hr:=(Kd.R_putg h.words (i:Int) u).1;rw[Int.toNat_natCast]at hr;refine⟨?_,Kd.R_set h.lo e (fun q hq=> ?_) i _,by rw[List.length_set];exact hr,Kd.R_set h.mus e (fun q hq=> ?_) i _,h.hg⟩
 ·rw[List.length_set];exact(Below.heap_setCell W ⟨gw,i,none⟩ _ g (by simpa using h.wne.symm)).trans h.blk
 ·rcases List.mem_cons.1 hq with rfl|hq
  ·decide
  ·exact absurd hq (by simp[kA,Kd.iso,Kd.pair,Kd.int,Kd.bool,Kd.scalar])
 ·rcases List.mem_cons.1 hq with rfl|hq
  ·decide
  ·exact absurd hq (by simp[kM,Kd.iso,Kd.pair,Kd.int,Kd.bool,Kd.scalar])
theorem MemB.grownLog (h:MemB W base g gw gm vl cw cm log V ws ms) (hg:W.grownBy W' vl.ownBlock):W'.heap[g]?=W.heap[g]?∧
  Kd.R (Kd.int .i64) 3 W' base (fun _=>True) (.slice (some ⟨gw,0,none⟩) ws.length cw) ws∧Kd.R kM 227 W' base (fun _=>True) (.slice (some ⟨gm,0,none⟩) ms.length cm) ms:=by
 have hty:=Kd.R_typed h.lo;have ne:∀b t cells,W.heap[b]?=some (.cells cells t (0,0))→t≠206→some b≠vl.ownBlock:=by
  intro b t cells hb ht e;obtain⟨cs,e2⟩:=hty b e.symm;rw[hb]at e2
  injection e2 with e2
  injection e2 with _ e3
  exact ht e3
 obtain⟨c1,e1⟩:=h.wblk;obtain⟨c2,e2⟩:=h.mblk;exact⟨hg.block g h.lt (ne _ _ _ h.blk (by decide)),Kd.R_grown1 h.words (by rfl) hg (fun e=>ne _ _ _ e1 (by decide) e.symm),Kd.R_grown1 h.mus (by rfl) hg (fun e=>ne _ _ _ e2 (by decide) e.symm)⟩
theorem MemB.pushLog (h:MemB W base g gw gm vl cw cm log V ws ms) {v1:Value} {log1:List Acc} (hl:Kd.R kA 206 W' base (fun _=>True) v1 log1) (hg:W.grownBy W' vl.ownBlock) (hat:v1.ownBlock=vl.ownBlock∨∃b,v1.ownBlock=some b∧W.heap.size≤b):
  MemB (W'.setCell ⟨g,0,none⟩ v1) base g gw gm v1 cw cm log1 V ws ms∧MF W (W'.setCell ⟨g,0,none⟩ v1) g gw gm∧Below base W (W'.setCell ⟨g,0,none⟩ v1):=by
 obtain⟨e,h2,h3⟩:=h.grownLog hg;have hba:=Kd.R_base h.lo;have h':MemB W' base g gw gm v1 cw cm log1 V ws ms∨True:= .inr trivial;clear h';have hb:W'.heap[g]?=some (.cells #[vl,.int .i64 V,.slice (some ⟨gw,0,none⟩) ws.length cw,.slice (some ⟨gm,0,none⟩) ms.length cm] 150 (0,0)):=e.trans h.blk;have mf:MF W (W'.setCell ⟨g,0,none⟩ v1) g gw gm:=⟨hg.os,hg.tape,hg.output,by simpa [World.setCell]using hg.size,fun k hk h1 _ _ ht=>by
  obtain⟨v,hv,hn⟩:=ht;rw[h.cell.1]at hv
  injection hv with hv
  subst hv;exact(Below.heap_setCell W' ⟨g,0,none⟩ v1 k h1).trans (hg.block k hk (fun e=>hn e.symm)),fun v hv=>⟨v1,World.cell?_setCell_same' _ _ _ (by simp[World.cell?,hb]),by
   rw[h.cell.1]at hv
   injection hv with hv
   subst hv;exact hat⟩⟩
 have bl:Below base W W':=⟨hg.os,hg.tape,hg.output,hg.size,fun k hk=>by
  rcases Nat.lt_or_ge k W.heap.size with hlt|hge
  ·exact hg.block k hlt (fun e=>by have:=hba k e.symm;omega)
  ·have:=h.lt;have:=h.hg;omega⟩
 refine⟨⟨blk_set hb _,Kd.R_set hl hb (fun q hq=> ?_) 0 _,Kd.R_set h2 hb (fun q hq=> ?_) 0 _,Kd.R_set h3 hb (fun q hq=> ?_) 0 _,h.hg⟩,mf,bl.trans (below_set_ h.hg _)⟩
 ·rcases List.mem_cons.1 hq with rfl|hq
  ·decide
  ·exact absurd hq (by simp[kA,Kd.iso,Kd.pair,Kd.int,Kd.bool,Kd.scalar])
 ·rcases List.mem_cons.1 hq with rfl|hq
  ·decide
  ·exact absurd hq (by simp[Kd.int,Kd.scalar])
 ·rcases List.mem_cons.1 hq with rfl|hq
  ·decide
  ·exact absurd hq (by simp[kM,Kd.iso,Kd.pair,Kd.int,Kd.bool,Kd.scalar])
end
end
end Go.Proofs.YtfnimdhghglanaaGreat.Hand
end
