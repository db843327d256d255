/- TopScheduleIndependent, part 12 of 27; no condition.  -/
import Derived.Test.YtfnimdhghglanaaGreatQsAK
import Derived.Handy
import Derived.Deep.DeepMust
import Derived.BigRegion
set_option maxRecDepth 100000
set_option maxHeartbeats 8000000
set_option linter.unusedVariables false
set_option linter.unusedSimpArgs false
section
namespace Go.Proofs.YtfnimdhghglanaaGreat.Hand
open Go.RowKit Go.Shelf Go.Proofs.YtfnimdhghglanaaGreatW PrintWords PrintLast PrintMore
section
def Ex.step (x:Ex) (o:OpC):Ex×Int:=
 if o.code=1 then(x.create o.a ⟨0,[],x.ev.lp,1,x.ev.pr,0⟩,1)
 else if o.code=2 then(x.create o.c ⟨0,[],o.a,3,0,o.b⟩,0)
 else if o.code=3 then(x.timer o.a o.b,0)
 else if o.code=4 then(x.stop,0)
 else if o.code=5 then(x.spawn o.a o.b,0)
 else if o.code=6 then(x.add o.a o.b,0)
 else if o.code=7 then(x.less o.a o.b o.c,0)
 else(x,2)
structure OpOk (o:OpC):Prop where
 lo:1≤o.code
 hi:o.code≤8
 reg:o.code=6∨o.code=7→o.a=0∨o.a=1
 jmp:o.code=7→0≤o.c
structure Few (k:Nat) (x:Ex):Prop where
 kl:x.ev.k.length≤900000
 cr:x.cr.length≤k
 n:x.n≤k
 ca:x.ca.length≤k
 ps:x.lp.ps.length≤8
 here:Here x
 pc:∀p∈x.lp.ps,0≤p.pc
theorem Few.room {k:Nat} {x:Ex} (h:Few k x) (hk:k≤100000):Room x:=⟨h.kl,by have:=h.cr;omega,by have:=h.n;omega,by have:=h.ca;omega,h.ps⟩
theorem Few.mono {k m:Nat} {x:Ex} (h:Few k x) (hk:k≤m):Few m x:=⟨h.kl,by have:=h.cr;omega,by have:=h.n;omega,by have:=h.ca;omega,h.ps,h.here,h.pc⟩
theorem Ex.self_mem {x:Ex} (h:Here x):x.self∈x.lp.ps:=by
 have hself:x.self=x.lp.ps[x.ev.pr.toNat]'h.hi:=by simp[Ex.self,List.getD_eq_getElem?_getD,List.getElem?_eq_getElem h.hi]
 rw[hself];exact List.getElem_mem _
theorem Few.setSelf {k:Nat} {x:Ex} (h:Few k x) (p:Pc) (hp:0≤p.pc):Few k (x.setSelf p):=
 ⟨h.kl,h.cr,h.n,h.ca,by simpa [Ex.setSelf]using h.ps,⟨h.here.lo,by simpa [Ex.setSelf]using h.here.hi⟩,fun q hq=>by
  rcases List.mem_or_eq_of_mem_set hq with hq|rfl
  ·exact h.pc q hq
  ·exact hp⟩
theorem Few.create {k:Nat} {x:Ex} (h:Few k x) (d:Int) (e:Ev):Few (k+1) (x.create d e):=by
 have h1:=h.cr;have h2:=h.n;have h3:=h.ca;unfold Ex.create
 split
 ·exact⟨h.kl,by simp only;omega,by simp only;omega,by simp only;omega,h.ps,⟨h.here.lo,h.here.hi⟩,h.pc⟩
 ·exact⟨h.kl,by simp only[List.length_append,List.length_cons,List.length_nil];omega,by simp only;omega,by simp only;omega,h.ps,⟨h.here.lo,h.here.hi⟩,h.pc⟩
theorem create_ca (x:Ex) (d:Int) (e:Ev):(x.create d e).ca=x.ca:=by unfold Ex.create;split<;>rfl
theorem stop_self_pc {k:Nat} {x:Ex} (h:Few k x):0≤x.self.pc:=h.pc _ (Ex.self_mem h.here)
theorem Few.stop {k:Nat} {x:Ex} (h:Few k x):Few (k+1) x.stop:=by
 unfold Ex.stop
 split
 ·exact h.mono (Nat.le_succ k)
 ·have h3:=h.ca;have h':Few (k+1) {x with ca:=x.ca++[x.self.tm]}:=⟨h.kl,by have:=h.cr;simp only;omega,by have:=h.n;simp only;omega,by simp only[List.length_append,List.length_cons,List.length_nil];omega,h.ps,⟨h.here.lo,h.here.hi⟩,h.pc⟩;exact h'.setSelf _ (stop_self_pc h)
theorem Few.timer {k:Nat} {x:Ex} (h:Few k x) (a v:Int):Few (k+1) (x.timer a v):=by
 have h1:Few (k+1) x.stop:=h.stop;have h2:(x.stop).cr=x.cr:=stop_cr x;have h3:(x.stop).n=x.n:=stop_n x;have h5:=(h1.create a ⟨0,[],x.stop.ev.lp,2,x.stop.ev.pr,v⟩);have h6:=h.cr;have h7:=h.n;have h8:Few (k+1) (x.stop.create a ⟨0,[],x.stop.ev.lp,2,x.stop.ev.pr,v⟩):=by
  refine⟨h5.kl,?_,?_,by rw[create_ca];exact h1.ca,h5.ps,h5.here,h5.pc⟩
  ·unfold Ex.create
   split
   ·simp only[h2];omega
   ·simp only[h2,List.length_append,List.length_cons,List.length_nil];omega
  ·unfold Ex.create
   split
   ·simp only[h3];omega
   ·simp only[h3];omega
 unfold Ex.timer;exact h8.setSelf _ (stop_self_pc h8)
theorem Few.spawn {k:Nat} {x:Ex} (h:Few k x) (a d:Int):Few (k+1) (x.spawn a d):=by
 unfold Ex.spawn
 split
 ·rename_i hn;have h':Few k {x with lp:={x.lp with ps:=x.lp.ps++[⟨a,0,true,[]⟩]}}:=⟨h.kl,h.cr,h.n,h.ca,by simp only[List.length_append,List.length_cons,List.length_nil];omega,
   ⟨h.here.lo,by have:=h.here.hi;simp only[List.length_append,List.length_cons,List.length_nil];omega⟩,fun p hp=>by
    rcases List.mem_append.1 hp with hp|hp
    ·exact h.pc p hp
    ·rw[List.mem_singleton]at hp;subst hp;exact Int.le_refl 0⟩
  exact h'.create _ _
 ·exact h.mono (Nat.le_succ k)
theorem Few.add {k:Nat} {x:Ex} (h:Few k x) (a v:Int):Few k (x.add a v):=by
 unfold Ex.add
 split<;>exact⟨h.kl,h.cr,h.n,h.ca,h.ps,⟨h.here.lo,h.here.hi⟩,h.pc⟩
theorem Few.step {k:Nat} {x:Ex} (h:Few k x) {o:OpC} (ho:OpOk o):Few (k+1) (x.step o).1:=by
 unfold Ex.step
 repeat' split
 ·exact h.create _ _
 ·exact h.create _ _
 ·exact h.timer _ _
 ·exact h.stop
 ·exact h.spawn _ _
 ·exact(h.add _ _).mono (Nat.le_succ k)
 ·unfold Ex.less
  split
  ·exact(h.setSelf _ (ho.jmp (by assumption))).mono (Nat.le_succ k)
  ·exact h.mono (Nat.le_succ k)
 ·exact h.mono (Nat.le_succ k)
theorem Ex.step_sig (x:Ex) (o:OpC):(x.step o).2=0∨(x.step o).2=1∨(x.step o).2=2:=by
 unfold Ex.step
 repeat' split
 all_goals simp
section
variable {Mt:Nat→Prop} {W w:World} {b:Nat} {kh ph ch xh:SH} {x:Ex}
theorem step_calls (h:ExAt Mt W w b kh ph ch xh x) (hM:∀k,Mt k→k<W.heap.size) (hh:Here x) (hr:Room x) {o:OpC} (ho:OpOk o):
  ∃f k,Instr.findNow (.int .i64) (.int .i64 o.code) tab 0=some (some (k,fnV f))∧(∀(args:Array Value) (w:World),(callFunc f args).run Tryz.prog w= .ok (.enter f args) w)∧Calls Tryz.prog f #[.pointer (some ⟨b,0,none⟩),o.v] w fun e w'=>e= .returned (.int .i64 (x.step o).2)∧Ran Mt W w b kh (x.step o).1 w':=by
 have h0:=ho.lo;have h9:=ho.hi;have hc:o.code=1∨o.code=2∨o.code=3∨o.code=4∨o.code=5∨o.code=6∨o.code=7∨o.code=8:=by omega
 rcases hc with hc|hc|hc|hc|hc|hc|hc|hc
 ·refine⟨141,0,by rw[hc];rfl,fun args w=>enters_ Tryz.func141 (by kernel_rfl) (by kernel_rfl) args w,?_⟩;have hs:x.step o=(x.create o.a ⟨0,[],x.ev.lp,1,x.ev.pr,0⟩,1):=by simp[Ex.step,hc]
  rw[hs];exact hold_calls h hM hr o
 ·refine⟨142,1,by rw[hc];rfl,fun args w=>enters_ Tryz.func142 (by kernel_rfl) (by kernel_rfl) args w,?_⟩;have hs:x.step o=(x.create o.c ⟨0,[],o.a,3,0,o.b⟩,0):=by simp[Ex.step,hc]
  rw[hs];exact send_calls h hM hr o
 ·refine⟨143,2,by rw[hc];rfl,fun args w=>enters_ Tryz.func143 (by kernel_rfl) (by kernel_rfl) args w,?_⟩;have hs:x.step o=(x.timer o.a o.b,0):=by simp[Ex.step,hc]
  rw[hs];exact exTimer_calls h hM hh hr o
 ·refine⟨144,3,by rw[hc];rfl,fun args w=>enters_ Tryz.func144 (by kernel_rfl) (by kernel_rfl) args w,?_⟩;have hs:x.step o=(x.stop,0):=by simp[Ex.step,hc]
  rw[hs];exact exStop_calls h hM hh hr.ca o
 ·refine⟨145,4,by rw[hc];rfl,fun args w=>enters_ Tryz.func145 (by kernel_rfl) (by kernel_rfl) args w,?_⟩;have hs:x.step o=(x.spawn o.a o.b,0):=by simp[Ex.step,hc]
  rw[hs];exact exSpawn_calls h hM hr o
 ·refine⟨146,5,by rw[hc];rfl,fun args w=>enters_ Tryz.func146 (by kernel_rfl) (by kernel_rfl) args w,?_⟩;have hs:x.step o=(x.add o.a o.b,0):=by simp[Ex.step,hc]
  rw[hs];exact exAdd_calls h hM o (ho.reg (.inl hc))
 ·refine⟨147,6,by rw[hc];rfl,fun args w=>enters_ Tryz.func147 (by kernel_rfl) (by kernel_rfl) args w,?_⟩;have hs:x.step o=(x.less o.a o.b o.c,0):=by simp[Ex.step,hc]
  rw[hs];exact exLess_calls h hM hh o (ho.reg (.inr hc))
 ·refine⟨148,7,by rw[hc];rfl,fun args w=>enters_ Tryz.func148 (by kernel_rfl) (by kernel_rfl) args w,?_⟩;have hs:x.step o=(x,2):=by simp[Ex.step,hc]
  rw[hs];exact(end_calls w b o).mono fun e w' hq=>⟨hq.1,⟨⟨_,_,_,h.more hM hq.2⟩,Still.of_below hq.2⟩⟩
end
theorem op_cells {w:World} {A:Option Addr} {n:Nat} {l:List OpC} (h:Kd.C kOp w A n l) (k:Nat) (hk:k<n):∃ad x,A=some ad∧(∃h2:k<l.length,l[k]=x)∧
  w.cell? (ad.add (k*4))=some (.int .i64 x.code)∧w.cell? ⟨(ad.add (k*4)).block,(ad.add (k*4)).off+1,none⟩=some (.int .i64 x.a)∧w.cell? ⟨(ad.add (k*4)).block,(ad.add (k*4)).off+2,none⟩=some (.int .i64 x.b)∧
   w.cell? ⟨(ad.add (k*4)).block,(ad.add (k*4)).off+3,none⟩=some (.int .i64 x.c):=by
 obtain⟨ad,x,e,h2,h3,q⟩:=flat_cells h k hk;exact⟨ad,x,e,h2,h3 _ rfl,q 1 _ (by decide) rfl,q 2 _ (by decide) rfl,q 3 _ (by decide) rfl⟩
end
end Go.Proofs.YtfnimdhghglanaaGreat.Hand
end
section
namespace Go.Proofs.YtfnimdhghglanaaGreat.Hand
open Go.RowKit Go.Shelf Go.Proofs.YtfnimdhghglanaaGreatW PrintWords PrintLast PrintMore
attribute [local go_sem] max2_int min2_int max_two min_two max_three min_three max_four min_four
section
def Ex.kill (x:Ex):Ex:=x.setSelf {x.self with al:=false}
def Ex.next (x:Ex):Ex:=x.setSelf {x.self with pc:=x.self.pc+1}
def Ex.act (l:List OpC):Nat→Ex→Ex
 |0,x=>x.kill
 |n+1,x=>match l[x.self.pc.toNat]?with
  |none=>x.kill
  |some o=>if (x.next.step o).2=1 then(x.next.step o).1 else if (x.next.step o).2=2 then(x.next.step o).1.kill else Ex.act l n (x.next.step o).1
theorem act_some {l:List OpC} {m pc:Nat} {y z:Ex} {o:OpC} {sg:Int} (hpc:y.self.pc=(pc:Int)) (hx:l[pc]?=some o) (hst:y.next.step o=(z,sg)):Ex.act l (m+1) y=if sg=1 then z else if sg=2 then z.kill else Ex.act l m z:=by
 simp[Ex.act,hpc,hx,hst]
theorem act_none {l:List OpC} {m pc:Nat} {y:Ex} (hpc:y.self.pc=(pc:Int)) (hx:l[pc]?=none):Ex.act l (m+1) y=y.kill:=by
 simp[Ex.act,hpc,hx]
section
variable {Mt:Nat→Prop} {W w:World} {b:Nat} {kh ph ch xh:SH} {x:Ex}
theorem ExAt.spot (h:ExAt Mt W w b kh ph ch xh x) (hh:Here x):∃g i:Nat,ph.A=some ⟨g,0,none⟩∧x.ev.pr.toNat=i∧w.cell? ⟨b,2,none⟩=some (.slice (some ⟨g,0,none⟩) ph.n ph.c)∧w.cell? ⟨b,8,none⟩=some (.int .i64 (i:Int))∧i<ph.n∧
  w.cell? ⟨g,i*4,none⟩=some (.int .i64 x.self.pg)∧w.cell? ⟨g,i*4+1,none⟩=some (.int .i64 x.self.pc)∧w.cell? ⟨g,i*4+2,none⟩=some (.bool x.self.al)∧(∀j,w.frozen? ⟨g,j,none⟩=false)∧(∃cells,w.heap[g]?=some (.cells cells 114 (0,0)))∧g≠b:=by
 have hself:x.self=x.lp.ps[x.ev.pr.toNat]'hh.hi:=by simp[Ex.self,List.getD_eq_getElem?_getD,List.getElem?_eq_getElem hh.hi]
 obtain⟨g,s,hA,hB,⟨gc,hgc⟩,hpc,z0,z1,z2,z3,zf⟩:=h.p.ps.get x.ev.pr.toNat hh.hi;rw[←hself]at hpc;have e2:w.cell? ⟨b,2,none⟩=some (.slice ph.A ph.n ph.c):=h.cells 2 _ rfl;have hpr:x.ev.pr=((x.ev.pr.toNat:Nat):Int):=by have:=hh.lo;omega
 have e8:w.cell? ⟨b,8,none⟩=some (.int .i64 x.ev.pr):=h.cells 8 _ rfl;rw[hpr]at e8;rw[hA]at e2;rw[hpc.pg]at z0;rw[hpc.pc]at z1;rw[hpc.al]at z2;refine⟨g,_,hA,rfl,e2,e8,by rw[h.p.ps.len];exact hh.hi,z0,z1,z2,zf,⟨gc,hgc⟩,fun e=> ?_⟩;have:=h.blk;rw[←e,hgc]at this;cases this
theorem ExAt.kill (h:ExAt Mt W w b kh ph ch xh x) (hM:∀k,Mt k→k<W.heap.size) (hh:Here x) {g i:Nat} (hA:ph.A=some ⟨g,0,none⟩) (hi:x.ev.pr.toNat=i) (hg:∃cells,w.heap[g]?=some (.cells cells 114 (0,0))):
  Ran Mt W w b kh x.kill (w.setCell ⟨g,i*4+2,none⟩ (.bool false)):=by
 have h9:=h.setSelf hM hh hA hg 2 (.bool false) {x.self with al:=false} (fun s hs hk=>⟨{s with al:=false},rfl,⟨hs.pg,hs.pc,rfl,hs.tm.lm hM hk⟩⟩) (by decide);rw[hi]at h9;exact⟨⟨_,_,_,h9.1⟩,h9.2⟩
theorem ExAt.next (h:ExAt Mt W w b kh ph ch xh x) (hM:∀k,Mt k→k<W.heap.size) (hh:Here x) {g i:Nat} (hA:ph.A=some ⟨g,0,none⟩) (hi:x.ev.pr.toNat=i) (hg:∃cells,w.heap[g]?=some (.cells cells 114 (0,0))):
  ExAt Mt W (w.setCell ⟨g,i*4+1,none⟩ (.int .i64 (x.self.pc+1))) b kh ph ch xh x.next∧Still b w (w.setCell ⟨g,i*4+1,none⟩ (.int .i64 (x.self.pc+1))):=by
 have h9:=h.setSelf hM hh hA hg 1 (.int .i64 (x.self.pc+1)) {x.self with pc:=x.self.pc+1} (fun s hs hk=>⟨{s with pc:=x.self.pc+1},rfl,⟨hs.pg,rfl,hs.al,hs.tm.lm hM hk⟩⟩) (by decide);rw[hi]at h9;exact h9
theorem Ran.of {w1 w':World} {x':Ex} (hs:Still b w w1) (r:Ran Mt W w1 b kh x' w'):Ran Mt W w b kh x' w':=⟨r.ex,hs.trans r.still⟩
theorem Few.next {k:Nat} (h:Few k x):Few k x.next:=h.setSelf _ (by have:=stop_self_pc h;simp only;omega)
theorem activate_calls (h:ExAt Mt W w b kh ph ch xh x) (hM:∀k,Mt k→k<W.heap.size) (hf:Few 0 x) {A:Option Addr} {n c:Nat} {l:List OpC} (hP:Rd kOp Mt W ⟨A,n,c⟩ l) (hok:∀o∈l,OpOk o) (hl:n≤1000000):
  Calls Tryz.prog 109 #[.pointer (some ⟨b,0,none⟩),.slice A n c] w fun e w'=>e= .returned (.tuple #[])∧Ran Mt W w b kh (x.act l 16) w':=by
 have H:=am h;have HM:=am hM;have HF0:=am hf;have HP:=am hP;have HOK:=am hok;have HTAB:=am (table_calls w);obtain⟨q,hq⟩:∃q,w.heap.size=q:=⟨_,rfl⟩;have HQW:=am hq;rw[hq]at HTAB;clear h hM hf hP hok hq;go_enter Tryz.func109,Tryz.ntmps109;go_upto_region 1 with (first|(go_at_call 127;(with_reducible refine HTAB.out.mono ?_);rintro e w1 ⟨rfl,ht,hb⟩;have HT:=am ht;have HB:=am (HQW.out.symm▸hb);clear ht hb))
 go_wp2_with (fail)
 go_loopw [7] (fun j wr=>∃k:Nat,k≤16∧j= .int .i64 k∧∃(y:Ex) (ph' ch' xh':SH),Aside0 (Ex.act l (16-k) y=x.act l 16)∧Aside0 (Few k y)∧Aside0 (ExAt Mt W wr b kh ph' ch' xh' y)∧Aside0 (Still b w wr)∧Aside0 (wr.heap[q]?=some (tabN 8))) (fun j _=>16-(intOf j).toNat)
 case atStart=>exact⟨0,Nat.zero_le _,rfl,x,ph,ch,xh,⟨rfl⟩,HF0,⟨H.out.more HM.out HB.out⟩,⟨Still.of_below HB.out⟩,HT⟩
 case round=>
  obtain⟨k,hk,rfl,y,ph',ch',xh',HY,HF,HE,HS,HQ⟩:=hrel;obtain⟨g,i,hA,hi,c2,c8,hin,z0,z1,z2,zf,hgt,hgb⟩:=HE.out.spot HF.out.here;obtain⟨pc,hpc⟩:∃pc:Nat,y.self.pc=(pc:Int):=⟨y.self.pc.toNat,by have:=stop_self_pc HF.out;omega⟩;rw[hpc]at z1;have HA:=am hA;have HI:=am hi;have HGT:=am hgt;have HPC:=am hpc;have hgl:g<wr.heap.size:=by
   obtain⟨gc,hgc⟩:=hgt;exact blk_lt hgc
  have hbl:b<wr.heap.size:=blk_lt HE.out.blk;have HSELF:=am (fun(w0:World) (h2:w0.cell? ⟨b,2,none⟩=some (.slice (some ⟨g,0,none⟩) ph'.n ph'.c)) (h8:w0.cell? ⟨b,8,none⟩=some (.int .i64 (i:Int)))=>self_calls (w:=w0) (b:=b) (g:=g) i h2 h8 hin);have HLT:=am (show∀w',Below wr.heap.size wr w'→w'.cell? ⟨b,2,none⟩=some (.slice (some ⟨g,0,none⟩) ph'.n ph'.c)∧w'.cell? ⟨b,8,none⟩=some (.int .i64 (i:Int))∧w'.cell? ⟨g,i*4+1,none⟩=some (.int .i64 (pc:Int))∧(∀j,w'.frozen? ⟨g,j,none⟩=false)∧∃u,w'.cell? ⟨g,i*4+2,none⟩=some u from fun w' hb=>
   ⟨(hb.cell (p:=⟨b,2,none⟩) hbl).trans c2,(hb.cell (p:=⟨b,8,none⟩) hbl).trans c8,(hb.cell (p:=⟨g,i*4+1,none⟩) hgl).trans z1,fun j=>(hb.frozen (p:=⟨g,j,none⟩) hgl).trans (zf j),_,(hb.cell (p:=⟨g,i*4+2,none⟩) hgl).trans z2⟩)
  clear hA hi hpc hgt z0 z1 z2 zf;by_cases g0:k<16
  ·have d1:decide ((k:Int)<16)=true:=dt (by omega);have d1':decide (k<16)=true:=decide_eq_true g0;by_cases hpn:pc<n
   ·have d2:decide ((n:Int)≤(pc:Int))=false:=df (by omega);have d2':decide (n≤pc)=false:=df (by omega);go_upto_region 6 with (first|(go_at_call 108;first
     |((with_reducible refine(HSELF.out wr c2 c8).mono ?_);rintro e wx ⟨rfl,hb⟩;obtain⟨x2,x8,x1,xf,xu,xz⟩:=HLT.out wx hb;have HBX:=am hb;clear hb)
     |((with_reducible refine(HSELF.out wx x2 x8).mono ?_);rintro e wy ⟨rfl,hb⟩;have hb1:=HBX.out.trans (hb.mono HBX.out.size);obtain⟨y2,y8,y1,yf,yu,yz⟩:=HLT.out wy hb1;have HBY:=am hb1;clear hb hb1)))
    have hgy:∃cells,wy.heap[g]?=some (.cells cells 114 (0,0)):=by
     obtain⟨gc,hgc⟩:=HGT.out;exact⟨gc,(HBY.out.block g hgl).trans hgc⟩
    have h9:=(HE.out.more HM.out HBY.out).next HM.out HF.out.here HA.out HI.out hgy
    rw[HPC.out]at h9;obtain⟨w5,hw5⟩:∃w5,wy.setCell ⟨g,i*4+1,none⟩ (.int .i64 ((pc:Int)+1))=w5:=⟨_,rfl⟩;rw[hw5]at h9 ⊢;obtain⟨hE9,hS9⟩:=h9;have hqy:wy.heap[q]?=some (.map tab.toArray 8):=(HBY.out.block q (blk_lt HQ.out)).trans HQ.out;have hq9:w5.heap[q]?=some (tabN 8):=(hS9.1.2 q _ _ hqy).trans hqy;have hF9:=HF.out.next;obtain⟨ad,o,e0,⟨h2,hx⟩,p0,p1,p2,p3⟩:=op_cells ((HP.out.below hE9.p.below).here) pc hpn;simp only at e0;subst e0;have ho:OpOk o:=HOK.out _ (hx▸List.getElem_mem h2)
    obtain⟨f,kf,hfn,heg,hcall⟩:=step_calls (x:=y.next) (hE9.more HM.out (below_drew (Below.refl _ _))) HM.out hF9.here (hF9.room (by omega)) ho;have hl1:=tab_look w5 q hq9 o.code (fnV f) kf hfn;have hl2:=tab_look w5.drew q hq9 o.code (fnV f) kf hfn;obtain⟨z,sg,hst⟩:∃z sg,y.next.step o=(z,sg):=⟨_,_,rfl⟩;have HF6:=hF9.step ho;have hsg:=Ex.step_sig y.next o;rw[hst]at hcall HF6 hsg;obtain⟨m,hm⟩:∃m,16-k=m+1:=⟨15-k,by omega⟩;have HACT:=HY.out;rw[hm,act_some HPC.out (by rw[List.getElem?_eq_getElem h2,hx]) hst]at HACT
    replace HACT:=am HACT
    replace HF6:=am HF6
    have HS9:=am ((HS.out.trans (Still.of_below HBY.out)).trans (hS9.trans (Still.of_below (below_drew (Below.refl w5.heap.size w5)))));have HQ9:=am (show w5.drew.heap[q]?=some (.map tab.toArray 8)from hq9);have HOPC:=am (show∀w',Below W.heap.size W w'→w'.cell? (ad.add (pc*4))=some (.int .i64 o.code)∧w'.cell? ⟨(ad.add (pc*4)).block,(ad.add (pc*4)).off+1,none⟩=some (.int .i64 o.a)∧w'.cell? ⟨(ad.add (pc*4)).block,(ad.add (pc*4)).off+2,none⟩=some (.int .i64 o.b)∧w'.cell? ⟨(ad.add (pc*4)).block,(ad.add (pc*4)).off+3,none⟩=some (.int .i64 o.c)from fun w' hb=>by
     obtain⟨ad',o',e0',⟨h2',hx'⟩,r⟩:=op_cells ((HP.out.below hb).here) pc hpn;simp only[Option.some.injEq]at e0';subst e0';rw[hx]at hx';subst hx';exact r)
    obtain⟨oc,oa,ob,oe⟩:=o;simp only at HOPC;simp only[OpC.v,fnV]at hcall hl1 hl2 p0 p1 p2 p3 hsg;have HCALL:=am hcall;have m1:(pc:Int)<(n:Nat):=by omega
    have m0:(0:Int)≤(pc:Int):=by omega
    clear hE9 hS9 hqy hq9 hF9 hx ho hfn hcall hst hw5 hgy x1 x2 x8 xf xz y1 y2 y8 yf yz c2 c8
    go_region_held3 (fun w'=>w'.cell? (ad.add (pc*4))=some (.int .i64 oc)∧w'.cell? ⟨(ad.add (pc*4)).block,(ad.add (pc*4)).off+1,none⟩=some (.int .i64 oa)∧w'.cell? ⟨(ad.add (pc*4)).block,(ad.add (pc*4)).off+2,none⟩=some (.int .i64 ob)∧w'.cell? ⟨(ad.add (pc*4)).block,(ad.add (pc*4)).off+3,none⟩=some (.int .i64 oe)) (exact⟨by assumption,by assumption,by assumption,by assumption⟩)
     (first|((with_reducible refine HCALL.out.mono ?_);rintro e w6 ⟨rfl,⟨⟨ph6,ch6,xh6,hE⟩,hS⟩⟩;obtain⟨r0,r1,r2,r3⟩:=HOPC.out w6 hE.p.below;have HE6:=am hE;have HS6:=am hS;clear hE hS))
    have HSW:=am (HS9.out.trans HS6.out);rcases hsg with hs|hs|hs
    ·subst hs
     go_wp2_with (fail)
     go_roundw
     case rel=>
      refine⟨k+1,by omega,by go_num,z,ph6,ch6,xh6,⟨?_⟩,HF6,HE6,HSW,⟨(HS6.out.1.2 q _ _ HQ9.out).trans HQ9.out⟩⟩;have h3:=HACT.out;rw[if_neg (by decide),if_neg (by decide)]at h3;rw[show 16-(k+1)=m by omega];exact h3
     case measure=>simp[intOf];omega
    ·subst hs
     go_wp2_with (fail)
     go_returns
     have h3:=HACT.out;rw[if_pos (by trivial)]at h3;rw[←h3];exact⟨rfl,⟨⟨ph6,ch6,xh6,HE6.out⟩,HSW.out⟩⟩
    ·subst hs;obtain⟨g',i',hA',hi',c2',c8',hin',z0',z1',z2',zf',hgt',hgb'⟩:=HE6.out.spot HF6.out.here;have hgl':g'<w6.heap.size:=by
      obtain⟨gc,hgc⟩:=hgt';exact blk_lt hgc
     have HA':=am hA';have HI':=am hi';have HSELF':=am (self_calls (w:=w6) (b:=b) (g:=g') i' c2' c8' hin');have HL':=am (show∀w',Below w6.heap.size w6 w'→w'.cell? ⟨g',i'*4+2,none⟩=some (.bool z.self.al)∧(∀j,w'.frozen? ⟨g',j,none⟩=false)∧∃cells,w'.heap[g']?=some (.cells cells 114 (0,0))from fun w' hb=>
      ⟨(hb.cell (p:=⟨g',i'*4+2,none⟩) hgl').trans z2',fun j=>(hb.frozen (p:=⟨g',j,none⟩) hgl').trans (zf' j),by
       obtain⟨gc,hgc⟩:=hgt';exact⟨gc,(hb.block g' hgl').trans hgc⟩⟩)
     clear hA' hi' c2' c8' hin' z0' z1' z2' zf' hgt'
     go_wp2_with (first|(go_at_call 108;(with_reducible refine HSELF'.out.mono ?_);rintro e w7 ⟨rfl,hb⟩;obtain⟨s2,sf,sg⟩:=HL'.out w7 hb;have HB7:=am hb;have HG7:=am sg;clear hb sg))
     go_returns
     have h3:=HACT.out;rw[if_neg (by decide),if_pos (by trivial)]at h3;rw[←h3];exact⟨rfl,Ran.of (HSW.out.trans (Still.of_below HB7.out)) ((HE6.out.more HM.out HB7.out).kill HM.out HF6.out.here HA'.out HI'.out HG7.out)⟩
   ·have d2:decide ((n:Int)≤(pc:Int))=true:=dt (by omega);have d2':decide (n≤pc)=true:=dt (by omega)
    go_wp2_with (first|(go_at_call 108;first
     |((with_reducible refine(HSELF.out wr c2 c8).mono ?_);rintro e wx ⟨rfl,hb⟩;obtain⟨x2,x8,x1,xf,xu,xz⟩:=HLT.out wx hb;have HBX:=am hb;clear hb)
     |((with_reducible refine(HSELF.out wx x2 x8).mono ?_);rintro e wy ⟨rfl,hb⟩;have hb1:=HBX.out.trans (hb.mono HBX.out.size);obtain⟨y2,y8,y1,yf,yu,yz⟩:=HLT.out wy hb1;have HBY:=am hb1;clear hb hb1)))
    go_returns
    obtain⟨m,hm⟩:∃m,16-k=m+1:=⟨15-k,by omega⟩;have h3:=HY.out;rw[hm,act_none HPC.out (List.getElem?_eq_none (by have:=HP.out.len;simp only at this;omega))]at h3;rw[←h3];refine⟨rfl,Ran.of (HS.out.trans (Still.of_below HBY.out)) ((HE.out.more HM.out HBY.out).kill HM.out HF.out.here HA.out HI.out ?_)⟩;obtain⟨gc,hgc⟩:=HGT.out;exact⟨gc,(HBY.out.block g hgl).trans hgc⟩
  ·obtain rfl:k=16:=by omega
   have d1:decide ((16:Int)<16)=false:=rfl
   go_wp2_with (first|(go_at_call 108;first
     |((with_reducible refine(HSELF.out wr c2 c8).mono ?_);rintro e wx ⟨rfl,hb⟩;obtain⟨x2,x8,x1,xf,xu,xz⟩:=HLT.out wx hb;have HBX:=am hb;clear hb)
     |((with_reducible refine(HSELF.out wx x2 x8).mono ?_);rintro e wy ⟨rfl,hb⟩;have hb1:=HBX.out.trans (hb.mono HBX.out.size);obtain⟨y2,y8,y1,yf,yu,yz⟩:=HLT.out wy hb1;have HBY:=am hb1;clear hb hb1)))
   go_returns
   have h3:=HY.out;rw[show 16-16=0 from rfl]at h3;rw[←h3];refine⟨rfl,Ran.of (HS.out.trans (Still.of_below HBX.out)) ((HE.out.more HM.out HBX.out).kill HM.out HF.out.here HA.out HI.out ?_)⟩;obtain⟨gc,hgc⟩:=HGT.out;exact⟨gc,(HBX.out.block g hgl).trans hgc⟩
end
end
structure SCf where
 lps:SH
 pgs:SH
 la:Int
 en:Int
 cp:Int
def SCf.v (c:SCf):Value:= .agg #[.slice c.lps.A c.lps.n c.lps.c,.slice c.pgs.A c.pgs.n c.pgs.c,.int .i64 c.la,.int .i64 c.en,.int .i64 c.cp]
def SLp.v (x:SLp):Value:= .agg #[.int .i64 x.r0,.int .i64 x.r1,.slice x.ps.A x.ps.n x.ps.c,.int .i64 x.sum]
theorem execMsg_calls (w:World) (c:SCf) (x:SLp) (e:SE) (hk:e.kd=3):
  Calls Tryz.prog 84 #[c.v,x.v,e.v] w fun r w'=>r= .returned (.tuple #[.agg #[.int .i64 x.r0,.int .i64 x.r1,.slice x.ps.A x.ps.n x.ps.c,.int .i64 (IntKind.i64.wrap (x.sum+e.ar))],.slice none 0 0,.slice none 0 0,.bool false])∧Below w.heap.size w w':=by
 obtain⟨⟨lA,ln,lc⟩,⟨pA,pn,pc⟩,la,en,cp⟩:=c;obtain⟨r0,r1,⟨sA,sn,sc⟩,sum⟩:=x;obtain⟨et,⟨eA,en',ec⟩,el,ek,ep,ea⟩:=e;simp only at hk;subst hk;simp only[SCf.v,SLp.v,SE.v];go_enter Tryz.func84,Tryz.ntmps84
 go_wp2_with (fail)
 go_returns
 exact⟨by rw[i64_w],by go_grown⟩
theorem execDeadA_calls (w:World) (c:SCf) (x:SLp) (e:SE) (hk:e.kd≠3) (h:e.kd≠1∧e.kd≠2):
  Calls Tryz.prog 84 #[c.v,x.v,e.v] w fun r w'=>r= .returned (.tuple #[x.v,.slice none 0 0,.slice none 0 0,.bool false])∧Below w.heap.size w w':=by
 obtain⟨⟨lA,ln,lc⟩,⟨pA,pn,pc⟩,la,en,cp⟩:=c;obtain⟨r0,r1,⟨sA,sn,sc⟩,sum⟩:=x;obtain⟨et,⟨eA,en',ec⟩,el,ek,ep,ea⟩:=e;simp only at hk h;obtain⟨h1,h2⟩:=h;have d1:(ek==3)=false:=by simp[hk]
 have d2:(ek != 1)=true:=by simp[h1]
 have d3:(ek != 2)=true:=by simp[h2]
 simp only[SCf.v,SLp.v,SE.v];go_enter Tryz.func84,Tryz.ntmps84
 go_wp2_with (fail)
 go_returns
 exact⟨rfl,by go_grown⟩
theorem execDeadB_calls (w:World) (c:SCf) (x:SLp) (e:SE) (hk:e.kd=1∨e.kd=2) (h:e.pr<0∨(x.ps.n:Int)≤e.pr):
  Calls Tryz.prog 84 #[c.v,x.v,e.v] w fun r w'=>r= .returned (.tuple #[x.v,.slice none 0 0,.slice none 0 0,.bool false])∧Below w.heap.size w w':=by
 obtain⟨⟨lA,ln,lc⟩,⟨pA,pn,pc⟩,la,en,cp⟩:=c;obtain⟨r0,r1,⟨sA,sn,sc⟩,sum⟩:=x;obtain⟨et,⟨eA,en',ec⟩,el,ek,ep,ea⟩:=e;simp only at hk h;simp only[SCf.v,SLp.v,SE.v];rcases hk with rfl|rfl<;>rcases h with h|h
 all_goals go_enter Tryz.func84,Tryz.ntmps84
 ·have d1:decide (ep<0)=true:=decide_eq_true h
  go_wp2_with (fail)
  go_returns
  exact⟨rfl,by go_grown⟩
 ·by_cases h0:ep<0
  ·exact absurd h0 (by omega)
  ·have d1:decide (ep<0)=false:=decide_eq_false h0;have d2:decide ((sn:Int)≤ep)=true:=decide_eq_true h
   go_wp2_with (fail)
   go_returns
   exact⟨rfl,by go_grown⟩
 ·have d1:decide (ep<0)=true:=decide_eq_true h
  go_wp2_with (fail)
  go_returns
  exact⟨rfl,by go_grown⟩
 ·by_cases h0:ep<0
  ·exact absurd h0 (by omega)
  ·have d1:decide (ep<0)=false:=decide_eq_false h0;have d2:decide ((sn:Int)≤ep)=true:=decide_eq_true h
   go_wp2_with (fail)
   go_returns
   exact⟨rfl,by go_grown⟩
theorem execDeadC_calls (w:World) (c:SCf) (x:SLp) (e:SE) (hk:e.kd=1∨e.kd=2) (i:Nat) (hi:e.pr=(i:Int)) (hn:i<x.ps.n) (ps:List SP) (hp:Kd.C kPr w x.ps.A x.ps.n ps) (hd:∀p,ps[i]?=some p→p.al=false):
  Calls Tryz.prog 84 #[c.v,x.v,e.v] w fun r w'=>r= .returned (.tuple #[x.v,.slice none 0 0,.slice none 0 0,.bool false])∧Below w.heap.size w w':=by
 obtain⟨ad,p,e0,⟨h2,hx⟩,q0,q⟩:=flat_cells hp i hn;have q2:=q 2 (.bool p.al) (by decide) rfl;rw[hd p (by rw[List.getElem?_eq_getElem h2,hx])]at q2;have hlt:(ad.add (i*4)).block<w.heap.size:=World.block_lt_of_cell? w ⟨(ad.add (i*4)).block,(ad.add (i*4)).off+2,none⟩ q2;have q3:∀o1 o2 o3 o4,((((w.alloc o1).alloc o2).alloc o3).alloc o4).cell? ⟨(ad.add (i*4)).block,(ad.add (i*4)).off+2,none⟩=some (.bool false):=fun o1 o2 o3 o4=>(Below.cell (p:=⟨(ad.add (i*4)).block,(ad.add (i*4)).off+2,none⟩) (below_alloc (below_alloc (below_alloc (below_alloc (Below.refl w.heap.size w) o1) o2) o3) o4) hlt).trans q2
 obtain⟨⟨lA,ln,lc⟩,⟨pA,pn,pc⟩,la,en,cp⟩:=c;obtain⟨r0,r1,⟨sA,sn,sc⟩,sum⟩:=x;obtain⟨et,⟨eA,en',ec⟩,el,ek,ep,ea⟩:=e;simp only at hk hi hn e0;subst e0 hi;clear q q0 hx h2 hd hp;simp only[SCf.v,SLp.v,SE.v];have d1:decide ((i:Int)<0)=false:=df (by omega);have d2:decide ((sn:Int)≤(i:Int))=false:=df (by omega);have d3:decide (sn≤i)=false:=df (by omega);have m1:(i:Int)<(sn:Nat):=by omega
 have m0:(0:Int)≤(i:Int):=by omega
 rcases hk with rfl|rfl
 all_goals go_enter Tryz.func84,Tryz.ntmps84
 all_goals go_wp2_with (fail)
 all_goals go_returns
 all_goals exact⟨rfl,by go_grown⟩
section
structure LpAt (Mt:Nat→Prop) (w:World) (s:SLp) (l:Lp):Prop where
 r0:s.r0=l.r0
 r1:s.r1=l.r1
 ps:PcsAt Mt w s.ps l.ps
 sum:s.sum=l.sum
def exStart (lp:Lp) (e:Ev):Ex:=⟨lp,e,[],0,[],false⟩
theorem ex_start {Mt:Nat→Prop} {W w:World} {b:Nat} {kh ph:SH} {lp:Lp} {e:Ev} (hb:Below W.heap.size W w) (hbb:W.heap.size≤b) (hblk:w.heap[b]?=some (.cells (exCells kh ph .nil .nil (exStart lp e)) TExec (0,0)))
  (hk:KeyAt Mt W kh e.k) {ss:List SP} (hps:Kd.R kPr 114 w W.heap.size (fun _=>True) (.slice ph.A ph.n ph.c) ss) (hpa:All2 (PcAt Mt W) ss lp.ps):ExAt Mt W w b kh ph .nil .nil (exStart lp e):=by
 have hkp:Keep Mt W w:=Keep.of_below hb;have hlm:∀k,k<W.heap.size→Lm Mt W.heap.size w k→Mt k:=fun k hk hl=>by
  rcases hl with hl|⟨h1,_⟩
  ·exact hl
  ·omega
 exact⟨⟨hb,Rd.fresh hk hkp hlm,⟨⟨ss,hps,hpa.imp fun _ _ h=>h.fresh hkp hlm⟩⟩,⟨⟨[],Kd.R_nil _ _ _ _ _,.nil⟩⟩,⟨⟨[],Kd.R_nil _ _ _ _ _,.nil⟩⟩⟩,hbb,hblk⟩
def Ex.wake (x:Ex):Ex:=if x.ev.kd=2 then(if x.self.tm=x.ev.k then(x.setSelf {x.self with pc:=x.ev.ar}).setSelf {(x.setSelf {x.self with pc:=x.ev.ar}).self with tm:=[]}else x.setSelf {x.self with pc:=x.ev.ar})else x
def PgsAt (Mt:Nat→Prop) (w:World) (h:SH) (progs:List (List OpC)):Prop:=∃ss,Rd kH Mt w h ss∧All2 (fun s l=>Rd kOp Mt w s l) ss progs
theorem box_more {w w3:World} {k:Nat} {o:Obj} (hb:Below w.heap.size w w3) (h:w.heap[k]?=some o):w3.heap[k]?=some o:=(hb.block k (blk_lt h)).trans h
theorem box4 {w w1:World} {o1 o2 o3 o4:Obj} (hb:Below ((((w.alloc o1).alloc o2).alloc o3).alloc o4).heap.size ((((w.alloc o1).alloc o2).alloc o3).alloc o4) w1):
  (w1.heap[w.heap.size]?=some o1∧w1.heap[w.heap.size+1]?=some o2∧w1.heap[w.heap.size+1+1]?=some o3∧w1.heap[w.heap.size+1+1+1]?=some o4)∧w.heap.size+4≤w1.heap.size:=by
 have hs:((((w.alloc o1).alloc o2).alloc o3).alloc o4).heap.size=w.heap.size+4:=by simp only[World.size_alloc]
 have h1:(w.alloc o1).heap.size=w.heap.size+1:=World.size_alloc _ _;have h2:((w.alloc o1).alloc o2).heap.size=w.heap.size+1+1:=by simp only[World.size_alloc]
 have h3:(((w.alloc o1).alloc o2).alloc o3).heap.size=w.heap.size+1+1+1:=by simp only[World.size_alloc]
 have g0:(w.alloc o1).heap[w.heap.size]?=some o1:=World.alloc_heap_new _ _;have g1:((w.alloc o1).alloc o2).heap[w.heap.size+1]?=some o2:=by rw[←h1];exact World.alloc_heap_new _ _
 have g2:(((w.alloc o1).alloc o2).alloc o3).heap[w.heap.size+1+1]?=some o3:=by rw[←h2];exact World.alloc_heap_new _ _
 have g3:((((w.alloc o1).alloc o2).alloc o3).alloc o4).heap[w.heap.size+1+1+1]?=some o4:=by rw[←h3];exact World.alloc_heap_new _ _
 have b1:=below_alloc (Below.refl (w.alloc o1).heap.size (w.alloc o1)) o2;have b2:=below_alloc (Below.refl ((w.alloc o1).alloc o2).heap.size ((w.alloc o1).alloc o2)) o3;have b3:=below_alloc (Below.refl (((w.alloc o1).alloc o2).alloc o3).heap.size (((w.alloc o1).alloc o2).alloc o3)) o4;refine⟨⟨?_,?_,?_,?_⟩,by have:=hb.size;omega⟩
 ·rw[hb.block _ (by omega),b3.block _ (by omega),b2.block _ (by omega),b1.block _ (by omega)];exact g0
 ·rw[hb.block _ (by omega),b3.block _ (by omega),b2.block _ (by omega)];exact g1
 ·rw[hb.block _ (by omega),b3.block _ (by omega)];exact g2
 ·rw[hb.block _ (by omega)];exact g3
theorem OwnAt.out {α β:Type} {d:Kd α} (hE:d.E=[]) {e:TypeId} {R:(Nat→Prop)→World→α→β→Prop} {Mt:Nat→Prop} {B:Nat} {w w':World} {h:SH} {xs:List β} (r:OwnAt d e R Mt B w h xs) (hM:∀k,Mt k→k<B)
  (hb:∀(k:Nat) (cells:Array Value),w.heap[k]?=some (Obj.cells cells e (0,0))→w'.heap[k]?=w.heap[k]?) (hR:∀s x,R (Lm Mt B w) w s x→R Mt w' s x):∃ss,Rd d Mt w' h ss∧All2 (R Mt w') ss xs:=by
 obtain⟨ss,h1,h2⟩:=r.ex;have h3:Kd.R d e w' B (fun _=>True) (.slice h.A h.n h.c) ss:=R_stay h1 hE fun k hk=>by
  obtain⟨cells,hc⟩:=Kd.R_typed h1 k hk;exact hb k cells hc
 exact⟨ss,Rd.of_R hE h3 (fun k hk hm=>by have:=Kd.R_base h1 k hk;have:=hM k hm;omega),h2.imp fun s x hs=>hR s x hs⟩
structure RunTo (Mt:Nat→Prop) (w w':World) (z:Ex) (r:Ending):Prop where
 ex:∃(s:SLp) (ch xh:SH),r= .returned (.tuple #[s.v,.slice ch.A ch.n ch.c,.slice xh.A xh.n xh.c,.bool z.ov])∧LpAt Mt w' s z.lp∧EvsAt Mt w' ch z.cr∧KeysAt Mt w' xh z.ca
 below:Below w.heap.size w w'
section
variable {Mt:Nat→Prop} {W w:World} {b:Nat} {kh ph ch xh:SH} {x:Ex}
theorem ExAt.pcTo (h:ExAt Mt W w b kh ph ch xh x) (hM:∀k,Mt k→k<W.heap.size) (hh:Here x) {g i:Nat} (hA:ph.A=some ⟨g,0,none⟩) (hi:x.ev.pr.toNat=i) (hg:∃cells,w.heap[g]?=some (.cells cells 114 (0,0))) (v:Int):
  ExAt Mt W (w.setCell ⟨g,i*4+1,none⟩ (.int .i64 v)) b kh ph ch xh (x.setSelf {x.self with pc:=v})∧Still b w (w.setCell ⟨g,i*4+1,none⟩ (.int .i64 v)):=by
 have h9:=h.setSelf hM hh hA hg 1 (.int .i64 v) {x.self with pc:=v} (fun s hs hk=>⟨{s with pc:=v},rfl,⟨hs.pg,rfl,hs.al,hs.tm.lm hM hk⟩⟩) (by decide);rw[hi]at h9;exact h9
theorem ExAt.tmNil (h:ExAt Mt W w b kh ph ch xh x) (hM:∀k,Mt k→k<W.heap.size) (hh:Here x) {g i:Nat} (hA:ph.A=some ⟨g,0,none⟩) (hi:x.ev.pr.toNat=i) (hg:∃cells,w.heap[g]?=some (.cells cells 114 (0,0))):
  ExAt Mt W (w.setCell ⟨g,i*4+3,none⟩ (.slice none 0 0)) b kh ph ch xh (x.setSelf {x.self with tm:=[]})∧Still b w (w.setCell ⟨g,i*4+3,none⟩ (.slice none 0 0)):=by
 have h9:=h.setSelf hM hh hA hg 3 (.slice none 0 0) {x.self with tm:=[]} (fun s hs hk=>⟨{s with tm:= .nil},rfl,⟨hs.pg,hs.pc,hs.al,Rd.nil _ _ _⟩⟩) (by decide);rw[hi]at h9;exact h9
theorem ExAt.spotT (h:ExAt Mt W w b kh ph ch xh x) (hh:Here x) {g i:Nat} (hA:ph.A=some ⟨g,0,none⟩) (hi:x.ev.pr.toNat=i):∃tm:SH,w.cell? ⟨g,i*4+3,none⟩=some (.slice tm.A tm.n tm.c)∧KeyAt (Lm Mt W.heap.size w) w tm x.self.tm:=by
 have hself:x.self=x.lp.ps[x.ev.pr.toNat]'hh.hi:=by simp[Ex.self,List.getD_eq_getElem?_getD,List.getElem?_eq_getElem hh.hi]
 obtain⟨g',s,hA',hB,hgc,hpc,z0,z1,z2,z3,zf⟩:=h.p.ps.get x.ev.pr.toNat hh.hi;rw[←hself]at hpc;rw[hA]at hA'
 injection hA' with hA'
 injection hA' with hA'
 subst hA';rw[hi]at z3;exact⟨s.tm,z3,hpc.tm⟩
theorem ExAt.ret (h:ExAt Mt W w b kh ph ch xh x) (hM:∀k,Mt k→k<W.heap.size) {q:Nat} (hq:W.heap.size≤q) {arr:Array Value} (hblk:w.heap[q]?=some (.cells arr 91 (0,0))) {w':World} (hg:w.grownBy w' (some q)) {s:SLp} (hs0:s.r0=x.lp.r0) (hs1:s.r1=x.lp.r1) (hs2:s.ps=ph) (hs3:s.sum=x.lp.sum):
  RunTo Mt W w' x (.returned (.tuple #[s.v,.slice ch.A ch.n ch.c,.slice xh.A xh.n xh.c,.bool x.ov])):=by
 have hk:Keep (Lm Mt W.heap.size w) w w':=Keep.grown_lm hg hq hblk (by decide);have hb:∀(k:Nat) (cells:Array Value) (t:TypeId),w.heap[k]?=some (Obj.cells cells t (0,0))→t≠91→w'.heap[k]?=w.heap[k]?:=fun k cells t hc ht=>hg.block k (blk_lt hc) fun e=>by
  cases e;rw[hblk]at hc;cases hc;exact ht rfl
 have hm:∀k,k<w.heap.size→Mt k→Lm Mt W.heap.size w k:=fun k _ h=> .inl h;have hw:Below W.heap.size W w':=h.p.below.trans ⟨hg.os,hg.tape,hg.output,hg.size,fun k hk=>hg.block k (Nat.lt_of_lt_of_le hk h.p.below.size) fun e=>by cases e;omega⟩;refine⟨⟨s,ch,xh,rfl,⟨hs0,hs1,?_,hs3⟩,?_,?_⟩,hw⟩
 ·rw[hs2];exact h.p.ps.out rfl hM (fun k cells hc=>hb k cells _ hc (by decide)) (fun s x hs=>hs.fresh hk hm)
 ·exact h.p.cr.out rfl hM (fun k cells hc=>hb k cells _ hc (by decide)) (fun s x hs=>hs.fresh hk hm)
 ·exact h.p.ca.out rfl hM (fun k cells hc=>hb k cells _ hc (by decide)) (fun s x hs=>Rd.fresh hs hk hm)
end
end
def runExP (pgs:List (List OpC)) (l:Lp) (e:Ev):Ex:=(exStart l e).wake.act (pgs.getD (exStart l e).wake.self.pg.toNat []) 16
theorem runExP_of {pgs:List (List OpC)} {l:Lp} {e:Ev} {y z:Ex} {j:Nat} {prog:List OpC} (h1:(exStart l e).wake=y) (h2:y.self.pg=(j:Int)) (h3:pgs[j]?=some prog) (h4:y.act prog 16=z):runExP pgs l e=z:=by
 unfold runExP;rw[h1,h2,Int.toNat_natCast,List.getD_eq_getElem?_getD,h3];exact h4
theorem blk_put_some {w:World} {g:Nat} {t:TypeId} {gc:Array Value} (h:w.heap[g]?=some (.cells gc t (0,0))) (j:Nat) (u:Value):∃cells,(w.setCell ⟨g,j,none⟩ u).heap[g]?=some (.cells cells t (0,0)):=⟨_,blk_put h j u rfl⟩
theorem wake_one {x:Ex} (h:x.ev.kd=1):x.wake=x:=by unfold Ex.wake;rw[if_neg (by omega)]
theorem setSelf_self {x:Ex} (h:Here x) (p:Pc):(x.setSelf p).self=p:=by
 have h1:=h.hi;simp[Ex.setSelf,Ex.self,List.getD_eq_getElem?_getD,h1]
theorem wake_two {x:Ex} {k:List Int} {v:Int} (hh:Here x) (h2:x.ev.kd=2) (hk:x.ev.k=k) (hv:x.ev.ar=v):x.wake=if (x.setSelf {x.self with pc:=v}).self.tm=k then(x.setSelf {x.self with pc:=v}).setSelf {(x.setSelf {x.self with pc:=v}).self with tm:=[]}else x.setSelf {x.self with pc:=v}:=by
 subst hk hv;unfold Ex.wake;rw[if_pos h2];rw[setSelf_self hh]
theorem Here.setSelf {x:Ex} (h:Here x) (p:Pc):Here (x.setSelf p):=⟨h.lo,by simpa [Ex.setSelf]using h.hi⟩
theorem execRun_calls {Mt:Nat→Prop} {w:World} (hM:∀k,Mt k→k<w.heap.size) (c:SCf) (x:SLp) (e:SE) {lp:Lp} {ev:Ev} {progs:List (List OpC)} (hx:LpAt Mt w x lp) (he:EvAt Mt w e ev) (hc:PgsAt Mt w c.pgs progs)
  (hkd:ev.kd=1∨ev.kd=2) (h0:0≤ev.pr) (h1:ev.pr.toNat<lp.ps.length) (hal:(exStart lp ev).self.al=true) (h8:lp.ps.length≤8) (hpc:∀p∈lp.ps,0≤p.pc) (hkl:ev.k.length≤900000) (har:ev.kd=2→0≤ev.ar) (htm:∀p∈lp.ps,p.tm.length≤1000000)
  (hok:∀l∈progs,l.length≤1000000∧∀o∈l,OpOk o) (hpg:∀p∈lp.ps,0≤p.pg∧p.pg<progs.length) (hpl:progs.length≤1000000):
  Calls Tryz.prog 84 #[c.v,x.v,e.v] w fun r w'=>RunTo Mt w w' (runExP progs lp ev) r:=by
 obtain⟨ss,hss,hsa⟩:=hx.ps;have hn:x.ps.n=lp.ps.length:=hx.ps.len;obtain⟨⟨lA,ln,lc⟩,⟨pA,pn,pc⟩,la,en,cp⟩:=c;obtain⟨r0,r1,⟨sA,sn,sc⟩,sum⟩:=x;obtain⟨et,⟨eA,eN,ec⟩,el,ek,ep,ea⟩:=e;obtain⟨l0,l1,ps,sm⟩:=lp;obtain⟨t,ky,lq,kd,pr,ar⟩:=ev;obtain⟨i,hi⟩:∃i:Nat,pr=(i:Int):=⟨pr.toNat,by simp only at h0;omega⟩;subst hi;obtain rfl:r0=l0:=hx.r0;obtain rfl:r1=l1:=hx.r1;obtain rfl:sum=sm:=hx.sum;obtain rfl:et=t:=he.t;obtain rfl:el=lq:=he.lp;obtain rfl:ek=kd:=he.kd;obtain rfl:ep=(i:Int):=he.pr;obtain rfl:ea=ar:=he.ar;have hk3:=hkd;simp only at hn hk3 h1;have hin:i<sn:=by omega
 obtain⟨ad,p,e0,⟨hp1,hp2⟩,q0,q⟩:=flat_cells hss.here i hin;simp only at e0;subst e0;have hpa:p.al=true:=by
  have h9:=hsa.get i hp1 (by simp only;omega);rw[hp2]at h9;rw[h9.al];have e9:(exStart ⟨r0,r1,ps,sum⟩ ⟨et,ky,el,ek,(i:Int),ea⟩).self=ps[i]'(by simp only[Int.toNat_natCast]at h1;exact h1):=by
   simp only[Int.toNat_natCast]at h1;simp[Ex.self,exStart,List.getD_eq_getElem?_getD,h1]
  rw[e9]at hal;exact hal
 have q2:=q 2 (.bool p.al) (by decide) rfl;rw[hpa]at q2;have hlt:(ad.add (i*4)).block<w.heap.size:=World.block_lt_of_cell? w ⟨(ad.add (i*4)).block,(ad.add (i*4)).off+2,none⟩ q2;have q3:∀o1 o2 o3 o4,((((w.alloc o1).alloc o2).alloc o3).alloc o4).cell? ⟨(ad.add (i*4)).block,(ad.add (i*4)).off+2,none⟩=some (.bool true):=fun o1 o2 o3 o4=>(Below.cell (p:=⟨(ad.add (i*4)).block,(ad.add (i*4)).off+2,none⟩) (below_alloc (below_alloc (below_alloc (below_alloc (Below.refl w.heap.size w) o1) o2) o3) o4) hlt).trans q2
 have hb4:∀o1 o2 o3 o4,Below w.heap.size w ((((w.alloc o1).alloc o2).alloc o3).alloc o4):=fun o1 o2 o3 o4=>below_alloc (below_alloc (below_alloc (below_alloc (Below.refl w.heap.size w) o1) o2) o3) o4;have HCL:=am (fun o1 o2 o3 o4=>cloneProc_calls (some ad) sc sn ss ((((w.alloc o1).alloc o2).alloc o3).alloc o4) ((hss.below (hb4 o1 o2 o3 o4)).here) hss.len.symm (by simp only at h8;omega));have HM:=am hM;have HX:=am hx;have HE:=am he;have HC:=am hc;have HSS:=am hss;have HSA:=am hsa;have HB4:=am hb4
 clear hM hx he hc hss hsa hb4 q q0 q2 hp1 hp2;have HN:=am hn;clear hn;have d1:decide ((i:Int)<0)=false:=df (by omega);have d2:decide ((sn:Int)≤(i:Int))=false:=df (by omega);have d3:decide (sn≤i)=false:=df (by omega);have m1:(i:Int)<(sn:Nat):=by omega
 have m0:(0:Int)≤(i:Int):=by omega
 have HHK:=am (And.intro hkd (And.intro h0 (And.intro h1 (And.intro hal (And.intro h8 (And.intro hpc (And.intro hkl (And.intro har htm))))))));have HOK:=am (And.intro hok (And.intro hpg hpl));clear hkd h0 h1 hal h8 hpc hkl har htm hok hpg hpl;simp only[SCf.v,SLp.v,SE.v];go_enter Tryz.func84,Tryz.ntmps84;rcases hk3 with rfl|rfl
 focus
  go_upto_region 10 with (first|(go_at_call 107;(with_reducible refine(HCL.out _ _ _ _).mono ?_);rintro e w1 ⟨v,rfl,hR,hb⟩;obtain⟨A2,n2,c2,hn2,rfl⟩:=R_slice3 hR;have HR:=am hR;have HB:=am hb;go_must (obtain⟨⟨f0,f1,f2,f3⟩,fs⟩:=box4 hb);go_must (have x2:w1.cell? ⟨w.heap.size+1,2,none⟩=some (.slice (some ad) sn sc):=by simp[World.cell?,f1]);go_must (have x2f:w1.frozen? ⟨w.heap.size+1,2,none⟩=false:=blk_frozen f1 2);have F0:=am f0;have F1:=am f1;have F2:=am f2;have F3:=am f3;have FS:=am fs;have HN2:=am hn2;clear hR hb hn2 f0 f1 f2 f3 fs))
  obtain⟨w2,hw2⟩:∃w2,w1.setCell ⟨w.heap.size+1,2,none⟩ (.slice A2 n2 c2)=w2:=⟨_,rfl⟩;rw[hw2];have hf2:∀k,k≠w.heap.size+1→w2.heap[k]?=w1.heap[k]?:=fun k hk=>by rw[←hw2];exact Below.heap_setCell w1 ⟨w.heap.size+1,2,none⟩ _ k hk
  have g1:w2.heap[w.heap.size+1]?=some (.cells #[.int .i64 r0,.int .i64 r1,.slice A2 n2 c2,.int .i64 sum] 91 (0,0)):=by rw[←hw2];exact blk_put F1.out 2 _ rfl
  have g2:=(hf2 _ (by omega)).trans F2.out;have g0:=(hf2 _ (by omega)).trans F0.out;have g3:=(hf2 _ (by omega)).trans F3.out;have hs2:w2.heap.size=w1.heap.size:=by rw[←hw2];simp[World.setCell]
  have a0:w2.cell? ⟨w.heap.size+1,0,none⟩=some (.int .i64 r0):=by simp[World.cell?,g1]
  have a1:w2.cell? ⟨w.heap.size+1,1,none⟩=some (.int .i64 r1):=by simp[World.cell?,g1]
  have a2:w2.cell? ⟨w.heap.size+1,2,none⟩=some (.slice A2 n2 c2):=by simp[World.cell?,g1]
  have a3:w2.cell? ⟨w.heap.size+1,3,none⟩=some (.int .i64 sum):=by simp[World.cell?,g1]
  have b0:w2.cell? ⟨w.heap.size+1+1,0,none⟩=some (.int .i64 et):=by simp[World.cell?,g2]
  have b1:w2.cell? ⟨w.heap.size+1+1,1,none⟩=some (.slice eA eN ec):=by simp[World.cell?,g2]
  have b2:w2.cell? ⟨w.heap.size+1+1,2,none⟩=some (.int .i64 el):=by simp[World.cell?,g2]
  have b3:w2.cell? ⟨w.heap.size+1+1,3,none⟩=some (.int .i64 1):=by simp[World.cell?,g2]
  have b4:w2.cell? ⟨w.heap.size+1+1,4,none⟩=some (.int .i64 (i:Int)):=by simp[World.cell?,g2]
  have b5:w2.cell? ⟨w.heap.size+1+1,5,none⟩=some (.int .i64 ea):=by simp[World.cell?,g2]
  have HW2:=am hw2;have G0:=am g0;have G2:=am g2;have G3:=am g3;have HS2:=am hs2;clear hw2 hf2 g0 g1 g2 g3 hs2 x2 x2f;go_upto_region 11 with (fail)
  obtain⟨w3,hw3⟩:∃w3,w2.alloc (.cells #[.int .i64 r0,.int .i64 r1,.slice A2 n2 c2,.int .i64 sum,.int .i64 et,.slice eA eN ec,.int .i64 el,.int .i64 1,.int .i64 (i:Int),.int .i64 ea,.slice none 0 0,.int .i64 0,.slice none 0 0,.bool false] TExec)=w3:=⟨_,rfl⟩;obtain⟨b,hbe⟩:∃b,w2.heap.size=b:=⟨_,rfl⟩;have hb23:Below w2.heap.size w2 w3:=by rw[←hw3];exact below_alloc (Below.refl _ _) _
  have hblk:w3.heap[b]?=some (.cells (exCells ⟨eA,eN,ec⟩ ⟨A2,n2,c2⟩ .nil .nil (exStart ⟨r0,r1,ps,sum⟩ ⟨et,ky,el,1,(i:Int),ea⟩)) TExec (0,0)):=by
   rw[←hw3,←hbe];exact World.alloc_heap_new _ _
  have hb01:Below w.heap.size w w1:=(HB4.out _ _ _ _).trans (HB.out.mono (by simp only[World.size_alloc];omega));have hb12:Below w.heap.size w1 w2:=by rw[←HW2.out];exact(Below.refl w.heap.size w1).setCell (p:=⟨w.heap.size+1,2,none⟩) (Nat.le_succ _) _
  have hsz:w.heap.size+4≤w2.heap.size:=by rw[HS2.out];exact FS.out
  have hb03:Below w.heap.size w w3:=(hb01.trans hb12).trans (hb23.mono (by omega));have hR3:Kd.R kPr 114 w3 w.heap.size (fun _=>True) (.slice A2 n2 c2) ss:=R_stay (Kd.R_lower HR.out (by simp only[World.size_alloc];omega)) rfl fun k hk=>by
   obtain⟨cells,hc⟩:=Kd.R_typed HR.out k hk;have hne:k≠w.heap.size+1:=fun e=>by
    rw[e,F1.out]at hc;cases hc
   have h1:w2.heap[k]?=w1.heap[k]?:=by rw[←HW2.out];exact Below.heap_setCell w1 ⟨w.heap.size+1,2,none⟩ _ k hne
   exact(hb23.block k (blk_lt (h1.trans hc))).trans h1
  have HX3:=am (ex_start (Mt:=Mt) (kh:=⟨eA,eN,ec⟩) (ph:=⟨A2,n2,c2⟩) hb03 (by omega) hblk HE.out.k hR3 HSA.out);have K0:=am (box_more hb23 G0.out);have K3:=am (box_more hb23 G3.out);have K2:=am (box_more hb23 G2.out);rw[hw3,hbe];clear hw3 hbe hb23 hblk hb01 hb12 hsz hb03 hR3;have hfew:Few 0 (exStart ⟨r0,r1,ps,sum⟩ ⟨et,ky,el,1,(i:Int),ea⟩):=by
   obtain⟨_,q0,q1,_,q8,qpc,qkl,_⟩:=HHK.out;exact⟨qkl,Nat.le_refl _,Nat.le_refl _,Nat.le_refl _,q8,⟨q0,q1⟩,qpc⟩
  obtain⟨y,hy⟩:∃y,exStart ⟨r0,r1,ps,sum⟩ ⟨et,ky,el,1,(i:Int),ea⟩=y:=⟨_,rfl⟩;have hyp:y.ev.pr.toNat=i:=by rw[←hy];rfl
  rw[hy]at HX3 hfew;obtain⟨g,i2,hA,hi2,s2,s8,hin2,z0,z1,z2,zf,hgt,hgb⟩:=HX3.out.spot hfew.here;obtain rfl:i2=i:=hi2.symm.trans hyp;have HSELF:=am (self_calls (w:=w3) (b:=b) (g:=g) i2 s2 s8 hin2);have HFEW:=am hfew;have HHY:=am hy;have HA0:=am hA;have HI0:=am hi2;have HSM:=am (show y.self∈ps by
   have:=Ex.self_mem hfew.here;rw[←hy]at this ⊢;exact this)
  have HL3:=am (show∀w',Below w3.heap.size w3 w'→w'.cell? ⟨w.heap.size+1+1,1,none⟩=some (.slice eA eN ec)∧w'.cell? ⟨w.heap.size+1+1,3,none⟩=some (.int .i64 1)∧w'.cell? ⟨w.heap.size+1+1,5,none⟩=some (.int .i64 ea)from fun w' hb=>by
   have:=box_more hb K2.out;refine⟨?_,?_,?_⟩<;>simp[World.cell?,this])
  clear hA hi2 s2 s8 hin2 z0 z1 z2 zf hgt hgb hfew hy hyp a0 a1 a2 a3 b0 b1 b2 b3 b4 b5;go_upto_region 16 with (first|(go_at_call 108;(with_reducible refine HSELF.out.mono ?_);rintro e wz ⟨rfl,hb⟩;obtain⟨t1,t3,t5⟩:=HL3.out wz hb;have HZ:=am hb;clear hb))
  have HEZ:=am (HX3.out.more HM.out HZ.out);have HFEWZ:=HFEW;have HYW:=am (show(exStart ⟨r0,r1,ps,sum⟩ ⟨et,ky,el,1,(i2:Int),ea⟩).wake=y by rw[wake_one rfl];exact HHY.out);have HPGY:=am (HOK.out.2.1 _ HSM.out);have K0z:=am (box_more HZ.out K0.out);have K3z:=am (box_more HZ.out K3.out);have HI:=am (show y.ev.pr.toNat=i2 from HI0.out);clear t1 t3 t5
 rotate_left
 focus
  go_upto_region 10 with (first|(go_at_call 107;(with_reducible refine(HCL.out _ _ _ _).mono ?_);rintro e w1 ⟨v,rfl,hR,hb⟩;obtain⟨A2,n2,c2,hn2,rfl⟩:=R_slice3 hR;have HR:=am hR;have HB:=am hb;go_must (obtain⟨⟨f0,f1,f2,f3⟩,fs⟩:=box4 hb);go_must (have x2:w1.cell? ⟨w.heap.size+1,2,none⟩=some (.slice (some ad) sn sc):=by simp[World.cell?,f1]);go_must (have x2f:w1.frozen? ⟨w.heap.size+1,2,none⟩=false:=blk_frozen f1 2);have F0:=am f0;have F1:=am f1;have F2:=am f2;have F3:=am f3;have FS:=am fs;have HN2:=am hn2;clear hR hb hn2 f0 f1 f2 f3 fs))
  obtain⟨w2,hw2⟩:∃w2,w1.setCell ⟨w.heap.size+1,2,none⟩ (.slice A2 n2 c2)=w2:=⟨_,rfl⟩;rw[hw2];have hf2:∀k,k≠w.heap.size+1→w2.heap[k]?=w1.heap[k]?:=fun k hk=>by rw[←hw2];exact Below.heap_setCell w1 ⟨w.heap.size+1,2,none⟩ _ k hk
  have g1:w2.heap[w.heap.size+1]?=some (.cells #[.int .i64 r0,.int .i64 r1,.slice A2 n2 c2,.int .i64 sum] 91 (0,0)):=by rw[←hw2];exact blk_put F1.out 2 _ rfl
  have g2:=(hf2 _ (by omega)).trans F2.out;have g0:=(hf2 _ (by omega)).trans F0.out;have g3:=(hf2 _ (by omega)).trans F3.out;have hs2:w2.heap.size=w1.heap.size:=by rw[←hw2];simp[World.setCell]
  have a0:w2.cell? ⟨w.heap.size+1,0,none⟩=some (.int .i64 r0):=by simp[World.cell?,g1]
  have a1:w2.cell? ⟨w.heap.size+1,1,none⟩=some (.int .i64 r1):=by simp[World.cell?,g1]
  have a2:w2.cell? ⟨w.heap.size+1,2,none⟩=some (.slice A2 n2 c2):=by simp[World.cell?,g1]
  have a3:w2.cell? ⟨w.heap.size+1,3,none⟩=some (.int .i64 sum):=by simp[World.cell?,g1]
  have b0:w2.cell? ⟨w.heap.size+1+1,0,none⟩=some (.int .i64 et):=by simp[World.cell?,g2]
  have b1:w2.cell? ⟨w.heap.size+1+1,1,none⟩=some (.slice eA eN ec):=by simp[World.cell?,g2]
  have b2:w2.cell? ⟨w.heap.size+1+1,2,none⟩=some (.int .i64 el):=by simp[World.cell?,g2]
  have b3:w2.cell? ⟨w.heap.size+1+1,3,none⟩=some (.int .i64 2):=by simp[World.cell?,g2]
  have b4:w2.cell? ⟨w.heap.size+1+1,4,none⟩=some (.int .i64 (i:Int)):=by simp[World.cell?,g2]
  have b5:w2.cell? ⟨w.heap.size+1+1,5,none⟩=some (.int .i64 ea):=by simp[World.cell?,g2]
  have HW2:=am hw2;have G0:=am g0;have G2:=am g2;have G3:=am g3;have HS2:=am hs2;clear hw2 hf2 g0 g1 g2 g3 hs2 x2 x2f;go_upto_region 11 with (fail)
  obtain⟨w3,hw3⟩:∃w3,w2.alloc (.cells #[.int .i64 r0,.int .i64 r1,.slice A2 n2 c2,.int .i64 sum,.int .i64 et,.slice eA eN ec,.int .i64 el,.int .i64 2,.int .i64 (i:Int),.int .i64 ea,.slice none 0 0,.int .i64 0,.slice none 0 0,.bool false] TExec)=w3:=⟨_,rfl⟩;obtain⟨b,hbe⟩:∃b,w2.heap.size=b:=⟨_,rfl⟩;have hb23:Below w2.heap.size w2 w3:=by rw[←hw3];exact below_alloc (Below.refl _ _) _
  have hblk:w3.heap[b]?=some (.cells (exCells ⟨eA,eN,ec⟩ ⟨A2,n2,c2⟩ .nil .nil (exStart ⟨r0,r1,ps,sum⟩ ⟨et,ky,el,2,(i:Int),ea⟩)) TExec (0,0)):=by
   rw[←hw3,←hbe];exact World.alloc_heap_new _ _
  have hb01:Below w.heap.size w w1:=(HB4.out _ _ _ _).trans (HB.out.mono (by simp only[World.size_alloc];omega));have hb12:Below w.heap.size w1 w2:=by rw[←HW2.out];exact(Below.refl w.heap.size w1).setCell (p:=⟨w.heap.size+1,2,none⟩) (Nat.le_succ _) _
  have hsz:w.heap.size+4≤w2.heap.size:=by rw[HS2.out];exact FS.out
  have hb03:Below w.heap.size w w3:=(hb01.trans hb12).trans (hb23.mono (by omega));have hR3:Kd.R kPr 114 w3 w.heap.size (fun _=>True) (.slice A2 n2 c2) ss:=R_stay (Kd.R_lower HR.out (by simp only[World.size_alloc];omega)) rfl fun k hk=>by
   obtain⟨cells,hc⟩:=Kd.R_typed HR.out k hk;have hne:k≠w.heap.size+1:=fun e=>by
    rw[e,F1.out]at hc;cases hc
   have h1:w2.heap[k]?=w1.heap[k]?:=by rw[←HW2.out];exact Below.heap_setCell w1 ⟨w.heap.size+1,2,none⟩ _ k hne
   exact(hb23.block k (blk_lt (h1.trans hc))).trans h1
  have HX3:=am (ex_start (Mt:=Mt) (kh:=⟨eA,eN,ec⟩) (ph:=⟨A2,n2,c2⟩) hb03 (by omega) hblk HE.out.k hR3 HSA.out);have K0:=am (box_more hb23 G0.out);have K3:=am (box_more hb23 G3.out);have K2:=am (box_more hb23 G2.out);rw[hw3,hbe];clear hw3 hbe hb23 hblk hb01 hb12 hsz hb03 hR3;have hfew:Few 0 (exStart ⟨r0,r1,ps,sum⟩ ⟨et,ky,el,2,(i:Int),ea⟩):=by
   obtain⟨_,q0,q1,_,q8,qpc,qkl,_⟩:=HHK.out;exact⟨qkl,Nat.le_refl _,Nat.le_refl _,Nat.le_refl _,q8,⟨q0,q1⟩,qpc⟩
  obtain⟨ya,hy⟩:∃y,exStart ⟨r0,r1,ps,sum⟩ ⟨et,ky,el,2,(i:Int),ea⟩=y:=⟨_,rfl⟩;have hyp:ya.ev.pr.toNat=i:=by rw[←hy];rfl
  rw[hy]at HX3 hfew;obtain⟨g,i2,hA,hi2,s2,s8,hin2,z0,z1,z2,zf,hgt,hgb⟩:=HX3.out.spot hfew.here;obtain rfl:i2=i:=hi2.symm.trans hyp;have HSELF:=am (self_calls (w:=w3) (b:=b) (g:=g) i2 s2 s8 hin2);have HFEW:=am hfew;have HHY:=am hy;have HA0:=am hA;have HI0:=am hi2;have HSM:=am (show ya.self∈ps by
   have:=Ex.self_mem hfew.here;rw[←hy]at this ⊢;exact this)
  have HL3:=am (show∀w',Below w3.heap.size w3 w'→w'.cell? ⟨w.heap.size+1+1,1,none⟩=some (.slice eA eN ec)∧w'.cell? ⟨w.heap.size+1+1,3,none⟩=some (.int .i64 2)∧w'.cell? ⟨w.heap.size+1+1,5,none⟩=some (.int .i64 ea)from fun w' hb=>by
   have:=box_more hb K2.out;refine⟨?_,?_,?_⟩<;>simp[World.cell?,this])
  clear hA hi2 s2 s8 hin2 z0 z1 z2 zf hgt hgb hfew hy hyp a0 a1 a2 a3 b0 b1 b2 b3 b4 b5;have hfr:∀w',Below w3.heap.size w3 w'→(∀j,w'.frozen? ⟨g,j,none⟩=false)∧∃u,w'.cell? ⟨g,i2*4+1,none⟩=some u:=fun w' hb=>by
   obtain⟨g0,i0,hA0,hi0,q2,q8,qin,y0,y1,y2,yf,qgt,qgb⟩:=(HX3.out.more HM.out hb).spot HFEW.out.here;obtain rfl:i0=i2:=hi0.symm.trans HI0.out;have hg0:=hA0.symm.trans HA0.out
   injection hg0 with hg0
   injection hg0 with hg0
   subst hg0;exact⟨yf,_,y1⟩
  have HFR:=am hfr;clear hfr;go_upto_region 14 with (first|(go_at_call 108;(with_reducible refine HSELF.out.mono ?_);rintro e wa ⟨rfl,hb⟩;obtain⟨t1,t3,t5⟩:=HL3.out wa hb;obtain⟨fz,uu,uz⟩:=HFR.out wa hb;have HZ:=am hb;clear hb))
  clear t1 t3 t5 fz uz;have hEA:=HX3.out.more HM.out HZ.out;obtain⟨g0,i0,hA0,hi0,q2,q8,qin,y0,y1,y2,yf,qgt,qgb⟩:=hEA.spot HFEW.out.here;obtain rfl:i0=i2:=hi0.symm.trans HI0.out;have hg0:g0=g:=by
   have hg0:=hA0.symm.trans HA0.out
   injection hg0 with hg0
   injection hg0
  subst hg0;have h13:=hEA.pcTo HM.out HFEW.out.here hA0 hi0 qgt ea;have hg2:g0≠w.heap.size+1+1:=fun e=>by
   obtain⟨gc,hgc⟩:=qgt;have:=box_more HZ.out K2.out;rw[←e,hgc]at this;cases this
  obtain⟨w4,hw4⟩:∃w4,wa.setCell ⟨g0,i0*4+1,none⟩ (.int .i64 ea)=w4:=⟨_,rfl⟩;rw[hw4]at h13 ⊢;have hsame:∀k,k≠g0→w4.heap[k]?=wa.heap[k]?:=fun k hk=>by rw[←hw4];exact Below.heap_setCell wa ⟨g0,i0*4+1,none⟩ _ k hk
  have k2:=(hsame _ (Ne.symm hg2)).trans (box_more HZ.out K2.out);have hg00:g0≠w.heap.size:=fun e=>by
   obtain⟨gc,hgc⟩:=qgt;have:=box_more HZ.out K0.out;rw[←e,hgc]at this;cases this
  have hg03:g0≠w.heap.size+1+1+1:=fun e=>by
   obtain⟨gc,hgc⟩:=qgt;have:=box_more HZ.out K3.out;rw[←e,hgc]at this;cases this
  have k0:=(hsame _ (Ne.symm hg00)).trans (box_more HZ.out K0.out);have k3:=(hsame _ (Ne.symm hg03)).trans (box_more HZ.out K3.out);obtain⟨yb,hyb⟩:∃yb,ya.setSelf {ya.self with pc:=ea}=yb:=⟨_,rfl⟩;have hE4:=h13.1;rw[hyb]at hE4;have hfb:Few 0 yb:=by
   rw[←hyb];exact HFEW.out.setSelf _ (by have h:=HHK.out.2.2.2.2.2.2.2.1;simpa using h)
  have hyi:yb.ev.pr.toNat=i0:=by rw[←hyb];exact hi0
  have hgt4:∃cells,w4.heap[g0]?=some (.cells cells 114 (0,0)):=by
   obtain⟨gc,hgc⟩:=qgt;rw[←hw4];exact blk_put_some hgc _ _
  obtain⟨tm,y3,hTM⟩:=hE4.spotT hfb.here hA0 hyi;have hself:yb.self={ya.self with pc:=ea}:=by rw[←hyb];exact setSelf_self HFEW.out.here _
  have htmn:tm.n≤1000000:=by
   have:=hTM.len;rw[hself]at this;simp only at this;rw[this];exact HHK.out.2.2.2.2.2.2.2.2 _ HSM.out
  have hky:eN=ky.length:=HE.out.k.len;have hevk:yb.ev.k=ky:=by rw[←hyb,←HHY.out];rfl
  have hKE:=hE4.p.key;rw[hevk]at hKE;have HEQ:=am (fun(w0:World) (hb:Below w4.heap.size w4 w0)=>eqKeys_calls tm.A eA tm.n eN tm.c ec yb.self.tm ky w0 ((hTM.below hb).here) ((hKE.below hb).here) htmn (by have h:ky.length≤900000:=HHK.out.2.2.2.2.2.2.1;omega));have z1:w4.cell? ⟨w.heap.size+1+1,1,none⟩=some (.slice eA eN ec):=by simp[World.cell?,k2]
  have hgl:g0<w4.heap.size:=by
   obtain⟨gc,hgc⟩:=hgt4;exact blk_lt hgc
  have yf4:=fun j=>(show w4.frozen? ⟨g0,j,none⟩=false by
   obtain⟨gc,hgc⟩:=hgt4;exact blk_frozen hgc j)
  have HL4:=am (show∀w',Below w4.heap.size w4 w'→w'.cell? ⟨g0,i0*4+3,none⟩=some (.slice tm.A tm.n tm.c)∧w'.cell? ⟨w.heap.size+1+1,1,none⟩=some (.slice eA eN ec)∧(∀j,w'.frozen? ⟨g0,j,none⟩=false)from fun w' hb=>
   ⟨(hb.cell (p:=⟨g0,i0*4+3,none⟩) hgl).trans y3,(hb.cell (p:=⟨w.heap.size+1+1,1,none⟩) (blk_lt k2)).trans z1,fun j=>(hb.frozen (p:=⟨g0,j,none⟩) hgl).trans (yf4 j)⟩)
  have HE4:=am hE4;have HFB:=am hfb;have HYI:=am hyi;have HYB:=am hyb;have HA4:=am hA0;have HG4:=am hgt4;have H0:=am k0;have H3:=am k3;have HSF:=am hself;have HPA:=am (HOK.out.2.1 _ HSM.out);have HWK:=am (show(exStart ⟨r0,r1,ps,sum⟩ ⟨et,ky,el,2,(i0:Int),ea⟩).wake=if yb.self.tm=ky then yb.setSelf {yb.self with tm:=[]}else yb by
   rw[HHY.out,←hyb];exact wake_two HFEW.out.here (by rw[←HHY.out];rfl) (by rw[←HHY.out];rfl) (by rw[←HHY.out];rfl))
  clear hEA q2 q8 qin y0 y1 y2 yf qgt qgb h13 hg2 hw4 hsame k2 hg00 hg03 k0 k3 hyb hE4 hfb hgt4 hTM hself hky hevk hKE hgl yf4 hA0 hi0 htmn;by_cases hq:yb.self.tm=ky
  focus
   have dq:decide (yb.self.tm=ky)=true:=decide_eq_true hq
  rotate_left
  focus
   have dq:decide (yb.self.tm=ky)=false:=decide_eq_false hq
  rotate_left
  all_goals
   have HQ:=am hq;clear hq
   go_region_held3 (fun w'=>w'.cell? ⟨g0,i0*4+3,none⟩=some (.slice tm.A tm.n tm.c)∧w'.cell? ⟨w.heap.size+1+1,1,none⟩=some (.slice eA eN ec)) (exact⟨by assumption,by assumption⟩)
    (first|((go_at_call 88;(with_reducible refine(HEQ.out _ (below_drew (Below.refl _ _))).mono ?_);rintro e w5 ⟨rfl,hb⟩;have hb1:=(below_drew (Below.refl w4.heap.size w4)).trans hb;obtain⟨r3,r1,rf⟩:=HL4.out w5 hb1;have HB5:=am hb1;clear hb hb1)))
   go_upto_region 16 with (fail)
  focus
   have hE5:=HE4.out.more HM.out HB5.out;have hgt5:∃cells,w5.heap[g0]?=some (.cells cells 114 (0,0)):=by
    obtain⟨gc,hgc⟩:=HG4.out;exact⟨gc,box_more HB5.out hgc⟩
   have h15:=hE5.tmNil HM.out HFB.out.here HA4.out HYI.out hgt5;have hk:∀(k:Nat) (o:Obj),w5.heap[k]?=some o→(∀gc,o≠Obj.cells gc 114 (0,0))→(w5.setCell ⟨g0,i0*4+3,none⟩ (.slice none 0 0)).heap[k]?=some o:=fun k o ho hne=>by
    refine(Below.heap_setCell w5 ⟨g0,i0*4+3,none⟩ _ k fun e=> ?_).trans ho;obtain⟨gc,hgc⟩:=hgt5;simp only at e;rw[e,hgc]at ho
    injection ho with ho
    exact hne gc ho.symm
   have j0:=hk _ _ (box_more HB5.out H0.out) (fun gc e=>by cases e);have j3:=hk _ _ (box_more HB5.out H3.out) (fun gc e=>by cases e);obtain⟨wz,hwz⟩:∃wz,w5.setCell ⟨g0,i0*4+3,none⟩ (.slice none 0 0)=wz:=⟨_,rfl⟩;rw[hwz]at h15 j0 j3 ⊢;obtain⟨y,hy⟩:∃y,yb.setSelf {yb.self with tm:=[]}=y:=⟨_,rfl⟩;have HEZ:=am (hy▸h15.1);have HFEWZ:=am (hy▸HFB.out.setSelf {yb.self with tm:=[]} (stop_self_pc HFB.out));have HYW:=am (HWK.out.trans (by rw[if_pos HQ.out,hy]));have HPGY:=am (show 0≤y.self.pg∧y.self.pg<progs.length by rw[←hy,setSelf_self HFB.out.here,HSF.out];exact HPA.out)
   have K0z:=am j0;have K3z:=am j3;have HI:=am (show y.ev.pr.toNat=i0 by rw[←hy];exact HYI.out);clear hE5 hgt5 h15 hk j0 j3 hwz hy r3 r1 rf y3 z1 dq
  rotate_left
  focus
   obtain⟨wz,hwz⟩:∃wz,w5=wz:=⟨_,rfl⟩;rw[hwz]at HB5 ⊢;obtain⟨y,hy⟩:∃y,yb=y:=⟨_,rfl⟩;have HEZ:=am (hy▸HE4.out.more HM.out HB5.out);have HFEWZ:=am (hy▸HFB.out);have HYW:=am (HWK.out.trans (by rw[if_neg HQ.out,hy]));have HPGY:=am (show 0≤y.self.pg∧y.self.pg<progs.length by rw[←hy,HSF.out];exact HPA.out);have K0z:=am (box_more HB5.out H0.out);have K3z:=am (box_more HB5.out H3.out);have HI:=am (show y.ev.pr.toNat=i0 by rw[←hy];exact HYI.out);clear hwz hy r3 r1 rf y3 z1 dq
 all_goals
  have hEZ:=HEZ.out;obtain⟨g',i',hA,hi2,s2,s8,hin2,z0,z1,z2,zf,hgt,hgb⟩:=hEZ.spot HFEWZ.out.here;obtain⟨hok,hpg,hpl⟩:=HOK.out;obtain⟨hj0,hj1⟩:=HPGY.out;obtain⟨j,hj⟩:∃j:Nat,y.self.pg=(j:Int):=⟨y.self.pg.toNat,by omega⟩;rw[hj]at hj1 z0;obtain⟨hs,hhs,hha⟩:=HC.out;have hbz:Below w.heap.size w wz:=hEZ.p.below;have hpn:pn=progs.length:=hhs.len.trans hha.len;have hjn:j<pn:=by omega
  obtain⟨ad2,sh,e2,⟨hjl,hsh⟩,hcell⟩:=hd_cells (hhs.below hbz).here j hjn;simp only at e2;subst e2;have hjp:j<progs.length:=by omega
  have hRl:Rd kOp Mt w sh progs[j]:=by
   rw[←hsh];exact hha.get j hjl hjp
  obtain⟨hl1,hok1⟩:=hok _ (List.getElem_mem hjp);obtain⟨prog,hprog⟩:∃prog,progs[j]=prog:=⟨_,rfl⟩;rw[hprog]at hRl hl1 hok1;have HPROG:=am (show progs[j]?=some prog by rw[List.getElem?_eq_getElem hjp,hprog]);clear hprog;obtain⟨shA,shn,shc⟩:=sh;have hq1:wz.cell? ⟨w.heap.size,1,none⟩=some (.slice (some ad2) pn pc):=by
   have:=K0z.out;simp[World.cell?,this]
  have HACT:=am (fun(w0:World) (hb:Below wz.heap.size wz w0)=>activate_calls (hEZ.more HM.out hb) HM.out HFEWZ.out hRl hok1 (by have:=hRl.len;simp only at this;omega));have HSELFZ:=am (fun(w0:World) (h2:w0.cell? ⟨b,2,none⟩=some (.slice (some ⟨g',0,none⟩) n2 c2)) (h8:w0.cell? ⟨b,8,none⟩=some (.int .i64 (i':Int)))=>self_calls (w:=w0) (b:=b) (g:=g') i' h2 h8 hin2);have HSD:=am (HSELFZ.out wz.drew s2 s8);have hgl:g'<wz.heap.size:=by
   obtain⟨gc,hgc⟩:=hgt;exact blk_lt hgc
  have hal2:(ad2.add j).block<w.heap.size:=by
   obtain⟨ad3,sh3,e3,⟨_,hsh3⟩,hc3⟩:=hd_cells hhs.here j hjn;simp only[Option.some.injEq]at e3;subst e3;exact World.block_lt_of_cell? w _ hc3
  have hql:w.heap.size<wz.heap.size:=World.block_lt_of_cell? wz ⟨w.heap.size,1,none⟩ hq1;have HLZ:=am (show∀w',Below wz.heap.size wz w'→w'.cell? ⟨w.heap.size,1,none⟩=some (.slice (some ad2) pn pc)∧w'.cell? ⟨g',i'*4,none⟩=some (.int .i64 (j:Int))∧w'.cell? (ad2.add j)=some (.slice shA shn shc)from fun w' hb=>
   ⟨(hb.cell (p:=⟨w.heap.size,1,none⟩) hql).trans hq1,(hb.cell (p:=⟨g',i'*4,none⟩) hgl).trans z0,(hb.cell (p:=ad2.add j) (by omega)).trans hcell⟩)
  have m2:(j:Int)<(pn:Nat):=by omega
  have m3:(0:Int)≤(j:Int):=by omega
  have HJ:=am hj;have HPN:=am hpn;clear hA hi2 z1 z2 zf hgt hgb hok hpg hpl hj0 hj1 hj hhs hha hjl hsh hjp hRl hl1 hok1 hin2 hEZ hpn
  go_region_with (first
   |(go_at_call 108;(with_reducible refine HSD.out.mono ?_);rintro e w4 ⟨rfl,hb⟩;have hb1:Below wz.heap.size wz w4:=⟨hb.os,hb.tape,hb.output,hb.size,hb.block⟩;obtain⟨v1,v2,v3⟩:=HLZ.out w4 hb1;have HB4z:=am hb1;clear hb hb1)
   |(go_at_call 109;(with_reducible refine(HACT.out w4 HB4z.out).mono ?_);rintro e w5 ⟨rfl,hran⟩;have HRAN:=am hran;clear hran))
 all_goals
  obtain⟨⟨ph5,ch5,xh5,hE5⟩,hS5⟩:=HRAN.out;obtain⟨z,hz⟩:∃z,y.act prog 16=z:=⟨_,rfl⟩;rw[hz]at hE5;have n0:w5.cell? ⟨b,0,none⟩=some (.int .i64 z.lp.r0):=hE5.cells 0 _ rfl;have n1:w5.cell? ⟨b,1,none⟩=some (.int .i64 z.lp.r1):=hE5.cells 1 _ rfl;have n2:w5.cell? ⟨b,2,none⟩=some (.slice ph5.A ph5.n ph5.c):=hE5.cells 2 _ rfl;have n3:w5.cell? ⟨b,3,none⟩=some (.int .i64 z.lp.sum):=hE5.cells 3 _ rfl;have n10:w5.cell? ⟨b,10,none⟩=some (.slice ch5.A ch5.n ch5.c):=hE5.cells 10 _ rfl;have n12:w5.cell? ⟨b,12,none⟩=some (.slice xh5.A xh5.n xh5.c):=hE5.cells 12 _ rfl
  have n13:w5.cell? ⟨b,13,none⟩=some (.bool z.ov):=hE5.cells 13 _ rfl;have hq3b:w.heap.size+1+1+1≠b:=fun e=>by
   have h1:=K3z.out;rw[e,HEZ.out.blk]at h1
   injection h1 with h1
   injection h1 with _ h2 _
   exact absurd h2 (by decide)
  have k4:=box_more HB4z.out (K3z.out);have k5:=(hS5.2 _ _ _ k4 hq3b (by decide) (by decide) (by decide)).trans k4;have j0:w5.cell? ⟨w.heap.size+1+1+1,0,none⟩=some (.int .i64 0):=by simp[World.cell?,k5]
  have j1:w5.cell? ⟨w.heap.size+1+1+1,1,none⟩=some (.int .i64 0):=by simp[World.cell?,k5]
  have j2:w5.cell? ⟨w.heap.size+1+1+1,2,none⟩=some (.slice none 0 0):=by simp[World.cell?,k5]
  have j3:w5.cell? ⟨w.heap.size+1+1+1,3,none⟩=some (.int .i64 0):=by simp[World.cell?,k5]
  have jf0:w5.frozen? ⟨w.heap.size+1+1+1,0,none⟩=false:=blk_frozen k5 0;have jf1:w5.frozen? ⟨w.heap.size+1+1+1,1,none⟩=false:=blk_frozen k5 1;have jf2:w5.frozen? ⟨w.heap.size+1+1+1,2,none⟩=false:=blk_frozen k5 2;have jf3:w5.frozen? ⟨w.heap.size+1+1+1,3,none⟩=false:=blk_frozen k5 3;have hkb:∀(w':World) j u k,(w'.setCell ⟨w.heap.size+1+1+1,j,none⟩ u).cell? ⟨b,k,none⟩=w'.cell? ⟨b,k,none⟩:=fun w' j u k=>cell_far (p:=⟨w.heap.size+1+1+1,j,none⟩) (a:=⟨b,k,none⟩) hq3b.symm u;have HE5:=am hE5;have HK5:=am k5;have HZZ:=am hz;clear hE5 hS5 k4 k5 hz s2 s8 z0 hcell hq1 m2 m3 v1 v2 v3
 all_goals go_upto_region 17 with (fail)
 all_goals go_region
 all_goals
  obtain⟨w6,hw6⟩:∃w6,((((w5.setCell ⟨w.heap.size+1+1+1,0,none⟩ (.int .i64 z.lp.r0)).setCell ⟨w.heap.size+1+1+1,1,none⟩ (.int .i64 z.lp.r1)).setCell ⟨w.heap.size+1+1+1,2,none⟩ (.slice ph5.A ph5.n ph5.c)).setCell ⟨w.heap.size+1+1+1,3,none⟩ (.int .i64 z.lp.sum)).drew=w6:=⟨_,rfl⟩;rw[hw6];have p1:=blk_put HK5.out 0 (.int .i64 z.lp.r0) rfl;have p2:=blk_put p1 1 (.int .i64 z.lp.r1) rfl;have p3:=blk_put p2 2 (.slice ph5.A ph5.n ph5.c) rfl;have p4:=blk_put p3 3 (.int .i64 z.lp.sum) rfl
  have p5:w6.heap[w.heap.size+1+1+1]?=some (.cells #[.int .i64 z.lp.r0,.int .i64 z.lp.r1,.slice ph5.A ph5.n ph5.c,.int .i64 z.lp.sum] 91 (0,0)):=by rw[←hw6];exact p4
  have o0:w6.cell? ⟨w.heap.size+1+1+1,0,none⟩=some (.int .i64 z.lp.r0):=by simp[World.cell?,p5]
  have o1:w6.cell? ⟨w.heap.size+1+1+1,1,none⟩=some (.int .i64 z.lp.r1):=by simp[World.cell?,p5]
  have o2:w6.cell? ⟨w.heap.size+1+1+1,2,none⟩=some (.slice ph5.A ph5.n ph5.c):=by simp[World.cell?,p5]
  have o3:w6.cell? ⟨w.heap.size+1+1+1,3,none⟩=some (.int .i64 z.lp.sum):=by simp[World.cell?,p5]
  have hgr:w5.grownBy w6 (some (w.heap.size+1+1+1)):=by
   rw[←hw6];exact grown_trans (grown_cells [.int .i64 z.lp.r0,.int .i64 z.lp.r1,.slice ph5.A ph5.n ph5.c,.int .i64 z.lp.sum] w5 0) (grown_drew _ _)
  have hret:=HE5.out.ret HM.out (show w.heap.size≤w.heap.size+1+1+1 by omega) HK5.out hgr (s:=⟨z.lp.r0,z.lp.r1,ph5,z.lp.sum⟩) rfl rfl rfl rfl;have HZ2:=am (runExP_of HYW.out HJ.out HPROG.out HZZ.out);have HRET:=am hret;clear hw6 p1 p2 p3 p4 p5 hgr hret n0 n1 n2 n3 n10 n12 n13 j0 j1 j2 j3 jf0 jf1 jf2 jf3 hkb;rename_i Q9 K9 hK9;refine hK9 _ _ ?_;apply wp_ret;show bodyPost Tryz.prog Tryz.f84 _ Exit.ret _ _
  refine bodyPost_ret (v:= .tuple #[.agg #[.int .i64 z.lp.r0,.int .i64 z.lp.r1,.slice ph5.A ph5.n ph5.c,.int .i64 z.lp.sum],.slice ch5.A ch5.n ch5.c,.slice xh5.A xh5.n xh5.c,.bool z.ov]) (by simp[results,Tryz.results84,go_sem,o0,o1,o2,o3]) rfl ?_;rw[HZ2.out];exact HRET.out
end Go.Proofs.YtfnimdhghglanaaGreat.Hand
end
section
namespace Go.Proofs.YtfnimdhghglanaaGreat.Hand
theorem SortedE.head {e:Ev} {l:List Ev} (h:SortedE (e::l)):∀f∈l,cmpE e f≤0:=(List.pairwise_cons.1 h).1
theorem SortedE.tail {e:Ev} {l:List Ev} (h:SortedE (e::l)):SortedE l:=(List.pairwise_cons.1 h).2
theorem cmpE_time {a b:Ev} (h:cmpE a b≤0):a.t≤b.t:=by
 unfold cmpE at h
 split at h
 ·rename_i h1;have h2:= @cmpI_neg a.t b.t;omega
 ·rename_i h1;have h2:= @cmpI_zero a.t b.t;simp only[ne_eq,Decidable.not_not]at h1;have:=h2.1 h1;omega
abbrev KeysD (l:List Ev):Prop:=(l.map Ev.k).Nodup
theorem KeysD.perm {l m:List Ev} (h:KeysD l) (p:l.Perm m):KeysD m:=(p.map Ev.k).nodup h
theorem KeysD.sub {l m:List Ev} (h:KeysD l) (p:m.Sublist l):KeysD m:=(p.map Ev.k).nodup h
theorem KeysD.inj {l:List Ev} (h:KeysD l) {a b:Ev} (ha:a∈l) (hb:b∈l) (hk:a.k=b.k):a=b:=by
 induction l with
 |nil=>cases ha
 |cons x l ih=>
  have h1:=List.nodup_cons.1 h;rcases List.mem_cons.1 ha with ea|ha1<;>rcases List.mem_cons.1 hb with eb|hb1
  ·rw[ea,eb]
  ·exact absurd (ea▸hk▸List.mem_map_of_mem (f:=Ev.k) hb1) h1.1
  ·exact absurd (eb▸hk.symm▸List.mem_map_of_mem (f:=Ev.k) ha1) h1.1
  ·exact ih h1.2 ha1 hb1
theorem sorted_one {a b:List Ev} (ha:SortedE a) (hb:SortedE b) (hp:a.Perm b) (hk:KeysD a):a=b:=
 List.Perm.eq_of_pairwise (fun x y hx hy h1 h2=>hk.inj hx (hp.symm.subset hy) (cmpE_zero.1 (by have:=cmpE_swap x y;omega)).2) ha hb hp
theorem insE_perm (l:List Ev) (e:Ev):(insE l e).Perm (e::l):=by
 unfold insE;refine List.perm_middle.trans (List.Perm.cons e ?_);rw[List.takeWhile_append_dropWhile]
theorem insE_sorted {l:List Ev} (h:SortedE l) (e:Ev):SortedE (insE l e):=by
 unfold insE;have h1:=List.takeWhile_append_dropWhile (p:=fun a=>decide (cmpE a e<0)) (l:=l);have h2:SortedE (l.takeWhile (fun a=>decide (cmpE a e<0))++l.dropWhile (fun a=>decide (cmpE a e<0))):=by rw[h1];exact h
 obtain⟨s1,s2,s3⟩:=List.pairwise_append.1 h2;have hl:∀a∈l.takeWhile (fun a=>decide (cmpE a e<0)),cmpE a e≤0:=fun a ha=>by
  have:=List.all_eq_true.1 (List.all_takeWhile (p:=fun a=>decide (cmpE a e<0)) (l:=l)) a ha;simp at this;omega
 have hr:∀a∈l.dropWhile (fun a=>decide (cmpE a e<0)),cmpE e a≤0:=fun a ha=>by
  cases hd:l.dropWhile (fun a=>decide (cmpE a e<0))with
  |nil=>rw[hd]at ha;cases ha
  |cons b m=>
   have h4:=List.head?_dropWhile_not (fun a=>decide (cmpE a e<0)) l;rw[hd]at h4 s2 ha;have hb:cmpE e b≤0:=by
    have:=cmpE_swap b e;simp at h4;omega
   rcases List.mem_cons.1 ha with rfl|ha
   ·exact hb
   ·exact cmpE_le hb (SortedE.head s2 a ha)
 exact List.pairwise_append.2 ⟨s1,List.pairwise_cons.2 ⟨hr,s2⟩,fun a ha b hb=>by
  rcases List.mem_cons.1 hb with rfl|hb
  ·exact hl a ha
  ·exact s3 a ha b hb⟩
theorem mergeE_perm (a b:List Ev):(mergeE a b).Perm (a++b):=List.merge_perm_append _
theorem mergeE_sorted {a b:List Ev} (ha:SortedE a) (hb:SortedE b):SortedE (mergeE a b):=by
 have hle:∀x y:Ev,(!decide (cmpE y x<0))=true↔cmpE x y≤0:=fun x y=>by
  have:=cmpE_swap x y;simp;omega
 have h:=List.pairwise_merge (le:=fun x y=> !decide (cmpE y x<0)) (fun x y z h1 h2=>by
   rw[hle]at h1 h2 ⊢;exact cmpE_le h1 h2) (fun x y=>by
   have:=cmpE_swap x y;simp;omega) a b (ha.imp fun h=>(hle _ _).2 h) (hb.imp fun h=>(hle _ _).2 h)
 exact h.imp fun h=>(hle _ _).1 h
def sortC (l:List Ev):List Ev:=l.foldr (fun e m=>insE m e) []
theorem sortC_perm (l:List Ev):(sortC l).Perm l:=by
 induction l with
 |nil=>exact .refl _
 |cons e l ih=>exact(insE_perm _ e).trans (ih.cons e)
theorem sortC_sorted (l:List Ev):SortedE (sortC l):=by
 induction l with
 |nil=>exact .nil
 |cons e l ih=>exact insE_sorted ih e
theorem sortC_of {l m:List Ev} (hp:m.Perm l) (hs:SortedE m) (hk:KeysD l):m=sortC l:=
 sorted_one hs (sortC_sorted l) (hp.trans (sortC_perm l).symm) (hk.perm hp.symm)
theorem mergeE_of {a b m:List Ev} (ha:SortedE a) (hm:SortedE m) (hp:m.Perm b) (hk:KeysD (a++b)):mergeE a m=sortC (a++b):=
 sortC_of ((mergeE_perm a m).trans (hp.append_left a)) (mergeE_sorted ha hm) hk
theorem eraseP_key {l:List Ev} (hk:KeysD l) (k:List Int):l.eraseP (fun e=>decide (e.k=k))=l.filter (fun e=> !decide (e.k=k)):=by
 induction l with
 |nil=>rfl
 |cons x l ih=>
  have h1:=List.nodup_cons.1 hk;by_cases e:x.k=k
  ·rw[List.eraseP_cons_of_pos (by simpa using e),List.filter_cons_of_neg (by simpa using e)];refine(List.filter_eq_self.2 fun y hy=> ?_).symm;have:y.k≠x.k:=fun e2=>h1.1 (e2▸List.mem_map_of_mem (f:=Ev.k) hy);simp;exact fun e3=>this (e3.trans e.symm)
  ·rw[List.eraseP_cons_of_neg (by simpa using e),List.filter_cons_of_pos (by simpa using e),ih h1.2]
theorem eraseP_keys:∀(ks:List (List Int)) {l:List Ev},KeysD l→ks.foldl (fun l k=>l.eraseP (fun e=>decide (e.k=k))) l=l.filter (fun e=> !ks.contains e.k)
 | [],l,_=>by simp[List.filter_eq_self.2]
 |k::ks,l,h=>by
  rw[List.foldl_cons,eraseP_key h k,eraseP_keys ks (h.sub List.filter_sublist),List.filter_filter]
  congr 1
  funext e
  by_cases h1:e.k=k<;>simp[h1,List.contains_cons]
theorem SortedE.filter {l:List Ev} (h:SortedE l) (p:Ev→Bool):SortedE (l.filter p):=List.Pairwise.filter p h
end Go.Proofs.YtfnimdhghglanaaGreat.Hand
end
