/- TopErrorPrefix, part 17 of 41; no condition. (Printed from the session's own texts: what is not used left out, spaces spared.) -/
import Derived.Test.YtfnimdhghglanaaGreatQeAP
import Derived.Handy
import Derived.Deep.DeepMust
import Derived.BigRegion
set_option maxRecDepth 100000
set_option maxHeartbeats 8000000
set_option linter.unusedVariables false
set_option linter.unusedSimpArgs false
section
namespace Go.Proofs.YtfnimdhghglanaaGreat.Hand
open Go.RowKit Go.Shelf Go.Proofs.YtfnimdhghglanaaGreatW.PrintWords Go.Proofs.YtfnimdhghglanaaGreatW.PrintLast Go.Proofs.YtfnimdhghglanaaGreatW.PrintMore
section
def Ex.step (x:Ex) (o:OpC):Ex×Int:=
 if o.code=1 then(x.create o.a ⟨0,[],x.ev.lp,1,x.ev.pr,0⟩,1)
 else if o.code=2 then(x.create o.c ⟨0,[],o.a,3,0,o.b⟩,0)
 else if o.code=3 then(x.timer o.a o.b,0)
 else if o.code=4 then(x.stop,0)
 else if o.code=5 then(x.spawn o.a o.b,0)
 else if o.code=6 then(x.add o.a o.b,0)
 else if o.code=7 then(x.less o.a o.b o.c,0)
 else(x,2)
structure OpOk (o:OpC):Prop where
 lo:1≤o.code
 hi:o.code≤8
 reg:o.code=6∨o.code=7→o.a=0∨o.a=1
 jmp:o.code=7→0≤o.c
structure Few (k:Nat) (x:Ex):Prop where
 kl:x.ev.k.length≤900000
 cr:x.cr.length≤k
 n:x.n≤k
 ca:x.ca.length≤k
 ps:x.lp.ps.length≤8
 here:Here x
 pc:∀p∈x.lp.ps,0≤p.pc
theorem Few.room {k:Nat} {x:Ex} (h:Few k x) (hk:k≤100000):Room x:=⟨h.kl,by have:=h.cr;omega,by have:=h.n;omega,by have:=h.ca;omega,h.ps⟩
theorem Few.mono {k m:Nat} {x:Ex} (h:Few k x) (hk:k≤m):Few m x:=⟨h.kl,by have:=h.cr;omega,by have:=h.n;omega,by have:=h.ca;omega,h.ps,h.here,h.pc⟩
theorem Ex.self_mem {x:Ex} (h:Here x):x.self∈x.lp.ps:=by
 have hself:x.self=x.lp.ps[x.ev.pr.toNat]'h.hi:=by simp[Ex.self,List.getD_eq_getElem?_getD,List.getElem?_eq_getElem h.hi]
 rw[hself];exact List.getElem_mem _
theorem Few.setSelf {k:Nat} {x:Ex} (h:Few k x) (p:Pc) (hp:0≤p.pc):Few k (x.setSelf p):=
 ⟨h.kl,h.cr,h.n,h.ca,by simpa [Ex.setSelf]using h.ps,⟨h.here.lo,by simpa [Ex.setSelf]using h.here.hi⟩,fun q hq=>by
  rcases List.mem_or_eq_of_mem_set hq with hq|rfl
  ·exact h.pc q hq
  ·exact hp⟩
theorem Few.create {k:Nat} {x:Ex} (h:Few k x) (d:Int) (e:Ev):Few (k+1) (x.create d e):=by
 have h1:=h.cr;have h2:=h.n;have h3:=h.ca;unfold Ex.create
 split
 ·exact⟨h.kl,by simp only;omega,by simp only;omega,by simp only;omega,h.ps,⟨h.here.lo,h.here.hi⟩,h.pc⟩
 ·exact⟨h.kl,by simp only[List.length_append,List.length_cons,List.length_nil];omega,by simp only;omega,by simp only;omega,h.ps,⟨h.here.lo,h.here.hi⟩,h.pc⟩
theorem create_ca (x:Ex) (d:Int) (e:Ev):(x.create d e).ca=x.ca:=by unfold Ex.create;split<;>rfl
theorem stop_self_pc {k:Nat} {x:Ex} (h:Few k x):0≤x.self.pc:=h.pc _ (Ex.self_mem h.here)
theorem Few.stop {k:Nat} {x:Ex} (h:Few k x):Few (k+1) x.stop:=by
 unfold Ex.stop
 split
 ·exact h.mono (Nat.le_succ k)
 ·have h3:=h.ca;have h':Few (k+1) {x with ca:=x.ca++[x.self.tm]}:=⟨h.kl,by have:=h.cr;simp only;omega,by have:=h.n;simp only;omega,by simp only[List.length_append,List.length_cons,List.length_nil];omega,h.ps,⟨h.here.lo,h.here.hi⟩,h.pc⟩;exact h'.setSelf _ (stop_self_pc h)
theorem Few.timer {k:Nat} {x:Ex} (h:Few k x) (a v:Int):Few (k+1) (x.timer a v):=by
 have h1:Few (k+1) x.stop:=h.stop;have h2:(x.stop).cr=x.cr:=stop_cr x;have h3:(x.stop).n=x.n:=stop_n x;have h5:=(h1.create a ⟨0,[],x.stop.ev.lp,2,x.stop.ev.pr,v⟩);have h6:=h.cr;have h7:=h.n;have h8:Few (k+1) (x.stop.create a ⟨0,[],x.stop.ev.lp,2,x.stop.ev.pr,v⟩):=by
  refine⟨h5.kl,?_,?_,by rw[create_ca];exact h1.ca,h5.ps,h5.here,h5.pc⟩
  ·unfold Ex.create
   split
   ·simp only[h2];omega
   ·simp only[h2,List.length_append,List.length_cons,List.length_nil];omega
  ·unfold Ex.create
   split
   ·simp only[h3];omega
   ·simp only[h3];omega
 unfold Ex.timer;exact h8.setSelf _ (stop_self_pc h8)
theorem Few.spawn {k:Nat} {x:Ex} (h:Few k x) (a d:Int):Few (k+1) (x.spawn a d):=by
 unfold Ex.spawn
 split
 ·rename_i hn;have h':Few k {x with lp:={x.lp with ps:=x.lp.ps++[⟨a,0,true,[]⟩]}}:=⟨h.kl,h.cr,h.n,h.ca,by simp only[List.length_append,List.length_cons,List.length_nil];omega,
   ⟨h.here.lo,by have:=h.here.hi;simp only[List.length_append,List.length_cons,List.length_nil];omega⟩,fun p hp=>by
    rcases List.mem_append.1 hp with hp|hp
    ·exact h.pc p hp
    ·rw[List.mem_singleton]at hp;subst hp;exact Int.le_refl 0⟩
  exact h'.create _ _
 ·exact h.mono (Nat.le_succ k)
theorem Few.add {k:Nat} {x:Ex} (h:Few k x) (a v:Int):Few k (x.add a v):=by
 unfold Ex.add
 split<;>exact⟨h.kl,h.cr,h.n,h.ca,h.ps,⟨h.here.lo,h.here.hi⟩,h.pc⟩
theorem Few.step {k:Nat} {x:Ex} (h:Few k x) {o:OpC} (ho:OpOk o):Few (k+1) (x.step o).1:=by
 unfold Ex.step
 repeat' split
 ·exact h.create _ _
 ·exact h.create _ _
 ·exact h.timer _ _
 ·exact h.stop
 ·exact h.spawn _ _
 ·exact(h.add _ _).mono (Nat.le_succ k)
 ·unfold Ex.less
  split
  ·exact(h.setSelf _ (ho.jmp (by assumption))).mono (Nat.le_succ k)
  ·exact h.mono (Nat.le_succ k)
 ·exact h.mono (Nat.le_succ k)
theorem Ex.step_sig (x:Ex) (o:OpC):(x.step o).2=0∨(x.step o).2=1∨(x.step o).2=2:=by
 unfold Ex.step
 repeat' split
 all_goals simp
section
variable {Mt:Nat→Prop} {W w:World} {b:Nat} {kh ph ch xh:SH} {x:Ex}
theorem step_calls (h:ExAt Mt W w b kh ph ch xh x) (hM:∀k,Mt k→k<W.heap.size) (hh:Here x) (hr:Room x) {o:OpC} (ho:OpOk o):
  ∃f k,Instr.findNow (.int .i64) (.int .i64 o.code) tab 0=some (some (k,fnV f))∧(∀(args:Array Value) (w:World),(callFunc f args).run Tryz.prog w= .ok (.enter f args) w)∧Calls Tryz.prog f #[.pointer (some ⟨b,0,none⟩),o.v] w fun e w'=>e= .returned (.int .i64 (x.step o).2)∧Ran Mt W w b kh (x.step o).1 w':=by
 have h0:=ho.lo;have h9:=ho.hi;have hc:o.code=1∨o.code=2∨o.code=3∨o.code=4∨o.code=5∨o.code=6∨o.code=7∨o.code=8:=by omega
 rcases hc with hc|hc|hc|hc|hc|hc|hc|hc
 ·refine⟨141,0,by rw[hc];rfl,fun args w=>enters_ Tryz.func141 (by kernel_rfl) (by kernel_rfl) args w,?_⟩;have hs:x.step o=(x.create o.a ⟨0,[],x.ev.lp,1,x.ev.pr,0⟩,1):=by simp[Ex.step,hc]
  rw[hs];exact hold_calls h hM hr o
 ·refine⟨142,1,by rw[hc];rfl,fun args w=>enters_ Tryz.func142 (by kernel_rfl) (by kernel_rfl) args w,?_⟩;have hs:x.step o=(x.create o.c ⟨0,[],o.a,3,0,o.b⟩,0):=by simp[Ex.step,hc]
  rw[hs];exact send_calls h hM hr o
 ·refine⟨143,2,by rw[hc];rfl,fun args w=>enters_ Tryz.func143 (by kernel_rfl) (by kernel_rfl) args w,?_⟩;have hs:x.step o=(x.timer o.a o.b,0):=by simp[Ex.step,hc]
  rw[hs];exact exTimer_calls h hM hh hr o
 ·refine⟨144,3,by rw[hc];rfl,fun args w=>enters_ Tryz.func144 (by kernel_rfl) (by kernel_rfl) args w,?_⟩;have hs:x.step o=(x.stop,0):=by simp[Ex.step,hc]
  rw[hs];exact exStop_calls h hM hh hr.ca o
 ·refine⟨145,4,by rw[hc];rfl,fun args w=>enters_ Tryz.func145 (by kernel_rfl) (by kernel_rfl) args w,?_⟩;have hs:x.step o=(x.spawn o.a o.b,0):=by simp[Ex.step,hc]
  rw[hs];exact exSpawn_calls h hM hr o
 ·refine⟨146,5,by rw[hc];rfl,fun args w=>enters_ Tryz.func146 (by kernel_rfl) (by kernel_rfl) args w,?_⟩;have hs:x.step o=(x.add o.a o.b,0):=by simp[Ex.step,hc]
  rw[hs];exact exAdd_calls h hM o (ho.reg (.inl hc))
 ·refine⟨147,6,by rw[hc];rfl,fun args w=>enters_ Tryz.func147 (by kernel_rfl) (by kernel_rfl) args w,?_⟩;have hs:x.step o=(x.less o.a o.b o.c,0):=by simp[Ex.step,hc]
  rw[hs];exact exLess_calls h hM hh o (ho.reg (.inr hc))
 ·refine⟨148,7,by rw[hc];rfl,fun args w=>enters_ Tryz.func148 (by kernel_rfl) (by kernel_rfl) args w,?_⟩;have hs:x.step o=(x,2):=by simp[Ex.step,hc]
  rw[hs];exact(end_calls w b o).mono fun e w' hq=>⟨hq.1,⟨⟨_,_,_,h.more hM hq.2⟩,Still.of_below hq.2⟩⟩
end
theorem op_cells {w:World} {A:Option Addr} {n:Nat} {l:List OpC} (h:Kd.C kOp w A n l) (k:Nat) (hk:k<n):∃ad x,A=some ad∧(∃h2:k<l.length,l[k]=x)∧
  w.cell? (ad.add (k*4))=some (.int .i64 x.code)∧w.cell? ⟨(ad.add (k*4)).block,(ad.add (k*4)).off+1,none⟩=some (.int .i64 x.a)∧w.cell? ⟨(ad.add (k*4)).block,(ad.add (k*4)).off+2,none⟩=some (.int .i64 x.b)∧
   w.cell? ⟨(ad.add (k*4)).block,(ad.add (k*4)).off+3,none⟩=some (.int .i64 x.c):=by
 obtain⟨ad,x,e,h2,h3,q⟩:=flat_cells h k hk;exact⟨ad,x,e,h2,h3 _ rfl,q 1 _ (by decide) rfl,q 2 _ (by decide) rfl,q 3 _ (by decide) rfl⟩
end
end Go.Proofs.YtfnimdhghglanaaGreat.Hand
end
section
namespace Go.Proofs.YtfnimdhghglanaaGreat.Hand
open Go.RowKit Go.Shelf Go.Proofs.YtfnimdhghglanaaGreatW.PrintWords Go.Proofs.YtfnimdhghglanaaGreatW.PrintLast Go.Proofs.YtfnimdhghglanaaGreatW.PrintMore
attribute [local go_sem] max2_int min2_int max_two min_two max_three min_three max_four min_four
section
def Ex.kill (x:Ex):Ex:=x.setSelf {x.self with al:=false}
def Ex.next (x:Ex):Ex:=x.setSelf {x.self with pc:=x.self.pc+1}
def Ex.act (l:List OpC):Nat→Ex→Ex
 |0,x=>x.kill
 |n+1,x=>match l[x.self.pc.toNat]?with
  |none=>x.kill
  |some o=>if (x.next.step o).2=1 then(x.next.step o).1 else if (x.next.step o).2=2 then(x.next.step o).1.kill else Ex.act l n (x.next.step o).1
theorem act_some {l:List OpC} {m pc:Nat} {y z:Ex} {o:OpC} {sg:Int} (hpc:y.self.pc=(pc:Int)) (hx:l[pc]?=some o) (hst:y.next.step o=(z,sg)):Ex.act l (m+1) y=if sg=1 then z else if sg=2 then z.kill else Ex.act l m z:=by
 simp[Ex.act,hpc,hx,hst]
theorem act_none {l:List OpC} {m pc:Nat} {y:Ex} (hpc:y.self.pc=(pc:Int)) (hx:l[pc]?=none):Ex.act l (m+1) y=y.kill:=by
 simp[Ex.act,hpc,hx]
section
variable {Mt:Nat→Prop} {W w:World} {b:Nat} {kh ph ch xh:SH} {x:Ex}
theorem ExAt.spot (h:ExAt Mt W w b kh ph ch xh x) (hh:Here x):∃g i:Nat,ph.A=some ⟨g,0,none⟩∧x.ev.pr.toNat=i∧w.cell? ⟨b,2,none⟩=some (.slice (some ⟨g,0,none⟩) ph.n ph.c)∧w.cell? ⟨b,8,none⟩=some (.int .i64 (i:Int))∧i<ph.n∧
  w.cell? ⟨g,i*4,none⟩=some (.int .i64 x.self.pg)∧w.cell? ⟨g,i*4+1,none⟩=some (.int .i64 x.self.pc)∧w.cell? ⟨g,i*4+2,none⟩=some (.bool x.self.al)∧(∀j,w.frozen? ⟨g,j,none⟩=false)∧(∃cells,w.heap[g]?=some (.cells cells 114 (0,0)))∧g≠b:=by
 have hself:x.self=x.lp.ps[x.ev.pr.toNat]'hh.hi:=by simp[Ex.self,List.getD_eq_getElem?_getD,List.getElem?_eq_getElem hh.hi]
 obtain⟨g,s,hA,hB,⟨gc,hgc⟩,hpc,z0,z1,z2,z3,zf⟩:=h.p.ps.get x.ev.pr.toNat hh.hi;rw[←hself]at hpc;have e2:w.cell? ⟨b,2,none⟩=some (.slice ph.A ph.n ph.c):=h.cells 2 _ rfl;have hpr:x.ev.pr=((x.ev.pr.toNat:Nat):Int):=by have:=hh.lo;omega
 have e8:w.cell? ⟨b,8,none⟩=some (.int .i64 x.ev.pr):=h.cells 8 _ rfl;rw[hpr]at e8;rw[hA]at e2;rw[hpc.pg]at z0;rw[hpc.pc]at z1;rw[hpc.al]at z2;refine⟨g,_,hA,rfl,e2,e8,by rw[h.p.ps.len];exact hh.hi,z0,z1,z2,zf,⟨gc,hgc⟩,fun e=> ?_⟩;have:=h.blk;rw[←e,hgc]at this;cases this
theorem ExAt.kill (h:ExAt Mt W w b kh ph ch xh x) (hM:∀k,Mt k→k<W.heap.size) (hh:Here x) {g i:Nat} (hA:ph.A=some ⟨g,0,none⟩) (hi:x.ev.pr.toNat=i) (hg:∃cells,w.heap[g]?=some (.cells cells 114 (0,0))):
  Ran Mt W w b kh x.kill (w.setCell ⟨g,i*4+2,none⟩ (.bool false)):=by
 have h9:=h.setSelf hM hh hA hg 2 (.bool false) {x.self with al:=false} (fun s hs hk=>⟨{s with al:=false},rfl,⟨hs.pg,hs.pc,rfl,hs.tm.lm hM hk⟩⟩) (by decide);rw[hi]at h9;exact⟨⟨_,_,_,h9.1⟩,h9.2⟩
theorem ExAt.next (h:ExAt Mt W w b kh ph ch xh x) (hM:∀k,Mt k→k<W.heap.size) (hh:Here x) {g i:Nat} (hA:ph.A=some ⟨g,0,none⟩) (hi:x.ev.pr.toNat=i) (hg:∃cells,w.heap[g]?=some (.cells cells 114 (0,0))):
  ExAt Mt W (w.setCell ⟨g,i*4+1,none⟩ (.int .i64 (x.self.pc+1))) b kh ph ch xh x.next∧Still b w (w.setCell ⟨g,i*4+1,none⟩ (.int .i64 (x.self.pc+1))):=by
 have h9:=h.setSelf hM hh hA hg 1 (.int .i64 (x.self.pc+1)) {x.self with pc:=x.self.pc+1} (fun s hs hk=>⟨{s with pc:=x.self.pc+1},rfl,⟨hs.pg,rfl,hs.al,hs.tm.lm hM hk⟩⟩) (by decide);rw[hi]at h9;exact h9
theorem Ran.of {w1 w':World} {x':Ex} (hs:Still b w w1) (r:Ran Mt W w1 b kh x' w'):Ran Mt W w b kh x' w':=⟨r.ex,hs.trans r.still⟩
theorem Few.next {k:Nat} (h:Few k x):Few k x.next:=h.setSelf _ (by have:=stop_self_pc h;simp only;omega)
theorem activate_calls (h:ExAt Mt W w b kh ph ch xh x) (hM:∀k,Mt k→k<W.heap.size) (hf:Few 0 x) {A:Option Addr} {n c:Nat} {l:List OpC} (hP:Rd kOp Mt W ⟨A,n,c⟩ l) (hok:∀o∈l,OpOk o) (hl:n≤1000000):
  Calls Tryz.prog 109 #[.pointer (some ⟨b,0,none⟩),.slice A n c] w fun e w'=>e= .returned (.tuple #[])∧Ran Mt W w b kh (x.act l 16) w':=by
 have H:=am h;have HM:=am hM;have HF0:=am hf;have HP:=am hP;have HOK:=am hok;have HTAB:=am (table_calls w);obtain⟨q,hq⟩:∃q,w.heap.size=q:=⟨_,rfl⟩;have HQW:=am hq;rw[hq]at HTAB;clear h hM hf hP hok hq;go_enter Tryz.func109,Tryz.ntmps109;go_upto_region 1 with (first|(go_at_call 127;(with_reducible refine HTAB.out.mono ?_);rintro e w1 ⟨rfl,ht,hb⟩;have HT:=am ht;have HB:=am (HQW.out.symm▸hb);clear ht hb))
 go_wp2_with (fail)
 go_loopw [7] (fun j wr=>∃k:Nat,k≤16∧j= .int .i64 k∧∃(y:Ex) (ph' ch' xh':SH),Aside0 (Ex.act l (16-k) y=x.act l 16)∧Aside0 (Few k y)∧Aside0 (ExAt Mt W wr b kh ph' ch' xh' y)∧Aside0 (Still b w wr)∧Aside0 (wr.heap[q]?=some (tabN 8))) (fun j _=>16-(intOf j).toNat)
 case atStart=>exact⟨0,Nat.zero_le _,rfl,x,ph,ch,xh,⟨rfl⟩,HF0,⟨H.out.more HM.out HB.out⟩,⟨Still.of_below HB.out⟩,HT⟩
 case round=>
  obtain⟨k,hk,rfl,y,ph',ch',xh',HY,HF,HE,HS,HQ⟩:=hrel;obtain⟨g,i,hA,hi,c2,c8,hin,z0,z1,z2,zf,hgt,hgb⟩:=HE.out.spot HF.out.here;obtain⟨pc,hpc⟩:∃pc:Nat,y.self.pc=(pc:Int):=⟨y.self.pc.toNat,by have:=stop_self_pc HF.out;omega⟩;rw[hpc]at z1;have HA:=am hA;have HI:=am hi;have HGT:=am hgt;have HPC:=am hpc;have hgl:g<wr.heap.size:=by
   obtain⟨gc,hgc⟩:=hgt;exact blk_lt hgc
  have hbl:b<wr.heap.size:=blk_lt HE.out.blk;have HSELF:=am (fun(w0:World) (h2:w0.cell? ⟨b,2,none⟩=some (.slice (some ⟨g,0,none⟩) ph'.n ph'.c)) (h8:w0.cell? ⟨b,8,none⟩=some (.int .i64 (i:Int)))=>self_calls (w:=w0) (b:=b) (g:=g) i h2 h8 hin);have HLT:=am (show∀w',Below wr.heap.size wr w'→w'.cell? ⟨b,2,none⟩=some (.slice (some ⟨g,0,none⟩) ph'.n ph'.c)∧w'.cell? ⟨b,8,none⟩=some (.int .i64 (i:Int))∧w'.cell? ⟨g,i*4+1,none⟩=some (.int .i64 (pc:Int))∧(∀j,w'.frozen? ⟨g,j,none⟩=false)∧∃u,w'.cell? ⟨g,i*4+2,none⟩=some u from fun w' hb=>
   ⟨(hb.cell (p:=⟨b,2,none⟩) hbl).trans c2,(hb.cell (p:=⟨b,8,none⟩) hbl).trans c8,(hb.cell (p:=⟨g,i*4+1,none⟩) hgl).trans z1,fun j=>(hb.frozen (p:=⟨g,j,none⟩) hgl).trans (zf j),_,(hb.cell (p:=⟨g,i*4+2,none⟩) hgl).trans z2⟩)
  clear hA hi hpc hgt z0 z1 z2 zf;by_cases g0:k<16
  ·have d1:decide ((k:Int)<16)=true:=decide_eq_true (by omega);have d1':decide (k<16)=true:=decide_eq_true g0;by_cases hpn:pc<n
   ·have d2:decide ((n:Int)≤(pc:Int))=false:=decide_eq_false (by omega);have d2':decide (n≤pc)=false:=decide_eq_false (by omega);go_upto_region 6 with (first|(go_at_call 108;first
     |((with_reducible refine(HSELF.out wr c2 c8).mono ?_);rintro e wx ⟨rfl,hb⟩;obtain⟨x2,x8,x1,xf,xu,xz⟩:=HLT.out wx hb;have HBX:=am hb;clear hb)
     |((with_reducible refine(HSELF.out wx x2 x8).mono ?_);rintro e wy ⟨rfl,hb⟩;have hb1:=HBX.out.trans (hb.mono HBX.out.size);obtain⟨y2,y8,y1,yf,yu,yz⟩:=HLT.out wy hb1;have HBY:=am hb1;clear hb hb1)))
    have hgy:∃cells,wy.heap[g]?=some (.cells cells 114 (0,0)):=by
     obtain⟨gc,hgc⟩:=HGT.out;exact⟨gc,(HBY.out.block g hgl).trans hgc⟩
    have h9:=(HE.out.more HM.out HBY.out).next HM.out HF.out.here HA.out HI.out hgy
    rw[HPC.out]at h9;obtain⟨w5,hw5⟩:∃w5,wy.setCell ⟨g,i*4+1,none⟩ (.int .i64 ((pc:Int)+1))=w5:=⟨_,rfl⟩;rw[hw5]at h9 ⊢;obtain⟨hE9,hS9⟩:=h9;have hqy:wy.heap[q]?=some (.map tab.toArray 8):=(HBY.out.block q (blk_lt HQ.out)).trans HQ.out;have hq9:w5.heap[q]?=some (tabN 8):=(hS9.1.2 q _ _ hqy).trans hqy;have hF9:=HF.out.next;obtain⟨ad,o,e0,⟨h2,hx⟩,p0,p1,p2,p3⟩:=op_cells ((HP.out.below hE9.p.below).here) pc hpn;simp only at e0;subst e0;have ho:OpOk o:=HOK.out _ (hx▸List.getElem_mem h2)
    obtain⟨f,kf,hfn,heg,hcall⟩:=step_calls (x:=y.next) (hE9.more HM.out (below_drew (Below.refl _ _))) HM.out hF9.here (hF9.room (by omega)) ho;have hl1:=tab_look w5 q hq9 o.code (fnV f) kf hfn;have hl2:=tab_look w5.drew q hq9 o.code (fnV f) kf hfn;obtain⟨z,sg,hst⟩:∃z sg,y.next.step o=(z,sg):=⟨_,_,rfl⟩;have HF6:=hF9.step ho;have hsg:=Ex.step_sig y.next o;rw[hst]at hcall HF6 hsg;obtain⟨m,hm⟩:∃m,16-k=m+1:=⟨15-k,by omega⟩;have HACT:=HY.out;rw[hm,act_some HPC.out (by rw[List.getElem?_eq_getElem h2,hx]) hst]at HACT
    replace HACT:=am HACT
    replace HF6:=am HF6
    have HS9:=am ((HS.out.trans (Still.of_below HBY.out)).trans (hS9.trans (Still.of_below (below_drew (Below.refl w5.heap.size w5)))));have HQ9:=am (show w5.drew.heap[q]?=some (.map tab.toArray 8)from hq9);have HOPC:=am (show∀w',Below W.heap.size W w'→w'.cell? (ad.add (pc*4))=some (.int .i64 o.code)∧w'.cell? ⟨(ad.add (pc*4)).block,(ad.add (pc*4)).off+1,none⟩=some (.int .i64 o.a)∧w'.cell? ⟨(ad.add (pc*4)).block,(ad.add (pc*4)).off+2,none⟩=some (.int .i64 o.b)∧w'.cell? ⟨(ad.add (pc*4)).block,(ad.add (pc*4)).off+3,none⟩=some (.int .i64 o.c)from fun w' hb=>by
     obtain⟨ad',o',e0',⟨h2',hx'⟩,r⟩:=op_cells ((HP.out.below hb).here) pc hpn;simp only[Option.some.injEq]at e0';subst e0';rw[hx]at hx';subst hx';exact r)
    obtain⟨oc,oa,ob,oe⟩:=o;simp only at HOPC;simp only[OpC.v,fnV]at hcall hl1 hl2 p0 p1 p2 p3 hsg;have HCALL:=am hcall;have m1:(pc:Int)<(n:Nat):=by omega
    have m0:(0:Int)≤(pc:Int):=by omega
    clear hE9 hS9 hqy hq9 hF9 hx ho hfn hcall hst hw5 hgy x1 x2 x8 xf xz y1 y2 y8 yf yz c2 c8
    go_region_held3 (fun w'=>w'.cell? (ad.add (pc*4))=some (.int .i64 oc)∧w'.cell? ⟨(ad.add (pc*4)).block,(ad.add (pc*4)).off+1,none⟩=some (.int .i64 oa)∧w'.cell? ⟨(ad.add (pc*4)).block,(ad.add (pc*4)).off+2,none⟩=some (.int .i64 ob)∧w'.cell? ⟨(ad.add (pc*4)).block,(ad.add (pc*4)).off+3,none⟩=some (.int .i64 oe)) (exact⟨by assumption,by assumption,by assumption,by assumption⟩)
     (first|((with_reducible refine HCALL.out.mono ?_);rintro e w6 ⟨rfl,⟨⟨ph6,ch6,xh6,hE⟩,hS⟩⟩;obtain⟨r0,r1,r2,r3⟩:=HOPC.out w6 hE.p.below;have HE6:=am hE;have HS6:=am hS;clear hE hS))
    have HSW:=am (HS9.out.trans HS6.out);rcases hsg with hs|hs|hs
    ·subst hs
     go_wp2_with (fail)
     go_roundw
     case rel=>
      refine⟨k+1,by omega,by go_num,z,ph6,ch6,xh6,⟨?_⟩,HF6,HE6,HSW,⟨(HS6.out.1.2 q _ _ HQ9.out).trans HQ9.out⟩⟩;have h3:=HACT.out;rw[if_neg (by decide),if_neg (by decide)]at h3;rw[show 16-(k+1)=m by omega];exact h3
     case measure=>simp[intOf];omega
    ·subst hs
     go_wp2_with (fail)
     go_returns
     have h3:=HACT.out;rw[if_pos (by trivial)]at h3;rw[←h3];exact⟨rfl,⟨⟨ph6,ch6,xh6,HE6.out⟩,HSW.out⟩⟩
    ·subst hs;obtain⟨g',i',hA',hi',c2',c8',hin',z0',z1',z2',zf',hgt',hgb'⟩:=HE6.out.spot HF6.out.here;have hgl':g'<w6.heap.size:=by
      obtain⟨gc,hgc⟩:=hgt';exact blk_lt hgc
     have HA':=am hA';have HI':=am hi';have HSELF':=am (self_calls (w:=w6) (b:=b) (g:=g') i' c2' c8' hin');have HL':=am (show∀w',Below w6.heap.size w6 w'→w'.cell? ⟨g',i'*4+2,none⟩=some (.bool z.self.al)∧(∀j,w'.frozen? ⟨g',j,none⟩=false)∧∃cells,w'.heap[g']?=some (.cells cells 114 (0,0))from fun w' hb=>
      ⟨(hb.cell (p:=⟨g',i'*4+2,none⟩) hgl').trans z2',fun j=>(hb.frozen (p:=⟨g',j,none⟩) hgl').trans (zf' j),by
       obtain⟨gc,hgc⟩:=hgt';exact⟨gc,(hb.block g' hgl').trans hgc⟩⟩)
     clear hA' hi' c2' c8' hin' z0' z1' z2' zf' hgt'
     go_wp2_with (first|(go_at_call 108;(with_reducible refine HSELF'.out.mono ?_);rintro e w7 ⟨rfl,hb⟩;obtain⟨s2,sf,sg⟩:=HL'.out w7 hb;have HB7:=am hb;have HG7:=am sg;clear hb sg))
     go_returns
     have h3:=HACT.out;rw[if_neg (by decide),if_pos (by trivial)]at h3;rw[←h3];exact⟨rfl,Ran.of (HSW.out.trans (Still.of_below HB7.out)) ((HE6.out.more HM.out HB7.out).kill HM.out HF6.out.here HA'.out HI'.out HG7.out)⟩
   ·have d2:decide ((n:Int)≤(pc:Int))=true:=decide_eq_true (by omega);have d2':decide (n≤pc)=true:=decide_eq_true (by omega)
    go_wp2_with (first|(go_at_call 108;first
     |((with_reducible refine(HSELF.out wr c2 c8).mono ?_);rintro e wx ⟨rfl,hb⟩;obtain⟨x2,x8,x1,xf,xu,xz⟩:=HLT.out wx hb;have HBX:=am hb;clear hb)
     |((with_reducible refine(HSELF.out wx x2 x8).mono ?_);rintro e wy ⟨rfl,hb⟩;have hb1:=HBX.out.trans (hb.mono HBX.out.size);obtain⟨y2,y8,y1,yf,yu,yz⟩:=HLT.out wy hb1;have HBY:=am hb1;clear hb hb1)))
    go_returns
    obtain⟨m,hm⟩:∃m,16-k=m+1:=⟨15-k,by omega⟩;have h3:=HY.out;rw[hm,act_none HPC.out (List.getElem?_eq_none (by have:=HP.out.len;simp only at this;omega))]at h3;rw[←h3];refine⟨rfl,Ran.of (HS.out.trans (Still.of_below HBY.out)) ((HE.out.more HM.out HBY.out).kill HM.out HF.out.here HA.out HI.out ?_)⟩;obtain⟨gc,hgc⟩:=HGT.out;exact⟨gc,(HBY.out.block g hgl).trans hgc⟩
  ·obtain rfl:k=16:=by omega
   have d1:decide ((16:Int)<16)=false:=rfl
   go_wp2_with (first|(go_at_call 108;first
     |((with_reducible refine(HSELF.out wr c2 c8).mono ?_);rintro e wx ⟨rfl,hb⟩;obtain⟨x2,x8,x1,xf,xu,xz⟩:=HLT.out wx hb;have HBX:=am hb;clear hb)
     |((with_reducible refine(HSELF.out wx x2 x8).mono ?_);rintro e wy ⟨rfl,hb⟩;have hb1:=HBX.out.trans (hb.mono HBX.out.size);obtain⟨y2,y8,y1,yf,yu,yz⟩:=HLT.out wy hb1;have HBY:=am hb1;clear hb hb1)))
   go_returns
   have h3:=HY.out;rw[show 16-16=0 from rfl]at h3;rw[←h3];refine⟨rfl,Ran.of (HS.out.trans (Still.of_below HBX.out)) ((HE.out.more HM.out HBX.out).kill HM.out HF.out.here HA.out HI.out ?_)⟩;obtain⟨gc,hgc⟩:=HGT.out;exact⟨gc,(HBX.out.block g hgl).trans hgc⟩
end
end
structure SCf where
 lps:SH
 pgs:SH
 la:Int
 en:Int
 cp:Int
def SCf.v (c:SCf):Value:= .agg #[.slice c.lps.A c.lps.n c.lps.c,.slice c.pgs.A c.pgs.n c.pgs.c,.int .i64 c.la,.int .i64 c.en,.int .i64 c.cp]
def SLp.v (x:SLp):Value:= .agg #[.int .i64 x.r0,.int .i64 x.r1,.slice x.ps.A x.ps.n x.ps.c,.int .i64 x.sum]
theorem execMsg_calls (w:World) (c:SCf) (x:SLp) (e:SE) (hk:e.kd=3):
  Calls Tryz.prog 84 #[c.v,x.v,e.v] w fun r w'=>r= .returned (.tuple #[.agg #[.int .i64 x.r0,.int .i64 x.r1,.slice x.ps.A x.ps.n x.ps.c,.int .i64 (IntKind.i64.wrap (x.sum+e.ar))],.slice none 0 0,.slice none 0 0,.bool false])∧Below w.heap.size w w':=by
 obtain⟨⟨lA,ln,lc⟩,⟨pA,pn,pc⟩,la,en,cp⟩:=c;obtain⟨r0,r1,⟨sA,sn,sc⟩,sum⟩:=x;obtain⟨et,⟨eA,en',ec⟩,el,ek,ep,ea⟩:=e;simp only at hk;subst hk;simp only[SCf.v,SLp.v,SE.v];go_enter Tryz.func84,Tryz.ntmps84
 go_wp2_with (fail)
 go_returns
 exact⟨by rw[i64_w],by go_grown⟩
theorem execDeadA_calls (w:World) (c:SCf) (x:SLp) (e:SE) (hk:e.kd≠3) (h:e.kd≠1∧e.kd≠2):
  Calls Tryz.prog 84 #[c.v,x.v,e.v] w fun r w'=>r= .returned (.tuple #[x.v,.slice none 0 0,.slice none 0 0,.bool false])∧Below w.heap.size w w':=by
 obtain⟨⟨lA,ln,lc⟩,⟨pA,pn,pc⟩,la,en,cp⟩:=c;obtain⟨r0,r1,⟨sA,sn,sc⟩,sum⟩:=x;obtain⟨et,⟨eA,en',ec⟩,el,ek,ep,ea⟩:=e;simp only at hk h;obtain⟨h1,h2⟩:=h;have d1:(ek==3)=false:=by simp[hk]
 have d2:(ek != 1)=true:=by simp[h1]
 have d3:(ek != 2)=true:=by simp[h2]
 simp only[SCf.v,SLp.v,SE.v];go_enter Tryz.func84,Tryz.ntmps84
 go_wp2_with (fail)
 go_returns
 exact⟨rfl,by go_grown⟩
theorem execDeadB_calls (w:World) (c:SCf) (x:SLp) (e:SE) (hk:e.kd=1∨e.kd=2) (h:e.pr<0∨(x.ps.n:Int)≤e.pr):
  Calls Tryz.prog 84 #[c.v,x.v,e.v] w fun r w'=>r= .returned (.tuple #[x.v,.slice none 0 0,.slice none 0 0,.bool false])∧Below w.heap.size w w':=by
 obtain⟨⟨lA,ln,lc⟩,⟨pA,pn,pc⟩,la,en,cp⟩:=c;obtain⟨r0,r1,⟨sA,sn,sc⟩,sum⟩:=x;obtain⟨et,⟨eA,en',ec⟩,el,ek,ep,ea⟩:=e;simp only at hk h;simp only[SCf.v,SLp.v,SE.v];rcases hk with rfl|rfl<;>rcases h with h|h
 all_goals go_enter Tryz.func84,Tryz.ntmps84
 ·have d1:decide (ep<0)=true:=decide_eq_true h
  go_wp2_with (fail)
  go_returns
  exact⟨rfl,by go_grown⟩
 ·by_cases h0:ep<0
  ·exact absurd h0 (by omega)
  ·have d1:decide (ep<0)=false:=decide_eq_false h0;have d2:decide ((sn:Int)≤ep)=true:=decide_eq_true h
   go_wp2_with (fail)
   go_returns
   exact⟨rfl,by go_grown⟩
 ·have d1:decide (ep<0)=true:=decide_eq_true h
  go_wp2_with (fail)
  go_returns
  exact⟨rfl,by go_grown⟩
 ·by_cases h0:ep<0
  ·exact absurd h0 (by omega)
  ·have d1:decide (ep<0)=false:=decide_eq_false h0;have d2:decide ((sn:Int)≤ep)=true:=decide_eq_true h
   go_wp2_with (fail)
   go_returns
   exact⟨rfl,by go_grown⟩
theorem execDeadC_calls (w:World) (c:SCf) (x:SLp) (e:SE) (hk:e.kd=1∨e.kd=2) (i:Nat) (hi:e.pr=(i:Int)) (hn:i<x.ps.n) (ps:List SP) (hp:Kd.C kPr w x.ps.A x.ps.n ps) (hd:∀p,ps[i]?=some p→p.al=false):
  Calls Tryz.prog 84 #[c.v,x.v,e.v] w fun r w'=>r= .returned (.tuple #[x.v,.slice none 0 0,.slice none 0 0,.bool false])∧Below w.heap.size w w':=by
 obtain⟨ad,p,e0,⟨h2,hx⟩,q0,q⟩:=flat_cells hp i hn;have q2:=q 2 (.bool p.al) (by decide) rfl;rw[hd p (by rw[List.getElem?_eq_getElem h2,hx])]at q2;have hlt:(ad.add (i*4)).block<w.heap.size:=World.block_lt_of_cell? w ⟨(ad.add (i*4)).block,(ad.add (i*4)).off+2,none⟩ q2;have q3:∀o1 o2 o3 o4,((((w.alloc o1).alloc o2).alloc o3).alloc o4).cell? ⟨(ad.add (i*4)).block,(ad.add (i*4)).off+2,none⟩=some (.bool false):=fun o1 o2 o3 o4=>(Below.cell (p:=⟨(ad.add (i*4)).block,(ad.add (i*4)).off+2,none⟩) (below_alloc (below_alloc (below_alloc (below_alloc (Below.refl w.heap.size w) o1) o2) o3) o4) hlt).trans q2
 obtain⟨⟨lA,ln,lc⟩,⟨pA,pn,pc⟩,la,en,cp⟩:=c;obtain⟨r0,r1,⟨sA,sn,sc⟩,sum⟩:=x;obtain⟨et,⟨eA,en',ec⟩,el,ek,ep,ea⟩:=e;simp only at hk hi hn e0;subst e0 hi;clear q q0 hx h2 hd hp;simp only[SCf.v,SLp.v,SE.v];have d1:decide ((i:Int)<0)=false:=decide_eq_false (by omega);have d2:decide ((sn:Int)≤(i:Int))=false:=decide_eq_false (by omega);have d3:decide (sn≤i)=false:=decide_eq_false (by omega);have m1:(i:Int)<(sn:Nat):=by omega
 have m0:(0:Int)≤(i:Int):=by omega
 rcases hk with rfl|rfl
 all_goals go_enter Tryz.func84,Tryz.ntmps84
 all_goals go_wp2_with (fail)
 all_goals go_returns
 all_goals exact⟨rfl,by go_grown⟩
section
structure LpAt (Mt:Nat→Prop) (w:World) (s:SLp) (l:Lp):Prop where
 r0:s.r0=l.r0
 r1:s.r1=l.r1
 ps:PcsAt Mt w s.ps l.ps
 sum:s.sum=l.sum
def exStart (lp:Lp) (e:Ev):Ex:=⟨lp,e,[],0,[],false⟩
theorem ex_start {Mt:Nat→Prop} {W w:World} {b:Nat} {kh ph:SH} {lp:Lp} {e:Ev} (hb:Below W.heap.size W w) (hbb:W.heap.size≤b) (hblk:w.heap[b]?=some (.cells (exCells kh ph .nil .nil (exStart lp e)) TExec (0,0)))
  (hk:KeyAt Mt W kh e.k) {ss:List SP} (hps:Kd.R kPr 114 w W.heap.size (fun _=>True) (.slice ph.A ph.n ph.c) ss) (hpa:All2 (PcAt Mt W) ss lp.ps):ExAt Mt W w b kh ph .nil .nil (exStart lp e):=by
 have hkp:Keep Mt W w:=Keep.of_below hb;have hlm:∀k,k<W.heap.size→Lm Mt W.heap.size w k→Mt k:=fun k hk hl=>by
  rcases hl with hl|⟨h1,_⟩
  ·exact hl
  ·omega
 exact⟨⟨hb,Rd.fresh hk hkp hlm,⟨⟨ss,hps,hpa.imp fun _ _ h=>h.fresh hkp hlm⟩⟩,⟨⟨[],Kd.R_nil _ _ _ _ _,.nil⟩⟩,⟨⟨[],Kd.R_nil _ _ _ _ _,.nil⟩⟩⟩,hbb,hblk⟩
def Ex.wake (x:Ex):Ex:=if x.ev.kd=2 then(if x.self.tm=x.ev.k then(x.setSelf {x.self with pc:=x.ev.ar}).setSelf {(x.setSelf {x.self with pc:=x.ev.ar}).self with tm:=[]}else x.setSelf {x.self with pc:=x.ev.ar})else x
def PgsAt (Mt:Nat→Prop) (w:World) (h:SH) (progs:List (List OpC)):Prop:=∃ss,Rd kH Mt w h ss∧All2 (fun s l=>Rd kOp Mt w s l) ss progs
theorem box_more {w w3:World} {k:Nat} {o:Obj} (hb:Below w.heap.size w w3) (h:w.heap[k]?=some o):w3.heap[k]?=some o:=(hb.block k (blk_lt h)).trans h
theorem box4 {w w1:World} {o1 o2 o3 o4:Obj} (hb:Below ((((w.alloc o1).alloc o2).alloc o3).alloc o4).heap.size ((((w.alloc o1).alloc o2).alloc o3).alloc o4) w1):
  (w1.heap[w.heap.size]?=some o1∧w1.heap[w.heap.size+1]?=some o2∧w1.heap[w.heap.size+1+1]?=some o3∧w1.heap[w.heap.size+1+1+1]?=some o4)∧w.heap.size+4≤w1.heap.size:=by
 have hs:((((w.alloc o1).alloc o2).alloc o3).alloc o4).heap.size=w.heap.size+4:=by simp only[World.size_alloc]
 have h1:(w.alloc o1).heap.size=w.heap.size+1:=World.size_alloc _ _;have h2:((w.alloc o1).alloc o2).heap.size=w.heap.size+1+1:=by simp only[World.size_alloc]
 have h3:(((w.alloc o1).alloc o2).alloc o3).heap.size=w.heap.size+1+1+1:=by simp only[World.size_alloc]
 have g0:(w.alloc o1).heap[w.heap.size]?=some o1:=World.alloc_heap_new _ _;have g1:((w.alloc o1).alloc o2).heap[w.heap.size+1]?=some o2:=by rw[←h1];exact World.alloc_heap_new _ _
 have g2:(((w.alloc o1).alloc o2).alloc o3).heap[w.heap.size+1+1]?=some o3:=by rw[←h2];exact World.alloc_heap_new _ _
 have g3:((((w.alloc o1).alloc o2).alloc o3).alloc o4).heap[w.heap.size+1+1+1]?=some o4:=by rw[←h3];exact World.alloc_heap_new _ _
 have b1:=below_alloc (Below.refl (w.alloc o1).heap.size (w.alloc o1)) o2;have b2:=below_alloc (Below.refl ((w.alloc o1).alloc o2).heap.size ((w.alloc o1).alloc o2)) o3;have b3:=below_alloc (Below.refl (((w.alloc o1).alloc o2).alloc o3).heap.size (((w.alloc o1).alloc o2).alloc o3)) o4;refine⟨⟨?_,?_,?_,?_⟩,by have:=hb.size;omega⟩
 ·rw[hb.block _ (by omega),b3.block _ (by omega),b2.block _ (by omega),b1.block _ (by omega)];exact g0
 ·rw[hb.block _ (by omega),b3.block _ (by omega),b2.block _ (by omega)];exact g1
 ·rw[hb.block _ (by omega),b3.block _ (by omega)];exact g2
 ·rw[hb.block _ (by omega)];exact g3
theorem OwnAt.out {α β:Type} {d:Kd α} (hE:d.E=[]) {e:TypeId} {R:(Nat→Prop)→World→α→β→Prop} {Mt:Nat→Prop} {B:Nat} {w w':World} {h:SH} {xs:List β} (r:OwnAt d e R Mt B w h xs) (hM:∀k,Mt k→k<B)
  (hb:∀(k:Nat) (cells:Array Value),w.heap[k]?=some (Obj.cells cells e (0,0))→w'.heap[k]?=w.heap[k]?) (hR:∀s x,R (Lm Mt B w) w s x→R Mt w' s x):∃ss,Rd d Mt w' h ss∧All2 (R Mt w') ss xs:=by
 obtain⟨ss,h1,h2⟩:=r.ex;have h3:Kd.R d e w' B (fun _=>True) (.slice h.A h.n h.c) ss:=R_stay h1 hE fun k hk=>by
  obtain⟨cells,hc⟩:=Kd.R_typed h1 k hk;exact hb k cells hc
 exact⟨ss,Rd.of_R hE h3 (fun k hk hm=>by have:=Kd.R_base h1 k hk;have:=hM k hm;omega),h2.imp fun s x hs=>hR s x hs⟩
structure RunTo (Mt:Nat→Prop) (w w':World) (z:Ex) (r:Ending):Prop where
 ex:∃(s:SLp) (ch xh:SH),r= .returned (.tuple #[s.v,.slice ch.A ch.n ch.c,.slice xh.A xh.n xh.c,.bool z.ov])∧LpAt Mt w' s z.lp∧EvsAt Mt w' ch z.cr∧KeysAt Mt w' xh z.ca
 below:Below w.heap.size w w'
section
variable {Mt:Nat→Prop} {W w:World} {b:Nat} {kh ph ch xh:SH} {x:Ex}
theorem ExAt.pcTo (h:ExAt Mt W w b kh ph ch xh x) (hM:∀k,Mt k→k<W.heap.size) (hh:Here x) {g i:Nat} (hA:ph.A=some ⟨g,0,none⟩) (hi:x.ev.pr.toNat=i) (hg:∃cells,w.heap[g]?=some (.cells cells 114 (0,0))) (v:Int):
  ExAt Mt W (w.setCell ⟨g,i*4+1,none⟩ (.int .i64 v)) b kh ph ch xh (x.setSelf {x.self with pc:=v})∧Still b w (w.setCell ⟨g,i*4+1,none⟩ (.int .i64 v)):=by
 have h9:=h.setSelf hM hh hA hg 1 (.int .i64 v) {x.self with pc:=v} (fun s hs hk=>⟨{s with pc:=v},rfl,⟨hs.pg,rfl,hs.al,hs.tm.lm hM hk⟩⟩) (by decide);rw[hi]at h9;exact h9
theorem ExAt.tmNil (h:ExAt Mt W w b kh ph ch xh x) (hM:∀k,Mt k→k<W.heap.size) (hh:Here x) {g i:Nat} (hA:ph.A=some ⟨g,0,none⟩) (hi:x.ev.pr.toNat=i) (hg:∃cells,w.heap[g]?=some (.cells cells 114 (0,0))):
  ExAt Mt W (w.setCell ⟨g,i*4+3,none⟩ (.slice none 0 0)) b kh ph ch xh (x.setSelf {x.self with tm:=[]})∧Still b w (w.setCell ⟨g,i*4+3,none⟩ (.slice none 0 0)):=by
 have h9:=h.setSelf hM hh hA hg 3 (.slice none 0 0) {x.self with tm:=[]} (fun s hs hk=>⟨{s with tm:= .nil},rfl,⟨hs.pg,hs.pc,hs.al,Rd.nil _ _ _⟩⟩) (by decide);rw[hi]at h9;exact h9
theorem ExAt.spotT (h:ExAt Mt W w b kh ph ch xh x) (hh:Here x) {g i:Nat} (hA:ph.A=some ⟨g,0,none⟩) (hi:x.ev.pr.toNat=i):∃tm:SH,w.cell? ⟨g,i*4+3,none⟩=some (.slice tm.A tm.n tm.c)∧KeyAt (Lm Mt W.heap.size w) w tm x.self.tm:=by
 have hself:x.self=x.lp.ps[x.ev.pr.toNat]'hh.hi:=by simp[Ex.self,List.getD_eq_getElem?_getD,List.getElem?_eq_getElem hh.hi]
 obtain⟨g',s,hA',hB,hgc,hpc,z0,z1,z2,z3,zf⟩:=h.p.ps.get x.ev.pr.toNat hh.hi;rw[←hself]at hpc;rw[hA]at hA'
 injection hA' with hA'
 injection hA' with hA'
 subst hA';rw[hi]at z3;exact⟨s.tm,z3,hpc.tm⟩
theorem ExAt.ret (h:ExAt Mt W w b kh ph ch xh x) (hM:∀k,Mt k→k<W.heap.size) {q:Nat} (hq:W.heap.size≤q) {arr:Array Value} (hblk:w.heap[q]?=some (.cells arr 91 (0,0))) {w':World} (hg:w.grownBy w' (some q)) {s:SLp} (hs0:s.r0=x.lp.r0) (hs1:s.r1=x.lp.r1) (hs2:s.ps=ph) (hs3:s.sum=x.lp.sum):
  RunTo Mt W w' x (.returned (.tuple #[s.v,.slice ch.A ch.n ch.c,.slice xh.A xh.n xh.c,.bool x.ov])):=by
 have hk:Keep (Lm Mt W.heap.size w) w w':=Keep.grown_lm hg hq hblk (by decide);have hb:∀(k:Nat) (cells:Array Value) (t:TypeId),w.heap[k]?=some (Obj.cells cells t (0,0))→t≠91→w'.heap[k]?=w.heap[k]?:=fun k cells t hc ht=>hg.block k (blk_lt hc) fun e=>by
  cases e;rw[hblk]at hc;cases hc;exact ht rfl
 have hm:∀k,k<w.heap.size→Mt k→Lm Mt W.heap.size w k:=fun k _ h=> .inl h;have hw:Below W.heap.size W w':=h.p.below.trans ⟨hg.os,hg.tape,hg.output,hg.size,fun k hk=>hg.block k (Nat.lt_of_lt_of_le hk h.p.below.size) fun e=>by cases e;omega⟩;refine⟨⟨s,ch,xh,rfl,⟨hs0,hs1,?_,hs3⟩,?_,?_⟩,hw⟩
 ·rw[hs2];exact h.p.ps.out rfl hM (fun k cells hc=>hb k cells _ hc (by decide)) (fun s x hs=>hs.fresh hk hm)
 ·exact h.p.cr.out rfl hM (fun k cells hc=>hb k cells _ hc (by decide)) (fun s x hs=>hs.fresh hk hm)
 ·exact h.p.ca.out rfl hM (fun k cells hc=>hb k cells _ hc (by decide)) (fun s x hs=>Rd.fresh hs hk hm)
end
end
end Go.Proofs.YtfnimdhghglanaaGreat.Hand
end
