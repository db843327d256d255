/- TopWindows holds: every window starts at a committed event and commits only events before its horizon, the windows partition the committed events by time, and in each window the workers process every logical process once. No condition. (Last part of 27.) -/
import Derived.Test.YtfnimdhghglanaaGreatQwAZ
import Derived.Test.YtfnimdhghglanaaGreatRows
import Derived.WalkKit
import Derived.ProofKit
import Derived.OpenShut
import Derived.ShutString
import Derived.ChangeOld
import Derived.Below
import Derived.SizedLaws
import Derived.WideShapes
set_option maxRecDepth 100000
set_option maxHeartbeats 8000000
set_option linter.unusedVariables false
set_option linter.unusedSimpArgs false
section
namespace Go.Proofs.YtfnimdhghglanaaGreat.Hand
open Go
section
structure ExT (la:Int) (c n0:Nat) (e:Ev) (T:List (List Int)) (x:Ex):Prop where
 old:∀k∈T,k=e.k∨k∈x.lp.tms++x.ca
 new:∀f∈x.cr,f.kd=2→f.k∈x.lp.tms++x.ca
 cnt:x.cr.countP (fun f=>decide (f.kd=1))+n0≤x.lp.ps.length+c
 up:n0≤x.lp.ps.length
 kd:∀f∈x.cr,f.kd=1∨f.kd=2∨(f.kd=3∧e.t+la≤f.t)
theorem mem_set_or {α:Type} {l:List α} {k:α} (h:k∈l) (i:Nat) (v:α):k∈l.set i v∨l[i]?=some k:=by
 obtain⟨j,hj⟩:=List.mem_iff_getElem?.1 h;by_cases e:i=j
 ·subst e;exact .inr hj
 ·exact .inl (List.mem_iff_getElem?.2 ⟨j,by rw[List.getElem?_set_ne e];exact hj⟩)
theorem setSelf_tms (x:Ex) (p:Pc):(x.setSelf p).lp.tms=x.lp.tms.set x.ev.pr.toNat p.tm:=by simp[Ex.setSelf,Lp.tms]
theorem self_tm_at {x:Ex} (h:Here x):x.lp.tms[x.ev.pr.toNat]?=some x.self.tm:=by
 have:=h.hi;simp[Lp.tms,Ex.self,List.getD_eq_getElem?_getD,this]
theorem setSelf_mem {x:Ex} (h:Here x) (p:Pc) {k:List Int} (hk:k∈x.lp.tms++x.ca):k∈(x.setSelf p).lp.tms++(x.setSelf p).ca∨k=x.self.tm:=by
 rcases List.mem_append.1 hk with h1|h1
 ·rw[setSelf_tms];rcases mem_set_or h1 x.ev.pr.toNat p.tm with h2|h2
  ·exact .inl (List.mem_append.2 (.inl h2))
  ·rw[self_tm_at h]at h2;cases h2;exact .inr rfl
 ·exact .inl (List.mem_append.2 (.inr h1))
theorem setSelf_has {x:Ex} (h:Here x) (p:Pc):p.tm∈(x.setSelf p).lp.tms++(x.setSelf p).ca:=by
 rw[setSelf_tms];refine List.mem_append.2 (.inl (List.mem_iff_getElem?.2 ⟨x.ev.pr.toNat,?_⟩));rw[List.getElem?_set_self]
 simpa [Lp.tms]using h.hi
section
variable {N P:Nat} {la:Int} {T0 T:List (List Int)} {c n0:Nat} {e:Ev} {x:Ex}
theorem ExT.mono (h:ExT la c n0 e T x) {d:Nat} (hd:c≤d):ExT la d n0 e T x:=⟨h.old,h.new,by have:=h.cnt;omega,h.up,h.kd⟩
theorem ExT.setSelf (h:ExT la c n0 e T x) (hv:ExV N P la T0 e x) (hT:∀k∈T,k≠[]) (p:Pc) (hp:p.tm=x.self.tm∨x.self.tm=[]∨x.self.tm=e.k∨x.self.tm∈x.ca):ExT la c n0 e T (x.setSelf p):=by
 have hm:∀k∈x.lp.tms++x.ca,k≠[]→k=e.k∨k∈(x.setSelf p).lp.tms++(x.setSelf p).ca:=fun k hk hn=>by
  rcases setSelf_mem hv.here p hk with h1|h1
  ·exact .inr h1
  ·rcases hp with h2|h2|h2|h2
   ·rw[h1,←h2];exact .inr (setSelf_has hv.here p)
   ·exact absurd (h1.trans h2) hn
   ·exact .inl (h1.trans h2)
   ·rw[h1];exact .inr (List.mem_append.2 (.inr h2))
 refine⟨fun k hk=> ?_,fun f hf hk=> ?_,by simpa [Ex.setSelf]using h.cnt,by simpa [Ex.setSelf]using h.up,h.kd⟩
 ·rcases h.old k hk with h1|h1
  ·exact .inl h1
  ·exact hm k h1 (hT k hk)
 ·obtain⟨j,_,hj⟩:=hv.cr f hf;rcases hm f.k (h.new f hf hk) (by rw[hj];simp)with h1|h1
  ·rw[hj]at h1;simp at h1
  ·exact h1
theorem made_t (hv:ExV N P la T0 e x) (he:0≤e.t∧e.t≤1152921504606846976) (d:Int) (e0:Ev) (hd:1≤d∧d≤1099511627776):(x.made d e0).t=e.t+d:=by
 have:(x.made d e0).t=IntKind.i64.wrap (x.ev.t+d):=rfl;rw[this,hv.ev,IntWalk.i64_in _ (by omega)]
theorem ExT.create (h:ExT la c n0 e T x) (hv:ExV N P la T0 e x) (he:0≤e.t∧e.t≤1152921504606846976) (d:Int) (e0:Ev) (hd:1≤d∧d≤1099511627776) {c':Nat} (hk:(e0.kd=1∧c'=c+1)∨(e0.kd=3∧la≤d∧c'=c)):ExT la c' n0 e T (x.create d e0):=by
 have ht:=made_t hv he d e0 hd;have hkd:(x.made d e0).kd=e0.kd:=rfl;have hc:=h.cnt;unfold Ex.create
 split
 ·exact⟨h.old,h.new,by simp only;omega,h.up,h.kd⟩
 ·refine⟨h.old,fun f hf h2=> ?_,?_,h.up,fun f hf=> ?_⟩
  ·rcases List.mem_append.1 hf with h3|h3
   ·exact h.new f h3 h2
   ·rw[List.mem_singleton]at h3;rw[h3,hkd]at h2;omega
  ·simp only[List.countP_append,List.countP_singleton,hkd,decide_eq_true_eq];rcases hk with ⟨h4,h5⟩|⟨h4,_,h5⟩
   ·rw[if_pos h4];omega
   ·rw[if_neg (by omega)];omega
  ·rcases List.mem_append.1 hf with h3|h3
   ·exact h.kd f h3
   ·rw[List.mem_singleton]at h3;subst h3;rw[hkd,ht];rcases hk with ⟨h4,_⟩|⟨h4,h5,_⟩
    ·exact .inl h4
    ·exact .inr (.inr ⟨h4,by omega⟩)
theorem ExT.stop (h:ExT la c n0 e T x) (hv:ExV N P la T0 e x) (hT:∀k∈T,k≠[]):ExT la c n0 e T x.stop∧x.stop.self.tm=[]:=by
 unfold Ex.stop
 split
 ·rename_i h1;exact⟨h,h1⟩
 ·have hsub:∀k∈x.lp.tms++x.ca,k∈x.lp.tms++(x.ca++[x.self.tm]):=fun k hk=>by
   rcases List.mem_append.1 hk with h1|h1
   ·exact List.mem_append.2 (.inl h1)
   ·exact List.mem_append.2 (.inr (List.mem_append.2 (.inl h1)))
  have h':ExT la c n0 e T {x with ca:=x.ca++[x.self.tm]}:=⟨fun k hk=>(h.old k hk).imp id (hsub k),fun f hf hk=>hsub _ (h.new f hf hk),h.cnt,h.up,h.kd⟩;have hv':ExV N P la (x.self.tm::T0) e {x with ca:=x.ca++[x.self.tm]}:=by
   refine⟨hv.ev,hv.lp,⟨hv.here.lo,hv.here.hi⟩,hv.cr,hv.nd,fun k hk=> ?_,fun f hf hk=> ?_,hv.time,hv.far,hv.rng,hv.ar⟩
   ·rcases List.mem_append.1 hk with h1|h1
    ·exact(hv.tm k (List.mem_append.2 (.inl h1))).imp id (fun h=>h.imp (List.mem_cons_of_mem _) id)
    ·rcases List.mem_append.1 h1 with h1|h1
     ·exact(hv.tm k (List.mem_append.2 (.inr h1))).imp id (fun h=>h.imp (List.mem_cons_of_mem _) id)
     ·rw[List.mem_singleton]at h1;exact .inr (.inl (h1▸List.mem_cons_self))
   ·refine hv.own f hf ?_;rcases List.mem_append.1 hk with h1|h1
    ·exact List.mem_append.2 (.inl h1)
    ·rcases List.mem_append.1 h1 with h1|h1
     ·exact List.mem_append.2 (.inr h1)
     ·rw[List.mem_singleton]at h1;rw[h1];exact List.mem_append.2 (.inl hv.self_tm)
  refine⟨h'.setSelf hv' hT _ (.inr (.inr (.inr ?_))),?_⟩
  ·exact List.mem_append.2 (.inr (List.mem_singleton.2 rfl))
  ·have:=hv.here.hi;simp[Ex.self,Ex.setSelf,List.getD_eq_getElem?_getD,this]
theorem ExT.timer (h:ExT la c n0 e T x) (hv:ExV N P la T0 e x) (hT:∀k∈T,k≠[]) (a v:Int):ExT la c n0 e T (x.timer a v):=by
 obtain⟨h1,h2⟩:=h.stop hv hT;have hv1:=hv.stop;unfold Ex.timer;obtain⟨y,hy⟩:∃y,x.stop=y:=⟨_,rfl⟩;rw[hy]at h1 h2 hv1 ⊢;obtain⟨z,hz⟩:∃z,y.create a ⟨0,[],y.ev.lp,2,y.ev.pr,v⟩=z:=⟨_,rfl⟩;have hzs:z.lp=y.lp∧z.ev=y.ev∧z.ca=y.ca∧(z.cr=y.cr∨z.cr=y.cr++[y.made a ⟨0,[],y.ev.lp,2,y.ev.pr,v⟩]):=by
  rw[←hz];unfold Ex.create
  split
  ·exact⟨rfl,rfl,rfl,.inl rfl⟩
  ·exact⟨rfl,rfl,rfl,.inr rfl⟩
 rw[hz];obtain⟨z1,z2,z3,z4⟩:=hzs;have hself:z.self=y.self:=by unfold Ex.self;rw[z1,z2]
 have hhz:Here z:=⟨by rw[z2];exact hv1.here.lo,by rw[z1,z2];exact hv1.here.hi⟩;have hm:∀k∈y.lp.tms++y.ca,k≠[]→k∈(z.setSelf {z.self with tm:=y.ev.k++[(y.n:Int)]}).lp.tms++(z.setSelf {z.self with tm:=y.ev.k++[(y.n:Int)]}).ca:=fun k hk hn=>by
  rw[←z1,←z3]at hk;rcases setSelf_mem hhz {z.self with tm:=y.ev.k++[(y.n:Int)]} hk with h3|h3
  ·exact h3
  ·rw[hself,h2]at h3;exact absurd h3 hn
 have hcr:∀f∈z.cr,f∈y.cr∨f=y.made a ⟨0,[],y.ev.lp,2,y.ev.pr,v⟩:=fun f hf=>by
  rcases z4 with h3|h3
  ·exact .inl (h3▸hf)
  ·rw[h3]at hf;rcases List.mem_append.1 hf with h4|h4
   ·exact .inl h4
   ·exact .inr (List.mem_singleton.1 h4)
 refine⟨fun k hk=> ?_,fun f hf hk=> ?_,?_,?_,fun f hf=> ?_⟩
 ·rcases h1.old k hk with h3|h3
  ·exact .inl h3
  ·exact .inr (hm k h3 (hT k hk))
 ·rcases hcr f hf with h3|h3
  ·obtain⟨j,_,hj⟩:=hv1.cr f h3;exact hm _ (h1.new f h3 hk) (by rw[hj];simp)
  ·rw[h3];exact setSelf_has hhz {z.self with tm:=y.ev.k++[(y.n:Int)]}
 ·have h3:=h1.cnt;have h4:(z.setSelf {z.self with tm:=y.ev.k++[(y.n:Int)]}).lp.ps.length=y.lp.ps.length:=by simp[Ex.setSelf,z1]
  rw[h4];show z.cr.countP _+n0≤_;rcases z4 with h5|h5
  ·rw[h5];exact h3
  ·rw[h5,List.countP_append,List.countP_singleton];simp only[Ex.made,show¬((2:Int)=1)by omega,decide_false,Bool.false_eq_true,if_false,Nat.add_zero];exact h3
 ·have:=h1.up
  simpa [Ex.setSelf,z1]using this
 ·rcases hcr f hf with h3|h3
  ·exact h1.kd f h3
  ·subst h3;exact .inr (.inl rfl)
theorem ExT.spawn (h:ExT la c n0 e T x) (hv:ExV N P la T0 e x) (hT:∀k∈T0,∀j:Int,k≠e.k++[j]) (he:0≤e.t∧e.t≤1152921504606846976) (a d:Int) (ha:0≤a∧a<P) (hd:1≤d∧d≤1099511627776):ExT la c n0 e T (x.spawn a d):=by
 unfold Ex.spawn
 split
 ·rename_i hn;have hsub:∀k∈x.lp.tms++x.ca,k∈(x.lp.ps++[(⟨a,0,true,[]⟩:Pc)]).map Pc.tm++x.ca:=fun k hk=>by
   rcases List.mem_append.1 hk with h1|h1
   ·rw[List.map_append];exact List.mem_append.2 (.inl (List.mem_append.2 (.inl h1)))
   ·exact List.mem_append.2 (.inr h1)
  have ht:IntKind.i64.wrap (x.ev.t+d)=e.t+d:=by rw[hv.ev,IntWalk.i64_in _ (by omega)]
  have hc:=h.cnt;have hu:=h.up;unfold Ex.create
  split
  ·exact⟨fun k hk=>(h.old k hk).imp id (hsub k),fun f hf hk=>hsub _ (h.new f hf hk),by simp only[List.length_append,List.length_cons,List.length_nil];omega,by simp only[List.length_append,List.length_cons,List.length_nil];omega,h.kd⟩
  ·refine⟨fun k hk=>(h.old k hk).imp id (hsub k),fun f hf hk=> ?_,?_,by simp only[List.length_append,List.length_cons,List.length_nil];omega,fun f hf=> ?_⟩
   ·rcases List.mem_append.1 hf with h3|h3
    ·exact hsub _ (h.new f h3 hk)
    ·rw[List.mem_singleton]at h3;rw[h3]at hk;simp[Ex.made]at hk
   ·simp only[List.countP_append,List.countP_singleton,List.length_append,List.length_cons,List.length_nil]
    split<;>omega
   ·rcases List.mem_append.1 hf with h3|h3
    ·exact h.kd f h3
    ·rw[List.mem_singleton]at h3;rw[h3];exact .inl rfl
 ·exact h
theorem ExT.step (h:ExT la 0 n0 e T x) (hv:ExV N P la T0 e x) (hT0:∀k∈T0,∀j:Int,k≠e.k++[j]) (hT:∀k∈T,k≠[]) (he:0≤e.t∧e.t≤1152921504606846976) {o:OpC} (ho:OpV N P la o):ExT la 1 n0 e T (x.step o).1∧((x.step o).2≠1→ExT la 0 n0 e T (x.step o).1):=by
 have both:∀{y:Ex},ExT la 0 n0 e T y→∀s:Int,ExT la 1 n0 e T (y,s).1∧((y,s).2≠1→ExT la 0 n0 e T (y,s).1):=fun hy s=>⟨hy.mono (by omega),fun _=>hy⟩;unfold Ex.step
 repeat' split
 ·rename_i hc;exact⟨h.create hv he _ _ (ho.hold hc) (.inl ⟨rfl,rfl⟩),fun h=>absurd rfl h⟩
 ·rename_i _ hc;obtain⟨h1,h2,h3,h4,h5⟩:=ho.send hc;exact both (h.create hv he _ _ ⟨h4,h5⟩ (.inr ⟨rfl,h3,rfl⟩)) _
 ·exact both (h.timer hv hT _ _) _
 ·exact both (h.stop hv hT).1 _
 ·rename_i _ _ _ _ hc;obtain⟨h1,h2,h3,h4⟩:=ho.spawn hc;exact both (h.spawn hv hT0 he _ _ ⟨h1,h2⟩ ⟨h3,h4⟩) _
 ·refine both ?_ _;unfold Ex.add
  split<;>exact⟨h.old,h.new,h.cnt,h.up,h.kd⟩
 ·refine both ?_ _;unfold Ex.less
  split
  ·exact h.setSelf hv hT _ (.inl rfl)
  ·exact h
 ·exact both h _
theorem ExT.act (hT0:∀k∈T0,∀j:Int,k≠e.k++[j]) (hT:∀k∈T,k≠[]) (he:0≤e.t∧e.t≤1152921504606846976) (hl:0≤e.lp∧e.lp<N) {l:List OpC} (ho:∀o∈l,OpV N P la o):∀(n:Nat) {x:Ex},ExT la 0 n0 e T x→ExV N P la T0 e x→ExT la 1 n0 e T (x.act l n)
 |0,x,h,hv=>(h.mono (by omega)).setSelf hv hT _ (.inl rfl)
 |n+1,x,h,hv=>by
  unfold Ex.act
  split
  ·exact(h.mono (by omega)).setSelf hv hT _ (.inl rfl)
  ·rename_i o ho2;have hn:ExT la 0 n0 e T x.next:=h.setSelf hv hT _ (.inl rfl);have ho3:=ho o (List.mem_of_getElem? ho2);have h2:=hn.step hv.next hT0 hT he ho3;have hv2:=hv.next.step hT0 he hl ho3
   split
   ·exact h2.1
   ·rename_i hne
    split
    ·exact h2.1.setSelf hv2 hT _ (.inl rfl)
    ·exact ExT.act hT0 hT he hl ho n (h2.2 hne) hv2
theorem ExT.wake (h:ExT la c n0 e T x) (hv:ExV N P la T0 e x) (hT:∀k∈T,k≠[]) (har:e.kd=2→0≤e.ar):ExT la c n0 e T x.wake:=by
 unfold Ex.wake
 split
 ·rename_i hk;have har2:0≤x.ev.ar:=by rw[hv.ev]at hk ⊢;exact har hk
  have h1:ExT la c n0 e T (x.setSelf {x.self with pc:=x.ev.ar}):=h.setSelf hv hT _ (.inl rfl);have hv1:ExV N P la T0 e (x.setSelf {x.self with pc:=x.ev.ar}):=hv.setSelf _ ⟨har2,hv.self_ok.2⟩ (.inr (.inl hv.self_tm))
  split
  ·rename_i hs;refine h1.setSelf hv1 hT _ (.inr (.inr (.inl ?_)));have:=hv.here.hi;rw[←hv.ev,←hs];simp[Ex.self,Ex.setSelf,List.getD_eq_getElem?_getD,this]
  ·exact h1
 ·exact h
end
structure ExecT (la:Int) (l:Lp) (e:Ev) (T:List (List Int)) (r:Lp×List Ev×List (List Int)×Bool):Prop where
 old:∀k∈T,k=e.k∨k∈r.1.tms++r.2.2.1
 new:∀f∈r.2.1,f.kd=2→f.k∈r.1.tms++r.2.2.1
 cnt:r.2.1.countP (fun f=>decide (f.kd=1))+l.ps.length≤r.1.ps.length+1
 up:l.ps.length≤r.1.ps.length
 kd:∀f∈r.2.1,f.kd=1∨f.kd=2∨(f.kd=3∧e.t+la≤f.t)
theorem exec_tms {N P:Nat} {la:Int} {pgs:List (List OpC)} {l:Lp} {e:Ev} {T:List (List Int)} (hp:∀p∈pgs,∀o∈p,OpV N P la o) (hl:LpOk P l) (hT0:∀k∈l.tms,∀j:Int,k≠e.k++[j])
  (hT:∀k∈T,k≠[]) (hsub:∀k∈T,k∈l.tms) (he:0≤e.t∧e.t≤1152921504606846976) (hr:0≤e.lp∧e.lp<N) (ha:e.kd=2→0≤e.ar):ExecT la l e T (exec pgs l e):=by
 have none:∀(l':Lp) (b:Bool),l'.ps=l.ps→ExecT la l e T (l',[],[],b):=fun l' b h1=>
  ⟨fun k hk=> .inr (List.mem_append.2 (.inl (by have:=hsub k hk;unfold Lp.tms at this ⊢;simp only;rw[h1];exact this))),(fun _ h=>by cases h),by simp[h1],by simp[h1],(fun _ h=>by cases h)⟩
 unfold exec
 split
 ·exact none _ _ rfl
 ·split
  ·rename_i hw;obtain⟨_,h0,h1,_⟩:=wakes_of hw;have hpg:∀y:Ex,∀o∈pgs.getD y.self.pg.toNat [],OpV N P la o:=fun y o ho=>by
    rw[List.getD_eq_getElem?_getD]at ho;cases hg:pgs[y.self.pg.toNat]?with
    |none=>rw[hg]at ho;cases ho
    |some p=>
     rw[hg]at ho;exact hp p (List.mem_of_getElem? hg) o ho
   have hs:ExV N P la l.tms e (exStart l e):=
    ⟨rfl,hl,⟨h0,h1⟩,(fun _ h=>by cases h),by simp[KeysD,exStart],(fun k hk=> .inr (.inl (by simpa [exStart]using hk))),(fun _ h=>by cases h),(fun _ h=>by cases h),(fun _ h=>by cases h),(fun _ h=>by cases h),(fun _ h=>by cases h)⟩
   have hst:ExT la 0 l.ps.length e T (exStart l e):=⟨fun k hk=> .inr (List.mem_append.2 (.inl (hsub k hk))),(fun _ h=>by cases h),by simp[exStart],by simp[exStart],(fun _ h=>by cases h)⟩;have h2:ExT la 1 l.ps.length e T (runEx pgs l e):=ExT.act hT0 hT he hr (hpg _) 16 (hst.wake hs hT ha) (hs.wake ha);exact⟨h2.old,h2.new,h2.cnt,h2.up,h2.kd⟩
  ·exact none _ _ rfl
def TInv (o:Oc):Prop:=∀f∈o.box,f.kd=2→f.k∈o.lp.tms
def tri:Nat→Nat
 |0=>0
 |n+1=>tri n+(n+1)
theorem tri_le {a b:Nat} (h:a≤b):tri a≤tri b:=by
 induction h with
 |refl=>exact Nat.le_refl _
 |step _ ih=>exact Nat.le_trans ih (Nat.le_add_right _ _)
def worth (hz:Int) (l:List Ev):Nat:=(l.map fun f=>if f.kd=2 then 0 else(hz-f.t).toNat).sum
def due (hz:Int) (d:Nat) (l:List Ev):Nat:=l.countP fun f=>decide (f.kd=2)&&decide (f.t+d≤hz)
def psi (hz:Int) (d:Nat) (o:Oc):Nat:=worth hz o.box+due hz d o.box*d+8*tri (d-1)+(8-o.lp.ps.length)*(d-1)
theorem worth_append (hz:Int) (a b:List Ev):worth hz (a++b)=worth hz a+worth hz b:=by simp[worth]
theorem worth_perm {hz:Int} {a b:List Ev} (h:a.Perm b):worth hz a=worth hz b:=(h.map _).sum_nat
theorem worth_filter (hz:Int) (p:Ev→Bool):∀l:List Ev,worth hz (l.filter p)≤worth hz l
 | []=>Nat.le_refl _
 |f::l=>by
  have:=worth_filter hz p l;by_cases h:p f=true
  ·rw[List.filter_cons_of_pos h];simp only[worth,List.map_cons,List.sum_cons]at this ⊢;omega
  ·rw[List.filter_cons_of_neg h];simp only[worth,List.map_cons,List.sum_cons]at this ⊢;omega
theorem worth_le (hz:Int) (m:Nat):∀l:List Ev,(∀f∈l,f.kd≠2→(hz-f.t).toNat≤m)→worth hz l≤m*l.length
 | [],_=>by simp[worth]
 |f::l,h=>by
  have h1:=worth_le hz m l fun g hg=>h g (List.mem_cons_of_mem _ hg);have h2:=h f List.mem_cons_self;simp only[worth,List.map_cons,List.sum_cons,List.length_cons,Nat.mul_succ]at h1 ⊢
  split
  ·omega
  ·have:=h2 (by assumption);omega
theorem worth_one (hz:Int) (m:Nat):∀l:List Ev,(∀f∈l,f.kd=1→(hz-f.t).toNat≤m)→(∀f∈l,f.kd=1∨f.kd=2∨(hz-f.t).toNat=0)→worth hz l≤l.countP (fun f=>decide (f.kd=1))*m
 | [],_,_=>by simp[worth]
 |f::l,h,h0=>by
  have h1:=worth_one hz m l (fun g hg=>h g (List.mem_cons_of_mem _ hg)) (fun g hg=>h0 g (List.mem_cons_of_mem _ hg));have h2:=h f List.mem_cons_self;have h3:=h0 f List.mem_cons_self;simp only[worth,List.map_cons,List.sum_cons,List.countP_cons,decide_eq_true_eq]at h1 ⊢;by_cases e1:f.kd=1
  ·have:=h2 e1;rw[if_neg (by omega),if_pos e1,Nat.add_mul];omega
  ·rw[if_neg e1];simp only[Nat.add_zero]
   split
   ·omega
   ·rcases h3 with h3|h3|h3
    ·exact absurd h3 e1
    ·contradiction
    ·omega
theorem due_le (hz:Int) (d:Nat) (l:List Ev):due hz d l≤l.countP fun f=>decide (f.kd=2):=
 List.countP_mono_left fun f _ h=>by
  simp only[Bool.and_eq_true]at h;exact h.1
theorem nodup_sub_len {α:Type} [BEq α] [LawfulBEq α]:∀(l m:List α),l.Nodup→(∀x∈l,x∈m)→l.length≤m.length
 | [],_,_,_=>Nat.zero_le _
 |x::l,m,h,hs=>by
  have h1:=List.nodup_cons.1 h;have hx:=hs x List.mem_cons_self;have h2:=nodup_sub_len l (m.erase x) h1.2 fun y hy=>(List.mem_erase_of_ne (fun e=>h1.1 (by rw[←e];exact hy))).2 (hs y (List.mem_cons_of_mem _ hy));have h3:=List.length_erase_of_mem hx;have h4:=List.length_pos_of_mem hx;simp only[List.length_cons];omega
theorem timers_le {o:Oc} (h:TInv o) (hk:KeysD o.box):o.box.countP (fun f=>decide (f.kd=2))≤o.lp.ps.length:=by
 rw[List.countP_eq_length_filter];have h1:KeysD (o.box.filter fun f=>decide (f.kd=2)):=hk.sub List.filter_sublist;have h2:=nodup_sub_len _ o.lp.tms h1 fun k hk2=>by
  obtain⟨f,hf,rfl⟩:=List.mem_map.1 hk2;obtain⟨h3,h4⟩:=List.mem_filter.1 hf;exact h f h3 (by simpa using h4)
 simpa [Lp.tms]using h2
theorem psi_on {hz:Int} {d d':Nat} {o:Oc} (h:TInv o) (hk:KeysD o.box) (h8:o.lp.ps.length≤8) (hd:d'≤d) (h1:1≤d'):psi hz d' o≤psi hz d o:=by
 by_cases e:d'=d
 ·subst e;exact Nat.le_refl _
 ·have h2:=due_le hz d' o.box;have h3:=timers_le h hk;have h4:due hz d' o.box*d'≤8*d':=Nat.mul_le_mul_right _ (by omega);have h5:tri d'≤tri (d-1):=tri_le (by omega);have h6:tri d'=tri (d'-1)+d':=by
   obtain⟨m,rfl⟩:∃m,d'=m+1:=⟨d'-1,by omega⟩;rfl
  have h7:(8-o.lp.ps.length)*(d'-1)≤(8-o.lp.ps.length)*(d-1):=Nat.mul_le_mul_left _ (by omega);unfold psi;omega
section
variable {N P:Nat} {la:Int} {pgs:List (List OpC)} {C:List (List Int)} {outs:List Oc} {i:Nat} {o:Oc} {e:Ev} {b:List Ev}
theorem psi_step (h:GInv N P C outs) (hP:pgs.length=P) (hp:∀p∈pgs,∀o∈p,OpV N P la o) (ho:outs[i]?=some o) (hb:o.box=e::b) (hC:C.length≤800000) (ht:TInv o) (hz:Int) (d:Nat) (hd:e.t+d=hz) (h1:1≤d) (hla:hz≤e.t+la):
  TInv (Oc.exec pgs {o with box:=b} e)∧psi hz d (Oc.exec pgs {o with box:=b} e)+1≤psi hz d o∧(∀f∈(Oc.exec pgs {o with box:=b} e).box,f∈o.box∨e.t<f.t)∧(∀f∈(Oc.exec pgs {o with box:=b} e).sent,f∈o.sent∨e.t+la≤f.t):=by
 have st:=h.step hP hp ho hb hC;have hm:o∈outs:=List.mem_of_getElem? ho;have hpool:∀f∈o.box,f∈pool outs:=fun f hf=>mem_pool.2 ⟨i,o,ho,.inl hf⟩;have heb:e∈o.box:=hb▸List.mem_cons_self;have hbb:∀f∈b,f∈o.box:=fun f hf=>hb▸List.mem_cons_of_mem _ hf;have hkd:KeysD o.box:=h.k.nd.sub (by
  refine List.Sublist.trans (List.sublist_append_left o.box o.sent) ?_;unfold pool;rw[List.flatMap_def];exact List.sublist_flatten_of_mem (List.mem_map_of_mem hm))
 have hkb:∀f∈b,f.k≠e.k:=fun f hf hfe=>by
  rw[hb]at hkd;exact(List.nodup_cons.1 hkd).1 (hfe▸List.mem_map_of_mem (f:=Ev.k) hf)
 have hlo:o.lp∈outs.map Oc.lp:=List.mem_map_of_mem hm;obtain⟨hk2,_⟩:=h.k.len e (hpool e heb);have hT0:∀k∈o.lp.tms,∀j:Int,k≠e.k++[j]:=fun k hk j e1=>by
  rcases h.k.tm o.lp hlo k hk with h2|⟨_,h2,_⟩
  ·rw[h2]at e1;simp at e1
  ·rw[e1,drop_child]at h2;exact h.k.new e (hpool e heb) h2
 have xt:=exec_tms (la:=la) (T:=(b.filter fun f=>decide (f.kd=2)).map Ev.k) hp (h.k.lps o.lp hlo) hT0 (fun k hk=>by
  obtain⟨f,hf,rfl⟩:=List.mem_map.1 hk;have:=(h.k.len f (hpool f (hbb f (List.mem_filter.1 hf).1))).1;intro e1;rw[e1]at this;simp at this) (fun k hk=>by
  obtain⟨f,hf,rfl⟩:=List.mem_map.1 hk;obtain⟨h2,h3⟩:=List.mem_filter.1 hf;exact ht f (hbb f h2) (by simpa using h3)) (h.k.time e (hpool e heb)) (h.k.rng e (hpool e heb)) (h.k.ar e (hpool e heb))
 have hbox:=st.box;have hlp:=st.lp;have hsent:=st.sent;have htime:=st.ex.time;have hfar:=st.ex.far;have hl8:=st.ex.lp.n;generalize Oc.exec pgs {o with box:=b} e=o' at hbox hlp hsent ⊢;generalize exec pgs o.lp e=r at hbox hlp hsent xt htime hfar hl8;have hin:∀f∈o'.box,f.k∉r.2.2.1∧(f∈b∨(f∈r.2.1∧f.lp=e.lp)):=fun f hf=>by
  obtain⟨h2,h3⟩:=List.mem_filter.1 (hbox.subset hf);refine⟨by simpa using h3,?_⟩;rcases List.mem_append.1 h2 with h4|h4
  ·exact .inl h4
  ·exact .inr ⟨(List.mem_filter.1 h4).1,by simpa using (List.mem_filter.1 h4).2⟩
 refine⟨fun f hf hk=> ?_,?_,fun f hf=> ?_,fun f hf=> ?_⟩
 ·obtain⟨h2,h3⟩:=hin f hf;have h4:f.k∈r.1.tms++r.2.2.1:=by
   rcases h3 with h3|⟨h3,_⟩
   ·rcases xt.old f.k (List.mem_map_of_mem (List.mem_filter.2 ⟨h3,by simpa using hk⟩))with h5|h5
    ·exact absurd h5 (hkb f h3)
    ·exact h5
   ·exact xt.new f h3 hk
  rw[hlp];rcases List.mem_append.1 h4 with h5|h5
  ·exact h5
  ·exact absurd h5 h2
 ·have w1:worth hz o'.box≤worth hz b+worth hz (r.2.1.filter fun f=>decide (f.lp=e.lp)):=by
   rw[worth_perm hbox,←worth_append];exact worth_filter _ _ _
  have w2:worth hz (r.2.1.filter fun f=>decide (f.lp=e.lp))≤r.2.1.countP (fun f=>decide (f.kd=1))*(d-1):=by
   refine Nat.le_trans (worth_filter _ _ _) (worth_one hz (d-1) _ (fun f hf _=> ?_) (fun f hf=> ?_))
   ·have:=(htime f hf).1;omega
   ·rcases xt.kd f hf with h2|h2|⟨_,h2⟩
    ·exact .inl h2
    ·exact .inr (.inl h2)
    ·exact .inr (.inr (by omega))
  have d1:due hz d o'.box≤due hz d b:=by
   unfold due;rw[hbox.countP_eq];refine Nat.le_trans (List.filter_sublist.countP_le) ?_;rw[List.countP_append];have:List.countP (fun f=>decide (f.kd=2)&&decide (f.t+d≤hz)) (r.2.1.filter fun f=>decide (f.lp=e.lp))=0:=by
    rw[List.countP_eq_zero];intro f hf;have:=(htime f (List.mem_filter.1 hf).1).1;simp only[Bool.and_eq_true,decide_eq_true_eq,not_and];intro _;omega
   omega
  have d2:due hz d o'.box*d≤due hz d b*d:=Nat.mul_le_mul_right _ d1;have c1:=xt.cnt;have c2:=xt.up;have c3:r.2.1.countP (fun f=>decide (f.kd=1))*(d-1)+(8-r.1.ps.length)*(d-1)≤(8-o.lp.ps.length)*(d-1)+(d-1):=by
   rw[←Nat.add_mul];have:(8-o.lp.ps.length)*(d-1)+(d-1)=(8-o.lp.ps.length+1)*(d-1):=by rw[Nat.add_mul,Nat.one_mul]
   rw[this];exact Nat.mul_le_mul_right _ (by omega)
  have hw:worth hz o.box+due hz d o.box*d=worth hz b+due hz d b*d+d:=by
   rw[hb];unfold worth due;simp only[List.map_cons,List.sum_cons,List.countP_cons];by_cases hk:e.kd=2
   ·rw[if_pos hk];simp only[hk,decide_true,Bool.true_and,decide_eq_true_eq];rw[if_pos (by omega),Nat.add_mul,Nat.one_mul];omega
   ·rw[if_neg hk];simp only[hk,decide_false,Bool.false_and,Bool.false_eq_true,if_false,Nat.add_zero];have:(hz-e.t).toNat=d:=by omega
    omega
  unfold psi;rw[hlp];omega
 ·obtain⟨_,h3⟩:=hin f hf;rcases h3 with h3|⟨h3,_⟩
  ·exact .inl (hbb f h3)
  ·exact .inr (htime f h3).1
 ·rw[hsent]at hf;rcases List.mem_append.1 hf with h2|h2
  ·exact .inl h2
  ·obtain⟨h3,h4⟩:=List.mem_filter.1 h2;simp at h4;rcases hfar f h3 with h5|h5
   ·exact absurd h5 h4
   ·exact .inr h5.2
structure RunW (hz fl la:Int) (o g:Oc):Prop where
 rest:g.rest hz
 ti:TInv g
 com:∀f∈g.com,f∈o.com∨fl≤f.t
 sent:∀f∈g.sent,f∈o.sent∨fl+la≤f.t
 so:SortedE g.box
theorem GInv.rests (hP:pgs.length=P) (hp:∀p∈pgs,∀o∈p,OpV N P la o) {hz fl:Int} (hla:hz≤fl+la) (i:Nat):∀(n:Nat) (C:List (List Int)) (outs:List Oc) (o:Oc) (d:Nat),GInv N P C outs→outs[i]?=some o→C.length+n≤800000→TInv o→(∀f∈o.box,fl≤f.t∧hz≤f.t+d)→psi hz d o≤n→RunW hz fl la o (Oc.run pgs hz n o):=by
 intro n
 induction n with
 |zero=>
  intro C outs o d h ho hC ht hb hn;refine⟨fun e he hlt=> ?_,ht,fun _ h=> .inl h,fun _ h=> .inl h,(h.o i o ho).box⟩;have he2:e∈o.box:=List.mem_of_mem_head? he;have h1:=hb e he2;by_cases hk:e.kd=2
  ·have h8:=h.k.lps o.lp (List.mem_map_of_mem (List.mem_of_getElem? ho));have hkd:KeysD o.box:=h.k.nd.sub (by
    refine List.Sublist.trans (List.sublist_append_left o.box o.sent) ?_;unfold pool;rw[List.flatMap_def];exact List.sublist_flatten_of_mem (List.mem_map_of_mem (List.mem_of_getElem? ho)))
   have h2:=psi_on (hz:=hz) (d:=d) (d':=(hz-e.t).toNat) ht hkd h8.n (by omega) (by omega);have h3:1≤due hz (hz-e.t).toNat o.box:=List.countP_pos_iff.2 ⟨e,he2,by simp[hk];omega⟩;have h4:1*1≤due hz (hz-e.t).toNat o.box*(hz-e.t).toNat:=Nat.mul_le_mul h3 (by omega);unfold psi at h2 hn;omega
  ·have h2:(hz-e.t).toNat≤worth hz o.box:=by
    unfold worth;refine le_sum (List.mem_map.2 ⟨e,he2,by rw[if_neg hk]⟩)
   unfold psi at hn;omega
 |succ n ih=>
  intro C outs o d h ho hC ht hb hn;cases hbx:o.box with
  |nil=>
   rw[run_none pgs hz _ hbx];exact⟨fun e he=>by(rw[hbx]at he;cases he),ht,fun _ h=> .inl h,fun _ h=> .inl h,(h.o i o ho).box⟩
  |cons e b=>
   by_cases hlt:e.t<hz
   ·rw[run_step hbx hlt];have heb:e∈o.box:=hbx▸List.mem_cons_self;have h8:=h.k.lps o.lp (List.mem_map_of_mem (List.mem_of_getElem? ho));have hkd:KeysD o.box:=h.k.nd.sub (by
     refine List.Sublist.trans (List.sublist_append_left o.box o.sent) ?_;unfold pool;rw[List.flatMap_def];exact List.sublist_flatten_of_mem (List.mem_map_of_mem (List.mem_of_getElem? ho)))
    have h1:=hb e heb;obtain⟨d',hd'⟩:∃d':Nat,(hz-e.t).toNat=d':=⟨_,rfl⟩;have h2:=psi_on (hz:=hz) (d:=d) (d':=d') ht hkd h8.n (by omega) (by omega);obtain⟨s1,s2,s3,s4⟩:=psi_step (la:=la) h hP hp ho hbx (by omega) ht hz d' (by omega) (by omega) (by omega);have st:=h.step hP hp ho hbx (by omega);have hsb:=(h.o i o ho).box;rw[hbx]at hsb;have hge:∀f∈o.box,e.t≤f.t:=fun f hf=>by
     rw[hbx]at hf;rcases List.mem_cons.1 hf with rfl|hf
     ·exact Int.le_refl _
     ·exact cmpE_time (SortedE.head hsb f hf)
    have r:=ih (e.k::C) _ _ d' st.inv (List.getElem?_set_self (List.getElem?_eq_some_iff.1 ho).1) (by simp only[List.length_cons];omega) s1 (fun f hf=>by
     rcases s3 f hf with h3|h3
     ·exact⟨(hb f h3).1,by have:=hge f h3;omega⟩
     ·exact⟨by omega,by omega⟩) (by omega)
    refine⟨r.rest,r.ti,fun f hf=> ?_,fun f hf=> ?_,r.so⟩
    ·rcases r.com f hf with h3|h3
     ·rw[st.com]at h3;rcases List.mem_append.1 h3 with h3|h3
      ·exact .inl h3
      ·rw[List.mem_singleton]at h3;rw[h3];exact .inr h1.1
     ·exact .inr h3
    ·rcases r.sent f hf with h3|h3
     ·rcases s4 f h3 with h4|h4
      ·exact .inl h4
      ·exact .inr (by omega)
     ·exact .inr h3
   ·rw[Oc.run_rest (run_late hbx hlt)];exact⟨run_late hbx hlt,ht,fun _ h=> .inl h,fun _ h=> .inl h,(h.o i o ho).box⟩
end
structure Win (la en:Int) (p:Ps):Prop where
 ti:∀o∈p.outs,TInv o
 fl:∀t∈p.fl,∃f∈p.tr.flatten,f.t=t
 ev:∀f∈p.tr.flatten,∃t∈p.fl,t≤f.t∧f.t<t+la
 gap:p.fl.Pairwise fun a b=>a+la≤b
 pend:∀t∈p.fl,∀f∈p.bx.flatten,t+la≤f.t∨en≤f.t
 bd:∀t∈p.fl,0≤t∧t≤1152921504606846976
theorem mem_zip_app:∀(a b:List (List Ev)),a.length=b.length→∀f,f∈(List.zipWith (·++·) a b).flatten↔f∈a.flatten∨f∈b.flatten
 | [],[],_,f=>by simp
 | [],_::_,h,_=>by simp at h
 |_::_,[],h,_=>by simp at h
 |x::a,y::b,h,f=>by
  have ih:=mem_zip_app a b (by simpa using h) f;simp only[List.zipWith_cons_cons,List.flatten_cons,List.mem_append,ih];constructor
  ·rintro((h|h)|h|h)
   ·exact .inl (.inl h)
   ·exact .inr (.inl h)
   ·exact .inl (.inr h)
   ·exact .inr (.inr h)
  ·rintro((h|h)|h|h)
   ·exact .inl (.inl h)
   ·exact .inr (.inl h)
   ·exact .inl (.inr h)
   ·exact .inr (.inr h)
theorem Win.next {N P:Nat} {la en:Int} {pgs:List (List OpC)} {C:List (List Int)} {p:Ps} (hP:pgs.length=P) (hp:∀p∈pgs,∀o∈p,OpV N P la o) (h:PI N P C p) (w:Win la en p) (hN:1≤N) (hC:C.length+2000*N≤800000) (hla:1≤la∧la≤8)
  (hbx:p.bx.flatten.length≤64) (hne:(firsts p.bx).isEmpty=false) (hen:lmin (firsts p.bx)<en):Win la en (p.next pgs la en (lmin (firsts p.bx))):=by
 obtain⟨f1,i0,o0,e0,b0,ho0,hb0,hc0,he0⟩:=floor_of h hne;obtain⟨fl,hfl⟩:∃fl,lmin (firsts p.bx)=fl:=⟨_,rfl⟩;rw[hfl]at f1 he0 hen ⊢;obtain⟨hz,hhz⟩:∃hz,hzn la en fl=hz:=⟨_,rfl⟩;have hz1:=hzn_lt (la:=la) (en:=en) (fl:=fl) hla.1 hen;have hz2:=hzn_le la en fl;have hz3:hz=fl+la∨hz=en:=by
  rw[←hhz];unfold hzn mn2
  split<;>omega
 rw[hhz]at hz1 hz2;obtain⟨z1,z2⟩:=h.zip;obtain⟨C',hn⟩:=PI.next hP hp h en fl hC;have hel:=hn.el;have hbl:=hn.bl;rw[hhz]at hel hbl;have hRW:∀o∈p.outs,RunW hz fl la o (Oc.run pgs hz 2000 o):=fun o ho=>by
  obtain⟨i,hi⟩:=List.mem_iff_getElem?.1 ho;have hbp:∀f∈o.box,f∈p.bx.flatten:=fun f hf=>z2▸mem_pool.2 ⟨i,o,hi,.inl hf⟩;have hlen:o.box.length≤64:=by
   have:=(flatMap_set (fun o:Oc=>o.box++o.sent) hi).1.length_eq;simp only[List.length_append]at this;have h2:(pool p.outs).length=p.bx.flatten.length:=by rw[z2]
   unfold pool at h2;omega
  have hlok:=h.g.k.lps o.lp (List.mem_map_of_mem ho);refine GInv.rests hP hp hz2.1 i 2000 C p.outs o 8 h.g hi (by omega) (w.ti o ho) (fun f hf=> ?_) ?_
  ·have:=f1 f (hbp f hf);exact⟨this,by omega⟩
  ·have hkd:KeysD o.box:=h.g.k.nd.sub (by
    refine List.Sublist.trans (List.sublist_append_left o.box o.sent) ?_;unfold pool;rw[List.flatMap_def];exact List.sublist_flatten_of_mem (List.mem_map_of_mem ho))
   have h1:=worth_le hz 8 o.box fun f hf _=>by
    have:=f1 f (hbp f hf);omega
   have h2:=due_le hz 8 o.box;have h3:=timers_le (w.ti o ho) hkd;have h4:=hlok.n;have h5:tri (8-1)=28:=rfl;unfold psi;rw[h5];omega
 have hend:∀g,g∈p.ends pgs hz↔∃o∈p.outs,Oc.run pgs hz 2000 o=g:=fun g=>List.mem_map;have hcom:∀f,f∈(p.next pgs la en fl).tr.flatten↔f∈p.tr.flatten∨∃o∈p.outs,f∈(Oc.run pgs hz 2000 o).com:=fun f=>by
  have h1:(p.next pgs la en fl).tr=List.zipWith (·++·) p.tr ((p.ends pgs hz).map Oc.com):=by rw[←hhz];rfl
  rw[h1,mem_zip_app _ _ (by rw[List.length_map,hel];exact h.nt)];refine or_congr Iff.rfl ?_;constructor
  ·intro hf;obtain⟨l,hl,hf⟩:=List.mem_flatten.1 hf;obtain⟨g,hg,rfl⟩:=List.mem_map.1 hl;obtain⟨o,ho,rfl⟩:=(hend g).1 hg;exact⟨o,ho,hf⟩
  ·rintro⟨o,ho,hf⟩;exact List.mem_flatten.2 ⟨_,List.mem_map_of_mem ((hend _).2 ⟨o,ho,rfl⟩),hf⟩
 have htime:∀o∈p.outs,∀f∈(Oc.run pgs hz 2000 o).com,fl≤f.t∧f.t<hz:=fun o ho f hf=>by
  obtain⟨d,d1,d2,d3,d4⟩:=run_com pgs hz 2000 o;have h0:=(outs_mem ho).1;refine⟨?_,?_⟩
  ·rcases(hRW o ho).com f hf with h1|h1
   ·rw[h0]at h1;cases h1
   ·exact h1
  ·rw[d1,h0,List.nil_append]at hf;exact d3 f hf
 have hflf:(p.next pgs la en fl).fl=p.fl++[fl]:=rfl;have he0b:e0∈p.bx.flatten:=z2▸mem_pool.2 ⟨i0,o0,ho0,.inl (hb0▸List.mem_cons_self)⟩;have hold:∀t∈p.fl,t+la≤fl:=fun t ht=>by
  rcases w.pend t ht e0 he0b with h1|h1<;>omega
 have hbd:0≤fl∧fl≤1152921504606846976:=he0▸h.g.k.time e0 (mem_pool.2 ⟨i0,o0,ho0,.inl (hb0▸List.mem_cons_self)⟩);refine⟨fun g hg=> ?_,fun t ht=> ?_,fun f hf=> ?_,?_,fun t ht f hf=> ?_,fun t ht=>by
  rw[hflf]at ht;rcases List.mem_append.1 ht with h1|h1
  ·exact w.bd t h1
  ·rw[List.mem_singleton]at h1;rw[h1];exact hbd⟩
 ·obtain⟨i,hi⟩:=List.mem_iff_getElem?.1 hg;have hnx:p.next pgs la en fl={tr:=List.zipWith (·++·) p.tr ((p.ends pgs hz).map Oc.com),lps:=(p.ends pgs hz).map Oc.lp,bx:=dlv ((p.ends pgs hz).map Oc.box) ((p.ends pgs hz).map Oc.sent).flatten,ov:=p.ov||(p.ends pgs hz).any Oc.ov,fl:=p.fl++[fl],np:=p.np+1}:=by
   rw[←hhz];rfl
  rw[hnx]at hi;unfold Ps.outs at hi;simp only at hi;have hiN:i<(p.ends pgs hz).length:=by
   have:=(List.getElem?_eq_some_iff.1 hi).1;rw[List.length_zipWith,List.length_map]at this;omega
  rw[List.getElem?_zipWith,List.getElem?_map,List.getElem?_eq_getElem hiN,dlv_at (by rw[List.length_map];exact hiN)]at hi;simp only[Option.map_some,Option.some.injEq]at hi;obtain⟨o,ho,heo⟩:=(hend _).1 (List.getElem_mem hiN);have hti:=(hRW o ho).ti;rw[heo]at hti;subst hi;intro f hf hk;simp only at hf ⊢;rw[List.getElem_map]at hf;rcases List.mem_append.1 ((dlv1_perm _ _).subset hf)with h5|h5
  ·exact hti f h5 hk
  ·exfalso;obtain⟨l,hl,h7⟩:=List.mem_flatten.1 (List.mem_filter.1 h5).1;obtain⟨g,hg2,rfl⟩:=List.mem_map.1 hl;obtain⟨j,hj⟩:=List.mem_iff_getElem?.1 hg2;have hge:=hn.ends;rw[hhz]at hge;have:=((hge.o j g hj).sent f h7).2;omega
 ·rw[hflf]at ht;rcases List.mem_append.1 ht with h1|h1
  ·obtain⟨f,hf,e⟩:=w.fl t h1;exact⟨f,(hcom f).2 (.inl hf),e⟩
  ·rw[List.mem_singleton]at h1;subst h1;obtain⟨d,d1,d2,d3,d4⟩:=run_com pgs hz 2000 o0;exact⟨e0,(hcom e0).2 (.inr ⟨o0,List.mem_of_getElem? ho0,by rw[d1];exact List.mem_append.2 (.inr (d4 e0 b0 hb0 (by omega) (by omega)))⟩),he0⟩
 ·rw[hflf];rcases(hcom f).1 hf with h1|⟨o,ho,h1⟩
  ·obtain⟨t,ht,h2⟩:=w.ev f h1;exact⟨t,List.mem_append.2 (.inl ht),h2⟩
  ·have:=htime o ho f h1;exact⟨fl,List.mem_append.2 (.inr (List.mem_singleton.2 rfl)),by omega,by omega⟩
 ·rw[hflf,List.pairwise_append];exact⟨w.gap,List.pairwise_singleton _ _,fun a ha b hb=>by rw[List.mem_singleton]at hb;rw[hb];exact hold a ha⟩
 ·have hf2:f∈pool (p.ends pgs hz):=hbl.subset hf;have hfz:fl+la≤f.t∨en≤f.t:=by
   obtain⟨j,g,hg,hf3⟩:=mem_pool.1 hf2;obtain⟨o,ho,rfl⟩:=(hend g).1 (List.mem_of_getElem? hg);have r:=hRW o ho;rcases hf3 with h3|h3
   ·have h4:hz≤f.t:=by
     cases hb:(Oc.run pgs hz 2000 o).box with
     |nil=>rw[hb]at h3;cases h3
     |cons g b=>
      have h5:=r.rest g (by rw[hb];rfl);have h6:=r.so;rw[hb]at h3 h6;rcases List.mem_cons.1 h3 with rfl|h3
      ·omega
      ·have:=cmpE_time (SortedE.head h6 f h3);omega
    omega
   ·rcases r.sent f h3 with h4|h4
    ·rw[(outs_mem ho).2.1]at h4;cases h4
    ·exact .inl h4
  rw[hflf]at ht;rcases List.mem_append.1 ht with h1|h1
  ·have:=hold t h1;omega
  ·rw[List.mem_singleton]at h1;rw[h1];exact hfz
section
variable {c:Cf} {N P:Nat}
theorem CfOk.win0 (h:CfOk c N P):Win c.la c.en c.p0:=by
 refine⟨fun o ho f hf hk=> ?_,(fun t ht=>by cases ht),fun f hf=> ?_,.nil,(fun t ht=>by cases ht),(fun t ht=>by cases ht)⟩
 ·exfalso;obtain⟨i,hi⟩:=List.mem_iff_getElem?.1 ho;have h1:f∈pool c.p0.outs:=mem_pool.2 ⟨i,o,hi,.inl hf⟩;rw[h.pi.zip.2]at h1;have h2:=h.dl.subset h1;obtain⟨a,b,l,s,_,_,rfl⟩:=mem_evs0.1 h2;simp[ev0]at hk
 ·have:c.p0.tr.flatten=[]:=by simp only[Cf.p0];exact nils_flat _
  rw[this]at hf;cases hf
theorem CfOk.goWin (h:CfOk c N P) {lim:Int} (hl:lim≤50):∀(n:Nat) (p:Ps),Head N P c.pgs c.en c.s0 p→Win c.la c.en p→Win c.la c.en (Ps.go c.pgs c.la c.en c.cp lim n p).1
 |0,p,_,w=>w
 |n+1,p,hp,w=>by
  unfold Ps.go
  split
  ·exact w
  ·rename_i h1
   split
   ·exact w
   ·rename_i h2
    split
    ·exact w
    ·rename_i h3;obtain⟨C,hpi⟩:=hp.ex;have hcn:=hpi.cnt;have h8:=h.n8;have hcp:=h.cp;have hne:(firsts p.bx).isEmpty=false:=by
      cases h4:(firsts p.bx).isEmpty with
      |false=>rfl
      |true=>exact absurd (.inl h4) h2
     have hen:¬c.en≤lmin (firsts p.bx):=fun h4=>h2 (.inr h4);exact CfOk.goWin h hl n _ (Head.next h.p h.op h.n8 h.la.1 h.cp.2 hl hp h1 h2 h3).1 (Win.next h.p h.op hpi w h.n1 (by omega) h.la (by omega) hne (by omega))
theorem CfOk.win (h:CfOk c N P) {lim:Int} (hl:lim≤50):Win c.la c.en (c.par lim).1∧(c.par lim).1.np=(c.par lim).1.fl.length:=
 ⟨h.goWin hl _ _ h.head h.win0,(h.go hl _ _ h.head).np⟩
end
theorem gap_one {la:Int} {t:Int}:∀(l:List Int),l.Pairwise (fun a b=>a+la≤b)→(∃a∈l,a≤t∧t<a+la)→l.countP (fun a=>decide (a≤t)&&decide (t<a+la))=1
 | [],_,h=>by obtain⟨a,ha,_⟩:=h;cases ha
 |x::l,hp,h=>by
  obtain⟨p1,p2⟩:=List.pairwise_cons.1 hp;rw[List.countP_cons];by_cases hx:x≤t∧t<x+la
  ·rw[if_pos (by simp[hx])];have:l.countP (fun a=>decide (a≤t)&&decide (t<a+la))=0:=by
    rw[List.countP_eq_zero];intro a ha;have:=p1 a ha;simp only[Bool.and_eq_true,decide_eq_true_eq,not_and];intro _;omega
   omega
  ·rw[if_neg (by simpa using hx),Nat.add_zero];refine gap_one l p2 ?_;obtain⟨a,ha,h1⟩:=h;rcases List.mem_cons.1 ha with rfl|ha
   ·exact absurd h1 hx
   ·exact⟨a,ha,h1⟩
end
end Go.Proofs.YtfnimdhghglanaaGreat.Hand
end
section
namespace Go.Proofs.YtfnimdhghglanaaGreat.Hand
open Go.RowKit Go.Shelf Go.Proofs.YtfnimdhghglanaaGreatW PrintWords PrintLast PrintMore
attribute [local go_sem] max2_int min2_int max_two min_two max_three min_three max_four min_four
def hasT (v:Int) (l:List Ev):Bool:=l.any fun f=>decide (f.t=v)
theorem hasT_next (v:Int) (l:List Ev) (k:Nat) (h:k<l.length):hasT v (l.take (k+1))=(hasT v (l.take k)||decide ((l[k]).t=v)):=by
 unfold hasT;rw[List.take_succ_eq_append_getElem h,List.any_append];simp only[List.any_cons,List.any_nil,Bool.or_false]
theorem hasT_app (v:Int) (a b:List Ev):hasT v (a++b)=(hasT v a||hasT v b):=List.any_append
def inW (la t:Int) (l:List Int):Nat:=l.countP fun a=>decide (a≤t)&&decide (t<a+la)
theorem inW_next (la t:Int) (l:List Int) (k:Nat) (h:k<l.length):inW la t (l.take (k+1))=inW la t (l.take k)+(if l[k]≤t∧t<l[k]+la then 1 else 0):=by
 unfold inW;rw[List.take_succ_eq_append_getElem h,List.countP_append,List.countP_singleton];simp
theorem CfOk.sizes {cf:Cf} {N P:Nat} (h:CfOk cf N P) {lim:Int} (hl:lim≤50):(cf.par lim).1.tr.length≤1000000∧(cf.par lim).1.tr.flatten.length≤1000000:=by
 have hh:=h.go hl (lim.toNat+1) cf.p0 h.head;obtain⟨C,hpi⟩:=hh.ex;have h1:=hpi.nt;have h2:=hh.cnt;have h3:=h.n8;unfold Cf.par;omega
structure WCut (cf:Cf) (n:Nat) (w2:World) (v:Value) (wx:World):Prop where
 ex:∃b,v= .bool b∧(b=false→QuickOk cf∧n≤200)
 below:Below w2.heap.size w2 wx
theorem windows_calls (c:SCf) {cf:Cf} (a1 a3:Int) (h1:0≤a1∧a1≤255) (h3:0≤a3∧a3≤255) {A:Option Addr} {n cc:Nat} {l:List Int} (w:World) (hc:CfAt MZ w c cf) (hr:Rd (Kd.int .u8) MZ w ⟨A,n,cc⟩ l) (hb:∀x∈l,0≤x∧x≤255):
  Calls Tryz.prog 4 #[c.v,.int .u8 a1,.slice A n cc,.int .u8 a3] w fun e w'=>e= .returned (.bool true)∧Below w.heap.size w w':=by
 obtain⟨w1,hw1⟩:∃w1,w.alloc (.cells #[.slice c.lps.A c.lps.n c.lps.c,.slice c.pgs.A c.pgs.n c.pgs.c,.int .i64 c.la,.int .i64 c.en,.int .i64 c.cp] TCf)=w1:=⟨_,rfl⟩;have hb1:Below w.heap.size w w1:=hw1▸below_alloc (Below.refl _ _) _;have hk1:w1.heap[w.heap.size]?=some (.cells (cf5 c) TCf (0,0)):=by rw[←hw1];exact World.alloc_heap_new _ _
 have HB1:=am hb1;have HK1:=am hk1;have HCF:=am (show∀W,Below w.heap.size w W→CfAt MZ W c cf from fun W hb=>hc.keep (Keep.of_below hb));have HR:=am hr;have HBY:=am hb;have HHD:=am (head25_calls w1);have HQU:=am (show∀W,Below w.heap.size w W→Calls Tryz.prog 9 #[c.v] W (fun e w'=>QRes cf W w' e)from fun W hb=>quick_calls c (hc.keep (Keep.of_below hb)));clear hb1 hk1 hc hr hb;simp only[SCf.v]at*;go_enter Tryz.func4,Tryz.ntmps4;go_upto_region 1 with (fail)
 clear hw1;go_upto_region 2 with (first|(go_at_call 6;go_must (with_reducible refine HHD.out.mono ?_);go_must (rintro e w2 ⟨rfl,hb2⟩);go_must (obtain⟨b0,b1,b2,b3,b4⟩:=cfbox_at HK1.out hb2);have HB12:=am hb2;have HB2:=HB1.go hb2;clear hb2))
 go_cut [36] (fun v wx=>Aside0 (WCut cf n w2 v wx))
 case first=>
  by_cases hn:200<n
  ·have d1:decide (200<(n:Int))=true:=dt (by omega);have d1':decide (200<n)=true:=decide_eq_true hn
   go_wp2_with (first|(go_at_call 9;go_must (with_reducible refine(HQU.out w2 HB2.out).mono ?_);go_must (rintro e w3 ⟨⟨b,rfl,hq⟩,hb3⟩);have HB3:=am hb3;clear hq hb3))
   all_goals (go_meet;exact⟨⟨true,by first|rfl|simp,fun h=>by cases h⟩,HB3.out⟩)
  ·have d1:decide (200<(n:Int))=false:=df (by omega);have d1':decide (200<n)=false:=decide_eq_false hn;have HNN:=am (show n≤200 by omega)
   go_wp2_with (first|(go_at_call 9;go_must (with_reducible refine(HQU.out w2 HB2.out).mono ?_);go_must (rintro e w3 ⟨⟨b,rfl,hq⟩,hb3⟩);have HB3:=am hb3;have HQ3:=am hq;clear hq hb3))
   all_goals (go_meet;exact⟨⟨!b,by cases b<;>first|rfl|simp_all,fun h=>⟨HQ3.out (by cases b<;>simp_all),HNN.out⟩⟩,HB3.out⟩)
 case rest=>
 obtain⟨⟨b,rfl,hq⟩,hbx⟩:=hcut.out;have HXC:=HB12.go hbx;have HBC:=HB2.go hbx;clear b0 b1 b2 b3 b4;cases b
 ·obtain⟨⟨_,q2,q3⟩,hn⟩:=hq rfl;obtain⟨hok,hsm⟩:=cfOk_of q2 q3;obtain⟨f0,f1,f2,f3,f4⟩:=cfbox_at HK1.out HXC.out;obtain⟨wk,hwk⟩:∃wk:Nat,a1%8+1=(wk:Int):=⟨(a1%8+1).toNat,by omega⟩;obtain⟨lim,hlim⟩:∃lim,a3%25=lim:=⟨_,rfl⟩;have hw1:1≤wk∧wk≤8:=by omega
  have hl1:0≤lim∧lim≤24:=by omega
  have hpl:(l.map fun x=>x%(wk:Int)).length≤1000∧∀p∈l.map fun x=>x%(wk:Int),0≤p∧p<wk:=by
   refine⟨by rw[List.length_map];have h9:n=l.length:=HR.out.len;omega,fun p hp=> ?_⟩;obtain⟨x,hx,rfl⟩:=List.mem_map.1 hp;exact⟨Int.emod_nonneg _ (by omega),Int.emod_lt_of_pos _ (by omega)⟩
  obtain⟨pl,hpe⟩:∃pl,(l.map fun x=>x%(wk:Int))=pl:=⟨_,rfl⟩;have HPK:=am (show∀W,Below w.heap.size w W→Calls Tryz.prog 11 #[.slice A n cc,.int .i64 wk] W (fun e w'=>∃h:SH,e= .returned (.slice h.A h.n h.c)∧Rd (Kd.int .i64) MZ w' h pl∧Below W.heap.size W w')from
   fun W hb=>hpe▸picks_calls (MZ_lt W) (HR.out.below hb) HBY.out (by omega) wk (by omega))
  rw[hpe]at hpl;obtain⟨r,hpr⟩:∃r,cf.par lim=r:=⟨_,rfl⟩;have hwin:=hok.win (lim:=lim) (by omega);have hsz:=hok.sizes (lim:=lim) (by omega);have HPR:=am (show∀(W:World) (ph:SH),Below w.heap.size w W→Rd (Kd.int .i64) MZ W ph pl→Calls Tryz.prog 10 #[c.v,.int .i64 wk,.slice ph.A ph.n ph.c,.int .i64 lim] W (fun e w'=>∃th lh:SH,e= .returned (.tuple #[.slice th.A th.n th.c,.slice lh.A lh.n lh.c,.int .i64 r.2])∧EvssAt MZ w' th r.1.tr∧LpsAt MZ w' lh r.1.lps∧Below W.heap.size W w')from fun W ph hb hp=>
   hpr▸parRun_calls (MZ_lt W) c hok (HCF.out W hb) hsm q2 wk hw1.1 (by omega) ph _ hpl.1 hpl.2 hp lim hl1.1 (by omega))
  have HFL:=am (show∀(W:World) (ph:SH),Below w.heap.size w W→Rd (Kd.int .i64) MZ W ph pl→Calls Tryz.prog 15 #[c.v,.int .i64 wk,.slice ph.A ph.n ph.c,.int .i64 lim] W (fun e w'=>∃fh:SH,e= .returned (.slice fh.A fh.n fh.c)∧Rd (Kd.int .i64) MZ w' fh r.1.fl∧Below W.heap.size W w')from fun W ph hb hp=>
   hpr▸floors_calls (MZ_lt W) c hok (HCF.out W hb) hsm q2 wk hw1.1 (by omega) ph _ hpl.1 hpl.2 hp lim hl1.1 (by omega))
  have HAS:=am (show∀(W:World) (ph:SH),Below w.heap.size w W→Rd (Kd.int .i64) MZ W ph pl→Calls Tryz.prog 17 #[c.v,.int .i64 wk,.slice ph.A ph.n ph.c,.int .i64 lim] W (fun e w'=>∃fh:SH,e= .returned (.slice fh.A fh.n fh.c)∧fh.n=r.1.np∧Below W.heap.size W w')from fun W ph hb hp=>
   hpr▸assign_calls (MZ_lt W) c hok (HCF.out W hb) hsm q2 wk hw1.1 (by omega) ph _ hpl.1 hpl.2 hp lim hl1.1 (by omega))
  have hcn:c.lps.n=cf.lps.length:=by
   obtain⟨⟨ss,p1,p2⟩,_⟩:=HCF.out w (Below.refl _ _);have:=p1.len;have:=p2.len;omega
  obtain⟨prs,NF,hprs,hfin⟩:=finish_ok c.lps.n wk pl (by have:=hok.n8;omega) hw1.1 (by omega) hpl.1 hpl.2;have HFI:=am (show∀(W:World) (ph:SH),Rd (Kd.int .i64) MZ W ph pl→Calls Tryz.prog 16 #[.int .i64 c.lps.n,.int .i64 wk,.slice ph.A ph.n ph.c] W (fun e w'=>∃v:SH,e= .returned (.tuple #[.slice v.A v.n v.c,.int .i64 NF])∧v.n=c.lps.n∧Below W.heap.size W w')from fun W ph hp=>by
   have hn:ph.n=pl.length:=hp.len;have hh:=hp.here;rw[hn]at hh ⊢;refine(hfin ph.A ph.c W hh).mono fun e w'=> ?_;rintro⟨v,he,hv,hb⟩;exact⟨v,he,((Kd.R_reads' hv).1).trans hprs.len,hb⟩)
  rw[hpr]at hwin hsz;have HWIN:=am hwin;have HSZ:=am hsz;have HLA:=am (show 1≤c.la∧c.la≤8∧c.la=cf.la from by
   have h9:=(HCF.out w (Below.refl _ _)).la;exact⟨h9▸hok.la.1,h9▸hok.la.2,h9⟩)
  simp only[SCf.v]at HPR HFL HAS;have HLIM:=am hlim;clear hq hbx q2 q3 hok hsm hpl hpr hfin hprs hw1 hl1 hwin hsz hpe hcn hn;have hlim:=HLIM.out;go_upto_region 11 with (first
   |(go_at_call 11;go_must (with_reducible refine(HPK.out wc HBC.out).mono ?_);go_must (rintro e w3 ⟨ph,rfl,hp,hb3⟩);go_must (obtain⟨g0,g1,g2,g3,g4⟩:=cfbox_at HK1.out (HXC.out.trans (hb3.mono HXC.out.size)));have HX3:=HXC.go hb3;have HB3:=HBC.go hb3;have HP3:=am hp;clear hb3 hp f0 f1 f2 f3 f4)
   |(go_at_call 10;go_must (with_reducible refine(HPR.out w3 ph HB3.out HP3.out).mono ?_);go_must (rintro e w4 ⟨th,lh,rfl,ht,_,hb4⟩);go_must (obtain⟨k0,k1,k2,k3,k4⟩:=cfbox_at HK1.out (HX3.out.trans (hb4.mono HX3.out.size)));have HX4:=HX3.go hb4;have HB4:=HB3.go hb4;have HP4:=am (HP3.out.keep (Keep.of_below hb4));have HT4:=am ht;clear hb4 ht g0 g1 g2 g3 g4)
   |(go_at_call 15;go_must (with_reducible refine(HFL.out w4 ph HB4.out HP4.out).mono ?_);go_must (rintro e w5 ⟨fh,rfl,hf,hb5⟩);go_must (obtain⟨f0,f1,f2,f3,f4⟩:=cfbox_at HK1.out (HX4.out.trans (hb5.mono HX4.out.size)));have HX5:=HX4.go hb5;have HB5:=HB4.go hb5;have HP5:=am (HP4.out.keep (Keep.of_below hb5));have HT5:=am (HT4.out.keep (Keep.of_below hb5));have HF5:=am hf;clear hb5 hf k0 k1 k2 k3 k4)
   |(go_at_call 16;go_must (with_reducible refine(HFI.out w5 ph HP5.out).mono ?_);go_must (rintro e w6 ⟨vh,rfl,hvn,hb6⟩);go_must (obtain⟨g0,g1,g2,g3,g4⟩:=cfbox_at HK1.out (HX5.out.trans (hb6.mono HX5.out.size)));have HX6:=HX5.go hb6;have HB6:=HB5.go hb6;have HP6:=am (HP5.out.keep (Keep.of_below hb6));have HT6:=am (HT5.out.keep (Keep.of_below hb6));have HF6:=am (HF5.out.keep (Keep.of_below hb6));have HVN:=am hvn;clear hb6 hvn f0 f1 f2 f3 f4)
   |(go_at_call 17;go_must (with_reducible refine(HAS.out w6 ph HB6.out HP6.out).mono ?_);go_must (rintro e w7 ⟨ah,rfl,han,hb7⟩);go_must (obtain⟨k0,k1,k2,k3,k4⟩:=cfbox_at HK1.out (HX6.out.trans (hb7.mono HX6.out.size)));have HX7:=HX6.go hb7;have HB7:=HB6.go hb7;have HT7:=am (HT6.out.keep (Keep.of_below hb7));have HF7:=am (HF6.out.keep (Keep.of_below hb7));have HAN:=am han;clear hb7 han g0 g1 g2 g3 g4))
  obtain⟨fA,fn,fcap⟩:=fh;obtain⟨aA,an,acap⟩:=ah;obtain⟨vA,vn,vcap⟩:=vh;obtain⟨tA,tn,tcap⟩:=th;have hfl:fn=r.1.fl.length:=HF7.out.len;obtain rfl:vn=c.lps.n:=HVN.out;obtain rfl:an=fn:=by
   have h8:=HAN.out;have h9:=HWIN.out.2;simp only at h8;omega
  obtain⟨hs,rt,et⟩:=HT7.out;have htn:tn=r.1.tr.length:=by
   have:=rt.len;have:=et.len;simp only at*;omega
  have hmt:tn≤1000000:=by have:=HSZ.out.1;omega
  have hmf:an≤9223372036854775807:=HF7.out.here.2.1;have HRT:=am rt;have HET:=am et;have HFN:=am hfl;have HTN:=am htn;have HBX:=am (show∀W,Below w7.heap.size w7 W→W.cell? ⟨w.heap.size,2,none⟩=some (.int .i64 c.la)from fun W hb=>(hb.cell (World.block_lt_of_cell? _ _ k2)).trans k2);have e0:((an:Int) != (an:Int))=false:=bne_self_eq_false _;have e0':((c.lps.n:Int) != (c.lps.n:Int))=false:=bne_self_eq_false _;clear rt et hfl htn HT7
  go_wp2_with (fail)
  clear e0 e0' k0 k1 k2 k3 k4 hwk hlim
  go_loopw [20] (fun i wr=>∃j:Nat,j≤an∧i= .int .i64 j∧Aside0 (Below w7.heap.size w7 wr)) (fun i _=>an-(intOf i).toNat)
  case atStart=>exact⟨0,Nat.zero_le _,rfl,⟨Below.refl _ _⟩⟩
  case round=>
   obtain⟨i,hi,rfl,HBW⟩:=hrel;by_cases hlt:i<an
   ·have e1:decide ((i:Int)<(an:Int))=true:=dt (by omega);have e1':decide (i<an)=true:=decide_eq_true hlt;obtain⟨fd,v,rfl,p0,h2,hv⟩:=at_int (HF7.out.here) i hlt;have HFC:=am (show∀W,Below w7.heap.size w7 W→W.cell? (fd.add i)=some (.int .i64 v)from fun W hb=>(hb.cell (World.block_lt_of_cell? _ _ p0)).trans p0);have HV:=am (show v∈r.1.fl from hv▸List.getElem_mem h2);have m0:(0:Int)≤(i:Int):=by omega
    have m1:(i:Int)<(an:Nat):=by omega
    clear p0 hv h2
    go_wp2_with (fail)
    clear e1 e1'
    go_loopw [21,22] (fun a j wr=>∃(k:Nat) (x:Bool),k≤tn∧j= .int .i64 k∧a= .bool x∧Aside0 (x=hasT v ((r.1.tr.take k).flatten))∧Aside0 (Below w7.heap.size w7 wr)) (fun _ j _=>tn-(intOf j).toNat)
    case atStart=>exact⟨0,false,Nat.zero_le _,rfl,rfl,⟨rfl⟩,HBW⟩
    case round=>
     clear HBW;obtain⟨k,x,hk,rfl,rfl,HX,HBW⟩:=hrel;by_cases hlt2:k<tn
     ·have e2:decide ((k:Int)<(tn:Int))=true:=dt (by omega);have e2':decide (k<tn)=true:=decide_eq_true hlt2;obtain⟨td,y,rfl,⟨h2,hy⟩,p0⟩:=hd_cells (HRT.out.here) k hlt2;have h5:k<r.1.tr.length:=by have:=HTN.out;omega
      have het:=HET.out.get k h2 h5;rw[hy]at het;obtain⟨yA,yn,yc⟩:=y;obtain⟨se,re,ee⟩:=het;have HHC:=am (show∀W,Below w7.heap.size w7 W→W.cell? (td.add k)=some (.slice yA yn yc)from fun W hb=>(hb.cell (World.block_lt_of_cell? _ _ p0)).trans p0);have HRE:=am re;have HEE:=am ee;have hyn:yn≤9223372036854775807:=re.here.2.1;have HYN:=am (show yn=(r.1.tr[k]).length from(show yn=se.length from re.len).trans ee.len);have HNX:=am (flat_next r.1.tr k h5);have n0:(0:Int)≤(k:Int):=by omega
      have n1:(k:Int)<(tn:Nat):=by omega
      have H5:=am h5;clear h2 hy p0 re ee
      go_wp2_with (fail)
      clear e2 e2'
      go_loopw [21,23] (fun a q wr=>∃(s:Nat) (z:Bool),s≤yn∧q= .int .i64 s∧a= .bool z∧Aside0 (z=hasT v ((r.1.tr.take k).flatten++(r.1.tr[k]).take s))∧Aside0 (Below w7.heap.size w7 wr)) (fun _ q _=>yn-(intOf q).toNat)
      case atStart=>exact⟨0,x,Nat.zero_le _,rfl,rfl,⟨by rw[HX.out];simp⟩,HBW⟩
      case round=>
       clear HBW HX;obtain⟨s,z,hsn,rfl,rfl,HZ,HBW⟩:=hrel;have y0:=HHC.out _ HBW.out;by_cases hlt3:s<yn
       ·have e3:decide ((s:Int)<(yn:Int))=true:=dt (by omega);have e3':decide (s<yn)=true:=decide_eq_true hlt3;obtain⟨ed,ev,rfl,⟨h6,hev⟩,p0,_⟩:=ev_cells (HRE.out.here) s hlt3;have h7:s<(r.1.tr[k]).length:=by have:=HYN.out;omega
        have hee:=HEE.out.get s h6 h7;rw[hev]at hee;have ht:=hee.t;obtain⟨xt,ht0⟩:∃xt,ev.t=xt:=⟨_,rfl⟩;rw[ht0]at p0 ht;have HT:=am ht;have HEC:=am (show∀W,Below w7.heap.size w7 W→W.cell? (ed.add (s*6))=some (.int .i64 xt)from fun W hb=>(hb.cell (World.block_lt_of_cell? _ _ p0)).trans p0);have HN:=am (hasT_next v (r.1.tr[k]) s h7);have o0:(0:Int)≤(s:Int):=by omega
        have o1:(s:Int)<(yn:Nat):=by omega
        have y1:=HEC.out _ HBW.out;have y2:=HFC.out _ HBW.out;clear h6 hev hee ht ht0 p0;cases z
        ·go_upto_region 23 with (fail)
         go_region_held3 (fun w'=>w'.cell? (td.add k)=some (.slice (some ed) yn yc)∧w'.cell? (ed.add (s*6))=some (.int .i64 xt)∧w'.cell? (fd.add i)=some (.int .i64 v)) (exact⟨by assumption,by assumption,by assumption⟩) (fail)
         go_wp2_with (fail)
         go_roundw
         ·exact⟨s+1,_,by omega,by go_num,rfl,⟨by rw[hasT_app,HN.out,←Bool.or_assoc,←hasT_app,←HZ.out,←HT.out];first|rfl|(by_cases hq:xt=v<;>simp[hq])⟩,⟨HBW.out.trans ((below_drew (Below.refl _ _)).mono HBW.out.size)⟩⟩
         ·simp[intOf];omega
        ·go_upto_region 23 with (fail)
         refine sz_ 17 (S:=fun w'=>True) (ds:=[]) trivial (fun hHeld=> ?_);refine pz_ 0 110 17 1 ?_;refine pz_ 1 111 17 3 ?_;refine uz_ 2 112 17 7 ?_;refine uz_ 3 113 17 15 ?_;refine uz_ 4 114 17 31 ?_;refine uz_ 5 115 17 63 ?_;refine uz_ 6 116 17 127 ?_;refine uz_ 7 117 17 255 ?_;refine uz_ 8 118 17 511 ?_;refine uz_ 9 119 17 1023 ?_;refine uz_ 10 120 17 2047 ?_;refine uz_ 11 121 17 4095 ?_;refine uz_ 12 122 17 8191 ?_;refine uz_ 13 123 17 16383 ?_;refine uz_ 14 124 17 32767 ?_;refine pz_ 15 125 17 65535 ?_;refine pz_ 16 21 17 131071 ?_;refine done_ (by kernel_rfl) ?_
         go_wp2_with (fail)
         go_roundw
         ·exact⟨s+1,true,by omega,by go_num,rfl,⟨by rw[hasT_app,HN.out,←Bool.or_assoc,←hasT_app,←HZ.out];simp⟩,⟨HBW.out.trans ((below_drew (Below.refl _ _)).mono HBW.out.size)⟩⟩
         ·simp[intOf];omega
       ·obtain rfl:s=yn:=by omega
        have e3:decide ((s:Int)<(s:Int))=false:=df (by omega);have HX2:=am (show z=hasT v ((r.1.tr.take (k+1)).flatten)from by
         have h9:=HZ.out;have h10:(r.1.tr[k]).take s=r.1.tr[k]:=List.take_of_length_le (by have:=HYN.out;omega);rw[h10]at h9;rw[HNX.out];exact h9)
        clear HZ
        go_wp2_with (fail)
        go_roundw
        ·exact⟨k+1,z,by omega,by go_num,rfl,HX2,HBW⟩
        ·simp[intOf];omega
     ·obtain rfl:k=tn:=by omega
      have e2:decide ((k:Int)<(k:Int))=false:=df (by omega);obtain rfl:x=true:=by
       rw[HX.out,List.take_of_length_le (by have:=HTN.out;omega)];obtain⟨f,hf,hft⟩:=HWIN.out.1.fl v HV.out;exact List.any_eq_true.2 ⟨f,hf,by simp[hft]⟩
      clear HX
      go_wp2_with (fail)
      go_roundw
      ·exact⟨i+1,by omega,by go_num,HBW⟩
      ·simp[intOf];omega
   ·obtain rfl:an=i:=by omega
    have e1:decide ((an:Int)<(an:Int))=false:=df (by omega)
    go_wp2_with (fail)
    have HBX2:=HBX;clear HBX;have HWR:=HBW;clear HBW
    go_loopw [24] (fun j wr=>∃k:Nat,k≤tn∧j= .int .i64 k∧Aside0 (Below w7.heap.size w7 wr)) (fun j _=>tn-(intOf j).toNat)
    case atStart=>exact⟨0,Nat.zero_le _,rfl,HWR⟩
    case round=>
     clear HWR;obtain⟨k,hk,rfl,HBW⟩:=hrel;by_cases hlt2:k<tn
     ·have e2:decide ((k:Int)<(tn:Int))=true:=dt (by omega);have e2':decide (k<tn)=true:=decide_eq_true hlt2;obtain⟨td,y,rfl,⟨h2,hy⟩,p0⟩:=hd_cells (HRT.out.here) k hlt2;have h5:k<r.1.tr.length:=by have:=HTN.out;omega
      have het:=HET.out.get k h2 h5;rw[hy]at het;obtain⟨yA,yn,yc⟩:=y;obtain⟨se,re,ee⟩:=het;have HHC:=am (show∀W,Below w7.heap.size w7 W→W.cell? (td.add k)=some (.slice yA yn yc)from fun W hb=>(hb.cell (World.block_lt_of_cell? _ _ p0)).trans p0);have HRE:=am re;have HEE:=am ee;have hyn:yn≤9223372036854775807:=re.here.2.1;have HYN:=am (show yn=(r.1.tr[k]).length from(show yn=se.length from re.len).trans ee.len);have n0:(0:Int)≤(k:Int):=by omega
      have n1:(k:Int)<(tn:Nat):=by omega
      have H5:=am h5;clear h2 hy p0 re ee
      go_wp2_with (fail)
      clear e2 e2';have HWR:=HBW;clear HBW
      go_loopw [25] (fun q wr=>∃s:Nat,s≤yn∧q= .int .i64 s∧Aside0 (Below w7.heap.size w7 wr)) (fun q _=>yn-(intOf q).toNat)
      case atStart=>exact⟨0,Nat.zero_le _,rfl,HWR⟩
      case round=>
       clear HWR;obtain⟨s,hsn,rfl,HBW⟩:=hrel;have y0:=HHC.out _ HBW.out;by_cases hlt3:s<yn
       ·have e3:decide ((s:Int)<(yn:Int))=true:=dt (by omega);have e3':decide (s<yn)=true:=decide_eq_true hlt3;obtain⟨ed,ev,rfl,⟨h6,hev⟩,p0,_⟩:=ev_cells (HRE.out.here) s hlt3;have h7:s<(r.1.tr[k]).length:=by have:=HYN.out;omega
        have hee:=HEE.out.get s h6 h7;rw[hev]at hee;obtain⟨xt,ht0⟩:∃xt,ev.t=xt:=⟨_,rfl⟩;have ht:=hee.t;rw[ht0]at p0 ht;have HONE:=am (show inW c.la xt r.1.fl=1 from by
         rw[HLA.out.2.2];refine gap_one _ HWIN.out.1.gap ?_;obtain⟨a,ha,h8⟩:=HWIN.out.1.ev (r.1.tr[k])[s] (List.mem_flatten.2 ⟨_,List.getElem_mem h5,List.getElem_mem h7⟩);rw[ht];exact⟨a,ha,h8⟩)
        have HEC:=am (show∀W,Below w7.heap.size w7 W→W.cell? (ed.add (s*6))=some (.int .i64 xt)from fun W hb=>(hb.cell (World.block_lt_of_cell? _ _ p0)).trans p0);have o0:(0:Int)≤(s:Int):=by omega
        have o1:(s:Int)<(yn:Nat):=by omega
        clear h6 h7 hev hee ht ht0 p0
        go_wp2_with (fail)
        clear e3 e3';have HWR:=HBW;clear HBW
        go_loopw [26,27] (fun a q wr=>∃(i m:Nat),i≤an∧q= .int .i64 i∧a= .int .i64 m∧m≤i∧Aside0 (m=inW c.la xt (r.1.fl.take i))∧Aside0 (Below w7.heap.size w7 wr)) (fun _ q _=>an-(intOf q).toNat)
        case atStart=>exact⟨0,0,Nat.zero_le _,rfl,rfl,Nat.zero_le _,⟨rfl⟩,HWR⟩
        case round=>
         clear HWR;obtain⟨i,m,hi,rfl,rfl,hmi,HM,HBW⟩:=hrel;by_cases hlt:i<an
         ·have e4:decide ((i:Int)<(an:Int))=true:=dt (by omega);have e4':decide (i<an)=true:=decide_eq_true hlt;obtain⟨fd,v,rfl,p0,h2,hv⟩:=at_int (HF7.out.here) i hlt;have y1:=HEC.out _ HBW.out;have y2:=(HBW.out.cell (World.block_lt_of_cell? _ _ p0)).trans p0;have y3:=HBX2.out _ HBW.out;have y4:=HHC.out _ HBW.out;have hbd:=HWIN.out.1.bd v (hv▸List.getElem_mem h2);have HMN:=am (inW_next c.la xt r.1.fl i h2);rw[hv]at HMN;have m0:(0:Int)≤(i:Int):=by omega
          have m1:(i:Int)<(an:Nat):=by omega
          have hz:IntKind.i64.wrap (v+c.la)=v+c.la:=IntWalk.i64_in _ (by have:=HLA.out;omega);clear p0 hv h2;by_cases c1:v≤xt
          ·by_cases c2:xt<v+c.la
           ·have q1:decide (v≤xt)=true:=decide_eq_true c1;have q2:decide (xt<v+c.la)=true:=decide_eq_true c2;have HM2:=am (show m+1=inW c.la xt (r.1.fl.take (i+1))from by rw[HMN.out,if_pos ⟨c1,c2⟩,HM.out]);go_upto_region 36 with (fail)
            go_upto_region 36 with (fail)
            go_region_held3 (fun w'=>w'.cell? (td.add k)=some (.slice (some ed) yn yc)∧w'.cell? (ed.add (s*6))=some (.int .i64 xt)∧w'.cell? (fd.add i)=some (.int .i64 v)∧w'.cell? ⟨w.heap.size,2,none⟩=some (.int .i64 c.la)) (exact⟨by assumption,by assumption,by assumption,by assumption⟩) (fail)
            go_wp2_with (fail)
            go_roundw
            ·exact⟨i+1,m+1,by omega,by go_num,by go_num,by omega,HM2,⟨HBW.out.trans ((below_drew (Below.refl _ _)).mono HBW.out.size)⟩⟩
            ·simp[intOf];omega
           ·have q1:decide (v≤xt)=true:=decide_eq_true c1;have q2:decide (xt<v+c.la)=false:=decide_eq_false c2;have HM2:=am (show m=inW c.la xt (r.1.fl.take (i+1))from by rw[HMN.out,if_neg (fun h=>c2 h.2),Nat.add_zero,HM.out]);go_upto_region 36 with (fail)
            go_upto_region 36 with (fail)
            go_region_held3 (fun w'=>w'.cell? (td.add k)=some (.slice (some ed) yn yc)∧w'.cell? (ed.add (s*6))=some (.int .i64 xt)∧w'.cell? (fd.add i)=some (.int .i64 v)∧w'.cell? ⟨w.heap.size,2,none⟩=some (.int .i64 c.la)) (exact⟨by assumption,by assumption,by assumption,by assumption⟩) (fail)
            go_wp2_with (fail)
            go_roundw
            ·exact⟨i+1,m,by omega,by go_num,rfl,by omega,HM2,⟨HBW.out.trans ((below_drew (Below.refl _ _)).mono HBW.out.size)⟩⟩
            ·simp[intOf];omega
          ·have q1:decide (v≤xt)=false:=decide_eq_false c1;have HM2:=am (show m=inW c.la xt (r.1.fl.take (i+1))from by rw[HMN.out,if_neg (fun h=>c1 h.1),Nat.add_zero,HM.out]);go_upto_region 36 with (fail)
           go_upto_region 36 with (fail)
           refine sz_ 31 (S:=fun w'=>w'.cell? (td.add k)=some (.slice (some ed) yn yc)∧w'.cell? (ed.add (s*6))=some (.int .i64 xt)∧w'.cell? (fd.add i)=some (.int .i64 v)) (ds:=[]) ⟨y4,y1,y2⟩ (fun hHeld=> ?_);refine pz_ 0 149 31 1 ?_;refine pz_ 1 150 31 3 ?_;refine pz_ 2 151 31 7 ?_;refine pz_ 4 153 31 23 ?_;refine pz_ 8 157 31 279 ?_;refine pz_ 9 158 31 791 ?_;refine pz_ 10 159 31 1815 ?_;refine tz_ 3 152 31 1823 hHeld ?_;refine pz_ 5 154 31 1855 ?_;refine pz_ 6 155 31 1919 ?_;refine tz_ 7 156 31 2047 hHeld ?_;refine tz_ 11 160 31 4095 hHeld ?_;refine pz_ 12 161 31 8191 ?_
           refine pz_ 13 162 31 16383 ?_;refine uz_ 14 163 31 32767 ?_;refine uz_ 15 164 31 65535 ?_;refine uz_ 16 165 31 131071 ?_;refine uz_ 17 166 31 262143 ?_;refine uz_ 18 167 31 524287 ?_;refine uz_ 19 168 31 1048575 ?_;refine uz_ 20 169 31 2097151 ?_;refine uz_ 21 170 31 4194303 ?_;refine uz_ 22 171 31 8388607 ?_;refine uz_ 23 172 31 16777215 ?_;refine uz_ 24 173 31 33554431 ?_;refine uz_ 25 174 31 67108863 ?_;refine uz_ 26 175 31 134217727 ?_;refine uz_ 27 176 31 268435455 ?_;refine uz_ 28 177 31 536870911 ?_;refine uz_ 29 178 31 1073741823 ?_;refine pz_ 30 179 31 2147483647 ?_
           refine done_ (by kernel_rfl) ?_
           go_wp2_with (fail)
           go_roundw
           ·exact⟨i+1,m,by omega,by go_num,rfl,by omega,HM2,⟨HBW.out.trans ((below_drew (Below.refl _ _)).mono HBW.out.size)⟩⟩
           ·simp[intOf];omega
         ·obtain rfl:i=an:=by omega
          have e4:decide ((i:Int)<(i:Int))=false:=df (by omega);have hm1:(m:Int)=1:=by
           have h9:=HM.out;rw[List.take_of_length_le (by have:=HFN.out;omega),HONE.out]at h9;omega
          clear HM
          go_wp2_with (fail)
          go_roundw
          ·exact⟨s+1,by omega,by go_num,HBW⟩
          ·simp[intOf];omega
       ·obtain rfl:s=yn:=by omega
        have e3:decide ((s:Int)<(s:Int))=false:=df (by omega)
        go_wp2_with (fail)
        go_roundw
        ·exact⟨k+1,by omega,by go_num,HBW⟩
        ·simp[intOf];omega
     ·obtain rfl:k=tn:=by omega
      have e2:decide ((k:Int)<(k:Int))=false:=df (by omega)
      go_wp2_with (fail)
      go_ret;exact⟨rfl,HB7.out.trans (HBW.out.mono HB7.out.size)⟩
 ·go_wp2_with (fail)
  go_ret;exact⟨rfl,HBC.out⟩
end Go.Proofs.YtfnimdhghglanaaGreat.Hand
end
section
namespace Go.Proofs.YtfnimdhghglanaaGreat.topWindows
open Go.ChangeShapes Go.WideShapes Go.ChangeAt Go.RowKit
open Go.ChangeMaps (open_string shut_string)
open Go.Proofs.YtfnimdhghglanaaGreatW PrintWords PrintLast
theorem own:ownKnob Tryz.prog.godebug=none:=by kernel_rfl
theorem laidOut:laidOutB Tryz.prog=true:=by kernel_rfl
theorem rng_u8 {n:Int} (h:(Lit.int .u8 n).wf=true):0≤n∧n≤255:=by
 simp[Lit.wf,IntKind.min,IntKind.max,IntKind.signed,IntKind.bits]at h;constructor<;>omega
theorem open_u8 {H:Type} {enc:TypeId×Value→H} {W:World} {base:Nat} {spare:Nat→Bool} {held:Bool} {fuel:Nat} {cs:List Value} {x:DataW H×List MemPlace} (hl:cs.length=1) (h:DataW.trod enc Tryz.prog W base spare held fuel 5 cs=some x):∃n:Int,(0≤n∧n≤255)∧cs=(fun n:Int=>[Value.int .u8 n]) n:=by
 obtain⟨n0,e0,_,w0⟩:=DataW.trod_int Tryz.underlying5 h;exact⟨n0,rng_u8 w0,e0⟩
theorem lifted (os:Os) (started:os.Started) (H:Type) (enc:TypeId×Value→H):
  ReturnsInHanded {} Tryz.checked os 4 .any (Rows.topWindowsSpec.pre6 enc Tryz.prog Tryz.f4 Rows.topWindowsRow.domain false) (Rows.topWindowsSpec.post enc Tryz.prog Tryz.f4 false true false false):=by
 refine returnsInHanded_of_change_sized (C:=Tryz.checked) own started (by kernel_rfl) Tryz.func4
  (ChangeSpec.witness6 (enc:=enc) (C:=Tryz.checked) false ⟨#[], #[.agg #[.slice none 0 0,.slice none 0 0,.int .i64 0,.int .i64 0,.int .i64 0],.int .u8 0,.slice none 0 0,.int .u8 0],[]⟩ 8 (by kernel_rfl) (by kernel_rfl) (by kernel_rfl) (by kernel_rfl)) ?_
 intro W base args ds gs before hval0 hW hcnd hsz0 _;have hval:∀(j:Nat) t v,Tryz.f4.params[j]?=some t→args[j]?=some v→Value.okWide Tryz.prog W .any base t v:=hval0;have hW':=hW;obtain⟨p,q,hA0,hV,rfl,hfz,hnd⟩:=hW;have hA:DataW.TrodAll enc Tryz.prog W 0 (fun _=>true) true Tryz.f4.params.toList args.toList ds p:=hA0;rw[Tryz.params4]at hA hval;obtain⟨v0,vs0,d0,ds0,p0,q0,hargs,rfl,rfl,h0,r0⟩:=trodAll_cons hA;obtain⟨v1,vs1,d1,ds1,p1,q1,rfl,rfl,rfl,h1,r1⟩:=trodAll_cons r0;obtain⟨v2,vs2,d2,ds2,p2,q2,rfl,rfl,rfl,h2,r2⟩:=trodAll_cons r1;obtain⟨v3,vs3,d3,ds3,p3,q3,rfl,rfl,rfl,h3,r3⟩:=trodAll_cons r2
 obtain⟨rfl,rfl,rfl⟩:=trodAll_nil r3;obtain rfl:args= #[v0,v1,v2,v3]:=by cases args;simp_all
 obtain⟨rfl,rfl⟩:=trodVars_none hV;obtain⟨cs,rfl,hcs⟩:=okWide_struct Tryz.underlying25 (hval 0 25 v0 rfl rfl);have k0:=h0;have lt0:∀x∈p0,x.block<W.heap.size:=by obtain⟨m,hm⟩:=k0;exact DataW.trod_lt m _ _ _ hm
 obtain⟨c,cf,hcc,hcf⟩:∃(c:Hand.SCf) (cf:Hand.Cf),Value.agg cs=c.v∧Hand.CfAt Hand.MZ W c cf:=by
  obtain⟨fuel,hf⟩:=h0;have h5:cs.toList.length=5:=by
   rw[Array.length_toList,hcs];kernel_rfl
  obtain⟨c,cf,e,h⟩:=Hand.open_cfg (fuel:=fuel) (cs:=cs.toList) h5 hf;refine⟨c,cf,?_,h⟩;unfold Hand.SCf.v;rw[←e]
 obtain⟨a1,rfl,rfl,rfl,w1⟩:=open_int Tryz.underlying5 (hval 1 5 v1 rfl rfl) h1;obtain⟨a3,rfl,rfl,rfl,w3⟩:=open_int Tryz.underlying5 (hval 3 5 v3 rfl rfl) h3;obtain⟨a2,len2,cap2,rfl⟩:=okWide_slice Tryz.underlying26 (hval 2 26 v2 rfl rfl);have k2:=h2;have lt2:∀x∈p2,x.block<W.heap.size:=by obtain⟨m,hm⟩:=k2;exact DataW.trod_lt m _ _ _ hm
 obtain⟨l,hrd,hby⟩:∃l:List Int,Hand.Rd (Kd.int .u8) Hand.MZ W ⟨a2,len2,cap2⟩ l∧∀x∈l,0≤x∧x≤255:=by
  obtain⟨fuel,hf⟩:=h2;obtain⟨s,l,e,hr,hb⟩:=Hand.open_row (sz:=1) (en:=fun n:Int=>[Value.int .u8 n]) (hl:=fun _=>rfl) (h1:=fun _ u hu=>by simp at hu;subst hu;rfl) (P:=fun n:Int=>0≤n∧n≤255) Tryz.underlying26 (by kernel_rfl) open_u8 hf;simp[Value.cells]at e;obtain⟨rfl,rfl,rfl⟩:=e;exact⟨l,hr,hb⟩
 clear hA0 hval0 hsz0;have hcl:=Hand.windows_calls c a1 a3 (rng_u8 w1) (rng_u8 w3) W hcf hrd hby;rw[←hcc]at hcl;refine hcl.mono fun e W' ⟨he,bel⟩=> ?_;subst he;exact⟨_,rfl,_,_,_,[],_,[],hW',trodAll_mk1 (shut_bool Tryz.underlying4 _),(trodAll_cons_mk (Below.trod laidOut (by kernel_rfl) (of_decide_eq_true (by kernel_rfl)) k0 bel lt0) (trodAll_cons_mk (shut_int Tryz.underlying5 w1) (trodAll_cons_mk (Below.trod laidOut (by kernel_rfl) (of_decide_eq_true (by kernel_rfl)) k2 bel lt2) (trodAll_cons_mk (shut_int Tryz.underlying5 w3) trodAll_mk0)))),rfl,bel.frame _,fun h=>by cases h⟩
theorem over:Rows.topWindowsRow.holds Tryz.pinned (OpenSpec.ofChange Rows.topWindowsSpec):=
 OpenClaim.holds_of_wide 4 Tryz.f4 rfl rfl rfl rfl rfl rfl rfl ⟨rfl,rfl,rfl,rfl,rfl⟩ rfl rfl rfl rfl rfl (by kernel_rfl) Tryz.func4 (by kernel_rfl)
  (of_decide_eq_true (by kernel_rfl)) (by unfold Func.isWrapper;first|(rw[if_pos (by decide+kernel)];kernel_rfl)|(rw[if_neg (by decide+kernel)];exact⟨rfl,rfl⟩))
  (fun os started H enc _=>lifted os started H enc)
theorem proved:Rows.TopWindowsSaid:=over
#print axioms proved
end Go.Proofs.YtfnimdhghglanaaGreat.topWindows
namespace Go.Proofs.YtfnimdhghglanaaGreat
theorem topWindows_holds:Rows.TopWindowsSaid:=topWindows.proved
end Go.Proofs.YtfnimdhghglanaaGreat
end
