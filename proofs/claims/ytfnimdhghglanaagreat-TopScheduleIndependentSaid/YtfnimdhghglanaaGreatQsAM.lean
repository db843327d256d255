/- TopScheduleIndependent, part 13 of 27; no condition.  -/
import Derived.Test.YtfnimdhghglanaaGreatQsAL
import Derived.IntWalk
set_option maxRecDepth 100000
set_option maxHeartbeats 8000000
set_option linter.unusedVariables false
set_option linter.unusedSimpArgs false
section
namespace Go.Proofs.YtfnimdhghglanaaGreat.Hand
open Go
section
structure Cf where
 lps:List (List StC)
 pgs:List (List OpC)
 la:Int
 en:Int
 cp:Int
def Lp.zero:Lp:=⟨0,0,[],0⟩
def wakes (l:Lp) (e:Ev):Bool:=decide (e.kd=1∨e.kd=2)&&decide (0≤e.pr)&&decide (e.pr.toNat<l.ps.length)&&(exStart l e).self.al
def runEx (pgs:List (List OpC)) (l:Lp) (e:Ev):Ex:=(exStart l e).wake.act (pgs.getD (exStart l e).wake.self.pg.toNat []) 16
def exec (pgs:List (List OpC)) (l:Lp) (e:Ev):Lp×List Ev×List (List Int)×Bool:=
 if e.kd=3 then({l with sum:=IntKind.i64.wrap (l.sum+e.ar)},[],[],false)
 else if wakes l e then((runEx pgs l e).lp,(runEx pgs l e).cr,(runEx pgs l e).ca,(runEx pgs l e).ov)
 else(l,[],[],false)
def Lp.tms (l:Lp):List (List Int):=l.ps.map Pc.tm
structure OpV (N P:Nat) (la:Int) (o:OpC):Prop where
 ok:OpOk o
 hold:o.code=1→1≤o.a∧o.a≤1099511627776
 send:o.code=2→0≤o.a∧o.a<N∧la≤o.c∧1≤o.c∧o.c≤1099511627776
 timer:o.code=3→1≤o.a∧o.a≤1099511627776∧0≤o.b
 spawn:o.code=5→0≤o.a∧o.a<P∧1≤o.b∧o.b≤1099511627776
structure LpOk (P:Nat) (l:Lp):Prop where
 n:l.ps.length≤8
 p:∀p∈l.ps,0≤p.pc∧0≤p.pg∧p.pg<P
structure ExV (N P:Nat) (la:Int) (T0:List (List Int)) (e:Ev) (x:Ex):Prop where
 ev:x.ev=e
 lp:LpOk P x.lp
 here:Here x
 cr:∀f∈x.cr,∃j:Nat,j<x.n∧f.k=e.k++[(j:Int)]
 nd:KeysD x.cr
 tm:∀k∈x.lp.tms++x.ca,k=[]∨k∈T0∨∃j:Nat,j<x.n∧k=e.k++[(j:Int)]
 own:∀f∈x.cr,f.k∈x.lp.tms++x.ca→f.lp=e.lp∧f.kd=2
 time:∀f∈x.cr,e.t<f.t∧f.t≤1152921504606846976
 far:∀f∈x.cr,f.lp=e.lp∨(f.kd=3∧e.t+la≤f.t)
 rng:∀f∈x.cr,0≤f.lp∧f.lp<N
 ar:∀f∈x.cr,f.kd=2→0≤f.ar
theorem child_inj {k:List Int} {a b:Int} (h:k++[a]=k++[b]):a=b:=by simpa using h
section
variable {N P:Nat} {la:Int} {T0:List (List Int)} {e:Ev} {x:Ex}
theorem ExV.self_tm (h:ExV N P la T0 e x):x.self.tm∈x.lp.tms:=List.mem_map_of_mem (Ex.self_mem h.here)
theorem ExV.create (h:ExV N P la T0 e x) (hT:∀k∈T0,∀j:Int,k≠e.k++[j]) (he:0≤e.t∧e.t≤1152921504606846976) (d:Int) (e0:Ev) (hd:1≤d∧d≤1099511627776)
  (hf:e0.lp=e.lp∨(e0.kd=3∧la≤d)) (hr:0≤e0.lp∧e0.lp<N) (ha:e0.kd=2→0≤e0.ar):ExV N P la T0 e (x.create d e0):=by
 have ht:(x.made d e0).t=e.t+d:=by
  have:(x.made d e0).t=IntKind.i64.wrap (x.ev.t+d):=rfl;rw[this,h.ev,IntWalk.i64_in _ (by omega)]
 have hk:(x.made d e0).k=e.k++[(x.n:Int)]:=by
  have:(x.made d e0).k=x.ev.k++[(x.n:Int)]:=rfl;rw[this,h.ev]
 have htm:∀k∈x.lp.tms++x.ca,k=[]∨k∈T0∨∃j:Nat,j<x.n+1∧k=e.k++[(j:Int)]:=fun k hk=>by
  rcases h.tm k hk with h1|h1|⟨j,hj,h1⟩
  ·exact .inl h1
  ·exact .inr (.inl h1)
  ·exact .inr (.inr ⟨j,by omega,h1⟩)
 have hcr:∀f∈x.cr,∃j:Nat,j<x.n+1∧f.k=e.k++[(j:Int)]:=fun f hf=>by
  obtain⟨j,hj,h1⟩:=h.cr f hf;exact⟨j,by omega,h1⟩
 unfold Ex.create
 split
 ·exact⟨h.ev,h.lp,⟨h.here.lo,h.here.hi⟩,hcr,h.nd,htm,h.own,h.time,h.far,h.rng,h.ar⟩
 ·rename_i hov;rw[ht]at hov;have hm:∀{p:Ev→Prop},(∀f∈x.cr,p f)→p (x.made d e0)→∀f∈x.cr++[x.made d e0],p f:=fun h1 h2 f hf=>by
   rcases List.mem_append.1 hf with hf|hf
   ·exact h1 f hf
   ·rw[List.mem_singleton]at hf;subst hf;exact h2
  refine⟨h.ev,h.lp,⟨h.here.lo,h.here.hi⟩,hm hcr ⟨x.n,by simp only;omega,hk⟩,?_,htm,hm h.own fun h1=> ?_,hm h.time ?_,hm h.far ?_,hm h.rng hr,hm h.ar ha⟩
  ·show((x.cr++[x.made d e0]).map Ev.k).Nodup;rw[List.map_append,List.nodup_append];refine⟨h.nd,by simp,fun a ha b hb e9=> ?_⟩;simp only[List.map_cons,List.map_nil,List.mem_singleton]at hb;subst hb e9;obtain⟨f,hf,h1⟩:=List.mem_map.1 ha;obtain⟨j,hj,h2⟩:=h.cr f hf;rw[h1,hk]at h2;have:=child_inj h2;omega
  ·rw[hk]at h1;rcases h.tm _ h1 with h2|h2|⟨j,hj,h2⟩
   ·simp at h2
   ·exact absurd rfl (hT _ h2 _)
   ·have:=child_inj h2;omega
  ·rw[ht];omega
  ·rw[ht];rcases hf with h1|⟨h1,h2⟩
   ·exact .inl h1
   ·exact .inr ⟨h1,by omega⟩
theorem create_n (x:Ex) (d:Int) (e0:Ev):(x.create d e0).n=x.n+1:=by unfold Ex.create;split<;>rfl
theorem ExV.setSelf (h:ExV N P la T0 e x) (p:Pc) (hp:0≤p.pc∧0≤p.pg∧p.pg<P)
  (ht:p.tm=[]∨p.tm∈x.lp.tms∨((∃j:Nat,j<x.n∧p.tm=e.k++[(j:Int)])∧∀f∈x.cr,f.k=p.tm→f.lp=e.lp∧f.kd=2)):ExV N P la T0 e (x.setSelf p):=by
 have hsub:∀k∈(x.setSelf p).lp.tms++(x.setSelf p).ca,k=p.tm∨k∈x.lp.tms++x.ca:=fun k hk=>by
  rcases List.mem_append.1 hk with h1|h1
  ·obtain⟨q,hq,h2⟩:=List.mem_map.1 h1;rcases List.mem_or_eq_of_mem_set hq with h3|rfl
   ·exact .inr (List.mem_append.2 (.inl (h2▸List.mem_map_of_mem h3)))
   ·exact .inl h2.symm
  ·exact .inr (List.mem_append.2 (.inr h1))
 refine⟨h.ev,⟨by simpa [Ex.setSelf]using h.lp.n,fun q hq=> ?_⟩,⟨h.here.lo,by simpa [Ex.setSelf]using h.here.hi⟩,h.cr,h.nd,fun k hk=> ?_,fun f hf hk=> ?_,h.time,h.far,h.rng,h.ar⟩
 ·rcases List.mem_or_eq_of_mem_set hq with hq|rfl
  ·exact h.lp.p q hq
  ·exact hp
 ·rcases hsub k hk with h1|h1
  ·subst h1;rcases ht with h2|h2|⟨h2,_⟩
   ·exact .inl h2
   ·exact h.tm _ (List.mem_append.2 (.inl h2))
   ·exact .inr (.inr h2)
  ·exact h.tm k h1
 ·have hf0:f∈x.cr:=hf;rcases hsub _ hk with h1|h1
  ·rcases ht with h2|h2|⟨_,h2⟩
   ·obtain⟨j,_,h3⟩:=h.cr f hf0;rw[h1,h2]at h3;simp at h3
   ·exact h.own f hf0 (List.mem_append.2 (.inl (h1▸h2)))
   ·exact h2 f hf0 h1
  ·exact h.own f hf0 h1
theorem ExV.self_ok (h:ExV N P la T0 e x):0≤x.self.pc∧0≤x.self.pg∧x.self.pg<P:=h.lp.p _ (Ex.self_mem h.here)
theorem ExV.stop (h:ExV N P la T0 e x):ExV N P la T0 e x.stop:=by
 unfold Ex.stop
 split
 ·exact h
 ·have h':ExV N P la T0 e {x with ca:=x.ca++[x.self.tm]}:=by
   have hsub:∀k∈x.lp.tms++(x.ca++[x.self.tm]),k∈x.lp.tms++x.ca:=fun k hk=>by
    rcases List.mem_append.1 hk with h1|h1
    ·exact List.mem_append.2 (.inl h1)
    ·rcases List.mem_append.1 h1 with h1|h1
     ·exact List.mem_append.2 (.inr h1)
     ·rw[List.mem_singleton]at h1;exact List.mem_append.2 (.inl (h1▸h.self_tm))
   exact⟨h.ev,h.lp,⟨h.here.lo,h.here.hi⟩,h.cr,h.nd,fun k hk=>h.tm k (hsub k hk),fun f hf hk=>h.own f hf (hsub _ hk),h.time,h.far,h.rng,h.ar⟩
  exact h'.setSelf _ h.self_ok (.inl rfl)
theorem ExV.timer (h:ExV N P la T0 e x) (hT:∀k∈T0,∀j:Int,k≠e.k++[j]) (he:0≤e.t∧e.t≤1152921504606846976) (hl:0≤e.lp∧e.lp<N) (a v:Int) (ha:1≤a∧a≤1099511627776) (hv:0≤v):ExV N P la T0 e (x.timer a v):=by
 have h1:=h.stop;have hlp:x.stop.ev.lp=e.lp:=by rw[h1.ev]
 have h2:=h1.create hT he a ⟨0,[],x.stop.ev.lp,2,x.stop.ev.pr,v⟩ ha (.inl hlp) (by simp only;rw[hlp];exact hl) (fun _=>hv);unfold Ex.timer;refine h2.setSelf _ h2.self_ok (.inr (.inr ⟨⟨x.stop.n,by rw[create_n];omega,by simp only;rw[h1.ev]⟩,fun f hf hk=> ?_⟩));simp only at hk;have hin:f∈x.stop.cr∨f=x.stop.made a ⟨0,[],x.stop.ev.lp,2,x.stop.ev.pr,v⟩:=by
  unfold Ex.create at hf
  split at hf
  ·exact .inl hf
  ·rcases List.mem_append.1 hf with hf|hf
   ·exact .inl hf
   ·rw[List.mem_singleton]at hf;exact .inr hf
 rcases hin with h3|h3
 ·obtain⟨j,hj,h4⟩:=h1.cr f h3;rw[hk,h1.ev]at h4;have:=child_inj h4;omega
 ·subst h3;exact⟨hlp,rfl⟩
theorem ExV.spawn (h:ExV N P la T0 e x) (hT:∀k∈T0,∀j:Int,k≠e.k++[j]) (he:0≤e.t∧e.t≤1152921504606846976) (hl:0≤e.lp∧e.lp<N) (a d:Int) (ha:0≤a∧a<P) (hd:1≤d∧d≤1099511627776):ExV N P la T0 e (x.spawn a d):=by
 unfold Ex.spawn
 split
 ·rename_i hn;have hsub:∀k∈(x.lp.ps++[(⟨a,0,true,[]⟩:Pc)]).map Pc.tm++x.ca,k=[]∨k∈x.lp.tms++x.ca:=fun k hk=>by
   rcases List.mem_append.1 hk with h1|h1
   ·rw[List.map_append]at h1;rcases List.mem_append.1 h1 with h1|h1
    ·exact .inr (List.mem_append.2 (.inl h1))
    ·simp at h1;exact .inl h1
   ·exact .inr (List.mem_append.2 (.inr h1))
  have h':ExV N P la T0 e {x with lp:={x.lp with ps:=x.lp.ps++[⟨a,0,true,[]⟩]}}:=by
   refine⟨h.ev,⟨by simp only[List.length_append,List.length_cons,List.length_nil];omega,fun p hp=> ?_⟩,⟨h.here.lo,by have:=h.here.hi;simp only[List.length_append,List.length_cons,List.length_nil];omega⟩,h.cr,h.nd,
    fun k hk=> ?_,fun f hf hk=> ?_,h.time,h.far,h.rng,h.ar⟩
   ·rcases List.mem_append.1 hp with hp|hp
    ·exact h.lp.p p hp
    ·rw[List.mem_singleton]at hp;subst hp;exact⟨Int.le_refl 0,ha.1,ha.2⟩
   ·rcases hsub k hk with h1|h1
    ·exact .inl h1
    ·exact h.tm k h1
   ·rcases hsub _ hk with h1|h1
    ·obtain⟨j,_,h3⟩:=h.cr f hf;rw[h1]at h3;simp at h3
    ·exact h.own f hf h1
  have hlp:x.ev.lp=e.lp:=by rw[h.ev]
  exact h'.create hT he d _ hd (.inl hlp) (by simp only;rw[hlp];exact hl) (fun h=>by simp at h)
 ·exact h
theorem ExV.add (h:ExV N P la T0 e x) (a v:Int):ExV N P la T0 e (x.add a v):=by
 unfold Ex.add
 split<;>exact⟨h.ev,⟨h.lp.n,h.lp.p⟩,⟨h.here.lo,h.here.hi⟩,h.cr,h.nd,h.tm,h.own,h.time,h.far,h.rng,h.ar⟩
theorem ExV.step (h:ExV N P la T0 e x) (hT:∀k∈T0,∀j:Int,k≠e.k++[j]) (he:0≤e.t∧e.t≤1152921504606846976) (hl:0≤e.lp∧e.lp<N) {o:OpC} (ho:OpV N P la o):ExV N P la T0 e (x.step o).1:=by
 have hlp:x.ev.lp=e.lp:=by rw[h.ev]
 unfold Ex.step
 repeat' split
 ·rename_i hc;exact h.create hT he _ _ (ho.hold hc) (.inl hlp) (by simp only;rw[hlp];exact hl) (fun h=>by simp at h)
 ·rename_i _ hc;obtain⟨h1,h2,h3,h4,h5⟩:=ho.send hc;exact h.create hT he _ _ ⟨h4,h5⟩ (.inr ⟨rfl,h3⟩) ⟨h1,h2⟩ (fun h=>by simp at h)
 ·rename_i _ _ hc;obtain⟨h1,h2,h3⟩:=ho.timer hc;exact h.timer hT he hl _ _ ⟨h1,h2⟩ h3
 ·exact h.stop
 ·rename_i _ _ _ _ hc;obtain⟨h1,h2,h3,h4⟩:=ho.spawn hc;exact h.spawn hT he hl _ _ ⟨h1,h2⟩ ⟨h3,h4⟩
 ·exact h.add _ _
 ·rename_i _ _ _ _ _ _ hc;unfold Ex.less
  split
  ·exact h.setSelf _ ⟨ho.ok.jmp hc,h.self_ok.2⟩ (.inr (.inl h.self_tm))
  ·exact h
 ·exact h
theorem ExV.kill (h:ExV N P la T0 e x):ExV N P la T0 e x.kill:=h.setSelf _ h.self_ok (.inr (.inl h.self_tm))
theorem ExV.next (h:ExV N P la T0 e x):ExV N P la T0 e x.next:=h.setSelf _ (by have:=h.self_ok;exact⟨by simp only;omega,this.2⟩) (.inr (.inl h.self_tm))
theorem ExV.act (hT:∀k∈T0,∀j:Int,k≠e.k++[j]) (he:0≤e.t∧e.t≤1152921504606846976) (hl:0≤e.lp∧e.lp<N) {l:List OpC} (ho:∀o∈l,OpV N P la o):∀(n:Nat) {x:Ex},ExV N P la T0 e x→ExV N P la T0 e (x.act l n)
 |0,_,h=>h.kill
 |n+1,x,h=>by
  unfold Ex.act
  split
  ·exact h.kill
  ·rename_i o ho2;have h2:=h.next.step hT he hl (ho o (List.mem_of_getElem? ho2))
   split
   ·exact h2
   ·split
    ·exact h2.kill
    ·exact ExV.act hT he hl ho n h2
theorem Few.act {l:List OpC} (ho:∀o∈l,OpOk o):∀(n k:Nat) {x:Ex},Few k x→Few (k+n) (x.act l n)
 |0,k,x,h=>h.setSelf _ (stop_self_pc h)
 |n+1,k,x,h=>by
  unfold Ex.act
  split
  ·exact Few.setSelf (k:=k+(n+1)) (h.mono (by omega)) _ (stop_self_pc h)
  ·rename_i o ho2;have hx:Few k x.next:=h.setSelf _ (by have:=stop_self_pc h;simp only;omega);have h2:=hx.step (ho o (List.mem_of_getElem? ho2))
   split
   ·exact h2.mono (by omega)
   ·split
    ·exact Few.setSelf (k:=k+(n+1)) (h2.mono (by omega)) _ (stop_self_pc h2)
    ·exact(Few.act ho n (k+1) h2).mono (by omega)
end
structure ExecR (N P:Nat) (la:Int) (l:Lp) (e:Ev) (r:Lp×List Ev×List (List Int)×Bool):Prop where
 lp:LpOk P r.1
 cr:∀f∈r.2.1,∃j:Nat,f.k=e.k++[(j:Int)]
 nd:KeysD r.2.1
 tm:∀k∈r.1.tms++r.2.2.1,k=[]∨k∈l.tms∨∃j:Nat,k=e.k++[(j:Int)]
 own:∀f∈r.2.1,f.k∈r.1.tms++r.2.2.1→f.lp=e.lp∧f.kd=2
 time:∀f∈r.2.1,e.t<f.t∧f.t≤1152921504606846976
 far:∀f∈r.2.1,f.lp=e.lp∨(f.kd=3∧e.t+la≤f.t)
 rng:∀f∈r.2.1,0≤f.lp∧f.lp<N
 ar:∀f∈r.2.1,f.kd=2→0≤f.ar
 few:r.2.1.length≤16∧r.2.2.1.length≤16
theorem ExecR.none {N P:Nat} {la:Int} {l l':Lp} {e:Ev} {b:Bool} (hl:LpOk P l') (ht:l'.tms=l.tms):ExecR N P la l e (l',[],[],b):=
 ⟨hl,(fun _ h=>by cases h),by simp[KeysD],(fun k hk=> .inr (.inl (by rw[List.append_nil,ht]at hk;exact hk))),(fun _ h=>by cases h),(fun _ h=>by cases h),(fun _ h=>by cases h),(fun _ h=>by cases h),(fun _ h=>by cases h),by simp⟩
theorem wakes_of {l:Lp} {e:Ev} (h:wakes l e=true):(e.kd=1∨e.kd=2)∧0≤e.pr∧e.pr.toNat<l.ps.length∧(exStart l e).self.al=true:=by
 simp only[wakes,Bool.and_eq_true,decide_eq_true_eq]at h;exact⟨h.1.1.1,h.1.1.2,h.1.2,h.2⟩
theorem ExV.wake {N P:Nat} {la:Int} {T0:List (List Int)} {e:Ev} {x:Ex} (h:ExV N P la T0 e x) (har:e.kd=2→0≤e.ar):ExV N P la T0 e x.wake:=by
 unfold Ex.wake
 split
 ·rename_i hk;have h1:ExV N P la T0 e (x.setSelf {x.self with pc:=x.ev.ar}):=h.setSelf _ ⟨by simp only;rw[h.ev]at hk ⊢;exact har hk,h.self_ok.2⟩ (.inr (.inl h.self_tm))
  split
  ·exact h1.setSelf _ h1.self_ok (.inl rfl)
  ·exact h1
 ·exact h
theorem Few.wake {x:Ex} (h:Few 0 x) (har:x.ev.kd=2→0≤x.ev.ar):Few 0 x.wake:=by
 unfold Ex.wake
 split
 ·rename_i hk;have h1:Few 0 (x.setSelf {x.self with pc:=x.ev.ar}):=h.setSelf _ (har hk)
  split
  ·exact h1.setSelf _ (stop_self_pc h1)
  ·exact h1
 ·exact h
theorem few_start {P:Nat} {l:Lp} {e:Ev} (hl:LpOk P l) (hk:e.k.length≤900000) (h0:0≤e.pr) (h1:e.pr.toNat<l.ps.length):Few 0 (exStart l e):=
 ⟨hk,Nat.le_refl _,Nat.le_refl _,Nat.le_refl _,hl.n,⟨h0,h1⟩,fun p hp=>(hl.p p hp).1⟩
theorem exec_ok {N P:Nat} {la:Int} {pgs:List (List OpC)} {l:Lp} {e:Ev} (hP:pgs.length=P) (hp:∀p∈pgs,∀o∈p,OpV N P la o) (hl:LpOk P l) (hT:∀k∈l.tms,∀j:Int,k≠e.k++[j])
  (he:0≤e.t∧e.t≤1152921504606846976) (hr:0≤e.lp∧e.lp<N) (ha:e.kd=2→0≤e.ar) (hkl:e.k.length≤900000):ExecR N P la l e (exec pgs l e):=by
 unfold exec
 split
 ·exact ExecR.none ⟨hl.n,hl.p⟩ rfl
 ·split
  ·rename_i hw;obtain⟨_,h0,h1,_⟩:=wakes_of hw;have hpg:∀y:Ex,∀o∈pgs.getD y.self.pg.toNat [],OpV N P la o:=fun y o ho=>by
    rw[List.getD_eq_getElem?_getD]at ho;cases hg:pgs[y.self.pg.toNat]?with
    |none=>rw[hg]at ho;cases ho
    |some p=>
     rw[hg]at ho;exact hp p (List.mem_of_getElem? hg) o ho
   have hs:ExV N P la l.tms e (exStart l e):=
    ⟨rfl,hl,⟨h0,h1⟩,(fun _ h=>by cases h),by simp[KeysD,exStart],(fun k hk=> .inr (.inl (by simpa [exStart]using hk))),(fun _ h=>by cases h),(fun _ h=>by cases h),(fun _ h=>by cases h),(fun _ h=>by cases h),(fun _ h=>by cases h)⟩
   have h2:ExV N P la l.tms e (runEx pgs l e):=ExV.act hT he hr (hpg _) 16 (hs.wake ha);have h3:Few (0+16) (runEx pgs l e):=Few.act (fun o ho=>(hpg _ o ho).ok) 16 0 ((few_start hl hkl h0 h1).wake ha);exact⟨h2.lp,fun f hf=>by
    obtain⟨j,_,h4⟩:=h2.cr f hf;exact⟨j,h4⟩,h2.nd,fun k hk=>by
    rcases h2.tm k hk with h4|h4|⟨j,_,h4⟩
    ·exact .inl h4
    ·exact .inr (.inl h4)
    ·exact .inr (.inr ⟨j,h4⟩),h2.own,h2.time,h2.far,h2.rng,h2.ar,⟨h3.cr,h3.ca⟩⟩
  ·exact ExecR.none hl rfl
end
structure KInv (N P:Nat) (C:List (List Int)) (L:List Lp) (Q:List Ev):Prop where
 nd:KeysD Q
 new:∀f∈Q,f.k∉C
 cl:∀k∈C,k.length=2∨k.dropLast∈C
 root:∀f∈Q,f.k.length=2∨f.k.dropLast∈C
 len:∀f∈Q,2≤f.k.length∧f.k.length≤C.length+2
 lps:∀l∈L,LpOk P l
 nl:L.length=N
 tm:∀l∈L,∀k∈l.tms,k=[]∨(3≤k.length∧k.dropLast∈C∧k.length≤C.length+2)
 own:∀f∈Q,∀(i:Nat) (l:Lp),L[i]?=some l→f.k∈l.tms→f.lp=i∧f.kd=2
 rng:∀f∈Q,0≤f.lp∧f.lp<N
 time:∀f∈Q,0≤f.t∧f.t≤1152921504606846976
 ar:∀f∈Q,f.kd=2→0≤f.ar
theorem KInv.perm {N P:Nat} {C C':List (List Int)} {L:List Lp} {Q Q':List Ev} (h:KInv N P C L Q) (hq:Q.Perm Q') (hc:C.Perm C'):KInv N P C' L Q':=
 ⟨h.nd.perm hq,fun f hf hk=>h.new f (hq.symm.subset hf) (hc.symm.subset hk),fun k hk=>(h.cl k (hc.symm.subset hk)).imp id (fun h=>hc.subset h),fun f hf=>(h.root f (hq.symm.subset hf)).imp id (fun h=>hc.subset h),
  fun f hf=>by rw[←hc.length_eq];exact h.len f (hq.symm.subset hf),h.lps,h.nl,fun l hl k hk=>by
   rw[←hc.length_eq];exact(h.tm l hl k hk).imp id (fun⟨h1,h2,h3⟩=>⟨h1,hc.subset h2,h3⟩),fun f hf=>h.own f (hq.symm.subset hf),fun f hf=>h.rng f (hq.symm.subset hf),fun f hf=>h.time f (hq.symm.subset hf),fun f hf=>h.ar f (hq.symm.subset hf)⟩
theorem drop_child (k:List Int) (j:Int):(k++[j]).dropLast=k:=by simp
structure StepOk (N P:Nat) (la:Int) (C:List (List Int)) (L:List Lp) (e:Ev) (R:List Ev) (l:Lp) (r:Lp×List Ev×List (List Int)×Bool):Prop where
 ex:ExecR N P la l e r
 inv:KInv N P (e.k::C) (L.set e.lp.toNat r.1) ((R++r.2.1).filter (fun f=> !r.2.2.1.contains f.k))
 gone:∀f∈R++r.2.1,f.k∈r.2.2.1→f.lp=e.lp∧f.kd=2
 nd:KeysD (R++r.2.1)
theorem KInv.step {N P:Nat} {la:Int} {C:List (List Int)} {L:List Lp} {Q R:List Ev} {e:Ev} {l:Lp} {pgs:List (List OpC)} (h:KInv N P C L Q) (hq:Q.Perm (e::R)) (hP:pgs.length=P)
  (hp:∀p∈pgs,∀o∈p,OpV N P la o) (hl:L[e.lp.toNat]?=some l) (hC:C.length≤800000):StepOk N P la C L e R l (exec pgs l e):=by
 have heQ:e∈Q:=hq.symm.subset (List.mem_cons_self);have hRQ:∀f∈R,f∈Q:=fun f hf=>hq.symm.subset (List.mem_cons_of_mem _ hf);have hnd:=h.nd.perm hq;have hR:=List.nodup_cons.1 hnd;have hlm:l∈L:=List.mem_of_getElem? hl;obtain⟨hk2,hkC⟩:=h.len e heQ;have hT:∀k∈l.tms,∀j:Int,k≠e.k++[j]:=fun k hk j e1=>by
  rcases h.tm l hlm k hk with h1|⟨_,h2,_⟩
  ·rw[h1]at e1;simp at e1
  ·rw[e1,drop_child]at h2;exact h.new e heQ h2
 have x:=exec_ok (la:=la) hP hp (h.lps l hlm) hT (h.time e heQ) (h.rng e heQ) (h.ar e heQ) (by omega);generalize exec pgs l e=r at x;have hRk:∀f∈R,∀j:Int,f.k≠e.k++[j]:=fun f hf j e1=>by
  rcases h.root f (hRQ f hf)with h1|h1
  ·rw[e1]at h1;simp at h1;omega
  ·rw[e1,drop_child]at h1;exact h.new e heQ h1
 have hch:∀j:Int,e.k++[j]∉e.k::C:=fun j hj=>by
  rcases List.mem_cons.1 hj with h1|h1
  ·simp at h1
  ·rcases h.cl _ h1 with h2|h2
   ·simp at h2;omega
   ·rw[drop_child]at h2;exact h.new e heQ h2
 have hd:KeysD (R++r.2.1):=by
  show((R++r.2.1).map Ev.k).Nodup;rw[List.map_append,List.nodup_append];refine⟨hR.2,x.nd,fun a ha b hb e1=> ?_⟩;obtain⟨f,hf,rfl⟩:=List.mem_map.1 ha;obtain⟨g,hg,rfl⟩:=List.mem_map.1 hb;obtain⟨j,hj⟩:=x.cr g hg;exact hRk f hf j (e1.trans hj)
 have hown:∀f∈R++r.2.1,f.k∈r.1.tms++r.2.2.1→f.lp=e.lp∧f.kd=2:=fun f hf hk=>by
  rcases List.mem_append.1 hf with hf|hf
  ·rcases x.tm _ hk with h1|h1|⟨j,h1⟩
   ·have:=(h.len f (hRQ f hf)).1;rw[h1]at this;simp at this
   ·have h2:=h.own f (hRQ f hf) _ _ hl h1;have h3:=(h.rng e heQ).1;exact⟨by rw[h2.1];omega,h2.2⟩
   ·exact absurd h1 (hRk f hf j)
  ·exact x.own f hf hk
 have hmem:∀{p:Ev→Prop},(∀f∈R,p f)→(∀f∈r.2.1,p f)→∀f∈(R++r.2.1).filter (fun f=> !r.2.2.1.contains f.k),p f:=fun h1 h2 f hf=>by
  rcases List.mem_append.1 (List.mem_filter.1 hf).1 with h3|h3
  ·exact h1 f h3
  ·exact h2 f h3
 refine⟨x,⟨hd.sub List.filter_sublist,?_,?_,?_,?_,?_,by rw[List.length_set];exact h.nl,?_,?_,?_,?_,?_⟩,fun f hf hk=>hown f hf (List.mem_append.2 (.inr hk)),hd⟩
 ·refine hmem (fun f hf hk=> ?_) (fun f hf hk=> ?_)
  ·rcases List.mem_cons.1 hk with h1|h1
   ·exact hR.1 (h1▸List.mem_map_of_mem (f:=Ev.k) hf)
   ·exact h.new f (hRQ f hf) h1
  ·obtain⟨j,hj⟩:=x.cr f hf;rw[hj]at hk;exact hch j hk
 ·intro k hk;rcases List.mem_cons.1 hk with rfl|hk
  ·exact(h.root e heQ).imp id (fun h=>List.mem_cons_of_mem _ h)
  ·exact(h.cl k hk).imp id (fun h=>List.mem_cons_of_mem _ h)
 ·refine hmem (fun f hf=>(h.root f (hRQ f hf)).imp id (fun h=>List.mem_cons_of_mem _ h)) (fun f hf=> ?_);obtain⟨j,hj⟩:=x.cr f hf;rw[hj,drop_child];exact .inr List.mem_cons_self
 ·refine hmem (fun f hf=> ?_) (fun f hf=> ?_)
  ·have:=h.len f (hRQ f hf);simp only[List.length_cons];omega
  ·obtain⟨j,hj⟩:=x.cr f hf;rw[hj];simp only[List.length_cons,List.length_append,List.length_nil];omega
 ·intro l' hl';rcases List.mem_or_eq_of_mem_set hl' with h1|rfl
  ·exact h.lps l' h1
  ·exact x.lp
 ·intro l' hl' k hk;have hold:∀l0∈L,k∈l0.tms→k=[]∨(3≤k.length∧k.dropLast∈e.k::C∧k.length≤(e.k::C).length+2):=fun l0 h0 hk=>by
   rcases h.tm l0 h0 k hk with h1|⟨h1,h2,h3⟩
   ·exact .inl h1
   ·exact .inr ⟨h1,List.mem_cons_of_mem _ h2,by simp only[List.length_cons];omega⟩
  rcases List.mem_or_eq_of_mem_set hl' with h1|rfl
  ·exact hold l' h1 hk
  ·rcases x.tm k (List.mem_append.2 (.inl hk))with h1|h1|⟨j,h1⟩
   ·exact .inl h1
   ·exact hold l hlm h1
   ·rw[h1,drop_child];exact .inr ⟨by simp;omega,List.mem_cons_self,by simp;omega⟩
 ·intro f hf i l' hl' hk;have hf':=(List.mem_filter.1 hf).1;have h0:=(h.rng e heQ).1;by_cases hi:e.lp.toNat=i
  ·subst hi;rw[List.getElem?_set_self (List.getElem?_eq_some_iff.1 hl).1]at hl';cases hl';have h1:=hown f hf' (List.mem_append.2 (.inl hk));exact⟨by rw[h1.1];omega,h1.2⟩
  ·rw[List.getElem?_set_ne hi]at hl';rcases List.mem_append.1 hf' with h1|h1
   ·exact h.own f (hRQ f h1) i l' hl' hk
   ·obtain⟨j,hj⟩:=x.cr f h1;rw[hj]at hk;rcases h.tm l' (List.mem_of_getElem? hl') _ hk with h2|⟨_,h2,_⟩
    ·simp at h2
    ·rw[drop_child]at h2;exact absurd h2 (h.new e heQ)
 ·exact hmem (fun f hf=>h.rng f (hRQ f hf)) x.rng
 ·exact hmem (fun f hf=>h.time f (hRQ f hf)) (fun f hf=>⟨by have:=x.time f hf;have:=h.time e heQ;omega,(x.time f hf).2⟩)
 ·exact hmem (fun f hf=>h.ar f (hRQ f hf)) x.ar
structure Oc where
 lp:Lp
 box:List Ev
 com:List Ev
 sent:List Ev
 ov:Bool
def Oc.put (l:Int) (o:Oc) (n:Ev):Oc:=if n.lp=l then{o with box:=insE o.box n}else{o with sent:=o.sent++[n]}
def Oc.del (o:Oc) (k:List Int):Oc:={o with box:=o.box.eraseP (fun e=>decide (e.k=k))}
def Oc.begin (pgs:List (List OpC)) (o:Oc) (e:Ev):Oc:={o with lp:=(exec pgs o.lp e).1,com:=o.com++[e],ov:=o.ov||(exec pgs o.lp e).2.2.2}
def Oc.exec (pgs:List (List OpC)) (o:Oc) (e:Ev):Oc:=(Hand.exec pgs o.lp e).2.2.1.foldl Oc.del ((Hand.exec pgs o.lp e).2.1.foldl (Oc.put e.lp) (o.begin pgs e))
def Oc.run (pgs:List (List OpC)) (h:Int):Nat→Oc→Oc
 |0,o=>o
 |n+1,o=>match o.box with
  | []=>o
  |e::b=>if e.t<h then Oc.run pgs h n (Oc.exec pgs {o with box:=b} e)else o
def Oc.rest (h:Int) (o:Oc):Prop:=∀e∈o.box.head?,¬e.t<h
theorem Oc.run_rest {pgs:List (List OpC)} {h:Int} {o:Oc} (hr:o.rest h):∀n,Oc.run pgs h n o=o
 |0=>rfl
 |n+1=>by
  unfold Oc.run
  split
  ·rfl
  ·rename_i e b hb;rw[if_neg (hr e (by simp[hb]))]
theorem Oc.puts (l:Int):∀(cr:List Ev) (o:Oc),(cr.foldl (Oc.put l) o).lp=o.lp∧(cr.foldl (Oc.put l) o).com=o.com∧(cr.foldl (Oc.put l) o).ov=o.ov∧
  (cr.foldl (Oc.put l) o).box.Perm (o.box++cr.filter (fun f=>decide (f.lp=l)))∧(SortedE o.box→SortedE (cr.foldl (Oc.put l) o).box)∧(cr.foldl (Oc.put l) o).sent=o.sent++cr.filter (fun f=> !decide (f.lp=l))
 | [],o=>⟨rfl,rfl,rfl,by simp,id,by simp⟩
 |n::cr,o=>by
  obtain⟨h1,h2,h3,h4,h5,h6⟩:=Oc.puts l cr (o.put l n);rw[List.foldl_cons];by_cases hn:n.lp=l
  ·have e1:o.put l n={o with box:=insE o.box n}:=if_pos hn;rw[e1]at h1 h2 h3 h4 h5 h6 ⊢;refine⟨h1,h2,h3,h4.trans ?_,fun hs=>h5 (insE_sorted hs n),h6.trans ?_⟩
   ·rw[List.filter_cons_of_pos (by simpa using hn)];exact((insE_perm o.box n).append_right _).trans (List.perm_middle.symm)
   ·rw[List.filter_cons_of_neg (by simpa using hn)]
  ·have e1:o.put l n={o with sent:=o.sent++[n]}:=if_neg hn;rw[e1]at h1 h2 h3 h4 h5 h6 ⊢;refine⟨h1,h2,h3,h4.trans ?_,h5,h6.trans ?_⟩
   ·rw[List.filter_cons_of_neg (by simpa using hn)]
   ·rw[List.filter_cons_of_pos (by simpa using hn)];simp
theorem Oc.dels:∀(ks:List (List Int)) (o:Oc),(ks.foldl Oc.del o).lp=o.lp∧(ks.foldl Oc.del o).com=o.com∧(ks.foldl Oc.del o).ov=o.ov∧(ks.foldl Oc.del o).sent=o.sent∧
  (ks.foldl Oc.del o).box=ks.foldl (fun l k=>l.eraseP (fun e=>decide (e.k=k))) o.box
 | [],o=>⟨rfl,rfl,rfl,rfl,rfl⟩
 |k::ks,o=>by
  obtain⟨h1,h2,h3,h4,h5⟩:=Oc.dels ks (o.del k);exact⟨h1,h2,h3,h4,h5⟩
def pool (outs:List Oc):List Ev:=outs.flatMap (fun o=>o.box++o.sent)
theorem flatMap_set {α β:Type} (g:α→List β):∀{l:List α} {i:Nat} {x:α},l[i]?=some x→(l.flatMap g).Perm (g x++(l.eraseIdx i).flatMap g)∧∀y,((l.set i y).flatMap g).Perm (g y++(l.eraseIdx i).flatMap g)
 | [],i,x,h=>by simp at h
 |a::l,0,x,h=>by
  simp at h;subst h;exact⟨by simp,fun y=>by simp⟩
 |a::l,i+1,x,h=>by
  simp at h;obtain⟨h1,h2⟩:=flatMap_set g h;have hm:∀(u v w:List β),(u++(v++w)).Perm (v++(u++w)):=fun u v w=>by
   rw[←List.append_assoc,←List.append_assoc];exact List.perm_append_comm.append_right w
  refine⟨?_,fun y=> ?_⟩
  ·simp only[List.flatMap_cons,List.eraseIdx_cons_succ];exact(h1.append_left (g a)).trans (hm _ _ _)
  ·simp only[List.set_cons_succ,List.flatMap_cons,List.eraseIdx_cons_succ];exact((h2 y).append_left (g a)).trans (hm _ _ _)
theorem mem_eraseIdx_ne {α:Type}:∀{l:List α} {i:Nat} {x:α},x∈l.eraseIdx i→∃j,j≠i∧l[j]?=some x
 | [],i,x,h=>by simp at h
 |a::l,0,x,h=>by
  simp at h;obtain⟨j,hj,h1⟩:=List.mem_iff_getElem.1 h;exact⟨j+1,by omega,by simp[hj,h1]⟩
 |a::l,i+1,x,h=>by
  rw[List.eraseIdx_cons_succ]at h;rcases List.mem_cons.1 h with rfl|h
  ·exact⟨0,by omega,by simp⟩
  ·obtain⟨j,hj,h1⟩:=mem_eraseIdx_ne h;exact⟨j+1,by omega,by simpa using h1⟩
structure OInv (i:Nat) (o:Oc):Prop where
 box:SortedE o.box
 mine:∀f∈o.box,f.lp=i
 sent:∀f∈o.sent,f.lp≠i∧f.kd=3
structure GInv (N P:Nat) (C:List (List Int)) (outs:List Oc):Prop where
 k:KInv N P C (outs.map Oc.lp) (pool outs)
 o:∀(i:Nat) (o:Oc),outs[i]?=some o→OInv i o
theorem filter_split {α:Type} (p:α→Bool) (l:List α):(l.filter p++l.filter (fun x=> !p x)).Perm l:=by
 induction l with
 |nil=>simp
 |cons a l ih=>
  by_cases h:p a=true
  ·rw[List.filter_cons_of_pos h,List.filter_cons_of_neg (by simp[h])];exact ih.cons a
  ·rw[List.filter_cons_of_neg h,List.filter_cons_of_pos (by simp[h])];exact List.perm_middle.trans (ih.cons a)
structure OneStep (N P:Nat) (la:Int) (pgs:List (List OpC)) (C:List (List Int)) (outs:List Oc) (i:Nat) (o:Oc) (e:Ev) (b:List Ev) (o':Oc):Prop where
 inv:GInv N P (e.k::C) (outs.set i o')
 lp:o'.lp=(exec pgs o.lp e).1
 com:o'.com=o.com++[e]
 ov:o'.ov=(o.ov||(exec pgs o.lp e).2.2.2)
 sent:o'.sent=o.sent++(exec pgs o.lp e).2.1.filter (fun f=> !decide (f.lp=e.lp))
 ex:ExecR N P la o.lp e (exec pgs o.lp e)
 rest:∃R,(pool outs).Perm (e::R)∧(pool (outs.set i o')).Perm ((R++(exec pgs o.lp e).2.1).filter (fun f=> !(exec pgs o.lp e).2.2.1.contains f.k))∧KeysD (R++(exec pgs o.lp e).2.1)
 box:o'.box.Perm ((b++(exec pgs o.lp e).2.1.filter (fun f=>decide (f.lp=e.lp))).filter (fun f=> !(exec pgs o.lp e).2.2.1.contains f.k))
theorem GInv.step {N P:Nat} {la:Int} {pgs:List (List OpC)} {C:List (List Int)} {outs:List Oc} {i:Nat} {o:Oc} {e:Ev} {b:List Ev} (h:GInv N P C outs) (hP:pgs.length=P) (hp:∀p∈pgs,∀o∈p,OpV N P la o)
  (ho:outs[i]?=some o) (hb:o.box=e::b) (hC:C.length≤800000):OneStep N P la pgs C outs i o e b (Oc.exec pgs {o with box:=b} e):=by
 obtain⟨hs,hm,ht⟩:=h.o i o ho;rw[hb]at hs hm;have hei:e.lp=i:=hm e List.mem_cons_self;have hil:e.lp.toNat=i:=by omega
 obtain⟨f1,f2⟩:=flatMap_set (fun o:Oc=>o.box++o.sent) ho;obtain⟨rest,hrest⟩:∃rest,(outs.eraseIdx i).flatMap (fun o:Oc=>o.box++o.sent)=rest:=⟨_,rfl⟩;rw[hrest]at f1 f2;have hQ:(pool outs).Perm (e::(b++o.sent++rest)):=by
  have:o.box++o.sent++rest=e::(b++o.sent++rest):=by rw[hb];simp
  exact this▸f1
 have hl:(outs.map Oc.lp)[e.lp.toNat]?=some o.lp:=by rw[hil,List.getElem?_map,ho];rfl
 have st:=h.k.step hQ hP hp hl hC;obtain⟨cr,hcr⟩:∃cr,(exec pgs o.lp e).2.1=cr:=⟨_,rfl⟩;obtain⟨ca,hca⟩:∃ca,(exec pgs o.lp e).2.2.1=ca:=⟨_,rfl⟩;obtain⟨g1,g2,g3,g4,g5,g6⟩:=Oc.puts e.lp cr (Oc.begin pgs {o with box:=b} e);obtain⟨d1,d2,d3,d4,d5⟩:=Oc.dels ca (cr.foldl (Oc.put e.lp) (Oc.begin pgs {o with box:=b} e));have hx:Oc.exec pgs {o with box:=b} e=ca.foldl Oc.del (cr.foldl (Oc.put e.lp) (Oc.begin pgs {o with box:=b} e)):=by
  unfold Oc.exec;simp only[hcr,hca]
 rw[hx];obtain⟨o',ho'⟩:∃o',ca.foldl Oc.del (cr.foldl (Oc.put e.lp) (Oc.begin pgs {o with box:=b} e))=o':=⟨_,rfl⟩;rw[ho']at d1 d2 d3 d4 d5 ⊢;obtain⟨o1,ho1⟩:∃o1,cr.foldl (Oc.put e.lp) (Oc.begin pgs {o with box:=b} e)=o1:=⟨_,rfl⟩;rw[ho1]at g1 g2 g3 g4 g5 g6 d1 d2 d3 d4 d5;have e1:o'.lp=(exec pgs o.lp e).1:=d1.trans g1;have e2:o'.com=o.com++[e]:=d2.trans g2;have e3:o'.ov=(o.ov||(exec pgs o.lp e).2.2.2):=d3.trans g3;have e4:o'.sent=o.sent++cr.filter (fun f=> !decide (f.lp=e.lp)):=d4.trans g6;have hgone:=st.gone;have hnd:=st.nd;rw[hcr]at hgone hnd;rw[hca]at hgone
 have k1:KeysD (b++cr.filter (fun f=>decide (f.lp=e.lp))):=by
  refine hnd.sub ?_;rw[List.append_assoc b o.sent rest,List.append_assoc b];exact(List.Sublist.refl b).append ((List.filter_sublist).trans (List.sublist_append_right _ _))
 have e5:o'.box=o1.box.filter (fun f=> !ca.contains f.k):=d5.trans (eraseP_keys ca (k1.perm g4.symm));have e6:o'.box.Perm ((b++cr.filter (fun f=>decide (f.lp=e.lp))).filter (fun f=> !ca.contains f.k)):=by
  rw[e5];exact g4.filter _
 have hfar:∀f,f∈cr→f.lp≠e.lp→f.kd=3:=fun f hf hne=>by
  rw[←hcr]at hf;rcases st.ex.far f hf with h1|h1
  ·exact absurd h1 hne
  ·exact h1.1
 have hsentk:(o.sent++cr.filter (fun f=> !decide (f.lp=e.lp))).filter (fun f=> !ca.contains f.k)=o.sent++cr.filter (fun f=> !decide (f.lp=e.lp)):=by
  refine List.filter_eq_self.2 fun f hf=> ?_;by_cases hc:f.k∈ca
  ·exfalso;rcases List.mem_append.1 hf with h1|h1
   ·have h2:=hgone f (by simp[h1]) hc;have h3:=(ht f h1).2;omega
   ·have h2:=hgone f (by simp[(List.mem_filter.1 h1).1]) hc;have h3:=(List.mem_filter.1 h1).2;simp at h3;exact h3 h2.1
  ·simpa using hc
 have hrestk:rest.filter (fun f=> !ca.contains f.k)=rest:=by
  refine List.filter_eq_self.2 fun f hf=> ?_;by_cases hc:f.k∈ca
  ·exfalso;have h2:=hgone f (by simp[hf]) hc;rw[←hrest]at hf;obtain⟨o2,h3,h4⟩:=List.mem_flatMap.1 hf;obtain⟨j,hj,h5⟩:=mem_eraseIdx_ne h3;have h6:=h.o j o2 h5;rcases List.mem_append.1 h4 with h7|h7
   ·have:=h6.mine f h7;omega
   ·have:=(h6.sent f h7).2;omega
  ·simpa using hc
 have hpool:(pool (outs.set i o')).Perm ((b++o.sent++rest++cr).filter (fun f=> !ca.contains f.k)):=by
  refine(f2 o').trans ?_;rw[e4];have p1:(b++o.sent++rest++cr).Perm ((b++cr.filter (fun f=>decide (f.lp=e.lp)))++((o.sent++cr.filter (fun f=> !decide (f.lp=e.lp)))++rest)):=by
   refine((filter_split (fun f:Ev=>decide (f.lp=e.lp)) cr).symm.append_left _).trans ?_;generalize cr.filter (fun f=>decide (f.lp=e.lp))=u;generalize cr.filter (fun f=> !decide (f.lp=e.lp))=v;simp only[List.append_assoc];refine List.Perm.append_left b ?_;have s1:(o.sent++(rest++(u++v))).Perm (u++v++(o.sent++rest)):=by
    rw[←List.append_assoc o.sent];exact List.perm_append_comm
   refine s1.trans ?_;rw[List.append_assoc];refine List.Perm.append_left u ?_;rw[←List.append_assoc,←List.append_assoc];exact List.perm_append_comm.append_right _
  refine List.Perm.trans ?_ (p1.symm.filter _);rw[List.filter_append,List.filter_append (l₁:=o.sent++_),hsentk,hrestk,List.append_assoc];exact e6.append_right _
 refine⟨⟨?_,fun j o2 h1=> ?_⟩,e1,e2,e3,by rw[hcr];exact e4,st.ex,⟨b++o.sent++rest,hQ,by rw[hcr,hca];exact hpool,by rw[hcr];exact hnd⟩,by rw[hcr,hca];exact e6⟩
 ·have h1:=st.inv;rw[hcr,hca,hil]at h1;have h2:(outs.set i o').map Oc.lp=(outs.map Oc.lp).set i (exec pgs o.lp e).1:=by rw[List.map_set,e1]
  rw[h2];exact h1.perm hpool.symm (.refl _)
 ·by_cases hj:i=j
  ·subst hj;rw[List.getElem?_set_self (List.getElem?_eq_some_iff.1 ho).1]at h1;cases h1;refine⟨?_,fun f hf=> ?_,fun f hf=> ?_⟩
   ·rw[e5];exact(g5 (SortedE.tail hs)).filter _
   ·have h3:=(List.mem_filter.1 (e6.subset hf)).1;rcases List.mem_append.1 h3 with h4|h4
    ·exact hm f (List.mem_cons_of_mem _ h4)
    ·have:=(List.mem_filter.1 h4).2;simp at this;omega
   ·rw[e4]at hf;rcases List.mem_append.1 hf with h4|h4
    ·exact ht f h4
    ·obtain⟨h5,h6⟩:=List.mem_filter.1 h4;simp at h6;exact⟨by omega,hfar f h5 h6⟩
  ·rw[List.getElem?_set_ne hj]at h1;exact h.o j o2 h1
section
structure Sq where
 tr:List (List Ev)
 lps:List Lp
 pend:List Ev
 n:Nat
 ov:Bool
def Sq.commit (pgs:List (List OpC)) (s:Sq):Sq:=match s.pend with
 | []=>s
 |e::p=>{tr:=s.tr.set e.lp.toNat (s.tr.getD e.lp.toNat []++[e]),lps:=s.lps.set e.lp.toNat (exec pgs (s.lps.getD e.lp.toNat Lp.zero) e).1,pend:=sortC ((p++(exec pgs (s.lps.getD e.lp.toNat Lp.zero) e).2.1).filter (fun f=> !(exec pgs (s.lps.getD e.lp.toNat Lp.zero) e).2.2.1.contains f.k)),n:=s.n+1,ov:=s.ov||(exec pgs (s.lps.getD e.lp.toNat Lp.zero) e).2.2.2}
def Sq.ready (en:Int) (s:Sq):Bool:=match s.pend with
 | []=>false
 |e::_=>decide (e.t<en)
def Sq.run (pgs:List (List OpC)) (en:Int):Nat→Sq→Sq
 |0,s=>s
 |k+1,s=>if s.ready en then Sq.run pgs en k (s.commit pgs)else s
def Sq.steps (pgs:List (List OpC)):Nat→Sq→Sq
 |0,s=>s
 |k+1,s=>Sq.steps pgs k (s.commit pgs)
structure SRel (tr0:List (List Ev)) (ov0:Bool) (s:Sq) (outs:List Oc):Prop where
 lps:s.lps=outs.map Oc.lp
 nt:tr0.length=outs.length
 tr:s.tr=List.zipWith (·++·) tr0 (outs.map Oc.com)
 pend:s.pend.Perm (pool outs)
 sorted:SortedE s.pend
 ov:s.ov=(ov0||outs.any Oc.ov)
structure WInv (h fl:Int) (outs:List Oc):Prop where
 lo:∀f∈pool outs,fl≤f.t
 sent:∀o∈outs,∀f∈o.sent,h≤f.t
theorem zip_set {α:Type}:∀(a b:List (List α)) (i:Nat) (x:List α) (y:List α),i<a.length→b[i]?=some x→(List.zipWith (·++·) a b).set i ((List.zipWith (·++·) a b).getD i []++y)=List.zipWith (·++·) a (b.set i (x++y))
 | [],_,i,_,_,h,_=>by simp at h
 |_::_,[],i,_,_,_,h=>by simp at h
 |u::a,v::b,0,x,y,_,h=>by
  simp at h;subst h;simp
 |u::a,v::b,i+1,x,y,h1,h2=>by
  have h3:=zip_set a b i x y (by simpa using h1) (by simpa using h2);simp only[List.zipWith_cons_cons,List.set_cons_succ,List.getD_cons_succ];rw[h3]
theorem any_set {α:Type} (p:α→Bool):∀(l:List α) (i:Nat) (x y:α) (c:Bool),l[i]?=some x→p y=(p x||c)→(l.set i y).any p=(l.any p||c)
 | [],i,_,_,_,h,_=>by simp at h
 |a::l,0,x,y,c,h,hy=>by
  simp at h;subst h;simp only[List.set_cons_zero,List.any_cons,hy];cases p a<;>cases c<;>simp
 |a::l,i+1,x,y,c,h,hy=>by
  have:=any_set p l i x y c (by simpa using h) hy;simp only[List.set_cons_succ,List.any_cons,this,Bool.or_assoc]
theorem mem_pool {outs:List Oc} {f:Ev}:f∈pool outs↔∃(i:Nat) (o:Oc),outs[i]?=some o∧(f∈o.box∨f∈o.sent):=by
 unfold pool;rw[List.mem_flatMap];constructor
 ·rintro⟨o,ho,hf⟩;obtain⟨i,hi,h1⟩:=List.mem_iff_getElem.1 ho;exact⟨i,o,by simp[hi,h1],List.mem_append.1 hf⟩
 ·rintro⟨i,o,ho,hf⟩;exact⟨o,List.mem_of_getElem? ho,List.mem_append.2 hf⟩
section
variable {N P:Nat} {la:Int} {pgs:List (List OpC)} {C:List (List Int)} {outs:List Oc}
theorem find_head (h:GInv N P C outs) {s:Sq} {e:Ev} {p:List Ev} (hp:s.pend.Perm (pool outs)) (hs:SortedE s.pend) (he:s.pend=e::p) (hns:∀o∈outs,e∉o.sent):∃(i:Nat) (o:Oc) (b:List Ev),outs[i]?=some o∧o.box=e::b∧e.lp.toNat=i:=by
 have h1:e∈pool outs:=hp.subset (by rw[he];exact List.mem_cons_self);obtain⟨i,o,ho,hf⟩:=mem_pool.1 h1;rcases hf with hf|hf
 ·have hi:=h.o i o ho;cases hb:o.box with
  |nil=>rw[hb]at hf;cases hf
  |cons f b=>
   refine⟨i,o,b,ho,?_,by have:=hi.mine e hf;omega⟩;have hfp:f∈pool outs:=mem_pool.2 ⟨i,o,ho,.inl (by rw[hb];exact List.mem_cons_self)⟩;have hsb:=hi.box;rw[hb]at hsb hf;rcases List.mem_cons.1 hf with rfl|hf2
   ·exact hb
   ·have c1:=SortedE.head hsb e hf2;have hfs:f∈s.pend:=hp.symm.subset hfp;rw[he]at hfs hs;rcases List.mem_cons.1 hfs with rfl|hfs
    ·exact hb
    ·have c2:=SortedE.head hs f hfs;have c3:=cmpE_zero.1 (show cmpE e f=0 by have:=cmpE_swap e f;omega);have:=h.k.nd.inj h1 hfp c3.2;rw[this,hb]
 ·exact absurd hf (hns o (List.mem_of_getElem? ho))
theorem SRel.step {tr0:List (List Ev)} {ov0:Bool} {s:Sq} {hz fl:Int} (h:GInv N P C outs) (r:SRel tr0 ov0 s outs) (hw:WInv hz fl outs) (hP:pgs.length=P) (hp:∀p∈pgs,∀o∈p,OpV N P la o) (hC:C.length≤800000)
  {e:Ev} {p:List Ev} (he:s.pend=e::p) (hlt:e.t<hz) (hz1:hz≤fl+la):
  ∃(i:Nat) (o:Oc) (b:List Ev),outs[i]?=some o∧o.box=e::b∧SRel tr0 ov0 (s.commit pgs) (outs.set i (Oc.exec pgs {o with box:=b} e))∧WInv hz fl (outs.set i (Oc.exec pgs {o with box:=b} e))∧GInv N P (e.k::C) (outs.set i (Oc.exec pgs {o with box:=b} e)):=by
 obtain⟨i,o,b,ho,hb,hi⟩:=find_head h r.pend r.sorted he (fun o ho hf=>by have:=hw.sent o ho e hf;omega);have st:=h.step hP hp ho hb hC;refine⟨i,o,b,ho,hb,?_⟩;obtain⟨o',ho'⟩:∃o',Oc.exec pgs {o with box:=b} e=o':=⟨_,rfl⟩;rw[ho']at st ⊢;have hil:i<outs.length:=(List.getElem?_eq_some_iff.1 ho).1;have hl:s.lps.getD e.lp.toNat Lp.zero=o.lp:=by
  rw[hi,r.lps,List.getD_eq_getElem?_getD,List.getElem?_map,ho];rfl
 obtain⟨R,q1,q2,q3⟩:=st.rest;have hcm:s.commit pgs={tr:=s.tr.set i (s.tr.getD i []++[e]),lps:=s.lps.set i (exec pgs o.lp e).1,pend:=sortC ((p++(exec pgs o.lp e).2.1).filter (fun f=> !(exec pgs o.lp e).2.2.1.contains f.k)),n:=s.n+1,ov:=s.ov||(exec pgs o.lp e).2.2.2}:=by
  unfold Sq.commit;rw[he];simp only[hl];rw[hi]
 have hpR:p.Perm R:=by
  have:=r.pend.trans q1;rw[he]at this;exact this.cons_inv
 refine⟨?_,⟨fun f hf=> ?_,fun o2 ho2 f hf=> ?_⟩,st.inv⟩
 ·rw[hcm];refine⟨?_,by rw[List.length_set];exact r.nt,?_,?_,sortC_sorted _,?_⟩
  ·simp only;rw[r.lps,List.map_set,st.lp]
  ·simp only;rw[r.tr,List.map_set,st.com];exact zip_set tr0 (outs.map Oc.com) i o.com [e] (by rw[r.nt];exact hil) (by rw[List.getElem?_map,ho];rfl)
  ·exact(sortC_perm _).trans (((hpR.append_right _).filter _).trans q2.symm)
  ·simp only;rw[r.ov,any_set Oc.ov outs i o o' (exec pgs o.lp e).2.2.2 ho st.ov,Bool.or_assoc]
 ·have h1:=(List.mem_filter.1 (q2.subset hf)).1;rcases List.mem_append.1 h1 with h2|h2
  ·exact hw.lo f (q1.symm.subset (List.mem_cons_of_mem _ h2))
  ·have h3:=(st.ex.time f h2).1;have h4:=hw.lo e (q1.symm.subset List.mem_cons_self);omega
 ·rcases List.mem_or_eq_of_mem_set ho2 with h1|rfl
  ·exact hw.sent o2 h1 f hf
  ·rw[st.sent]at hf;rcases List.mem_append.1 hf with h1|h1
   ·exact hw.sent o (List.mem_of_getElem? ho) f h1
   ·obtain⟨h2,h3⟩:=List.mem_filter.1 h1;simp at h3;rcases st.ex.far f h2 with h4|h4
    ·exact absurd h4 h3
    ·have h5:=hw.lo e (q1.symm.subset List.mem_cons_self);omega
end
theorem list_set_same {α:Type} {l:List α} {i:Nat} {x:α} (h:l[i]?=some x):l.set i x=l:=by
 obtain⟨h1,h2⟩:=List.getElem?_eq_some_iff.1 h;rw[←h2,List.set_getElem_self]
theorem sum_set:∀(l:List Nat) (i n:Nat),l[i]?=some (n+1)→(l.set i n).sum+1=l.sum
 | [],i,n,h=>by simp at h
 |a::l,0,n,h=>by
  simp at h;subst h;simp;omega
 |a::l,i+1,n,h=>by
  have:=sum_set l i n (by simpa using h);simp;omega
theorem set_app_len:∀(l:List (List Ev)) (i:Nat) (e:Ev),i<l.length→(l.set i (l.getD i []++[e])).flatten.length=l.flatten.length+1
 | [],_,_,h=>by simp at h
 |a::l,0,e,_=>by
  simp;omega
 |a::l,i+1,e,h=>by
  have:=set_app_len l i e (by simpa using h);simp only[List.set_cons_succ,List.getD_cons_succ,List.flatten_cons,List.length_append,this];omega
theorem window_seq {N P:Nat} {la:Int} {pgs:List (List OpC)} {tr0:List (List Ev)} {ov0:Bool} {hz fl:Int} (hP:pgs.length=P) (hp:∀p∈pgs,∀o∈p,OpV N P la o) (hz1:hz≤fl+la) {F:List Oc} (hF:∀g∈F,g.rest hz):
  ∀(m:Nat) (C:List (List Int)) (outs:List Oc) (fs:List Nat) (s:Sq),fs.sum=m→GInv N P C outs→SRel tr0 ov0 s outs→WInv hz fl outs→C.length+m≤800000→outs.length=F.length→fs.length=F.length→
   (∀(i:Nat) (o:Oc) (k:Nat) (g:Oc),outs[i]?=some o→fs[i]?=some k→F[i]?=some g→Oc.run pgs hz k o=g)→
   ∃(M:Nat) (C':List (List Int)),M≤m∧C'.length=C.length+M∧GInv N P C' F∧SRel tr0 ov0 (Sq.steps pgs M s) F∧WInv hz fl F∧(Sq.steps pgs M s).n=s.n+M∧(Sq.steps pgs M s).tr.flatten.length=s.tr.flatten.length+M∧
    (∀en,hz≤en→∀k,Sq.run pgs en (M+k) s=Sq.run pgs en k (Sq.steps pgs M s)):=by
 intro m
 induction m with
 |zero=>
  intro C outs fs s hm hg hr hw hC hl1 hl2 hall;have:outs=F:=by
   refine List.ext_getElem hl1 fun i h1 h2=> ?_;have h3:fs[i]?=some 0:=by
    have hi:i<fs.length:=by omega
    rw[List.getElem?_eq_getElem hi];have h9:=List.sum_eq_zero_iff_forall_eq_nat.1 hm fs[i] (List.getElem_mem hi);rw[h9]
   exact hall i _ 0 _ (List.getElem?_eq_getElem h1) h3 (List.getElem?_eq_getElem h2)
  subst this;exact⟨0,C,Nat.le_refl _,rfl,hg,hr,hw,rfl,rfl,fun en _ k=>by simp[Sq.steps]⟩
 |succ m ih=>
  intro C outs fs s hm hg hr hw hC hl1 hl2 hall;by_cases hd:∃e p,s.pend=e::p∧e.t<hz
  ·obtain⟨e,p,he,hlt⟩:=hd;obtain⟨i,o,b,ho,hb,r2,w2,g2⟩:=hr.step hg hw hP hp (by omega) he hlt hz1;have hil:i<outs.length:=(List.getElem?_eq_some_iff.1 ho).1;have hif:i<F.length:=by omega
   have his:i<fs.length:=by omega
   obtain⟨k,hk⟩:∃k,fs[i]?=some k:=⟨_,List.getElem?_eq_getElem his⟩;have hrun:=hall i o k F[i] ho hk (List.getElem?_eq_getElem hif);cases k with
   |zero=>
    exfalso;have h1:o=F[i]:=hrun;have h2:=hF F[i] (List.getElem_mem hif);rw[←h1]at h2;exact h2 e (by simp[hb]) hlt
   |succ k=>
    have hrun2:Oc.run pgs hz k (Oc.exec pgs {o with box:=b} e)=F[i]:=by
     have h1:Oc.run pgs hz (k+1) o=Oc.run pgs hz k (Oc.exec pgs {o with box:=b} e):=by
      conv=>lhs;unfold Oc.run
      rw[hb];simp only;rw[if_pos hlt]
     rw[←h1];exact hrun
    have hsum:=sum_set fs i k hk;obtain⟨M,C',m1,m2,m3,m4,m5,m6,m8,m7⟩:=ih (e.k::C) _ (fs.set i k) (s.commit pgs) (by omega) g2 r2 w2 (by simp only[List.length_cons];omega) (by rw[List.length_set];exact hl1) (by rw[List.length_set];exact hl2) (fun j o2 k2 g h1 h2 h3=>by
     by_cases hj:i=j
     ·subst hj;rw[List.getElem?_set_self hil]at h1;rw[List.getElem?_set_self his]at h2;rw[List.getElem?_eq_getElem hif]at h3;cases h1;cases h2;cases h3;exact hrun2
     ·rw[List.getElem?_set_ne hj]at h1 h2;exact hall j o2 k2 g h1 h2 h3)
    have hn:(s.commit pgs).n=s.n+1:=by
     unfold Sq.commit;rw[he]
    have htr:(s.commit pgs).tr.flatten.length=s.tr.flatten.length+1:=by
     unfold Sq.commit;rw[he];have h1:=hg.k.rng e (hr.pend.subset (he▸List.mem_cons_self));have h2:=hg.k.nl;have h3:s.tr.length=outs.length:=by rw[hr.tr,List.length_zipWith,List.length_map,hr.nt,Nat.min_self]
     rw[List.length_map]at h2;exact set_app_len _ _ e (by omega)
    refine⟨M+1,C',by omega,by rw[m2];simp only[List.length_cons];omega,m3,m4,m5,by rw[Sq.steps,m6,hn];omega,by rw[Sq.steps,m8,htr];omega,fun en hen k2=> ?_⟩;rw[Sq.steps,←m7 en hen k2,show M+1+k2=M+k2+1 by omega]
    conv=>lhs;unfold Sq.run
    rw[if_pos];unfold Sq.ready;rw[he];simp;omega
  ·have hrest:∀o∈outs,o.rest hz:=fun o ho f hf hlt=>by
    have h1:f∈o.box:=List.mem_of_mem_head? hf;obtain⟨i,hi,h2⟩:=List.mem_iff_getElem.1 ho;have h3:f∈s.pend:=hr.pend.symm.subset (mem_pool.2 ⟨i,o,by simp[hi,h2],.inl h1⟩);cases hc:s.pend with
    |nil=>rw[hc]at h3;cases h3
    |cons e p=>
     have h5:e.t≤f.t:=by
      have hs:=hr.sorted;rw[hc]at h3 hs;rcases List.mem_cons.1 h3 with rfl|h3
      ·exact Int.le_refl _
      ·exact cmpE_time (SortedE.head hs f h3)
     exact hd ⟨e,p,hc,by omega⟩
   have:outs=F:=by
    refine List.ext_getElem hl1 fun i h1 h2=> ?_;have hi:i<fs.length:=by omega
    have:=hall i _ fs[i] _ (List.getElem?_eq_getElem h1) (List.getElem?_eq_getElem hi) (List.getElem?_eq_getElem h2);rw[Oc.run_rest (hrest _ (List.getElem_mem h1))]at this;exact this
   subst this;exact⟨0,C,Nat.zero_le _,rfl,hg,hr,hw,rfl,rfl,fun en _ k=>by simp[Sq.steps]⟩
section
variable {N P:Nat} {la:Int} {pgs:List (List OpC)}
theorem GInv.runOne (hP:pgs.length=P) (hp:∀p∈pgs,∀o∈p,OpV N P la o) (hz:Int) (i:Nat):∀(n:Nat) (C:List (List Int)) (outs:List Oc) (o:Oc),GInv N P C outs→outs[i]?=some o→C.length+n≤800000→
  ∃(d:List Ev) (C':List (List Int)),(Oc.run pgs hz n o).com=o.com++d∧d.length≤n∧C'.length=C.length+d.length∧GInv N P C' (outs.set i (Oc.run pgs hz n o))∧(pool (outs.set i (Oc.run pgs hz n o))).length≤(pool outs).length+16*d.length
 |0,C,outs,o,h,ho,hC=>⟨[],C,by simp[Oc.run],by simp,by simp,by rw[show Oc.run pgs hz 0 o=o from rfl,list_set_same ho];exact h,by rw[show Oc.run pgs hz 0 o=o from rfl,list_set_same ho];simp⟩
 |n+1,C,outs,o,h,ho,hC=>by
  have hstop:Oc.run pgs hz (n+1) o=o→∃(d:List Ev) (C':List (List Int)),(Oc.run pgs hz (n+1) o).com=o.com++d∧d.length≤n+1∧C'.length=C.length+d.length∧GInv N P C' (outs.set i (Oc.run pgs hz (n+1) o))∧(pool (outs.set i (Oc.run pgs hz (n+1) o))).length≤(pool outs).length+16*d.length:=
   fun e=>by rw[e];exact⟨[],C,by simp,by simp,by simp,by rw[list_set_same ho];exact h,by rw[list_set_same ho];simp⟩
  cases hb:o.box with
  |nil=>exact hstop (by unfold Oc.run;rw[hb])
  |cons e b=>
   by_cases hlt:e.t<hz
   ·have st:=h.step hP hp ho hb (by omega);have hrun:Oc.run pgs hz (n+1) o=Oc.run pgs hz n (Oc.exec pgs {o with box:=b} e):=by
     conv=>lhs;unfold Oc.run
     rw[hb];simp only;rw[if_pos hlt]
    obtain⟨o',ho'⟩:∃o',Oc.exec pgs {o with box:=b} e=o':=⟨_,rfl⟩;rw[ho']at st hrun;obtain⟨d,C',h1,h2,h3,h4,h5⟩:=GInv.runOne hP hp hz i n (e.k::C) (outs.set i o') o' st.inv (by rw[List.getElem?_set_self (List.getElem?_eq_some_iff.1 ho).1]) (by simp only[List.length_cons];omega);rw[hrun];rw[List.set_set]at h4 h5;refine⟨e::d,C',by rw[h1,st.com];simp,by simp only[List.length_cons];omega,by rw[h3];simp only[List.length_cons];omega,h4,?_⟩;obtain⟨R,q1,q2,_⟩:=st.rest;have:=q1.length_eq;have h6:=q2.length_eq
    have h7:=List.length_filter_le (fun f=> !(exec pgs o.lp e).2.2.1.contains f.k) (R++(exec pgs o.lp e).2.1);have h8:=st.ex.few.1;simp only[List.length_cons,List.length_append]at this h7 ⊢;omega
   ·exact hstop (by unfold Oc.run;rw[hb];simp only;rw[if_neg hlt])
end
end
end Go.Proofs.YtfnimdhghglanaaGreat.Hand
end
section
namespace Go.Proofs.YtfnimdhghglanaaGreat.Hand
open Go.RowKit Go.Shelf Go.Proofs.YtfnimdhghglanaaGreatW PrintWords PrintLast PrintMore
structure ExecPre (P:Nat) (l:Lp) (e:Ev):Prop where
 lp:LpOk P l
 kl:e.k.length≤900000
 ar:e.kd=2→0≤e.ar
 tm:∀p∈l.ps,p.tm.length≤900000
structure PgsOk (progs:List (List OpC)):Prop where
 n:progs.length≤1000000
 p:∀l∈progs,l.length≤1000000∧∀o∈l,OpOk o
structure ExecTo (Mt:Nat→Prop) (w w':World) (x:Lp×List Ev×List (List Int)×Bool) (r:Ending):Prop where
 ex:∃(s:SLp) (ch xh:SH),r= .returned (.tuple #[s.v,.slice ch.A ch.n ch.c,.slice xh.A xh.n xh.c,.bool x.2.2.2])∧LpAt Mt w' s x.1∧EvsAt Mt w' ch x.2.1∧KeysAt Mt w' xh x.2.2.1
 below:Below w.heap.size w w'
theorem LpAt.below {Mt:Nat→Prop} {w w':World} {s:SLp} {l:Lp} (h:LpAt Mt w s l) (k:Below w.heap.size w w'):LpAt Mt w' s l:=⟨h.r0,h.r1,h.ps.keep (Keep.of_below k),h.sum⟩
theorem LpAt.fresh {Mt Mt':Nat→Prop} {w w':World} {s:SLp} {l:Lp} (h:LpAt Mt w s l) (k:Keep Mt w w') (hm:∀k,k<w.heap.size→Mt' k→Mt k):LpAt Mt' w' s l:=⟨h.r0,h.r1,h.ps.fresh k hm,h.sum⟩
theorem execTo_none {Mt:Nat→Prop} {w w':World} {s:SLp} {l:Lp} (h:LpAt Mt w s l) (hb:Below w.heap.size w w'):ExecTo Mt w w' (l,[],[],false) (.returned (.tuple #[s.v,.slice none 0 0,.slice none 0 0,.bool false])):=
 ⟨⟨s,.nil,.nil,rfl,h.below hb,⟨[],Rd.nil _ _ _,.nil⟩,⟨[],Rd.nil _ _ _,.nil⟩⟩,hb⟩
theorem exec_calls {Mt:Nat→Prop} {w:World} (hM:∀k,Mt k→k<w.heap.size) (c:SCf) (x:SLp) (e:SE) {lp:Lp} {ev:Ev} {progs:List (List OpC)} (hx:LpAt Mt w x lp) (he:EvAt Mt w e ev) (hc:PgsAt Mt w c.pgs progs)
  (h:ExecPre progs.length lp ev) (hp:PgsOk progs):Calls Tryz.prog 84 #[c.v,x.v,e.v] w fun r w'=>ExecTo Mt w w' (exec progs lp ev) r:=by
 have hn:x.ps.n=lp.ps.length:=hx.ps.len;unfold exec;by_cases h3:ev.kd=3
 ·rw[if_pos h3];refine(execMsg_calls w c x e (he.kd.trans h3)).mono ?_;rintro r w' ⟨rfl,hb⟩;refine⟨⟨⟨x.r0,x.r1,x.ps,IntKind.i64.wrap (x.sum+e.ar)⟩,.nil,.nil,rfl,?_,⟨[],Rd.nil _ _ _,.nil⟩,⟨[],Rd.nil _ _ _,.nil⟩⟩,hb⟩;have h2:=hx.below hb;exact⟨h2.r0,h2.r1,h2.ps,by simp only;rw[hx.sum,he.ar]⟩
 ·rw[if_neg h3];cases hw:wakes lp ev with
  |true=>
   rw[if_pos rfl];obtain⟨k1,k2,k3,k4⟩:=wakes_of hw;refine(execRun_calls hM c x e hx he hc k1 k2 k3 k4 h.lp.n (fun p hp=>(h.lp.p p hp).1) h.kl h.ar (fun p hp=>by have:=h.tm p hp;omega) hp.p (fun p hp=>(h.lp.p p hp).2) hp.n).mono ?_;rintro r w' ⟨⟨s,ch,xh,rfl,h1,h2,h4⟩,hb⟩;exact⟨⟨s,ch,xh,rfl,h1,h2,h4⟩,hb⟩
  |false=>
   rw[if_neg (by simp)];by_cases hk:ev.kd=1∨ev.kd=2
   ·have hek:e.kd=1∨e.kd=2:=by rw[he.kd];exact hk
    by_cases hr:ev.pr<0∨(lp.ps.length:Int)≤ev.pr
    ·refine(execDeadB_calls w c x e hek (by rw[he.pr,hn];exact hr)).mono ?_;rintro r w' ⟨rfl,hb⟩;exact execTo_none hx hb
    ·obtain⟨ss,hss,hsa⟩:=hx.ps;refine(execDeadC_calls w c x e hek ev.pr.toNat (by rw[he.pr];omega) (by omega) ss hss.here (fun p hp=> ?_)).mono ?_
     ·obtain⟨i1,i2⟩:=List.getElem?_eq_some_iff.1 hp;have i3:ev.pr.toNat<lp.ps.length:=by omega
      have h9:=hsa.get _ i1 i3;rw[i2]at h9;rw[h9.al];have h10:(exStart lp ev).self=lp.ps[ev.pr.toNat]:=by simp[Ex.self,exStart,List.getD_eq_getElem?_getD,i3]
      cases hal:(exStart lp ev).self.al with
      |false=>rw[h10]at hal;exact hal
      |true=>
       exfalso;have:wakes lp ev=true:=by
        simp only[wakes,Bool.and_eq_true,decide_eq_true_eq];exact⟨⟨⟨hk,by omega⟩,i3⟩,hal⟩
       rw[hw]at this;cases this
     ·rintro r w' ⟨rfl,hb⟩;exact execTo_none hx hb
   ·refine(execDeadA_calls w c x e (by rw[he.kd];exact h3) (by rw[he.kd];exact⟨fun e=>hk (.inl e),fun e=>hk (.inr e)⟩)).mono ?_;rintro r w' ⟨rfl,hb⟩;exact execTo_none hx hb
section
abbrev TOut:TypeId:=162
abbrev SH.own (h:SH):Option Nat:=(Value.slice h.A h.n h.c).ownBlock
def Mo (Mt:Nat→Prop) (b:Nat) (ch sh:SH) (k:Nat):Prop:=Mt k∨k=b∨ch.own=some k∨sh.own=some k
def outCells (ph bh ch sh:SH) (o:Oc):Array Value:= #[.int .i64 o.lp.r0,.int .i64 o.lp.r1,.slice ph.A ph.n ph.c,.int .i64 o.lp.sum,.slice bh.A bh.n bh.c,.slice ch.A ch.n ch.c,.slice sh.A sh.n sh.c,.bool o.ov]
def OwnEv (Mt:Nat→Prop) (B:Nat) (w:World) (h:SH) (es:List Ev):Prop:=∃ss,Kd.R kE 49 w B (fun _=>True) (.slice h.A h.n h.c) ss∧All2 (EvAt Mt w) ss es
structure OutAt (Mt:Nat→Prop) (B:Nat) (w:World) (b:Nat) (ph bh ch sh:SH) (o:Oc):Prop where
 base:B≤w.heap.size
 hb:B≤b
 blk:w.heap[b]?=some (.cells (outCells ph bh ch sh o) TOut (0,0))
 ps:PcsAt (Mo Mt b ch sh) w ph o.lp.ps
 box:EvsAt (Mo Mt b ch sh) w bh o.box
 com:OwnEv (Mo Mt b ch sh) B w ch o.com
 sent:OwnEv (Mo Mt b ch sh) B w sh o.sent
 apart:∀k,ch.own=some k→sh.own≠some k
theorem OwnEv.stay {Mt Mt':Nat→Prop} {B:Nat} {w w':World} {h:SH} {es:List Ev} (r:OwnEv Mt B w h es) (k:Keep Mt w w') (hm:∀k,k<w.heap.size→Mt' k→Mt k) (hb:∀j,h.own=some j→w'.heap[j]?=w.heap[j]?):OwnEv Mt' B w' h es:=by
 obtain⟨ss,h1,h2⟩:=r;exact⟨ss,R_stay h1 rfl fun j hj=>hb j hj,h2.imp fun _ _ hs=>hs.fresh k hm⟩
theorem OwnEv.typed {Mt:Nat→Prop} {B:Nat} {w:World} {h:SH} {es:List Ev} (r:OwnEv Mt B w h es) (k:Nat) (hk:h.own=some k):(∃cells,w.heap[k]?=some (Obj.cells cells 49 (0,0)))∧B≤k∧k<w.heap.size:=by
 obtain⟨ss,h1,_⟩:=r;exact⟨Kd.R_typed h1 k hk,Kd.R_base h1 k hk,Kd.R_lt h1 k hk⟩
section
variable {Mt:Nat→Prop} {B:Nat} {w w':World} {b:Nat} {ph bh ch sh:SH} {o:Oc}
theorem OutAt.mo (h:OutAt Mt B w b ph bh ch sh o) (hM:∀k,Mt k→k<w.heap.size) (k:Nat) (hk:Mo Mt b ch sh k):k<w.heap.size:=by
 rcases hk with hk|rfl|hk|hk
 ·exact hM k hk
 ·exact blk_lt h.blk
 ·exact(h.com.typed k hk).2.2
 ·exact(h.sent.typed k hk).2.2
theorem OutAt.old (h:OutAt Mt B w b ph bh ch sh o) (k:Nat) (hk:k<B) (hm:Mo Mt b ch sh k):Mt k:=by
 have:=h.hb;rcases hm with hm|rfl|hm|hm
 ·exact hm
 ·omega
 ·have:=(h.com.typed k hm).2.1;omega
 ·have:=(h.sent.typed k hm).2.1;omega
theorem OutAt.more (h:OutAt Mt B w b ph bh ch sh o) (k:Below w.heap.size w w'):OutAt Mt B w' b ph bh ch sh o:=
 ⟨Nat.le_trans h.base k.size,h.hb,(k.block b (blk_lt h.blk)).trans h.blk,h.ps.keep (Keep.of_below k),h.box.below k,h.com.stay (Keep.of_below k) (fun _ _ h=>h) (fun j hj=>k.block j (h.com.typed j hj).2.2),
  h.sent.stay (Keep.of_below k) (fun _ _ h=>h) (fun j hj=>k.block j (h.sent.typed j hj).2.2),h.apart⟩
theorem OutAt.fresh {Mt':Nat→Prop} (h:OutAt Mt B w b ph bh ch sh o) (k:Below w.heap.size w w') (hm:∀k,k<w.heap.size→Mt' k→Mt k):OutAt Mt' B w' b ph bh ch sh o:=
 have hm2:∀k,k<w.heap.size→Mo Mt' b ch sh k→Mo Mt b ch sh k:=fun j hj h2=>by
  rcases h2 with h2|h2
  ·exact .inl (hm j hj h2)
  ·exact .inr h2
 ⟨Nat.le_trans h.base k.size,h.hb,(k.block b (blk_lt h.blk)).trans h.blk,h.ps.fresh (Keep.of_below k) hm2,h.box.fresh (Keep.of_below k) hm2,h.com.stay (Keep.of_below k) hm2 (fun j hj=>k.block j (h.com.typed j hj).2.2),
  h.sent.stay (Keep.of_below k) hm2 (fun j hj=>k.block j (h.sent.typed j hj).2.2),h.apart⟩
theorem OutAt.mtKeep (h:OutAt Mt B w b ph bh ch sh o) (k:Keep Mt w w') (hb:∀j,j=b∨ch.own=some j∨sh.own=some j→w'.heap[j]?=w.heap[j]?):OutAt Mt B w' b ph bh ch sh o:=
 have k2:Keep (Mo Mt b ch sh) w w':=k.mono fun _ _ h=> .inl h
 ⟨Nat.le_trans h.base k.size,h.hb,(hb b (.inl rfl)).trans h.blk,h.ps.keep k2,h.box.keep k2,h.com.stay k2 (fun _ _ h=>h) (fun j hj=>hb j (.inr (.inl hj))),h.sent.stay k2 (fun _ _ h=>h) (fun j hj=>hb j (.inr (.inr hj))),h.apart⟩
theorem OutAt.cells (h:OutAt Mt B w b ph bh ch sh o):∀j u,(outCells ph bh ch sh o)[j]?=some u→w.cell? ⟨b,j,none⟩=some u:=fun j u hu=>by
 simp only[World.cell?,h.blk];exact hu
theorem OutAt.free (h:OutAt Mt B w b ph bh ch sh o) (j:Nat):w.frozen? ⟨b,j,none⟩=false:=blk_frozen h.blk j
theorem OutAt.put (h:OutAt Mt B w b ph bh ch sh o) (j:Nat) (u:Value) {ph' bh':SH} {o':Oc} (he:(outCells ph bh ch sh o).setIfInBounds j u=outCells ph' bh' ch sh o') (hps:PcsAt (Mo Mt b ch sh) w ph' o'.lp.ps) (hbx:EvsAt (Mo Mt b ch sh) w bh' o'.box) (hc:o'.com=o.com) (hs:o'.sent=o.sent):
  OutAt Mt B (w.setCell ⟨b,j,none⟩ u) b ph' bh' ch sh o'∧Keep (Mo Mt b ch sh) w (w.setCell ⟨b,j,none⟩ u):=by
 have hk:Keep (Mo Mt b ch sh) w (w.setCell ⟨b,j,none⟩ u):=Keep.set (b:=b) (.inr (.inl rfl)) u;have hne:∀(h2:SH) (es:List Ev),OwnEv (Mo Mt b ch sh) B w h2 es→∀k,h2.own=some k→(w.setCell ⟨b,j,none⟩ u).heap[k]?=w.heap[k]?:=fun h2 es r k hk=>Below.heap_setCell w ⟨b,j,none⟩ u k fun e=>by
  obtain⟨⟨c,hc⟩,_⟩:=r.typed k hk;simp only at e;rw[e,h.blk]at hc;cases hc
 refine⟨⟨Nat.le_trans h.base hk.size,h.hb,blk_put h.blk j u he,hps.keep hk,hbx.keep hk,?_,?_,h.apart⟩,hk⟩
 ·rw[hc];exact h.com.stay hk (fun _ _ h=>h) (hne _ _ h.com)
 ·rw[hs];exact h.sent.stay hk (fun _ _ h=>h) (hne _ _ h.sent)
theorem mo_com (h:OutAt Mt B w b ph bh ch sh o) {ch':SH} (hat:ch'.own=ch.own∨∃k,ch'.own=some k∧w.heap.size≤k) (k:Nat) (hk:k<w.heap.size) (hm:Mo Mt b ch' sh k):Mo Mt b ch sh k:=by
 rcases hm with hm|hm|hm|hm
 ·exact .inl hm
 ·exact .inr (.inl hm)
 ·rcases hat with h1|⟨j,h1,h2⟩
  ·exact .inr (.inr (.inl (h1▸hm)))
  ·rw[h1]at hm
   injection hm with hm
   omega
 ·exact .inr (.inr (.inr hm))
theorem mo_sent (h:OutAt Mt B w b ph bh ch sh o) {sh':SH} (hat:sh'.own=sh.own∨∃k,sh'.own=some k∧w.heap.size≤k) (k:Nat) (hk:k<w.heap.size) (hm:Mo Mt b ch sh' k):Mo Mt b ch sh k:=by
 rcases hm with hm|hm|hm|hm
 ·exact .inl hm
 ·exact .inr (.inl hm)
 ·exact .inr (.inr (.inl hm))
 ·rcases hat with h1|⟨j,h1,h2⟩
  ·exact .inr (.inr (.inr (h1▸hm)))
  ·rw[h1]at hm
   injection hm with hm
   omega
theorem OutAt.pushCom (h:OutAt Mt B w b ph bh ch sh o) {ss:List SE} (hss:All2 (EvAt (Mo Mt b ch sh) w) ss o.com) {s:SE} {e:Ev} (hs:EvAt (Mo Mt b ch sh) w s e) {w5:World} {A:Option Addr} {n c:Nat}
  (hv:Kd.R kE 49 w5 B (fun _=>True) (.slice A n c) (ss++[s])) (hg:w.grownBy w5 ch.own) (hat:(SH.mk A n c).own=ch.own∨∃k,(SH.mk A n c).own=some k∧w.heap.size≤k):
  OutAt Mt B (w5.setCell ⟨b,5,none⟩ (.slice A n c)) b ph bh ⟨A,n,c⟩ sh {o with com:=o.com++[e]}∧Keep (Mo Mt b ch sh) w (w5.setCell ⟨b,5,none⟩ (.slice A n c))∧w5.heap[b]?=w.heap[b]?:=by
 have hbl:=blk_lt h.blk;have hcb:ch.own≠some b:=fun e=>by
  obtain⟨⟨c,hc⟩,_⟩:=h.com.typed b e;rw[h.blk]at hc;cases hc
 have hb5:w5.heap[b]?=w.heap[b]?:=hg.block b hbl (fun e=>hcb e.symm);have hk1:Keep (Mo Mt b ch sh) w w5:=Keep.grown hg fun k hk=> .inr (.inr (.inl hk));have hk2:Keep (Mo Mt b ch sh) w5 (w5.setCell ⟨b,5,none⟩ (.slice A n c)):=Keep.set (b:=b) (.inr (.inl rfl)) _;have hk:=hk1.trans hk2;have hm:=fun k h1 h2=>mo_com h (ch':=⟨A,n,c⟩) hat k h1 h2;refine⟨⟨Nat.le_trans h.base hk.size,h.hb,blk_put (hb5.trans h.blk) 5 _ rfl,h.ps.fresh hk hm,h.box.fresh hk hm,?_,?_,?_⟩,hk,hb5⟩
 ·refine⟨ss++[s],R_stay hv rfl fun k hk=>Below.heap_setCell w5 ⟨b,5,none⟩ _ k fun e=> ?_,(hss.imp fun _ _ h=>h.fresh hk hm).append (.cons (hs.fresh hk hm) .nil)⟩;obtain⟨cc,hc⟩:=Kd.R_typed hv k hk;simp only at e;rw[e,hb5,h.blk]at hc;cases hc
 ·refine h.sent.stay hk hm fun k hk=> ?_;obtain⟨⟨cc,hc⟩,_,h3⟩:=h.sent.typed k hk;refine(Below.heap_setCell w5 ⟨b,5,none⟩ _ k fun e=> ?_).trans (hg.block k h3 fun e=>h.apart k e.symm hk);simp only at e;rw[e,h.blk]at hc;cases hc
 ·intro k h1 h2;rcases hat with h3|⟨j,h3,h4⟩
  ·exact h.apart k (h3▸h1) h2
  ·rw[h3]at h1
   injection h1 with h1
   have:=(h.sent.typed k h2).2.2;omega
theorem OutAt.pushSent (h:OutAt Mt B w b ph bh ch sh o) {ss:List SE} (hss:All2 (EvAt (Mo Mt b ch sh) w) ss o.sent) {s:SE} {e:Ev} (hs:EvAt (Mo Mt b ch sh) w s e) {w5:World} {A:Option Addr} {n c:Nat}
  (hv:Kd.R kE 49 w5 B (fun _=>True) (.slice A n c) (ss++[s])) (hg:w.grownBy w5 sh.own) (hat:(SH.mk A n c).own=sh.own∨∃k,(SH.mk A n c).own=some k∧w.heap.size≤k):
  OutAt Mt B (w5.setCell ⟨b,6,none⟩ (.slice A n c)) b ph bh ch ⟨A,n,c⟩ {o with sent:=o.sent++[e]}∧Keep (Mo Mt b ch sh) w (w5.setCell ⟨b,6,none⟩ (.slice A n c))∧w5.heap[b]?=w.heap[b]?:=by
 have hbl:=blk_lt h.blk;have hcb:sh.own≠some b:=fun e=>by
  obtain⟨⟨c,hc⟩,_⟩:=h.sent.typed b e;rw[h.blk]at hc;cases hc
 have hb5:w5.heap[b]?=w.heap[b]?:=hg.block b hbl (fun e=>hcb e.symm);have hk1:Keep (Mo Mt b ch sh) w w5:=Keep.grown hg fun k hk=> .inr (.inr (.inr hk));have hk2:Keep (Mo Mt b ch sh) w5 (w5.setCell ⟨b,6,none⟩ (.slice A n c)):=Keep.set (b:=b) (.inr (.inl rfl)) _;have hk:=hk1.trans hk2;have hm:=fun k h1 h2=>mo_sent h (sh':=⟨A,n,c⟩) hat k h1 h2;refine⟨⟨Nat.le_trans h.base hk.size,h.hb,blk_put (hb5.trans h.blk) 6 _ rfl,h.ps.fresh hk hm,h.box.fresh hk hm,?_,?_,?_⟩,hk,hb5⟩
 ·refine h.com.stay hk hm fun k hk=> ?_;obtain⟨⟨cc,hc⟩,_,h3⟩:=h.com.typed k hk;refine(Below.heap_setCell w5 ⟨b,6,none⟩ _ k fun e=> ?_).trans (hg.block k h3 fun e=>h.apart k hk e.symm);simp only at e;rw[e,h.blk]at hc;cases hc
 ·refine⟨ss++[s],R_stay hv rfl fun k hk=>Below.heap_setCell w5 ⟨b,6,none⟩ _ k fun e=> ?_,(hss.imp fun _ _ h=>h.fresh hk hm).append (.cons (hs.fresh hk hm) .nil)⟩;obtain⟨cc,hc⟩:=Kd.R_typed hv k hk;simp only at e;rw[e,hb5,h.blk]at hc;cases hc
 ·intro k h1 h2;rcases hat with h3|⟨j,h3,h4⟩
  ·exact h.apart k h1 (h3▸h2)
  ·rw[h3]at h2
   injection h2 with h2
   have:=(h.com.typed k h1).2.2;omega
end
abbrev M0 (b:Nat) (ch sh:SH):Nat→Prop:=Mo (fun _=>False) b ch sh
structure OutTo (Mt:Nat→Prop) (B:Nat) (w:World) (b:Nat) (ch sh:SH) (w':World) (ch' sh':SH):Prop where
 keep0:Keep (M0 b ch sh) w w'
 old0:∀k,k<w.heap.size→M0 b ch' sh' k→M0 b ch sh k
 os:w'.os=w.os
 tape:w'.tape=w.tape
 output:w'.output=w.output
section
variable {Mt:Nat→Prop} {B:Nat} {w w' w2:World} {b:Nat} {ph bh ch sh ch' sh' ch2 sh2:SH} {o:Oc}
theorem M0.mo {k:Nat} (h:M0 b ch sh k):Mo Mt b ch sh k:=by
 rcases h with h|h
 ·exact h.elim
 ·exact .inr h
theorem OutTo.keep (h:OutTo Mt B w b ch sh w' ch' sh'):Keep (Mo Mt b ch sh) w w':=h.keep0.mono fun _ _ h=>h.mo
theorem OutTo.old (h:OutTo Mt B w b ch sh w' ch' sh') (k:Nat) (hk:k<w.heap.size) (hm:Mo Mt b ch' sh' k):Mo Mt b ch sh k:=by
 rcases hm with hm|hm
 ·exact .inl hm
 ·exact(h.old0 k hk (.inr hm)).mo
theorem OutTo.refl:OutTo Mt B w b ch sh w ch sh:=⟨Keep.refl _ _,fun _ _ h=>h,rfl,rfl,rfl⟩
theorem OutTo.trans (h:OutTo Mt B w b ch sh w' ch' sh') (k:OutTo Mt B w' b ch' sh' w2 ch2 sh2):OutTo Mt B w b ch sh w2 ch2 sh2:=
 ⟨⟨Nat.le_trans h.keep0.size k.keep0.size,fun j hj hm=>(k.keep0.block j (Nat.lt_of_lt_of_le hj h.keep0.size) (fun h2=>hm (h.old0 j hj h2))).trans (h.keep0.block j hj hm)⟩,
  fun j hj hm=>h.old0 j hj (k.old0 j (Nat.lt_of_lt_of_le hj h.keep0.size) hm),k.os.trans h.os,k.tape.trans h.tape,k.output.trans h.output⟩
theorem OutTo.more (k:Below w.heap.size w w'):OutTo Mt B w b ch sh w' ch sh:=⟨Keep.of_below k,fun _ _ h=>h,k.os,k.tape,k.output⟩
theorem OutTo.put (j:Nat) (u:Value):OutTo Mt B w b ch sh (w.setCell ⟨b,j,none⟩ u) ch sh:=⟨Keep.set (b:=b) (.inr (.inl rfl)) u,fun _ _ h=>h,rfl,rfl,rfl⟩
theorem m0_com {ch':SH} (hat:ch'.own=ch.own∨∃k,ch'.own=some k∧w.heap.size≤k) (k:Nat) (hk:k<w.heap.size) (hm:M0 b ch' sh k):M0 b ch sh k:=by
 rcases hm with hm|hm|hm|hm
 ·exact .inl hm
 ·exact .inr (.inl hm)
 ·rcases hat with h1|⟨j,h1,h2⟩
  ·exact .inr (.inr (.inl (h1▸hm)))
  ·rw[h1]at hm
   injection hm with hm
   omega
 ·exact .inr (.inr (.inr hm))
theorem m0_sent {sh':SH} (hat:sh'.own=sh.own∨∃k,sh'.own=some k∧w.heap.size≤k) (k:Nat) (hk:k<w.heap.size) (hm:M0 b ch sh' k):M0 b ch sh k:=by
 rcases hm with hm|hm|hm|hm
 ·exact .inl hm
 ·exact .inr (.inl hm)
 ·exact .inr (.inr (.inl hm))
 ·rcases hat with h1|⟨j,h1,h2⟩
  ·exact .inr (.inr (.inr (h1▸hm)))
  ·rw[h1]at hm
   injection hm with hm
   omega
theorem OutTo.pushCom (h:OutAt Mt B w b ph bh ch sh o) {w5:World} {A:Option Addr} {n c:Nat} (hg:w.grownBy w5 ch.own) (hat:(SH.mk A n c).own=ch.own∨∃k,(SH.mk A n c).own=some k∧w.heap.size≤k) (j:Nat) (u:Value):OutTo Mt B w b ch sh (w5.setCell ⟨b,j,none⟩ u) ⟨A,n,c⟩ sh:=
 ⟨(Keep.grown hg fun k hk=> .inr (.inr (.inl hk))).trans (Keep.set (b:=b) (.inr (.inl rfl)) u),m0_com hat,hg.os,hg.tape,hg.output⟩
theorem OutTo.pushSent (h:OutAt Mt B w b ph bh ch sh o) {w5:World} {A:Option Addr} {n c:Nat} (hg:w.grownBy w5 sh.own) (hat:(SH.mk A n c).own=sh.own∨∃k,(SH.mk A n c).own=some k∧w.heap.size≤k) (j:Nat) (u:Value):OutTo Mt B w b ch sh (w5.setCell ⟨b,j,none⟩ u) ch ⟨A,n,c⟩:=
 ⟨(Keep.grown hg fun k hk=> .inr (.inr (.inr hk))).trans (Keep.set (b:=b) (.inr (.inl rfl)) u),m0_sent hat,hg.os,hg.tape,hg.output⟩
end
end
end Go.Proofs.YtfnimdhghglanaaGreat.Hand
end
