/- TopErrorPrefix, part 19 of 41; no condition. (Printed from the session's own texts: what is not used left out, spaces spared.) -/
import Derived.Test.YtfnimdhghglanaaGreatQeAQ
import Derived.Test.YtfnimdhghglanaaGreatQeAR
import Derived.IntWalk
set_option maxRecDepth 100000
set_option maxHeartbeats 8000000
set_option linter.unusedVariables false
set_option linter.unusedSimpArgs false
section
namespace Go.Proofs.YtfnimdhghglanaaGreat.Hand
open Go
section
structure Cf where
 lps:List (List StC)
 pgs:List (List OpC)
 la:Int
 en:Int
 cp:Int
def Lp.zero:Lp:=⟨0,0,[],0⟩
def wakes (l:Lp) (e:Ev):Bool:=decide (e.kd=1∨e.kd=2)&&decide (0≤e.pr)&&decide (e.pr.toNat<l.ps.length)&&(exStart l e).self.al
def runEx (pgs:List (List OpC)) (l:Lp) (e:Ev):Ex:=(exStart l e).wake.act (pgs.getD (exStart l e).wake.self.pg.toNat []) 16
def exec (pgs:List (List OpC)) (l:Lp) (e:Ev):Lp×List Ev×List (List Int)×Bool:=
 if e.kd=3 then({l with sum:=IntKind.i64.wrap (l.sum+e.ar)},[],[],false)
 else if wakes l e then((runEx pgs l e).lp,(runEx pgs l e).cr,(runEx pgs l e).ca,(runEx pgs l e).ov)
 else(l,[],[],false)
def Lp.tms (l:Lp):List (List Int):=l.ps.map Pc.tm
structure OpV (N P:Nat) (la:Int) (o:OpC):Prop where
 ok:OpOk o
 hold:o.code=1→1≤o.a∧o.a≤1099511627776
 send:o.code=2→0≤o.a∧o.a<N∧la≤o.c∧1≤o.c∧o.c≤1099511627776
 timer:o.code=3→1≤o.a∧o.a≤1099511627776∧0≤o.b
 spawn:o.code=5→0≤o.a∧o.a<P∧1≤o.b∧o.b≤1099511627776
structure LpOk (P:Nat) (l:Lp):Prop where
 n:l.ps.length≤8
 p:∀p∈l.ps,0≤p.pc∧0≤p.pg∧p.pg<P
structure ExV (N P:Nat) (la:Int) (T0:List (List Int)) (e:Ev) (x:Ex):Prop where
 ev:x.ev=e
 lp:LpOk P x.lp
 here:Here x
 cr:∀f∈x.cr,∃j:Nat,j<x.n∧f.k=e.k++[(j:Int)]
 nd:KeysD x.cr
 tm:∀k∈x.lp.tms++x.ca,k=[]∨k∈T0∨∃j:Nat,j<x.n∧k=e.k++[(j:Int)]
 own:∀f∈x.cr,f.k∈x.lp.tms++x.ca→f.lp=e.lp∧f.kd=2
 time:∀f∈x.cr,e.t<f.t∧f.t≤1152921504606846976
 far:∀f∈x.cr,f.lp=e.lp∨(f.kd=3∧e.t+la≤f.t)
 rng:∀f∈x.cr,0≤f.lp∧f.lp<N
 ar:∀f∈x.cr,f.kd=2→0≤f.ar
theorem child_inj {k:List Int} {a b:Int} (h:k++[a]=k++[b]):a=b:=by simpa using h
section
variable {N P:Nat} {la:Int} {T0:List (List Int)} {e:Ev} {x:Ex}
theorem ExV.self_tm (h:ExV N P la T0 e x):x.self.tm∈x.lp.tms:=List.mem_map_of_mem (Ex.self_mem h.here)
theorem ExV.create (h:ExV N P la T0 e x) (hT:∀k∈T0,∀j:Int,k≠e.k++[j]) (he:0≤e.t∧e.t≤1152921504606846976) (d:Int) (e0:Ev) (hd:1≤d∧d≤1099511627776)
  (hf:e0.lp=e.lp∨(e0.kd=3∧la≤d)) (hr:0≤e0.lp∧e0.lp<N) (ha:e0.kd=2→0≤e0.ar):ExV N P la T0 e (x.create d e0):=by
 have ht:(x.made d e0).t=e.t+d:=by
  have:(x.made d e0).t=IntKind.i64.wrap (x.ev.t+d):=rfl;rw[this,h.ev,IntWalk.i64_in _ (by omega)]
 have hk:(x.made d e0).k=e.k++[(x.n:Int)]:=by
  have:(x.made d e0).k=x.ev.k++[(x.n:Int)]:=rfl;rw[this,h.ev]
 have htm:∀k∈x.lp.tms++x.ca,k=[]∨k∈T0∨∃j:Nat,j<x.n+1∧k=e.k++[(j:Int)]:=fun k hk=>by
  rcases h.tm k hk with h1|h1|⟨j,hj,h1⟩
  ·exact .inl h1
  ·exact .inr (.inl h1)
  ·exact .inr (.inr ⟨j,by omega,h1⟩)
 have hcr:∀f∈x.cr,∃j:Nat,j<x.n+1∧f.k=e.k++[(j:Int)]:=fun f hf=>by
  obtain⟨j,hj,h1⟩:=h.cr f hf;exact⟨j,by omega,h1⟩
 unfold Ex.create
 split
 ·exact⟨h.ev,h.lp,⟨h.here.lo,h.here.hi⟩,hcr,h.nd,htm,h.own,h.time,h.far,h.rng,h.ar⟩
 ·rename_i hov;rw[ht]at hov;have hm:∀{p:Ev→Prop},(∀f∈x.cr,p f)→p (x.made d e0)→∀f∈x.cr++[x.made d e0],p f:=fun h1 h2 f hf=>by
   rcases List.mem_append.1 hf with hf|hf
   ·exact h1 f hf
   ·rw[List.mem_singleton]at hf;subst hf;exact h2
  refine⟨h.ev,h.lp,⟨h.here.lo,h.here.hi⟩,hm hcr ⟨x.n,by simp only;omega,hk⟩,?_,htm,hm h.own fun h1=> ?_,hm h.time ?_,hm h.far ?_,hm h.rng hr,hm h.ar ha⟩
  ·show((x.cr++[x.made d e0]).map Ev.k).Nodup;rw[List.map_append,List.nodup_append];refine⟨h.nd,by simp,fun a ha b hb e9=> ?_⟩;simp only[List.map_cons,List.map_nil,List.mem_singleton]at hb;subst hb e9;obtain⟨f,hf,h1⟩:=List.mem_map.1 ha;obtain⟨j,hj,h2⟩:=h.cr f hf;rw[h1,hk]at h2;have:=child_inj h2;omega
  ·rw[hk]at h1;rcases h.tm _ h1 with h2|h2|⟨j,hj,h2⟩
   ·simp at h2
   ·exact absurd rfl (hT _ h2 _)
   ·have:=child_inj h2;omega
  ·rw[ht];omega
  ·rw[ht];rcases hf with h1|⟨h1,h2⟩
   ·exact .inl h1
   ·exact .inr ⟨h1,by omega⟩
theorem create_n (x:Ex) (d:Int) (e0:Ev):(x.create d e0).n=x.n+1:=by unfold Ex.create;split<;>rfl
theorem ExV.setSelf (h:ExV N P la T0 e x) (p:Pc) (hp:0≤p.pc∧0≤p.pg∧p.pg<P)
  (ht:p.tm=[]∨p.tm∈x.lp.tms∨((∃j:Nat,j<x.n∧p.tm=e.k++[(j:Int)])∧∀f∈x.cr,f.k=p.tm→f.lp=e.lp∧f.kd=2)):ExV N P la T0 e (x.setSelf p):=by
 have hsub:∀k∈(x.setSelf p).lp.tms++(x.setSelf p).ca,k=p.tm∨k∈x.lp.tms++x.ca:=fun k hk=>by
  rcases List.mem_append.1 hk with h1|h1
  ·obtain⟨q,hq,h2⟩:=List.mem_map.1 h1;rcases List.mem_or_eq_of_mem_set hq with h3|rfl
   ·exact .inr (List.mem_append.2 (.inl (h2▸List.mem_map_of_mem h3)))
   ·exact .inl h2.symm
  ·exact .inr (List.mem_append.2 (.inr h1))
 refine⟨h.ev,⟨by simpa [Ex.setSelf]using h.lp.n,fun q hq=> ?_⟩,⟨h.here.lo,by simpa [Ex.setSelf]using h.here.hi⟩,h.cr,h.nd,fun k hk=> ?_,fun f hf hk=> ?_,h.time,h.far,h.rng,h.ar⟩
 ·rcases List.mem_or_eq_of_mem_set hq with hq|rfl
  ·exact h.lp.p q hq
  ·exact hp
 ·rcases hsub k hk with h1|h1
  ·subst h1;rcases ht with h2|h2|⟨h2,_⟩
   ·exact .inl h2
   ·exact h.tm _ (List.mem_append.2 (.inl h2))
   ·exact .inr (.inr h2)
  ·exact h.tm k h1
 ·have hf0:f∈x.cr:=hf;rcases hsub _ hk with h1|h1
  ·rcases ht with h2|h2|⟨_,h2⟩
   ·obtain⟨j,_,h3⟩:=h.cr f hf0;rw[h1,h2]at h3;simp at h3
   ·exact h.own f hf0 (List.mem_append.2 (.inl (h1▸h2)))
   ·exact h2 f hf0 h1
  ·exact h.own f hf0 h1
theorem ExV.self_ok (h:ExV N P la T0 e x):0≤x.self.pc∧0≤x.self.pg∧x.self.pg<P:=h.lp.p _ (Ex.self_mem h.here)
theorem ExV.stop (h:ExV N P la T0 e x):ExV N P la T0 e x.stop:=by
 unfold Ex.stop
 split
 ·exact h
 ·have h':ExV N P la T0 e {x with ca:=x.ca++[x.self.tm]}:=by
   have hsub:∀k∈x.lp.tms++(x.ca++[x.self.tm]),k∈x.lp.tms++x.ca:=fun k hk=>by
    rcases List.mem_append.1 hk with h1|h1
    ·exact List.mem_append.2 (.inl h1)
    ·rcases List.mem_append.1 h1 with h1|h1
     ·exact List.mem_append.2 (.inr h1)
     ·rw[List.mem_singleton]at h1;exact List.mem_append.2 (.inl (h1▸h.self_tm))
   exact⟨h.ev,h.lp,⟨h.here.lo,h.here.hi⟩,h.cr,h.nd,fun k hk=>h.tm k (hsub k hk),fun f hf hk=>h.own f hf (hsub _ hk),h.time,h.far,h.rng,h.ar⟩
  exact h'.setSelf _ h.self_ok (.inl rfl)
theorem ExV.timer (h:ExV N P la T0 e x) (hT:∀k∈T0,∀j:Int,k≠e.k++[j]) (he:0≤e.t∧e.t≤1152921504606846976) (hl:0≤e.lp∧e.lp<N) (a v:Int) (ha:1≤a∧a≤1099511627776) (hv:0≤v):ExV N P la T0 e (x.timer a v):=by
 have h1:=h.stop;have hlp:x.stop.ev.lp=e.lp:=by rw[h1.ev]
 have h2:=h1.create hT he a ⟨0,[],x.stop.ev.lp,2,x.stop.ev.pr,v⟩ ha (.inl hlp) (by simp only;rw[hlp];exact hl) (fun _=>hv);unfold Ex.timer;refine h2.setSelf _ h2.self_ok (.inr (.inr ⟨⟨x.stop.n,by rw[create_n];omega,by simp only;rw[h1.ev]⟩,fun f hf hk=> ?_⟩));simp only at hk;have hin:f∈x.stop.cr∨f=x.stop.made a ⟨0,[],x.stop.ev.lp,2,x.stop.ev.pr,v⟩:=by
  unfold Ex.create at hf
  split at hf
  ·exact .inl hf
  ·rcases List.mem_append.1 hf with hf|hf
   ·exact .inl hf
   ·rw[List.mem_singleton]at hf;exact .inr hf
 rcases hin with h3|h3
 ·obtain⟨j,hj,h4⟩:=h1.cr f h3;rw[hk,h1.ev]at h4;have:=child_inj h4;omega
 ·subst h3;exact⟨hlp,rfl⟩
theorem ExV.spawn (h:ExV N P la T0 e x) (hT:∀k∈T0,∀j:Int,k≠e.k++[j]) (he:0≤e.t∧e.t≤1152921504606846976) (hl:0≤e.lp∧e.lp<N) (a d:Int) (ha:0≤a∧a<P) (hd:1≤d∧d≤1099511627776):ExV N P la T0 e (x.spawn a d):=by
 unfold Ex.spawn
 split
 ·rename_i hn;have hsub:∀k∈(x.lp.ps++[(⟨a,0,true,[]⟩:Pc)]).map Pc.tm++x.ca,k=[]∨k∈x.lp.tms++x.ca:=fun k hk=>by
   rcases List.mem_append.1 hk with h1|h1
   ·rw[List.map_append]at h1;rcases List.mem_append.1 h1 with h1|h1
    ·exact .inr (List.mem_append.2 (.inl h1))
    ·simp at h1;exact .inl h1
   ·exact .inr (List.mem_append.2 (.inr h1))
  have h':ExV N P la T0 e {x with lp:={x.lp with ps:=x.lp.ps++[⟨a,0,true,[]⟩]}}:=by
   refine⟨h.ev,⟨by simp only[List.length_append,List.length_cons,List.length_nil];omega,fun p hp=> ?_⟩,⟨h.here.lo,by have:=h.here.hi;simp only[List.length_append,List.length_cons,List.length_nil];omega⟩,h.cr,h.nd,
    fun k hk=> ?_,fun f hf hk=> ?_,h.time,h.far,h.rng,h.ar⟩
   ·rcases List.mem_append.1 hp with hp|hp
    ·exact h.lp.p p hp
    ·rw[List.mem_singleton]at hp;subst hp;exact⟨Int.le_refl 0,ha.1,ha.2⟩
   ·rcases hsub k hk with h1|h1
    ·exact .inl h1
    ·exact h.tm k h1
   ·rcases hsub _ hk with h1|h1
    ·obtain⟨j,_,h3⟩:=h.cr f hf;rw[h1]at h3;simp at h3
    ·exact h.own f hf h1
  have hlp:x.ev.lp=e.lp:=by rw[h.ev]
  exact h'.create hT he d _ hd (.inl hlp) (by simp only;rw[hlp];exact hl) (fun h=>by simp at h)
 ·exact h
theorem ExV.add (h:ExV N P la T0 e x) (a v:Int):ExV N P la T0 e (x.add a v):=by
 unfold Ex.add
 split<;>exact⟨h.ev,⟨h.lp.n,h.lp.p⟩,⟨h.here.lo,h.here.hi⟩,h.cr,h.nd,h.tm,h.own,h.time,h.far,h.rng,h.ar⟩
theorem ExV.step (h:ExV N P la T0 e x) (hT:∀k∈T0,∀j:Int,k≠e.k++[j]) (he:0≤e.t∧e.t≤1152921504606846976) (hl:0≤e.lp∧e.lp<N) {o:OpC} (ho:OpV N P la o):ExV N P la T0 e (x.step o).1:=by
 have hlp:x.ev.lp=e.lp:=by rw[h.ev]
 unfold Ex.step
 repeat' split
 ·rename_i hc;exact h.create hT he _ _ (ho.hold hc) (.inl hlp) (by simp only;rw[hlp];exact hl) (fun h=>by simp at h)
 ·rename_i _ hc;obtain⟨h1,h2,h3,h4,h5⟩:=ho.send hc;exact h.create hT he _ _ ⟨h4,h5⟩ (.inr ⟨rfl,h3⟩) ⟨h1,h2⟩ (fun h=>by simp at h)
 ·rename_i _ _ hc;obtain⟨h1,h2,h3⟩:=ho.timer hc;exact h.timer hT he hl _ _ ⟨h1,h2⟩ h3
 ·exact h.stop
 ·rename_i _ _ _ _ hc;obtain⟨h1,h2,h3,h4⟩:=ho.spawn hc;exact h.spawn hT he hl _ _ ⟨h1,h2⟩ ⟨h3,h4⟩
 ·exact h.add _ _
 ·rename_i _ _ _ _ _ _ hc;unfold Ex.less
  split
  ·exact h.setSelf _ ⟨ho.ok.jmp hc,h.self_ok.2⟩ (.inr (.inl h.self_tm))
  ·exact h
 ·exact h
theorem ExV.kill (h:ExV N P la T0 e x):ExV N P la T0 e x.kill:=h.setSelf _ h.self_ok (.inr (.inl h.self_tm))
theorem ExV.next (h:ExV N P la T0 e x):ExV N P la T0 e x.next:=h.setSelf _ (by have:=h.self_ok;exact⟨by simp only;omega,this.2⟩) (.inr (.inl h.self_tm))
theorem ExV.act (hT:∀k∈T0,∀j:Int,k≠e.k++[j]) (he:0≤e.t∧e.t≤1152921504606846976) (hl:0≤e.lp∧e.lp<N) {l:List OpC} (ho:∀o∈l,OpV N P la o):∀(n:Nat) {x:Ex},ExV N P la T0 e x→ExV N P la T0 e (x.act l n)
 |0,_,h=>h.kill
 |n+1,x,h=>by
  unfold Ex.act
  split
  ·exact h.kill
  ·rename_i o ho2;have h2:=h.next.step hT he hl (ho o (List.mem_of_getElem? ho2))
   split
   ·exact h2
   ·split
    ·exact h2.kill
    ·exact ExV.act hT he hl ho n h2
theorem Few.act {l:List OpC} (ho:∀o∈l,OpOk o):∀(n k:Nat) {x:Ex},Few k x→Few (k+n) (x.act l n)
 |0,k,x,h=>h.setSelf _ (stop_self_pc h)
 |n+1,k,x,h=>by
  unfold Ex.act
  split
  ·exact Few.setSelf (k:=k+(n+1)) (h.mono (by omega)) _ (stop_self_pc h)
  ·rename_i o ho2;have hx:Few k x.next:=h.setSelf _ (by have:=stop_self_pc h;simp only;omega);have h2:=hx.step (ho o (List.mem_of_getElem? ho2))
   split
   ·exact h2.mono (by omega)
   ·split
    ·exact Few.setSelf (k:=k+(n+1)) (h2.mono (by omega)) _ (stop_self_pc h2)
    ·exact(Few.act ho n (k+1) h2).mono (by omega)
end
structure ExecR (N P:Nat) (la:Int) (l:Lp) (e:Ev) (r:Lp×List Ev×List (List Int)×Bool):Prop where
 lp:LpOk P r.1
 cr:∀f∈r.2.1,∃j:Nat,f.k=e.k++[(j:Int)]
 nd:KeysD r.2.1
 tm:∀k∈r.1.tms++r.2.2.1,k=[]∨k∈l.tms∨∃j:Nat,k=e.k++[(j:Int)]
 own:∀f∈r.2.1,f.k∈r.1.tms++r.2.2.1→f.lp=e.lp∧f.kd=2
 time:∀f∈r.2.1,e.t<f.t∧f.t≤1152921504606846976
 far:∀f∈r.2.1,f.lp=e.lp∨(f.kd=3∧e.t+la≤f.t)
 rng:∀f∈r.2.1,0≤f.lp∧f.lp<N
 ar:∀f∈r.2.1,f.kd=2→0≤f.ar
 few:r.2.1.length≤16∧r.2.2.1.length≤16
theorem ExecR.none {N P:Nat} {la:Int} {l l':Lp} {e:Ev} {b:Bool} (hl:LpOk P l') (ht:l'.tms=l.tms):ExecR N P la l e (l',[],[],b):=
 ⟨hl,(fun _ h=>by cases h),by simp[KeysD],(fun k hk=> .inr (.inl (by rw[List.append_nil,ht]at hk;exact hk))),(fun _ h=>by cases h),(fun _ h=>by cases h),(fun _ h=>by cases h),(fun _ h=>by cases h),(fun _ h=>by cases h),by simp⟩
theorem wakes_of {l:Lp} {e:Ev} (h:wakes l e=true):(e.kd=1∨e.kd=2)∧0≤e.pr∧e.pr.toNat<l.ps.length∧(exStart l e).self.al=true:=by
 simp only[wakes,Bool.and_eq_true,decide_eq_true_eq]at h;exact⟨h.1.1.1,h.1.1.2,h.1.2,h.2⟩
theorem ExV.wake {N P:Nat} {la:Int} {T0:List (List Int)} {e:Ev} {x:Ex} (h:ExV N P la T0 e x) (har:e.kd=2→0≤e.ar):ExV N P la T0 e x.wake:=by
 unfold Ex.wake
 split
 ·rename_i hk;have h1:ExV N P la T0 e (x.setSelf {x.self with pc:=x.ev.ar}):=h.setSelf _ ⟨by simp only;rw[h.ev]at hk ⊢;exact har hk,h.self_ok.2⟩ (.inr (.inl h.self_tm))
  split
  ·exact h1.setSelf _ h1.self_ok (.inl rfl)
  ·exact h1
 ·exact h
theorem Few.wake {x:Ex} (h:Few 0 x) (har:x.ev.kd=2→0≤x.ev.ar):Few 0 x.wake:=by
 unfold Ex.wake
 split
 ·rename_i hk;have h1:Few 0 (x.setSelf {x.self with pc:=x.ev.ar}):=h.setSelf _ (har hk)
  split
  ·exact h1.setSelf _ (stop_self_pc h1)
  ·exact h1
 ·exact h
theorem few_start {P:Nat} {l:Lp} {e:Ev} (hl:LpOk P l) (hk:e.k.length≤900000) (h0:0≤e.pr) (h1:e.pr.toNat<l.ps.length):Few 0 (exStart l e):=
 ⟨hk,Nat.le_refl _,Nat.le_refl _,Nat.le_refl _,hl.n,⟨h0,h1⟩,fun p hp=>(hl.p p hp).1⟩
theorem exec_ok {N P:Nat} {la:Int} {pgs:List (List OpC)} {l:Lp} {e:Ev} (hP:pgs.length=P) (hp:∀p∈pgs,∀o∈p,OpV N P la o) (hl:LpOk P l) (hT:∀k∈l.tms,∀j:Int,k≠e.k++[j])
  (he:0≤e.t∧e.t≤1152921504606846976) (hr:0≤e.lp∧e.lp<N) (ha:e.kd=2→0≤e.ar) (hkl:e.k.length≤900000):ExecR N P la l e (exec pgs l e):=by
 unfold exec
 split
 ·exact ExecR.none ⟨hl.n,hl.p⟩ rfl
 ·split
  ·rename_i hw;obtain⟨_,h0,h1,_⟩:=wakes_of hw;have hpg:∀y:Ex,∀o∈pgs.getD y.self.pg.toNat [],OpV N P la o:=fun y o ho=>by
    rw[List.getD_eq_getElem?_getD]at ho;cases hg:pgs[y.self.pg.toNat]?with
    |none=>rw[hg]at ho;cases ho
    |some p=>
     rw[hg]at ho;exact hp p (List.mem_of_getElem? hg) o ho
   have hs:ExV N P la l.tms e (exStart l e):=
    ⟨rfl,hl,⟨h0,h1⟩,(fun _ h=>by cases h),by simp[KeysD,exStart],(fun k hk=> .inr (.inl (by simpa [exStart]using hk))),(fun _ h=>by cases h),(fun _ h=>by cases h),(fun _ h=>by cases h),(fun _ h=>by cases h),(fun _ h=>by cases h)⟩
   have h2:ExV N P la l.tms e (runEx pgs l e):=ExV.act hT he hr (hpg _) 16 (hs.wake ha);have h3:Few (0+16) (runEx pgs l e):=Few.act (fun o ho=>(hpg _ o ho).ok) 16 0 ((few_start hl hkl h0 h1).wake ha);exact⟨h2.lp,fun f hf=>by
    obtain⟨j,_,h4⟩:=h2.cr f hf;exact⟨j,h4⟩,h2.nd,fun k hk=>by
    rcases h2.tm k hk with h4|h4|⟨j,_,h4⟩
    ·exact .inl h4
    ·exact .inr (.inl h4)
    ·exact .inr (.inr ⟨j,h4⟩),h2.own,h2.time,h2.far,h2.rng,h2.ar,⟨h3.cr,h3.ca⟩⟩
  ·exact ExecR.none hl rfl
end
structure KInv (N P:Nat) (C:List (List Int)) (L:List Lp) (Q:List Ev):Prop where
 nd:KeysD Q
 new:∀f∈Q,f.k∉C
 cl:∀k∈C,k.length=2∨k.dropLast∈C
 root:∀f∈Q,f.k.length=2∨f.k.dropLast∈C
 len:∀f∈Q,2≤f.k.length∧f.k.length≤C.length+2
 lps:∀l∈L,LpOk P l
 nl:L.length=N
 tm:∀l∈L,∀k∈l.tms,k=[]∨(3≤k.length∧k.dropLast∈C∧k.length≤C.length+2)
 own:∀f∈Q,∀(i:Nat) (l:Lp),L[i]?=some l→f.k∈l.tms→f.lp=i∧f.kd=2
 rng:∀f∈Q,0≤f.lp∧f.lp<N
 time:∀f∈Q,0≤f.t∧f.t≤1152921504606846976
 ar:∀f∈Q,f.kd=2→0≤f.ar
theorem KInv.perm {N P:Nat} {C C':List (List Int)} {L:List Lp} {Q Q':List Ev} (h:KInv N P C L Q) (hq:Q.Perm Q') (hc:C.Perm C'):KInv N P C' L Q':=
 ⟨h.nd.perm hq,fun f hf hk=>h.new f (hq.symm.subset hf) (hc.symm.subset hk),fun k hk=>(h.cl k (hc.symm.subset hk)).imp id (fun h=>hc.subset h),fun f hf=>(h.root f (hq.symm.subset hf)).imp id (fun h=>hc.subset h),
  fun f hf=>by rw[←hc.length_eq];exact h.len f (hq.symm.subset hf),h.lps,h.nl,fun l hl k hk=>by
   rw[←hc.length_eq];exact(h.tm l hl k hk).imp id (fun⟨h1,h2,h3⟩=>⟨h1,hc.subset h2,h3⟩),fun f hf=>h.own f (hq.symm.subset hf),fun f hf=>h.rng f (hq.symm.subset hf),fun f hf=>h.time f (hq.symm.subset hf),fun f hf=>h.ar f (hq.symm.subset hf)⟩
theorem drop_child (k:List Int) (j:Int):(k++[j]).dropLast=k:=by simp
structure StepOk (N P:Nat) (la:Int) (C:List (List Int)) (L:List Lp) (e:Ev) (R:List Ev) (l:Lp) (r:Lp×List Ev×List (List Int)×Bool):Prop where
 ex:ExecR N P la l e r
 inv:KInv N P (e.k::C) (L.set e.lp.toNat r.1) ((R++r.2.1).filter (fun f=> !r.2.2.1.contains f.k))
 gone:∀f∈R++r.2.1,f.k∈r.2.2.1→f.lp=e.lp∧f.kd=2
 nd:KeysD (R++r.2.1)
theorem KInv.step {N P:Nat} {la:Int} {C:List (List Int)} {L:List Lp} {Q R:List Ev} {e:Ev} {l:Lp} {pgs:List (List OpC)} (h:KInv N P C L Q) (hq:Q.Perm (e::R)) (hP:pgs.length=P)
  (hp:∀p∈pgs,∀o∈p,OpV N P la o) (hl:L[e.lp.toNat]?=some l) (hC:C.length≤800000):StepOk N P la C L e R l (exec pgs l e):=by
 have heQ:e∈Q:=hq.symm.subset (List.mem_cons_self);have hRQ:∀f∈R,f∈Q:=fun f hf=>hq.symm.subset (List.mem_cons_of_mem _ hf);have hnd:=h.nd.perm hq;have hR:=List.nodup_cons.1 hnd;have hlm:l∈L:=List.mem_of_getElem? hl;obtain⟨hk2,hkC⟩:=h.len e heQ;have hT:∀k∈l.tms,∀j:Int,k≠e.k++[j]:=fun k hk j e1=>by
  rcases h.tm l hlm k hk with h1|⟨_,h2,_⟩
  ·rw[h1]at e1;simp at e1
  ·rw[e1,drop_child]at h2;exact h.new e heQ h2
 have x:=exec_ok (la:=la) hP hp (h.lps l hlm) hT (h.time e heQ) (h.rng e heQ) (h.ar e heQ) (by omega);generalize exec pgs l e=r at x;have hRk:∀f∈R,∀j:Int,f.k≠e.k++[j]:=fun f hf j e1=>by
  rcases h.root f (hRQ f hf)with h1|h1
  ·rw[e1]at h1;simp at h1;omega
  ·rw[e1,drop_child]at h1;exact h.new e heQ h1
 have hch:∀j:Int,e.k++[j]∉e.k::C:=fun j hj=>by
  rcases List.mem_cons.1 hj with h1|h1
  ·simp at h1
  ·rcases h.cl _ h1 with h2|h2
   ·simp at h2;omega
   ·rw[drop_child]at h2;exact h.new e heQ h2
 have hd:KeysD (R++r.2.1):=by
  show((R++r.2.1).map Ev.k).Nodup;rw[List.map_append,List.nodup_append];refine⟨hR.2,x.nd,fun a ha b hb e1=> ?_⟩;obtain⟨f,hf,rfl⟩:=List.mem_map.1 ha;obtain⟨g,hg,rfl⟩:=List.mem_map.1 hb;obtain⟨j,hj⟩:=x.cr g hg;exact hRk f hf j (e1.trans hj)
 have hown:∀f∈R++r.2.1,f.k∈r.1.tms++r.2.2.1→f.lp=e.lp∧f.kd=2:=fun f hf hk=>by
  rcases List.mem_append.1 hf with hf|hf
  ·rcases x.tm _ hk with h1|h1|⟨j,h1⟩
   ·have:=(h.len f (hRQ f hf)).1;rw[h1]at this;simp at this
   ·have h2:=h.own f (hRQ f hf) _ _ hl h1;have h3:=(h.rng e heQ).1;exact⟨by rw[h2.1];omega,h2.2⟩
   ·exact absurd h1 (hRk f hf j)
  ·exact x.own f hf hk
 have hmem:∀{p:Ev→Prop},(∀f∈R,p f)→(∀f∈r.2.1,p f)→∀f∈(R++r.2.1).filter (fun f=> !r.2.2.1.contains f.k),p f:=fun h1 h2 f hf=>by
  rcases List.mem_append.1 (List.mem_filter.1 hf).1 with h3|h3
  ·exact h1 f h3
  ·exact h2 f h3
 refine⟨x,⟨hd.sub List.filter_sublist,?_,?_,?_,?_,?_,by rw[List.length_set];exact h.nl,?_,?_,?_,?_,?_⟩,fun f hf hk=>hown f hf (List.mem_append.2 (.inr hk)),hd⟩
 ·refine hmem (fun f hf hk=> ?_) (fun f hf hk=> ?_)
  ·rcases List.mem_cons.1 hk with h1|h1
   ·exact hR.1 (h1▸List.mem_map_of_mem (f:=Ev.k) hf)
   ·exact h.new f (hRQ f hf) h1
  ·obtain⟨j,hj⟩:=x.cr f hf;rw[hj]at hk;exact hch j hk
 ·intro k hk;rcases List.mem_cons.1 hk with rfl|hk
  ·exact(h.root e heQ).imp id (fun h=>List.mem_cons_of_mem _ h)
  ·exact(h.cl k hk).imp id (fun h=>List.mem_cons_of_mem _ h)
 ·refine hmem (fun f hf=>(h.root f (hRQ f hf)).imp id (fun h=>List.mem_cons_of_mem _ h)) (fun f hf=> ?_);obtain⟨j,hj⟩:=x.cr f hf;rw[hj,drop_child];exact .inr List.mem_cons_self
 ·refine hmem (fun f hf=> ?_) (fun f hf=> ?_)
  ·have:=h.len f (hRQ f hf);simp only[List.length_cons];omega
  ·obtain⟨j,hj⟩:=x.cr f hf;rw[hj];simp only[List.length_cons,List.length_append,List.length_nil];omega
 ·intro l' hl';rcases List.mem_or_eq_of_mem_set hl' with h1|rfl
  ·exact h.lps l' h1
  ·exact x.lp
 ·intro l' hl' k hk;have hold:∀l0∈L,k∈l0.tms→k=[]∨(3≤k.length∧k.dropLast∈e.k::C∧k.length≤(e.k::C).length+2):=fun l0 h0 hk=>by
   rcases h.tm l0 h0 k hk with h1|⟨h1,h2,h3⟩
   ·exact .inl h1
   ·exact .inr ⟨h1,List.mem_cons_of_mem _ h2,by simp only[List.length_cons];omega⟩
  rcases List.mem_or_eq_of_mem_set hl' with h1|rfl
  ·exact hold l' h1 hk
  ·rcases x.tm k (List.mem_append.2 (.inl hk))with h1|h1|⟨j,h1⟩
   ·exact .inl h1
   ·exact hold l hlm h1
   ·rw[h1,drop_child];exact .inr ⟨by simp;omega,List.mem_cons_self,by simp;omega⟩
 ·intro f hf i l' hl' hk;have hf':=(List.mem_filter.1 hf).1;have h0:=(h.rng e heQ).1;by_cases hi:e.lp.toNat=i
  ·subst hi;rw[List.getElem?_set_self (List.getElem?_eq_some_iff.1 hl).1]at hl';cases hl';have h1:=hown f hf' (List.mem_append.2 (.inl hk));exact⟨by rw[h1.1];omega,h1.2⟩
  ·rw[List.getElem?_set_ne hi]at hl';rcases List.mem_append.1 hf' with h1|h1
   ·exact h.own f (hRQ f h1) i l' hl' hk
   ·obtain⟨j,hj⟩:=x.cr f h1;rw[hj]at hk;rcases h.tm l' (List.mem_of_getElem? hl') _ hk with h2|⟨_,h2,_⟩
    ·simp at h2
    ·rw[drop_child]at h2;exact absurd h2 (h.new e heQ)
 ·exact hmem (fun f hf=>h.rng f (hRQ f hf)) x.rng
 ·exact hmem (fun f hf=>h.time f (hRQ f hf)) (fun f hf=>⟨by have:=x.time f hf;have:=h.time e heQ;omega,(x.time f hf).2⟩)
 ·exact hmem (fun f hf=>h.ar f (hRQ f hf)) x.ar
structure Oc where
 lp:Lp
 box:List Ev
 com:List Ev
 sent:List Ev
 ov:Bool
def Oc.put (l:Int) (o:Oc) (n:Ev):Oc:=if n.lp=l then{o with box:=insE o.box n}else{o with sent:=o.sent++[n]}
def Oc.del (o:Oc) (k:List Int):Oc:={o with box:=o.box.eraseP (fun e=>decide (e.k=k))}
def Oc.begin (pgs:List (List OpC)) (o:Oc) (e:Ev):Oc:={o with lp:=(exec pgs o.lp e).1,com:=o.com++[e],ov:=o.ov||(exec pgs o.lp e).2.2.2}
def Oc.exec (pgs:List (List OpC)) (o:Oc) (e:Ev):Oc:=(Hand.exec pgs o.lp e).2.2.1.foldl Oc.del ((Hand.exec pgs o.lp e).2.1.foldl (Oc.put e.lp) (o.begin pgs e))
def Oc.run (pgs:List (List OpC)) (h:Int):Nat→Oc→Oc
 |0,o=>o
 |n+1,o=>match o.box with
  | []=>o
  |e::b=>if e.t<h then Oc.run pgs h n (Oc.exec pgs {o with box:=b} e)else o
def Oc.rest (h:Int) (o:Oc):Prop:=∀e∈o.box.head?,¬e.t<h
theorem Oc.run_rest {pgs:List (List OpC)} {h:Int} {o:Oc} (hr:o.rest h):∀n,Oc.run pgs h n o=o
 |0=>rfl
 |n+1=>by
  unfold Oc.run
  split
  ·rfl
  ·rename_i e b hb;rw[if_neg (hr e (by simp[hb]))]
theorem Oc.puts (l:Int):∀(cr:List Ev) (o:Oc),(cr.foldl (Oc.put l) o).lp=o.lp∧(cr.foldl (Oc.put l) o).com=o.com∧(cr.foldl (Oc.put l) o).ov=o.ov∧
  (cr.foldl (Oc.put l) o).box.Perm (o.box++cr.filter (fun f=>decide (f.lp=l)))∧(SortedE o.box→SortedE (cr.foldl (Oc.put l) o).box)∧(cr.foldl (Oc.put l) o).sent=o.sent++cr.filter (fun f=> !decide (f.lp=l))
 | [],o=>⟨rfl,rfl,rfl,by simp,id,by simp⟩
 |n::cr,o=>by
  obtain⟨h1,h2,h3,h4,h5,h6⟩:=Oc.puts l cr (o.put l n);rw[List.foldl_cons];by_cases hn:n.lp=l
  ·have e1:o.put l n={o with box:=insE o.box n}:=if_pos hn;rw[e1]at h1 h2 h3 h4 h5 h6 ⊢;refine⟨h1,h2,h3,h4.trans ?_,fun hs=>h5 (insE_sorted hs n),h6.trans ?_⟩
   ·rw[List.filter_cons_of_pos (by simpa using hn)];exact((insE_perm o.box n).append_right _).trans (List.perm_middle.symm)
   ·rw[List.filter_cons_of_neg (by simpa using hn)]
  ·have e1:o.put l n={o with sent:=o.sent++[n]}:=if_neg hn;rw[e1]at h1 h2 h3 h4 h5 h6 ⊢;refine⟨h1,h2,h3,h4.trans ?_,h5,h6.trans ?_⟩
   ·rw[List.filter_cons_of_neg (by simpa using hn)]
   ·rw[List.filter_cons_of_pos (by simpa using hn)];simp
theorem Oc.dels:∀(ks:List (List Int)) (o:Oc),(ks.foldl Oc.del o).lp=o.lp∧(ks.foldl Oc.del o).com=o.com∧(ks.foldl Oc.del o).ov=o.ov∧(ks.foldl Oc.del o).sent=o.sent∧
  (ks.foldl Oc.del o).box=ks.foldl (fun l k=>l.eraseP (fun e=>decide (e.k=k))) o.box
 | [],o=>⟨rfl,rfl,rfl,rfl,rfl⟩
 |k::ks,o=>by
  obtain⟨h1,h2,h3,h4,h5⟩:=Oc.dels ks (o.del k);exact⟨h1,h2,h3,h4,h5⟩
def pool (outs:List Oc):List Ev:=outs.flatMap (fun o=>o.box++o.sent)
theorem flatMap_set {α β:Type} (g:α→List β):∀{l:List α} {i:Nat} {x:α},l[i]?=some x→(l.flatMap g).Perm (g x++(l.eraseIdx i).flatMap g)∧∀y,((l.set i y).flatMap g).Perm (g y++(l.eraseIdx i).flatMap g)
 | [],i,x,h=>by simp at h
 |a::l,0,x,h=>by
  simp at h;subst h;exact⟨by simp,fun y=>by simp⟩
 |a::l,i+1,x,h=>by
  simp at h;obtain⟨h1,h2⟩:=flatMap_set g h;have hm:∀(u v w:List β),(u++(v++w)).Perm (v++(u++w)):=fun u v w=>by
   rw[←List.append_assoc,←List.append_assoc];exact List.perm_append_comm.append_right w
  refine⟨?_,fun y=> ?_⟩
  ·simp only[List.flatMap_cons,List.eraseIdx_cons_succ];exact(h1.append_left (g a)).trans (hm _ _ _)
  ·simp only[List.set_cons_succ,List.flatMap_cons,List.eraseIdx_cons_succ];exact((h2 y).append_left (g a)).trans (hm _ _ _)
theorem mem_eraseIdx_ne {α:Type}:∀{l:List α} {i:Nat} {x:α},x∈l.eraseIdx i→∃j,j≠i∧l[j]?=some x
 | [],i,x,h=>by simp at h
 |a::l,0,x,h=>by
  simp at h;obtain⟨j,hj,h1⟩:=List.mem_iff_getElem.1 h;exact⟨j+1,by omega,by simp[hj,h1]⟩
 |a::l,i+1,x,h=>by
  rw[List.eraseIdx_cons_succ]at h;rcases List.mem_cons.1 h with rfl|h
  ·exact⟨0,by omega,by simp⟩
  ·obtain⟨j,hj,h1⟩:=mem_eraseIdx_ne h;exact⟨j+1,by omega,by simpa using h1⟩
structure OInv (i:Nat) (o:Oc):Prop where
 box:SortedE o.box
 mine:∀f∈o.box,f.lp=i
 sent:∀f∈o.sent,f.lp≠i∧f.kd=3
structure GInv (N P:Nat) (C:List (List Int)) (outs:List Oc):Prop where
 k:KInv N P C (outs.map Oc.lp) (pool outs)
 o:∀(i:Nat) (o:Oc),outs[i]?=some o→OInv i o
theorem filter_split {α:Type} (p:α→Bool) (l:List α):(l.filter p++l.filter (fun x=> !p x)).Perm l:=by
 induction l with
 |nil=>simp
 |cons a l ih=>
  by_cases h:p a=true
  ·rw[List.filter_cons_of_pos h,List.filter_cons_of_neg (by simp[h])];exact ih.cons a
  ·rw[List.filter_cons_of_neg h,List.filter_cons_of_pos (by simp[h])];exact List.perm_middle.trans (ih.cons a)
structure OneStep (N P:Nat) (la:Int) (pgs:List (List OpC)) (C:List (List Int)) (outs:List Oc) (i:Nat) (o:Oc) (e:Ev) (b:List Ev) (o':Oc):Prop where
 inv:GInv N P (e.k::C) (outs.set i o')
 lp:o'.lp=(exec pgs o.lp e).1
 com:o'.com=o.com++[e]
 ov:o'.ov=(o.ov||(exec pgs o.lp e).2.2.2)
 sent:o'.sent=o.sent++(exec pgs o.lp e).2.1.filter (fun f=> !decide (f.lp=e.lp))
 ex:ExecR N P la o.lp e (exec pgs o.lp e)
 rest:∃R,(pool outs).Perm (e::R)∧(pool (outs.set i o')).Perm ((R++(exec pgs o.lp e).2.1).filter (fun f=> !(exec pgs o.lp e).2.2.1.contains f.k))∧KeysD (R++(exec pgs o.lp e).2.1)
 box:o'.box.Perm ((b++(exec pgs o.lp e).2.1.filter (fun f=>decide (f.lp=e.lp))).filter (fun f=> !(exec pgs o.lp e).2.2.1.contains f.k))
theorem GInv.step {N P:Nat} {la:Int} {pgs:List (List OpC)} {C:List (List Int)} {outs:List Oc} {i:Nat} {o:Oc} {e:Ev} {b:List Ev} (h:GInv N P C outs) (hP:pgs.length=P) (hp:∀p∈pgs,∀o∈p,OpV N P la o)
  (ho:outs[i]?=some o) (hb:o.box=e::b) (hC:C.length≤800000):OneStep N P la pgs C outs i o e b (Oc.exec pgs {o with box:=b} e):=by
 obtain⟨hs,hm,ht⟩:=h.o i o ho;rw[hb]at hs hm;have hei:e.lp=i:=hm e List.mem_cons_self;have hil:e.lp.toNat=i:=by omega
 obtain⟨f1,f2⟩:=flatMap_set (fun o:Oc=>o.box++o.sent) ho;obtain⟨rest,hrest⟩:∃rest,(outs.eraseIdx i).flatMap (fun o:Oc=>o.box++o.sent)=rest:=⟨_,rfl⟩;rw[hrest]at f1 f2;have hQ:(pool outs).Perm (e::(b++o.sent++rest)):=by
  have:o.box++o.sent++rest=e::(b++o.sent++rest):=by rw[hb];simp
  exact this▸f1
 have hl:(outs.map Oc.lp)[e.lp.toNat]?=some o.lp:=by rw[hil,List.getElem?_map,ho];rfl
 have st:=h.k.step hQ hP hp hl hC;obtain⟨cr,hcr⟩:∃cr,(exec pgs o.lp e).2.1=cr:=⟨_,rfl⟩;obtain⟨ca,hca⟩:∃ca,(exec pgs o.lp e).2.2.1=ca:=⟨_,rfl⟩;obtain⟨g1,g2,g3,g4,g5,g6⟩:=Oc.puts e.lp cr (Oc.begin pgs {o with box:=b} e);obtain⟨d1,d2,d3,d4,d5⟩:=Oc.dels ca (cr.foldl (Oc.put e.lp) (Oc.begin pgs {o with box:=b} e));have hx:Oc.exec pgs {o with box:=b} e=ca.foldl Oc.del (cr.foldl (Oc.put e.lp) (Oc.begin pgs {o with box:=b} e)):=by
  unfold Oc.exec;simp only[hcr,hca]
 rw[hx];obtain⟨o',ho'⟩:∃o',ca.foldl Oc.del (cr.foldl (Oc.put e.lp) (Oc.begin pgs {o with box:=b} e))=o':=⟨_,rfl⟩;rw[ho']at d1 d2 d3 d4 d5 ⊢;obtain⟨o1,ho1⟩:∃o1,cr.foldl (Oc.put e.lp) (Oc.begin pgs {o with box:=b} e)=o1:=⟨_,rfl⟩;rw[ho1]at g1 g2 g3 g4 g5 g6 d1 d2 d3 d4 d5;have e1:o'.lp=(exec pgs o.lp e).1:=d1.trans g1;have e2:o'.com=o.com++[e]:=d2.trans g2;have e3:o'.ov=(o.ov||(exec pgs o.lp e).2.2.2):=d3.trans g3;have e4:o'.sent=o.sent++cr.filter (fun f=> !decide (f.lp=e.lp)):=d4.trans g6;have hgone:=st.gone;have hnd:=st.nd;rw[hcr]at hgone hnd;rw[hca]at hgone
 have k1:KeysD (b++cr.filter (fun f=>decide (f.lp=e.lp))):=by
  refine hnd.sub ?_;rw[List.append_assoc b o.sent rest,List.append_assoc b];exact(List.Sublist.refl b).append ((List.filter_sublist).trans (List.sublist_append_right _ _))
 have e5:o'.box=o1.box.filter (fun f=> !ca.contains f.k):=d5.trans (eraseP_keys ca (k1.perm g4.symm));have e6:o'.box.Perm ((b++cr.filter (fun f=>decide (f.lp=e.lp))).filter (fun f=> !ca.contains f.k)):=by
  rw[e5];exact g4.filter _
 have hfar:∀f,f∈cr→f.lp≠e.lp→f.kd=3:=fun f hf hne=>by
  rw[←hcr]at hf;rcases st.ex.far f hf with h1|h1
  ·exact absurd h1 hne
  ·exact h1.1
 have hsentk:(o.sent++cr.filter (fun f=> !decide (f.lp=e.lp))).filter (fun f=> !ca.contains f.k)=o.sent++cr.filter (fun f=> !decide (f.lp=e.lp)):=by
  refine List.filter_eq_self.2 fun f hf=> ?_;by_cases hc:f.k∈ca
  ·exfalso;rcases List.mem_append.1 hf with h1|h1
   ·have h2:=hgone f (by simp[h1]) hc;have h3:=(ht f h1).2;omega
   ·have h2:=hgone f (by simp[(List.mem_filter.1 h1).1]) hc;have h3:=(List.mem_filter.1 h1).2;simp at h3;exact h3 h2.1
  ·simpa using hc
 have hrestk:rest.filter (fun f=> !ca.contains f.k)=rest:=by
  refine List.filter_eq_self.2 fun f hf=> ?_;by_cases hc:f.k∈ca
  ·exfalso;have h2:=hgone f (by simp[hf]) hc;rw[←hrest]at hf;obtain⟨o2,h3,h4⟩:=List.mem_flatMap.1 hf;obtain⟨j,hj,h5⟩:=mem_eraseIdx_ne h3;have h6:=h.o j o2 h5;rcases List.mem_append.1 h4 with h7|h7
   ·have:=h6.mine f h7;omega
   ·have:=(h6.sent f h7).2;omega
  ·simpa using hc
 have hpool:(pool (outs.set i o')).Perm ((b++o.sent++rest++cr).filter (fun f=> !ca.contains f.k)):=by
  refine(f2 o').trans ?_;rw[e4];have p1:(b++o.sent++rest++cr).Perm ((b++cr.filter (fun f=>decide (f.lp=e.lp)))++((o.sent++cr.filter (fun f=> !decide (f.lp=e.lp)))++rest)):=by
   refine((filter_split (fun f:Ev=>decide (f.lp=e.lp)) cr).symm.append_left _).trans ?_;generalize cr.filter (fun f=>decide (f.lp=e.lp))=u;generalize cr.filter (fun f=> !decide (f.lp=e.lp))=v;simp only[List.append_assoc];refine List.Perm.append_left b ?_;have s1:(o.sent++(rest++(u++v))).Perm (u++v++(o.sent++rest)):=by
    rw[←List.append_assoc o.sent];exact List.perm_append_comm
   refine s1.trans ?_;rw[List.append_assoc];refine List.Perm.append_left u ?_;rw[←List.append_assoc,←List.append_assoc];exact List.perm_append_comm.append_right _
  refine List.Perm.trans ?_ (p1.symm.filter _);rw[List.filter_append,List.filter_append (l₁:=o.sent++_),hsentk,hrestk,List.append_assoc];exact e6.append_right _
 refine⟨⟨?_,fun j o2 h1=> ?_⟩,e1,e2,e3,by rw[hcr];exact e4,st.ex,⟨b++o.sent++rest,hQ,by rw[hcr,hca];exact hpool,by rw[hcr];exact hnd⟩,by rw[hcr,hca];exact e6⟩
 ·have h1:=st.inv;rw[hcr,hca,hil]at h1;have h2:(outs.set i o').map Oc.lp=(outs.map Oc.lp).set i (exec pgs o.lp e).1:=by rw[List.map_set,e1]
  rw[h2];exact h1.perm hpool.symm (.refl _)
 ·by_cases hj:i=j
  ·subst hj;rw[List.getElem?_set_self (List.getElem?_eq_some_iff.1 ho).1]at h1;cases h1;refine⟨?_,fun f hf=> ?_,fun f hf=> ?_⟩
   ·rw[e5];exact(g5 (SortedE.tail hs)).filter _
   ·have h3:=(List.mem_filter.1 (e6.subset hf)).1;rcases List.mem_append.1 h3 with h4|h4
    ·exact hm f (List.mem_cons_of_mem _ h4)
    ·have:=(List.mem_filter.1 h4).2;simp at this;omega
   ·rw[e4]at hf;rcases List.mem_append.1 hf with h4|h4
    ·exact ht f h4
    ·obtain⟨h5,h6⟩:=List.mem_filter.1 h4;simp at h6;exact⟨by omega,hfar f h5 h6⟩
  ·rw[List.getElem?_set_ne hj]at h1;exact h.o j o2 h1
end Go.Proofs.YtfnimdhghglanaaGreat.Hand
end
