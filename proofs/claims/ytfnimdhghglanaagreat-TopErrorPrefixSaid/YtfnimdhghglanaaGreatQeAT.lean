/- TopErrorPrefix, part 20 of 41; no condition. (Printed from the session's own texts: what is not used left out, spaces spared.) -/
import Derived.Test.YtfnimdhghglanaaGreatQeAR
import Derived.Test.YtfnimdhghglanaaGreatQeAS
set_option maxRecDepth 100000
set_option maxHeartbeats 8000000
set_option linter.unusedVariables false
set_option linter.unusedSimpArgs false
section
namespace Go.Proofs.YtfnimdhghglanaaGreat.Hand
open Go
section
structure Sq where
 tr:List (List Ev)
 lps:List Lp
 pend:List Ev
 n:Nat
 ov:Bool
def Sq.commit (pgs:List (List OpC)) (s:Sq):Sq:=match s.pend with
 | []=>s
 |e::p=>{tr:=s.tr.set e.lp.toNat (s.tr.getD e.lp.toNat []++[e]),lps:=s.lps.set e.lp.toNat (exec pgs (s.lps.getD e.lp.toNat Lp.zero) e).1,pend:=sortC ((p++(exec pgs (s.lps.getD e.lp.toNat Lp.zero) e).2.1).filter (fun f=> !(exec pgs (s.lps.getD e.lp.toNat Lp.zero) e).2.2.1.contains f.k)),n:=s.n+1,ov:=s.ov||(exec pgs (s.lps.getD e.lp.toNat Lp.zero) e).2.2.2}
def Sq.ready (en:Int) (s:Sq):Bool:=match s.pend with
 | []=>false
 |e::_=>decide (e.t<en)
def Sq.run (pgs:List (List OpC)) (en:Int):Nat→Sq→Sq
 |0,s=>s
 |k+1,s=>if s.ready en then Sq.run pgs en k (s.commit pgs)else s
def Sq.steps (pgs:List (List OpC)):Nat→Sq→Sq
 |0,s=>s
 |k+1,s=>Sq.steps pgs k (s.commit pgs)
structure SRel (tr0:List (List Ev)) (ov0:Bool) (s:Sq) (outs:List Oc):Prop where
 lps:s.lps=outs.map Oc.lp
 nt:tr0.length=outs.length
 tr:s.tr=List.zipWith (·++·) tr0 (outs.map Oc.com)
 pend:s.pend.Perm (pool outs)
 sorted:SortedE s.pend
 ov:s.ov=(ov0||outs.any Oc.ov)
structure WInv (h fl:Int) (outs:List Oc):Prop where
 lo:∀f∈pool outs,fl≤f.t
 sent:∀o∈outs,∀f∈o.sent,h≤f.t
theorem zip_set {α:Type}:∀(a b:List (List α)) (i:Nat) (x:List α) (y:List α),i<a.length→b[i]?=some x→(List.zipWith (·++·) a b).set i ((List.zipWith (·++·) a b).getD i []++y)=List.zipWith (·++·) a (b.set i (x++y))
 | [],_,i,_,_,h,_=>by simp at h
 |_::_,[],i,_,_,_,h=>by simp at h
 |u::a,v::b,0,x,y,_,h=>by
  simp at h;subst h;simp
 |u::a,v::b,i+1,x,y,h1,h2=>by
  have h3:=zip_set a b i x y (by simpa using h1) (by simpa using h2);simp only[List.zipWith_cons_cons,List.set_cons_succ,List.getD_cons_succ];rw[h3]
theorem any_set {α:Type} (p:α→Bool):∀(l:List α) (i:Nat) (x y:α) (c:Bool),l[i]?=some x→p y=(p x||c)→(l.set i y).any p=(l.any p||c)
 | [],i,_,_,_,h,_=>by simp at h
 |a::l,0,x,y,c,h,hy=>by
  simp at h;subst h;simp only[List.set_cons_zero,List.any_cons,hy];cases p a<;>cases c<;>simp
 |a::l,i+1,x,y,c,h,hy=>by
  have:=any_set p l i x y c (by simpa using h) hy;simp only[List.set_cons_succ,List.any_cons,this,Bool.or_assoc]
theorem mem_pool {outs:List Oc} {f:Ev}:f∈pool outs↔∃(i:Nat) (o:Oc),outs[i]?=some o∧(f∈o.box∨f∈o.sent):=by
 unfold pool;rw[List.mem_flatMap];constructor
 ·rintro⟨o,ho,hf⟩;obtain⟨i,hi,h1⟩:=List.mem_iff_getElem.1 ho;exact⟨i,o,by simp[hi,h1],List.mem_append.1 hf⟩
 ·rintro⟨i,o,ho,hf⟩;exact⟨o,List.mem_of_getElem? ho,List.mem_append.2 hf⟩
section
variable {N P:Nat} {la:Int} {pgs:List (List OpC)} {C:List (List Int)} {outs:List Oc}
theorem find_head (h:GInv N P C outs) {s:Sq} {e:Ev} {p:List Ev} (hp:s.pend.Perm (pool outs)) (hs:SortedE s.pend) (he:s.pend=e::p) (hns:∀o∈outs,e∉o.sent):∃(i:Nat) (o:Oc) (b:List Ev),outs[i]?=some o∧o.box=e::b∧e.lp.toNat=i:=by
 have h1:e∈pool outs:=hp.subset (by rw[he];exact List.mem_cons_self);obtain⟨i,o,ho,hf⟩:=mem_pool.1 h1;rcases hf with hf|hf
 ·have hi:=h.o i o ho;cases hb:o.box with
  |nil=>rw[hb]at hf;cases hf
  |cons f b=>
   refine⟨i,o,b,ho,?_,by have:=hi.mine e hf;omega⟩;have hfp:f∈pool outs:=mem_pool.2 ⟨i,o,ho,.inl (by rw[hb];exact List.mem_cons_self)⟩;have hsb:=hi.box;rw[hb]at hsb hf;rcases List.mem_cons.1 hf with rfl|hf2
   ·exact hb
   ·have c1:=SortedE.head hsb e hf2;have hfs:f∈s.pend:=hp.symm.subset hfp;rw[he]at hfs hs;rcases List.mem_cons.1 hfs with rfl|hfs
    ·exact hb
    ·have c2:=SortedE.head hs f hfs;have c3:=cmpE_zero.1 (show cmpE e f=0 by have:=cmpE_swap e f;omega);have:=h.k.nd.inj h1 hfp c3.2;rw[this,hb]
 ·exact absurd hf (hns o (List.mem_of_getElem? ho))
theorem SRel.step {tr0:List (List Ev)} {ov0:Bool} {s:Sq} {hz fl:Int} (h:GInv N P C outs) (r:SRel tr0 ov0 s outs) (hw:WInv hz fl outs) (hP:pgs.length=P) (hp:∀p∈pgs,∀o∈p,OpV N P la o) (hC:C.length≤800000)
  {e:Ev} {p:List Ev} (he:s.pend=e::p) (hlt:e.t<hz) (hz1:hz≤fl+la):
  ∃(i:Nat) (o:Oc) (b:List Ev),outs[i]?=some o∧o.box=e::b∧SRel tr0 ov0 (s.commit pgs) (outs.set i (Oc.exec pgs {o with box:=b} e))∧WInv hz fl (outs.set i (Oc.exec pgs {o with box:=b} e))∧GInv N P (e.k::C) (outs.set i (Oc.exec pgs {o with box:=b} e)):=by
 obtain⟨i,o,b,ho,hb,hi⟩:=find_head h r.pend r.sorted he (fun o ho hf=>by have:=hw.sent o ho e hf;omega);have st:=h.step hP hp ho hb hC;refine⟨i,o,b,ho,hb,?_⟩;obtain⟨o',ho'⟩:∃o',Oc.exec pgs {o with box:=b} e=o':=⟨_,rfl⟩;rw[ho']at st ⊢;have hil:i<outs.length:=(List.getElem?_eq_some_iff.1 ho).1;have hl:s.lps.getD e.lp.toNat Lp.zero=o.lp:=by
  rw[hi,r.lps,List.getD_eq_getElem?_getD,List.getElem?_map,ho];rfl
 obtain⟨R,q1,q2,q3⟩:=st.rest;have hcm:s.commit pgs={tr:=s.tr.set i (s.tr.getD i []++[e]),lps:=s.lps.set i (exec pgs o.lp e).1,pend:=sortC ((p++(exec pgs o.lp e).2.1).filter (fun f=> !(exec pgs o.lp e).2.2.1.contains f.k)),n:=s.n+1,ov:=s.ov||(exec pgs o.lp e).2.2.2}:=by
  unfold Sq.commit;rw[he];simp only[hl];rw[hi]
 have hpR:p.Perm R:=by
  have:=r.pend.trans q1;rw[he]at this;exact this.cons_inv
 refine⟨?_,⟨fun f hf=> ?_,fun o2 ho2 f hf=> ?_⟩,st.inv⟩
 ·rw[hcm];refine⟨?_,by rw[List.length_set];exact r.nt,?_,?_,sortC_sorted _,?_⟩
  ·simp only;rw[r.lps,List.map_set,st.lp]
  ·simp only;rw[r.tr,List.map_set,st.com];exact zip_set tr0 (outs.map Oc.com) i o.com [e] (by rw[r.nt];exact hil) (by rw[List.getElem?_map,ho];rfl)
  ·exact(sortC_perm _).trans (((hpR.append_right _).filter _).trans q2.symm)
  ·simp only;rw[r.ov,any_set Oc.ov outs i o o' (exec pgs o.lp e).2.2.2 ho st.ov,Bool.or_assoc]
 ·have h1:=(List.mem_filter.1 (q2.subset hf)).1;rcases List.mem_append.1 h1 with h2|h2
  ·exact hw.lo f (q1.symm.subset (List.mem_cons_of_mem _ h2))
  ·have h3:=(st.ex.time f h2).1;have h4:=hw.lo e (q1.symm.subset List.mem_cons_self);omega
 ·rcases List.mem_or_eq_of_mem_set ho2 with h1|rfl
  ·exact hw.sent o2 h1 f hf
  ·rw[st.sent]at hf;rcases List.mem_append.1 hf with h1|h1
   ·exact hw.sent o (List.mem_of_getElem? ho) f h1
   ·obtain⟨h2,h3⟩:=List.mem_filter.1 h1;simp at h3;rcases st.ex.far f h2 with h4|h4
    ·exact absurd h4 h3
    ·have h5:=hw.lo e (q1.symm.subset List.mem_cons_self);omega
end
theorem list_set_same {α:Type} {l:List α} {i:Nat} {x:α} (h:l[i]?=some x):l.set i x=l:=by
 obtain⟨h1,h2⟩:=List.getElem?_eq_some_iff.1 h;rw[←h2,List.set_getElem_self]
theorem sum_set:∀(l:List Nat) (i n:Nat),l[i]?=some (n+1)→(l.set i n).sum+1=l.sum
 | [],i,n,h=>by simp at h
 |a::l,0,n,h=>by
  simp at h;subst h;simp;omega
 |a::l,i+1,n,h=>by
  have:=sum_set l i n (by simpa using h);simp;omega
theorem set_app_len:∀(l:List (List Ev)) (i:Nat) (e:Ev),i<l.length→(l.set i (l.getD i []++[e])).flatten.length=l.flatten.length+1
 | [],_,_,h=>by simp at h
 |a::l,0,e,_=>by
  simp;omega
 |a::l,i+1,e,h=>by
  have:=set_app_len l i e (by simpa using h);simp only[List.set_cons_succ,List.getD_cons_succ,List.flatten_cons,List.length_append,this];omega
theorem window_seq {N P:Nat} {la:Int} {pgs:List (List OpC)} {tr0:List (List Ev)} {ov0:Bool} {hz fl:Int} (hP:pgs.length=P) (hp:∀p∈pgs,∀o∈p,OpV N P la o) (hz1:hz≤fl+la) {F:List Oc} (hF:∀g∈F,g.rest hz):
  ∀(m:Nat) (C:List (List Int)) (outs:List Oc) (fs:List Nat) (s:Sq),fs.sum=m→GInv N P C outs→SRel tr0 ov0 s outs→WInv hz fl outs→C.length+m≤800000→outs.length=F.length→fs.length=F.length→
   (∀(i:Nat) (o:Oc) (k:Nat) (g:Oc),outs[i]?=some o→fs[i]?=some k→F[i]?=some g→Oc.run pgs hz k o=g)→
   ∃(M:Nat) (C':List (List Int)),M≤m∧C'.length=C.length+M∧GInv N P C' F∧SRel tr0 ov0 (Sq.steps pgs M s) F∧WInv hz fl F∧(Sq.steps pgs M s).n=s.n+M∧(Sq.steps pgs M s).tr.flatten.length=s.tr.flatten.length+M∧
    (∀en,hz≤en→∀k,Sq.run pgs en (M+k) s=Sq.run pgs en k (Sq.steps pgs M s)):=by
 intro m
 induction m with
 |zero=>
  intro C outs fs s hm hg hr hw hC hl1 hl2 hall;have:outs=F:=by
   refine List.ext_getElem hl1 fun i h1 h2=> ?_;have h3:fs[i]?=some 0:=by
    have hi:i<fs.length:=by omega
    rw[List.getElem?_eq_getElem hi];have h9:=List.sum_eq_zero_iff_forall_eq_nat.1 hm fs[i] (List.getElem_mem hi);rw[h9]
   exact hall i _ 0 _ (List.getElem?_eq_getElem h1) h3 (List.getElem?_eq_getElem h2)
  subst this;exact⟨0,C,Nat.le_refl _,rfl,hg,hr,hw,rfl,rfl,fun en _ k=>by simp[Sq.steps]⟩
 |succ m ih=>
  intro C outs fs s hm hg hr hw hC hl1 hl2 hall;by_cases hd:∃e p,s.pend=e::p∧e.t<hz
  ·obtain⟨e,p,he,hlt⟩:=hd;obtain⟨i,o,b,ho,hb,r2,w2,g2⟩:=hr.step hg hw hP hp (by omega) he hlt hz1;have hil:i<outs.length:=(List.getElem?_eq_some_iff.1 ho).1;have hif:i<F.length:=by omega
   have his:i<fs.length:=by omega
   obtain⟨k,hk⟩:∃k,fs[i]?=some k:=⟨_,List.getElem?_eq_getElem his⟩;have hrun:=hall i o k F[i] ho hk (List.getElem?_eq_getElem hif);cases k with
   |zero=>
    exfalso;have h1:o=F[i]:=hrun;have h2:=hF F[i] (List.getElem_mem hif);rw[←h1]at h2;exact h2 e (by simp[hb]) hlt
   |succ k=>
    have hrun2:Oc.run pgs hz k (Oc.exec pgs {o with box:=b} e)=F[i]:=by
     have h1:Oc.run pgs hz (k+1) o=Oc.run pgs hz k (Oc.exec pgs {o with box:=b} e):=by
      conv=>lhs;unfold Oc.run
      rw[hb];simp only;rw[if_pos hlt]
     rw[←h1];exact hrun
    have hsum:=sum_set fs i k hk;obtain⟨M,C',m1,m2,m3,m4,m5,m6,m8,m7⟩:=ih (e.k::C) _ (fs.set i k) (s.commit pgs) (by omega) g2 r2 w2 (by simp only[List.length_cons];omega) (by rw[List.length_set];exact hl1) (by rw[List.length_set];exact hl2) (fun j o2 k2 g h1 h2 h3=>by
     by_cases hj:i=j
     ·subst hj;rw[List.getElem?_set_self hil]at h1;rw[List.getElem?_set_self his]at h2;rw[List.getElem?_eq_getElem hif]at h3;cases h1;cases h2;cases h3;exact hrun2
     ·rw[List.getElem?_set_ne hj]at h1 h2;exact hall j o2 k2 g h1 h2 h3)
    have hn:(s.commit pgs).n=s.n+1:=by
     unfold Sq.commit;rw[he]
    have htr:(s.commit pgs).tr.flatten.length=s.tr.flatten.length+1:=by
     unfold Sq.commit;rw[he];have h1:=hg.k.rng e (hr.pend.subset (he▸List.mem_cons_self));have h2:=hg.k.nl;have h3:s.tr.length=outs.length:=by rw[hr.tr,List.length_zipWith,List.length_map,hr.nt,Nat.min_self]
     rw[List.length_map]at h2;exact set_app_len _ _ e (by omega)
    refine⟨M+1,C',by omega,by rw[m2];simp only[List.length_cons];omega,m3,m4,m5,by rw[Sq.steps,m6,hn];omega,by rw[Sq.steps,m8,htr];omega,fun en hen k2=> ?_⟩;rw[Sq.steps,←m7 en hen k2,show M+1+k2=M+k2+1 by omega]
    conv=>lhs;unfold Sq.run
    rw[if_pos];unfold Sq.ready;rw[he];simp;omega
  ·have hrest:∀o∈outs,o.rest hz:=fun o ho f hf hlt=>by
    have h1:f∈o.box:=List.mem_of_mem_head? hf;obtain⟨i,hi,h2⟩:=List.mem_iff_getElem.1 ho;have h3:f∈s.pend:=hr.pend.symm.subset (mem_pool.2 ⟨i,o,by simp[hi,h2],.inl h1⟩);cases hc:s.pend with
    |nil=>rw[hc]at h3;cases h3
    |cons e p=>
     have h5:e.t≤f.t:=by
      have hs:=hr.sorted;rw[hc]at h3 hs;rcases List.mem_cons.1 h3 with rfl|h3
      ·exact Int.le_refl _
      ·exact cmpE_time (SortedE.head hs f h3)
     exact hd ⟨e,p,hc,by omega⟩
   have:outs=F:=by
    refine List.ext_getElem hl1 fun i h1 h2=> ?_;have hi:i<fs.length:=by omega
    have:=hall i _ fs[i] _ (List.getElem?_eq_getElem h1) (List.getElem?_eq_getElem hi) (List.getElem?_eq_getElem h2);rw[Oc.run_rest (hrest _ (List.getElem_mem h1))]at this;exact this
   subst this;exact⟨0,C,Nat.zero_le _,rfl,hg,hr,hw,rfl,rfl,fun en _ k=>by simp[Sq.steps]⟩
section
variable {N P:Nat} {la:Int} {pgs:List (List OpC)}
theorem GInv.runOne (hP:pgs.length=P) (hp:∀p∈pgs,∀o∈p,OpV N P la o) (hz:Int) (i:Nat):∀(n:Nat) (C:List (List Int)) (outs:List Oc) (o:Oc),GInv N P C outs→outs[i]?=some o→C.length+n≤800000→
  ∃(d:List Ev) (C':List (List Int)),(Oc.run pgs hz n o).com=o.com++d∧d.length≤n∧C'.length=C.length+d.length∧GInv N P C' (outs.set i (Oc.run pgs hz n o))∧(pool (outs.set i (Oc.run pgs hz n o))).length≤(pool outs).length+16*d.length
 |0,C,outs,o,h,ho,hC=>⟨[],C,by simp[Oc.run],by simp,by simp,by rw[show Oc.run pgs hz 0 o=o from rfl,list_set_same ho];exact h,by rw[show Oc.run pgs hz 0 o=o from rfl,list_set_same ho];simp⟩
 |n+1,C,outs,o,h,ho,hC=>by
  have hstop:Oc.run pgs hz (n+1) o=o→∃(d:List Ev) (C':List (List Int)),(Oc.run pgs hz (n+1) o).com=o.com++d∧d.length≤n+1∧C'.length=C.length+d.length∧GInv N P C' (outs.set i (Oc.run pgs hz (n+1) o))∧(pool (outs.set i (Oc.run pgs hz (n+1) o))).length≤(pool outs).length+16*d.length:=
   fun e=>by rw[e];exact⟨[],C,by simp,by simp,by simp,by rw[list_set_same ho];exact h,by rw[list_set_same ho];simp⟩
  cases hb:o.box with
  |nil=>exact hstop (by unfold Oc.run;rw[hb])
  |cons e b=>
   by_cases hlt:e.t<hz
   ·have st:=h.step hP hp ho hb (by omega);have hrun:Oc.run pgs hz (n+1) o=Oc.run pgs hz n (Oc.exec pgs {o with box:=b} e):=by
     conv=>lhs;unfold Oc.run
     rw[hb];simp only;rw[if_pos hlt]
    obtain⟨o',ho'⟩:∃o',Oc.exec pgs {o with box:=b} e=o':=⟨_,rfl⟩;rw[ho']at st hrun;obtain⟨d,C',h1,h2,h3,h4,h5⟩:=GInv.runOne hP hp hz i n (e.k::C) (outs.set i o') o' st.inv (by rw[List.getElem?_set_self (List.getElem?_eq_some_iff.1 ho).1]) (by simp only[List.length_cons];omega);rw[hrun];rw[List.set_set]at h4 h5;refine⟨e::d,C',by rw[h1,st.com];simp,by simp only[List.length_cons];omega,by rw[h3];simp only[List.length_cons];omega,h4,?_⟩;obtain⟨R,q1,q2,_⟩:=st.rest;have:=q1.length_eq;have h6:=q2.length_eq
    have h7:=List.length_filter_le (fun f=> !(exec pgs o.lp e).2.2.1.contains f.k) (R++(exec pgs o.lp e).2.1);have h8:=st.ex.few.1;simp only[List.length_cons,List.length_append]at this h7 ⊢;omega
   ·exact hstop (by unfold Oc.run;rw[hb];simp only;rw[if_neg hlt])
end
end
end Go.Proofs.YtfnimdhghglanaaGreat.Hand
end
section
namespace Go.Proofs.YtfnimdhghglanaaGreat.Hand
open Go.RowKit Go.Shelf Go.Proofs.YtfnimdhghglanaaGreatW.PrintWords Go.Proofs.YtfnimdhghglanaaGreatW.PrintLast Go.Proofs.YtfnimdhghglanaaGreatW.PrintMore
structure ExecPre (P:Nat) (l:Lp) (e:Ev):Prop where
 lp:LpOk P l
 kl:e.k.length≤900000
 ar:e.kd=2→0≤e.ar
 tm:∀p∈l.ps,p.tm.length≤900000
structure PgsOk (progs:List (List OpC)):Prop where
 n:progs.length≤1000000
 p:∀l∈progs,l.length≤1000000∧∀o∈l,OpOk o
structure ExecTo (Mt:Nat→Prop) (w w':World) (x:Lp×List Ev×List (List Int)×Bool) (r:Ending):Prop where
 ex:∃(s:SLp) (ch xh:SH),r= .returned (.tuple #[s.v,.slice ch.A ch.n ch.c,.slice xh.A xh.n xh.c,.bool x.2.2.2])∧LpAt Mt w' s x.1∧EvsAt Mt w' ch x.2.1∧KeysAt Mt w' xh x.2.2.1
 below:Below w.heap.size w w'
theorem LpAt.below {Mt:Nat→Prop} {w w':World} {s:SLp} {l:Lp} (h:LpAt Mt w s l) (k:Below w.heap.size w w'):LpAt Mt w' s l:=⟨h.r0,h.r1,h.ps.keep (Keep.of_below k),h.sum⟩
theorem LpAt.fresh {Mt Mt':Nat→Prop} {w w':World} {s:SLp} {l:Lp} (h:LpAt Mt w s l) (k:Keep Mt w w') (hm:∀k,k<w.heap.size→Mt' k→Mt k):LpAt Mt' w' s l:=⟨h.r0,h.r1,h.ps.fresh k hm,h.sum⟩
theorem execTo_none {Mt:Nat→Prop} {w w':World} {s:SLp} {l:Lp} (h:LpAt Mt w s l) (hb:Below w.heap.size w w'):ExecTo Mt w w' (l,[],[],false) (.returned (.tuple #[s.v,.slice none 0 0,.slice none 0 0,.bool false])):=
 ⟨⟨s,.nil,.nil,rfl,h.below hb,⟨[],Rd.nil _ _ _,.nil⟩,⟨[],Rd.nil _ _ _,.nil⟩⟩,hb⟩
theorem exec_calls {Mt:Nat→Prop} {w:World} (hM:∀k,Mt k→k<w.heap.size) (c:SCf) (x:SLp) (e:SE) {lp:Lp} {ev:Ev} {progs:List (List OpC)} (hx:LpAt Mt w x lp) (he:EvAt Mt w e ev) (hc:PgsAt Mt w c.pgs progs)
  (h:ExecPre progs.length lp ev) (hp:PgsOk progs):Calls Tryz.prog 84 #[c.v,x.v,e.v] w fun r w'=>ExecTo Mt w w' (exec progs lp ev) r:=by
 have hn:x.ps.n=lp.ps.length:=hx.ps.len;unfold exec;by_cases h3:ev.kd=3
 ·rw[if_pos h3];refine(execMsg_calls w c x e (he.kd.trans h3)).mono ?_;rintro r w' ⟨rfl,hb⟩;refine⟨⟨⟨x.r0,x.r1,x.ps,IntKind.i64.wrap (x.sum+e.ar)⟩,.nil,.nil,rfl,?_,⟨[],Rd.nil _ _ _,.nil⟩,⟨[],Rd.nil _ _ _,.nil⟩⟩,hb⟩;have h2:=hx.below hb;exact⟨h2.r0,h2.r1,h2.ps,by simp only;rw[hx.sum,he.ar]⟩
 ·rw[if_neg h3];cases hw:wakes lp ev with
  |true=>
   rw[if_pos rfl];obtain⟨k1,k2,k3,k4⟩:=wakes_of hw;refine(execRun_calls hM c x e hx he hc k1 k2 k3 k4 h.lp.n (fun p hp=>(h.lp.p p hp).1) h.kl h.ar (fun p hp=>by have:=h.tm p hp;omega) hp.p (fun p hp=>(h.lp.p p hp).2) hp.n).mono ?_;rintro r w' ⟨⟨s,ch,xh,rfl,h1,h2,h4⟩,hb⟩;exact⟨⟨s,ch,xh,rfl,h1,h2,h4⟩,hb⟩
  |false=>
   rw[if_neg (by simp)];by_cases hk:ev.kd=1∨ev.kd=2
   ·have hek:e.kd=1∨e.kd=2:=by rw[he.kd];exact hk
    by_cases hr:ev.pr<0∨(lp.ps.length:Int)≤ev.pr
    ·refine(execDeadB_calls w c x e hek (by rw[he.pr,hn];exact hr)).mono ?_;rintro r w' ⟨rfl,hb⟩;exact execTo_none hx hb
    ·obtain⟨ss,hss,hsa⟩:=hx.ps;refine(execDeadC_calls w c x e hek ev.pr.toNat (by rw[he.pr];omega) (by omega) ss hss.here (fun p hp=> ?_)).mono ?_
     ·obtain⟨i1,i2⟩:=List.getElem?_eq_some_iff.1 hp;have i3:ev.pr.toNat<lp.ps.length:=by omega
      have h9:=hsa.get _ i1 i3;rw[i2]at h9;rw[h9.al];have h10:(exStart lp ev).self=lp.ps[ev.pr.toNat]:=by simp[Ex.self,exStart,List.getD_eq_getElem?_getD,i3]
      cases hal:(exStart lp ev).self.al with
      |false=>rw[h10]at hal;exact hal
      |true=>
       exfalso;have:wakes lp ev=true:=by
        simp only[wakes,Bool.and_eq_true,decide_eq_true_eq];exact⟨⟨⟨hk,by omega⟩,i3⟩,hal⟩
       rw[hw]at this;cases this
     ·rintro r w' ⟨rfl,hb⟩;exact execTo_none hx hb
   ·refine(execDeadA_calls w c x e (by rw[he.kd];exact h3) (by rw[he.kd];exact⟨fun e=>hk (.inl e),fun e=>hk (.inr e)⟩)).mono ?_;rintro r w' ⟨rfl,hb⟩;exact execTo_none hx hb
section
abbrev TOut:TypeId:=162
abbrev SH.own (h:SH):Option Nat:=(Value.slice h.A h.n h.c).ownBlock
def Mo (Mt:Nat→Prop) (b:Nat) (ch sh:SH) (k:Nat):Prop:=Mt k∨k=b∨ch.own=some k∨sh.own=some k
def outCells (ph bh ch sh:SH) (o:Oc):Array Value:= #[.int .i64 o.lp.r0,.int .i64 o.lp.r1,.slice ph.A ph.n ph.c,.int .i64 o.lp.sum,.slice bh.A bh.n bh.c,.slice ch.A ch.n ch.c,.slice sh.A sh.n sh.c,.bool o.ov]
def OwnEv (Mt:Nat→Prop) (B:Nat) (w:World) (h:SH) (es:List Ev):Prop:=∃ss,Kd.R kE 49 w B (fun _=>True) (.slice h.A h.n h.c) ss∧All2 (EvAt Mt w) ss es
structure OutAt (Mt:Nat→Prop) (B:Nat) (w:World) (b:Nat) (ph bh ch sh:SH) (o:Oc):Prop where
 base:B≤w.heap.size
 hb:B≤b
 blk:w.heap[b]?=some (.cells (outCells ph bh ch sh o) TOut (0,0))
 ps:PcsAt (Mo Mt b ch sh) w ph o.lp.ps
 box:EvsAt (Mo Mt b ch sh) w bh o.box
 com:OwnEv (Mo Mt b ch sh) B w ch o.com
 sent:OwnEv (Mo Mt b ch sh) B w sh o.sent
 apart:∀k,ch.own=some k→sh.own≠some k
theorem OwnEv.stay {Mt Mt':Nat→Prop} {B:Nat} {w w':World} {h:SH} {es:List Ev} (r:OwnEv Mt B w h es) (k:Keep Mt w w') (hm:∀k,k<w.heap.size→Mt' k→Mt k) (hb:∀j,h.own=some j→w'.heap[j]?=w.heap[j]?):OwnEv Mt' B w' h es:=by
 obtain⟨ss,h1,h2⟩:=r;exact⟨ss,R_stay h1 rfl fun j hj=>hb j hj,h2.imp fun _ _ hs=>hs.fresh k hm⟩
theorem OwnEv.typed {Mt:Nat→Prop} {B:Nat} {w:World} {h:SH} {es:List Ev} (r:OwnEv Mt B w h es) (k:Nat) (hk:h.own=some k):(∃cells,w.heap[k]?=some (Obj.cells cells 49 (0,0)))∧B≤k∧k<w.heap.size:=by
 obtain⟨ss,h1,_⟩:=r;exact⟨Kd.R_typed h1 k hk,Kd.R_base h1 k hk,Kd.R_lt h1 k hk⟩
section
variable {Mt:Nat→Prop} {B:Nat} {w w':World} {b:Nat} {ph bh ch sh:SH} {o:Oc}
theorem OutAt.mo (h:OutAt Mt B w b ph bh ch sh o) (hM:∀k,Mt k→k<w.heap.size) (k:Nat) (hk:Mo Mt b ch sh k):k<w.heap.size:=by
 rcases hk with hk|rfl|hk|hk
 ·exact hM k hk
 ·exact blk_lt h.blk
 ·exact(h.com.typed k hk).2.2
 ·exact(h.sent.typed k hk).2.2
theorem OutAt.old (h:OutAt Mt B w b ph bh ch sh o) (k:Nat) (hk:k<B) (hm:Mo Mt b ch sh k):Mt k:=by
 have:=h.hb;rcases hm with hm|rfl|hm|hm
 ·exact hm
 ·omega
 ·have:=(h.com.typed k hm).2.1;omega
 ·have:=(h.sent.typed k hm).2.1;omega
theorem OutAt.more (h:OutAt Mt B w b ph bh ch sh o) (k:Below w.heap.size w w'):OutAt Mt B w' b ph bh ch sh o:=
 ⟨Nat.le_trans h.base k.size,h.hb,(k.block b (blk_lt h.blk)).trans h.blk,h.ps.keep (Keep.of_below k),h.box.below k,h.com.stay (Keep.of_below k) (fun _ _ h=>h) (fun j hj=>k.block j (h.com.typed j hj).2.2),
  h.sent.stay (Keep.of_below k) (fun _ _ h=>h) (fun j hj=>k.block j (h.sent.typed j hj).2.2),h.apart⟩
theorem OutAt.fresh {Mt':Nat→Prop} (h:OutAt Mt B w b ph bh ch sh o) (k:Below w.heap.size w w') (hm:∀k,k<w.heap.size→Mt' k→Mt k):OutAt Mt' B w' b ph bh ch sh o:=
 have hm2:∀k,k<w.heap.size→Mo Mt' b ch sh k→Mo Mt b ch sh k:=fun j hj h2=>by
  rcases h2 with h2|h2
  ·exact .inl (hm j hj h2)
  ·exact .inr h2
 ⟨Nat.le_trans h.base k.size,h.hb,(k.block b (blk_lt h.blk)).trans h.blk,h.ps.fresh (Keep.of_below k) hm2,h.box.fresh (Keep.of_below k) hm2,h.com.stay (Keep.of_below k) hm2 (fun j hj=>k.block j (h.com.typed j hj).2.2),
  h.sent.stay (Keep.of_below k) hm2 (fun j hj=>k.block j (h.sent.typed j hj).2.2),h.apart⟩
theorem OutAt.mtKeep (h:OutAt Mt B w b ph bh ch sh o) (k:Keep Mt w w') (hb:∀j,j=b∨ch.own=some j∨sh.own=some j→w'.heap[j]?=w.heap[j]?):OutAt Mt B w' b ph bh ch sh o:=
 have k2:Keep (Mo Mt b ch sh) w w':=k.mono fun _ _ h=> .inl h
 ⟨Nat.le_trans h.base k.size,h.hb,(hb b (.inl rfl)).trans h.blk,h.ps.keep k2,h.box.keep k2,h.com.stay k2 (fun _ _ h=>h) (fun j hj=>hb j (.inr (.inl hj))),h.sent.stay k2 (fun _ _ h=>h) (fun j hj=>hb j (.inr (.inr hj))),h.apart⟩
theorem OutAt.cells (h:OutAt Mt B w b ph bh ch sh o):∀j u,(outCells ph bh ch sh o)[j]?=some u→w.cell? ⟨b,j,none⟩=some u:=fun j u hu=>by
 simp only[World.cell?,h.blk];exact hu
theorem OutAt.free (h:OutAt Mt B w b ph bh ch sh o) (j:Nat):w.frozen? ⟨b,j,none⟩=false:=blk_frozen h.blk j
theorem OutAt.put (h:OutAt Mt B w b ph bh ch sh o) (j:Nat) (u:Value) {ph' bh':SH} {o':Oc} (he:(outCells ph bh ch sh o).setIfInBounds j u=outCells ph' bh' ch sh o') (hps:PcsAt (Mo Mt b ch sh) w ph' o'.lp.ps) (hbx:EvsAt (Mo Mt b ch sh) w bh' o'.box) (hc:o'.com=o.com) (hs:o'.sent=o.sent):
  OutAt Mt B (w.setCell ⟨b,j,none⟩ u) b ph' bh' ch sh o'∧Keep (Mo Mt b ch sh) w (w.setCell ⟨b,j,none⟩ u):=by
 have hk:Keep (Mo Mt b ch sh) w (w.setCell ⟨b,j,none⟩ u):=Keep.set (b:=b) (.inr (.inl rfl)) u;have hne:∀(h2:SH) (es:List Ev),OwnEv (Mo Mt b ch sh) B w h2 es→∀k,h2.own=some k→(w.setCell ⟨b,j,none⟩ u).heap[k]?=w.heap[k]?:=fun h2 es r k hk=>Below.heap_setCell w ⟨b,j,none⟩ u k fun e=>by
  obtain⟨⟨c,hc⟩,_⟩:=r.typed k hk;simp only at e;rw[e,h.blk]at hc;cases hc
 refine⟨⟨Nat.le_trans h.base hk.size,h.hb,blk_put h.blk j u he,hps.keep hk,hbx.keep hk,?_,?_,h.apart⟩,hk⟩
 ·rw[hc];exact h.com.stay hk (fun _ _ h=>h) (hne _ _ h.com)
 ·rw[hs];exact h.sent.stay hk (fun _ _ h=>h) (hne _ _ h.sent)
theorem mo_com (h:OutAt Mt B w b ph bh ch sh o) {ch':SH} (hat:ch'.own=ch.own∨∃k,ch'.own=some k∧w.heap.size≤k) (k:Nat) (hk:k<w.heap.size) (hm:Mo Mt b ch' sh k):Mo Mt b ch sh k:=by
 rcases hm with hm|hm|hm|hm
 ·exact .inl hm
 ·exact .inr (.inl hm)
 ·rcases hat with h1|⟨j,h1,h2⟩
  ·exact .inr (.inr (.inl (h1▸hm)))
  ·rw[h1]at hm
   injection hm with hm
   omega
 ·exact .inr (.inr (.inr hm))
theorem mo_sent (h:OutAt Mt B w b ph bh ch sh o) {sh':SH} (hat:sh'.own=sh.own∨∃k,sh'.own=some k∧w.heap.size≤k) (k:Nat) (hk:k<w.heap.size) (hm:Mo Mt b ch sh' k):Mo Mt b ch sh k:=by
 rcases hm with hm|hm|hm|hm
 ·exact .inl hm
 ·exact .inr (.inl hm)
 ·exact .inr (.inr (.inl hm))
 ·rcases hat with h1|⟨j,h1,h2⟩
  ·exact .inr (.inr (.inr (h1▸hm)))
  ·rw[h1]at hm
   injection hm with hm
   omega
theorem OutAt.pushCom (h:OutAt Mt B w b ph bh ch sh o) {ss:List SE} (hss:All2 (EvAt (Mo Mt b ch sh) w) ss o.com) {s:SE} {e:Ev} (hs:EvAt (Mo Mt b ch sh) w s e) {w5:World} {A:Option Addr} {n c:Nat}
  (hv:Kd.R kE 49 w5 B (fun _=>True) (.slice A n c) (ss++[s])) (hg:w.grownBy w5 ch.own) (hat:(SH.mk A n c).own=ch.own∨∃k,(SH.mk A n c).own=some k∧w.heap.size≤k):
  OutAt Mt B (w5.setCell ⟨b,5,none⟩ (.slice A n c)) b ph bh ⟨A,n,c⟩ sh {o with com:=o.com++[e]}∧Keep (Mo Mt b ch sh) w (w5.setCell ⟨b,5,none⟩ (.slice A n c))∧w5.heap[b]?=w.heap[b]?:=by
 have hbl:=blk_lt h.blk;have hcb:ch.own≠some b:=fun e=>by
  obtain⟨⟨c,hc⟩,_⟩:=h.com.typed b e;rw[h.blk]at hc;cases hc
 have hb5:w5.heap[b]?=w.heap[b]?:=hg.block b hbl (fun e=>hcb e.symm);have hk1:Keep (Mo Mt b ch sh) w w5:=Keep.grown hg fun k hk=> .inr (.inr (.inl hk));have hk2:Keep (Mo Mt b ch sh) w5 (w5.setCell ⟨b,5,none⟩ (.slice A n c)):=Keep.set (b:=b) (.inr (.inl rfl)) _;have hk:=hk1.trans hk2;have hm:=fun k h1 h2=>mo_com h (ch':=⟨A,n,c⟩) hat k h1 h2;refine⟨⟨Nat.le_trans h.base hk.size,h.hb,blk_put (hb5.trans h.blk) 5 _ rfl,h.ps.fresh hk hm,h.box.fresh hk hm,?_,?_,?_⟩,hk,hb5⟩
 ·refine⟨ss++[s],R_stay hv rfl fun k hk=>Below.heap_setCell w5 ⟨b,5,none⟩ _ k fun e=> ?_,(hss.imp fun _ _ h=>h.fresh hk hm).append (.cons (hs.fresh hk hm) .nil)⟩;obtain⟨cc,hc⟩:=Kd.R_typed hv k hk;simp only at e;rw[e,hb5,h.blk]at hc;cases hc
 ·refine h.sent.stay hk hm fun k hk=> ?_;obtain⟨⟨cc,hc⟩,_,h3⟩:=h.sent.typed k hk;refine(Below.heap_setCell w5 ⟨b,5,none⟩ _ k fun e=> ?_).trans (hg.block k h3 fun e=>h.apart k e.symm hk);simp only at e;rw[e,h.blk]at hc;cases hc
 ·intro k h1 h2;rcases hat with h3|⟨j,h3,h4⟩
  ·exact h.apart k (h3▸h1) h2
  ·rw[h3]at h1
   injection h1 with h1
   have:=(h.sent.typed k h2).2.2;omega
theorem OutAt.pushSent (h:OutAt Mt B w b ph bh ch sh o) {ss:List SE} (hss:All2 (EvAt (Mo Mt b ch sh) w) ss o.sent) {s:SE} {e:Ev} (hs:EvAt (Mo Mt b ch sh) w s e) {w5:World} {A:Option Addr} {n c:Nat}
  (hv:Kd.R kE 49 w5 B (fun _=>True) (.slice A n c) (ss++[s])) (hg:w.grownBy w5 sh.own) (hat:(SH.mk A n c).own=sh.own∨∃k,(SH.mk A n c).own=some k∧w.heap.size≤k):
  OutAt Mt B (w5.setCell ⟨b,6,none⟩ (.slice A n c)) b ph bh ch ⟨A,n,c⟩ {o with sent:=o.sent++[e]}∧Keep (Mo Mt b ch sh) w (w5.setCell ⟨b,6,none⟩ (.slice A n c))∧w5.heap[b]?=w.heap[b]?:=by
 have hbl:=blk_lt h.blk;have hcb:sh.own≠some b:=fun e=>by
  obtain⟨⟨c,hc⟩,_⟩:=h.sent.typed b e;rw[h.blk]at hc;cases hc
 have hb5:w5.heap[b]?=w.heap[b]?:=hg.block b hbl (fun e=>hcb e.symm);have hk1:Keep (Mo Mt b ch sh) w w5:=Keep.grown hg fun k hk=> .inr (.inr (.inr hk));have hk2:Keep (Mo Mt b ch sh) w5 (w5.setCell ⟨b,6,none⟩ (.slice A n c)):=Keep.set (b:=b) (.inr (.inl rfl)) _;have hk:=hk1.trans hk2;have hm:=fun k h1 h2=>mo_sent h (sh':=⟨A,n,c⟩) hat k h1 h2;refine⟨⟨Nat.le_trans h.base hk.size,h.hb,blk_put (hb5.trans h.blk) 6 _ rfl,h.ps.fresh hk hm,h.box.fresh hk hm,?_,?_,?_⟩,hk,hb5⟩
 ·refine h.com.stay hk hm fun k hk=> ?_;obtain⟨⟨cc,hc⟩,_,h3⟩:=h.com.typed k hk;refine(Below.heap_setCell w5 ⟨b,6,none⟩ _ k fun e=> ?_).trans (hg.block k h3 fun e=>h.apart k hk e.symm);simp only at e;rw[e,h.blk]at hc;cases hc
 ·refine⟨ss++[s],R_stay hv rfl fun k hk=>Below.heap_setCell w5 ⟨b,6,none⟩ _ k fun e=> ?_,(hss.imp fun _ _ h=>h.fresh hk hm).append (.cons (hs.fresh hk hm) .nil)⟩;obtain⟨cc,hc⟩:=Kd.R_typed hv k hk;simp only at e;rw[e,hb5,h.blk]at hc;cases hc
 ·intro k h1 h2;rcases hat with h3|⟨j,h3,h4⟩
  ·exact h.apart k h1 (h3▸h2)
  ·rw[h3]at h2
   injection h2 with h2
   have:=(h.com.typed k h1).2.2;omega
end
abbrev M0 (b:Nat) (ch sh:SH):Nat→Prop:=Mo (fun _=>False) b ch sh
structure OutTo (Mt:Nat→Prop) (B:Nat) (w:World) (b:Nat) (ch sh:SH) (w':World) (ch' sh':SH):Prop where
 keep0:Keep (M0 b ch sh) w w'
 old0:∀k,k<w.heap.size→M0 b ch' sh' k→M0 b ch sh k
 os:w'.os=w.os
 tape:w'.tape=w.tape
 output:w'.output=w.output
section
variable {Mt:Nat→Prop} {B:Nat} {w w' w2:World} {b:Nat} {ph bh ch sh ch' sh' ch2 sh2:SH} {o:Oc}
theorem M0.mo {k:Nat} (h:M0 b ch sh k):Mo Mt b ch sh k:=by
 rcases h with h|h
 ·exact h.elim
 ·exact .inr h
theorem OutTo.keep (h:OutTo Mt B w b ch sh w' ch' sh'):Keep (Mo Mt b ch sh) w w':=h.keep0.mono fun _ _ h=>h.mo
theorem OutTo.old (h:OutTo Mt B w b ch sh w' ch' sh') (k:Nat) (hk:k<w.heap.size) (hm:Mo Mt b ch' sh' k):Mo Mt b ch sh k:=by
 rcases hm with hm|hm
 ·exact .inl hm
 ·exact(h.old0 k hk (.inr hm)).mo
theorem OutTo.refl:OutTo Mt B w b ch sh w ch sh:=⟨Keep.refl _ _,fun _ _ h=>h,rfl,rfl,rfl⟩
theorem OutTo.trans (h:OutTo Mt B w b ch sh w' ch' sh') (k:OutTo Mt B w' b ch' sh' w2 ch2 sh2):OutTo Mt B w b ch sh w2 ch2 sh2:=
 ⟨⟨Nat.le_trans h.keep0.size k.keep0.size,fun j hj hm=>(k.keep0.block j (Nat.lt_of_lt_of_le hj h.keep0.size) (fun h2=>hm (h.old0 j hj h2))).trans (h.keep0.block j hj hm)⟩,
  fun j hj hm=>h.old0 j hj (k.old0 j (Nat.lt_of_lt_of_le hj h.keep0.size) hm),k.os.trans h.os,k.tape.trans h.tape,k.output.trans h.output⟩
theorem OutTo.more (k:Below w.heap.size w w'):OutTo Mt B w b ch sh w' ch sh:=⟨Keep.of_below k,fun _ _ h=>h,k.os,k.tape,k.output⟩
theorem OutTo.put (j:Nat) (u:Value):OutTo Mt B w b ch sh (w.setCell ⟨b,j,none⟩ u) ch sh:=⟨Keep.set (b:=b) (.inr (.inl rfl)) u,fun _ _ h=>h,rfl,rfl,rfl⟩
theorem m0_com {ch':SH} (hat:ch'.own=ch.own∨∃k,ch'.own=some k∧w.heap.size≤k) (k:Nat) (hk:k<w.heap.size) (hm:M0 b ch' sh k):M0 b ch sh k:=by
 rcases hm with hm|hm|hm|hm
 ·exact .inl hm
 ·exact .inr (.inl hm)
 ·rcases hat with h1|⟨j,h1,h2⟩
  ·exact .inr (.inr (.inl (h1▸hm)))
  ·rw[h1]at hm
   injection hm with hm
   omega
 ·exact .inr (.inr (.inr hm))
theorem m0_sent {sh':SH} (hat:sh'.own=sh.own∨∃k,sh'.own=some k∧w.heap.size≤k) (k:Nat) (hk:k<w.heap.size) (hm:M0 b ch sh' k):M0 b ch sh k:=by
 rcases hm with hm|hm|hm|hm
 ·exact .inl hm
 ·exact .inr (.inl hm)
 ·exact .inr (.inr (.inl hm))
 ·rcases hat with h1|⟨j,h1,h2⟩
  ·exact .inr (.inr (.inr (h1▸hm)))
  ·rw[h1]at hm
   injection hm with hm
   omega
theorem OutTo.pushCom (h:OutAt Mt B w b ph bh ch sh o) {w5:World} {A:Option Addr} {n c:Nat} (hg:w.grownBy w5 ch.own) (hat:(SH.mk A n c).own=ch.own∨∃k,(SH.mk A n c).own=some k∧w.heap.size≤k) (j:Nat) (u:Value):OutTo Mt B w b ch sh (w5.setCell ⟨b,j,none⟩ u) ⟨A,n,c⟩ sh:=
 ⟨(Keep.grown hg fun k hk=> .inr (.inr (.inl hk))).trans (Keep.set (b:=b) (.inr (.inl rfl)) u),m0_com hat,hg.os,hg.tape,hg.output⟩
theorem OutTo.pushSent (h:OutAt Mt B w b ph bh ch sh o) {w5:World} {A:Option Addr} {n c:Nat} (hg:w.grownBy w5 sh.own) (hat:(SH.mk A n c).own=sh.own∨∃k,(SH.mk A n c).own=some k∧w.heap.size≤k) (j:Nat) (u:Value):OutTo Mt B w b ch sh (w5.setCell ⟨b,j,none⟩ u) ch ⟨A,n,c⟩:=
 ⟨(Keep.grown hg fun k hk=> .inr (.inr (.inr hk))).trans (Keep.set (b:=b) (.inr (.inl rfl)) u),m0_sent hat,hg.os,hg.tape,hg.output⟩
end
end
end Go.Proofs.YtfnimdhghglanaaGreat.Hand
end
