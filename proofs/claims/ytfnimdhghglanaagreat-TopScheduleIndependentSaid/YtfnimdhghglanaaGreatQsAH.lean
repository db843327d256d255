/- TopScheduleIndependent, part 8 of 27; no condition.  -/
import Derived.Test.YtfnimdhghglanaaGreatQsAG
import Derived.Deep.Slices
set_option maxRecDepth 100000
set_option maxHeartbeats 8000000
set_option linter.unusedVariables false
set_option linter.unusedSimpArgs false
section
namespace Go.Proofs.YtfnimdhghglanaaGreat.Hand
open Go.RowKit Go.Proofs.YtfnimdhghglanaaGreatW PrintWords PrintLast PrintMore
attribute [local go_sem] max2_int min2_int max_two min_two max_three min_three max_four min_four
theorem cmpI_swap (x y:Int):cmpI y x= - cmpI x y:=by
 unfold cmpI
 repeat' split
 all_goals omega
theorem cmpI_zero {x y:Int}:cmpI x y=0↔x=y:=by
 unfold cmpI
 repeat' split
 all_goals omega
theorem cmpI_neg {x y:Int}:cmpI x y<0↔x<y:=by
 unfold cmpI
 repeat' split
 all_goals omega
theorem cmpK_swap:∀a b:List Int,cmpK b a= - cmpK a b
 | [],[]=>rfl
 | [],_::_=>rfl
 |_::_,[]=>rfl
 |x::xs,y::ys=>by
  have h1:=cmpI_swap x y;have h2:=cmpK_swap xs ys;unfold cmpK;by_cases e:cmpI x y=0
  ·rw[if_neg (by omega),if_neg (by omega),h2]
  ·rw[if_pos (by omega),if_pos e,h1]
theorem cmpK_zero:∀{a b:List Int},cmpK a b=0↔a=b
 | [],[]=>by simp[cmpK]
 | [],_::_=>by simp[cmpK]
 |_::_,[]=>by simp[cmpK]
 |x::xs,y::ys=>by
  have h2:= @cmpK_zero xs ys;have h1:= @cmpI_zero x y;unfold cmpK;by_cases e:cmpI x y=0
  ·rw[if_neg (by omega),h2];simp[h1.1 e]
  ·rw[if_pos e];exact⟨fun h=>absurd h e,fun h=>absurd (h1.2 (List.cons.inj h).1) e⟩
theorem cmpK_le:∀{a b c:List Int},cmpK a b≤0→cmpK b c≤0→cmpK a c≤0
 | [],_,[]=>fun _ _=>by simp[cmpK]
 | [],_,_::_=>fun _ _=>by simp[cmpK]
 |_::_,[],_=>fun h _=>absurd h (by simp[cmpK])
 |_::_,_::_,[]=>fun _ h=>absurd h (by simp[cmpK])
 |x::xs,y::ys,z::zs=>by
  have h2:= @cmpK_le xs ys zs;have n1:= @cmpI_neg x y;have n2:= @cmpI_neg y z;have n3:= @cmpI_neg x z;have z1:= @cmpI_zero x y;have z2:= @cmpI_zero y z;have z3:= @cmpI_zero x z;simp only[cmpK]
  split<;>split<;>split<;>intro g1 g2<;>first|omega|exact h2 g1 g2|skip
theorem cmpE_swap (a b:Ev):cmpE b a= - cmpE a b:=by
 have h1:=cmpI_swap a.t b.t;have h2:=cmpK_swap a.k b.k;unfold cmpE;by_cases e:cmpI a.t b.t=0
 ·rw[if_neg (by omega),if_neg (by omega),h2]
 ·rw[if_pos (by omega),if_pos e,h1]
theorem cmpE_zero {a b:Ev}:cmpE a b=0↔a.t=b.t∧a.k=b.k:=by
 have h1:= @cmpI_zero a.t b.t;have h2:= @cmpK_zero a.k b.k;unfold cmpE;by_cases e:cmpI a.t b.t=0
 ·rw[if_neg (by omega),h2];simp[h1.1 e]
 ·rw[if_pos e];exact⟨fun h=>absurd h e,fun h=>absurd (h1.2 h.1) e⟩
theorem cmpE_le {a b c:Ev} (h1:cmpE a b≤0) (h2:cmpE b c≤0):cmpE a c≤0:=by
 have hk:= @cmpK_le a.k b.k c.k;have n1:= @cmpI_neg a.t b.t;have n2:= @cmpI_neg b.t c.t;have n3:= @cmpI_neg a.t c.t;have z1:= @cmpI_zero a.t b.t;have z2:= @cmpI_zero b.t c.t;have z3:= @cmpI_zero a.t c.t;unfold cmpE at*
 split at h1<;>split at h2<;>split<;>first|omega|exact hk h1 h2|skip
theorem weak_of (f:SE→Ev):Weak (fun x y=>cmpE (f x) (f y)):=
 ⟨fun x y h=>by have:=cmpE_swap (f x) (f y);omega,fun x y z h1 h2=>by
  have s1:=cmpE_swap (f x) (f y);have s2:=cmpE_swap (f y) (f z);have s3:=cmpE_swap (f x) (f z);have:= @cmpE_le (f x) (f y) (f z) (by omega) (by omega);omega⟩
def SortedE (es:List Ev):Prop:=es.Pairwise fun a b=>cmpE a b≤0
theorem intC_one {w:World} {A:Option Addr} {n:Nat} {xs ys:List Int} (h:Kd.C (Kd.int .i64) w A n xs) (k:Kd.C (Kd.int .i64) w A n ys):xs=ys:=by
 refine List.ext_getElem (h.1.trans k.1.symm) fun i h1 h2=> ?_;have hn:0<n:=by have:=h.1;omega
 obtain⟨ad,e1,c1⟩:=h.2.2 hn;obtain⟨ad2,e2,c2⟩:=k.2.2 hn;rw[e1]at e2
 injection e2 with e2
 subst e2;obtain⟨c,_,rfl,d1⟩:=c1 i _ (List.getElem?_eq_getElem h1);obtain⟨c',_,rfl,d2⟩:=c2 i _ (List.getElem?_eq_getElem h2);have:=(d1 0 _ rfl).symm.trans (d2 0 _ rfl)
 injection this with this
 injection this
theorem EvAt.one {Mt:Nat→Prop} {w:World} {s:SE} {e e':Ev} (h:EvAt Mt w s e) (k:EvAt Mt w s e'):e=e':=by
 obtain⟨t,key,lp,kd,pr,ar⟩:=e;obtain⟨t',key',lp',kd',pr',ar'⟩:=e';have:=intC_one h.k.here k.k.here;obtain⟨h1,h2,h3,h4,h5,_⟩:=h;obtain⟨k1,k2,k3,k4,k5,_⟩:=k;simp only at*;subst this h1 h2 h3 h4 h5 k1 k2 k3 k4 k5;rfl
theorem ev_of (Mt:Nat→Prop) (w:World):∃f:SE→Ev,∀x e,EvAt Mt w x e→e=f x:=by
 have:∀x,∃e0,∀e,EvAt Mt w x e→e=e0:=fun x=>by
  by_cases h:∃e0,EvAt Mt w x e0
  ·obtain⟨e0,h0⟩:=h;exact⟨e0,fun e he=>he.one h0⟩
  ·exact⟨⟨0,[],0,0,0,0⟩,fun e he=>absurd ⟨e,he⟩ h⟩
 exact⟨fun x=>(this x).choose,fun x e he=>(this x).choose_spec e he⟩
theorem All2.map_eq {Mt:Nat→Prop} {w:World} {f:SE→Ev} (hf:∀x e,EvAt Mt w x e→e=f x) {ss:List SE} {es:List Ev} (h:All2 (EvAt Mt w) ss es):es=ss.map f:=by
 induction h with
 |nil=>rfl
 |cons h1 _ ih=>rw[List.map_cons,←ih,←hf _ _ h1]
theorem All2.mem {α β:Type} {R:α→β→Prop} {l:List α} {m:List β} (h:All2 R l m) {a:α} (ha:a∈l):∃b,b∈m∧R a b:=by
 induction h with
 |nil=>simp at ha
 |cons h1 _ ih=>
  rcases List.mem_cons.1 ha with rfl|ha
  ·exact⟨_,List.mem_cons_self,h1⟩
  ·obtain⟨b,hb,hr⟩:=ih ha;exact⟨b,List.mem_cons_of_mem _ hb,hr⟩
theorem All2.map_of {α β:Type} {R:α→β→Prop} (f:α→β):∀{l:List α},(∀x∈l,R x (f x))→All2 R l (l.map f)
 | [],_=> .nil
 |a::l,h=> .cons (h a List.mem_cons_self) (All2.map_of f fun x hx=>h x (List.mem_cons_of_mem _ hx))
theorem insertion_none (W:World) (fv:Value):Calls Tryz.prog 133 #[.slice none 0 0,.int .i64 0,.int .i64 0,fv] W fun e w'=>e= .returned (.tuple #[])∧w'=W:=by
 go_enter Tryz.func133,Tryz.ntmps133
 go_wp2_with (fail)
 go_loopw [8] (fun i w'=>i= .int .i64 1∧Aside0 (w'=W)) (fun i _=>0)
 case atStart=>exact⟨rfl,⟨rfl⟩⟩
 case round=>
  obtain⟨rfl,HE⟩:=hrel
  go_wp2_with (fail)
  go_end0
  exact⟨rfl,HE.out⟩
theorem stable_none (W:World) (fv:Value):Calls Tryz.prog 119 #[.slice none 0 0,.int .i64 0,fv] W fun e w'=>e= .returned (.tuple #[])∧w'=W:=by
 go_enter Tryz.func119,Tryz.ntmps119
 go_wp2_with (fail)
 go_loopw [7,8] (fun a b w'=>a= .int .i64 0∧b= .int .i64 20∧Aside0 (w'=W)) (fun a b _=>0)
 case atStart=>exact⟨rfl,rfl,⟨rfl⟩⟩
 case round=>
  obtain⟨rfl,rfl,HE⟩:=hrel;have HI:=am (insertion_none wr fv)
  go_wp2_with (first|(go_at_call 133;(with_reducible refine HI.out.mono ?_);rintro e wx ⟨rfl,hx⟩;have HX:=am hx;clear hx))
  go_loopw [6] (fun k w'=>k= .int .i64 20∧Aside0 (w'=W)) (fun k _=>0)
  case atStart=>exact⟨rfl,⟨HX.out.trans HE.out⟩⟩
  case round=>
   obtain⟨rfl,HE⟩:=hrel
   go_wp2_with (fail)
   go_end0
   exact⟨rfl,HE.out⟩
theorem sortStable_calls {W:World} {base:Nat} {v:Value} {l:List SE} {cmp:SE→SE→Int} (h:Kd.R kE 49 W base (fun _=>True) v l) (hb:base≤W.heap.size) (hc:∀g,v.ownBlock=some g→Cmp W g l cmp) (hs:l.length≤1000000):
  Calls Tryz.prog 102 #[v,.func (.func 103) #[] #[]] W fun e w'=>e= .returned (.tuple #[])∧∃l',Kd.R kE 49 w' base (fun _=>True) v l'∧Below base W w'∧l'.Perm l∧SortedOn cmp l' 0 l'.length:=by
 obtain⟨inner,ho⟩:=Kd.R_own h;rcases ho.2 with ⟨rfl,h0⟩|⟨g,cap,cur,rfl,hg,hh,hr⟩
 ·have hl:l=[]:=by
   have:=(Kd.R_reads' h).1;exact List.eq_nil_of_length_eq_zero this.symm
  subst hl;have H:=am h;have HI:=am (stable_none W (.func (.func 103) #[] #[]));clear hc h ho h0 inner;go_enter Tryz.func102,Tryz.ntmps102
  go_wp2_with (first|(go_at_call 119;(with_reducible refine HI.out.mono ?_);rintro e wx ⟨rfl,hx⟩;have HX:=am hx;clear hx))
  go_end0
  exact⟨rfl,[],by rw[HX.out];exact H.out,by rw[HX.out];exact Below.refl _ _,.refl _,fun p q h1 h2 h3=>absurd h3 (by simp)⟩
 ·have HI:=am (stable_calls (show Row W base g l.length cap l from h) (hc g (by simp[Value.ownBlock])) hs);clear hc h ho inner hh hr;go_enter Tryz.func102,Tryz.ntmps102
  go_wp2_with (first|(go_at_call 119;(with_reducible refine HI.out.mono ?_);rintro e wx ⟨rfl,hx⟩;have HX:=am hx;clear hx))
  go_end0
  obtain⟨l',r,p,s⟩:=HX.out;exact⟨rfl,l',r.row,r.below,p,s⟩
theorem cmp_at {Mt:Nat→Prop} {W w1 W':World} {ss:List SE} {es:List Ev} {f:SE→Ev} {g:Nat} (hM:∀k,Mt k→k<W.heap.size) (hA:All2 (EvAt Mt W) ss es) (hf:∀x e,EvAt Mt W x e→e=f x) (hk:∀e∈es,e.k.length≤1000000)
  (hb:Below W.heap.size W w1) (hg:W.heap.size≤g) (kp:Keep (·=g) w1 W') (x y:SE) (hx:x∈ss) (hy:y∈ss):
  Calls Tryz.prog 103 #[x.v,y.v] W' fun e w'=>e= .returned (.int .i64 (cmpE (f x) (f y)))∧Below W'.heap.size W' w':=by
 have kp2:Keep Mt W W':=⟨Nat.le_trans hb.size kp.size,fun k h1 _=>(kp.block k (Nat.lt_of_lt_of_le h1 hb.size) (fun e=>by omega)).trans (hb.block k h1)⟩;obtain⟨ex,mx,hex⟩:=hA.mem hx;obtain⟨ey,my,hey⟩:=hA.mem hy;rw[←hf _ _ hex,←hf _ _ hey];have k1:=hex.k.keep kp2;have k2:=hey.k.keep kp2;exact cmpEvents_calls x y ex ey W' hex.t hey.t (k1.here) (k2.here) (by rw[k1.len];exact hk _ mx) (by rw[k2.len];exact hk _ my)
theorem sortEvents_calls {Mt:Nat→Prop} {W:World} {h:SH} {es:List Ev} (r:EvsAt Mt W h es) (hM:∀k,Mt k→k<W.heap.size) (hn:es.length≤1000000) (hk:∀e∈es,e.k.length≤1000000):
  Calls Tryz.prog 76 #[h.v] W fun e w'=>∃h' es',e= .returned h'.v∧EvsAt Mt w' h' es'∧es'.Perm es∧SortedE es'∧Below W.heap.size W w':=by
 obtain⟨ss,r1,r2⟩:=r;obtain⟨f,hf⟩:=ev_of Mt W;have hes:=r2.map_eq hf;have hln:=r2.len;have HA:=am r2;have HF:=am hf;have HES:=am hes;have HK:=am hk;have HM:=am hM;have HC:=am (cloneEv_calls h.A h.c h.n ss W (r1.len▸r1.here) r1.len.symm (by rw[r1.len,hln];exact hn));obtain⟨hA,hN,hcp⟩:=h;clear hf hes hk r2 hM;go_enter Tryz.func76,Tryz.ntmps76
 go_wp2_with (first
  |(go_at_call 101;(with_reducible refine HC.out.mono ?_);rintro e wx ⟨v,rfl,hx,hbel⟩;have HX:=am hx;have HB:=am hbel;clear hx hbel)
  |(have HS:=am (sortStable_calls (cmp:=fun x y=>cmpE (f x) (f y)) HX.out HB.out.size (fun g hg=>⟨weak_of f,fun W' kp x y hx hy=>cmp_at HM.out HA.out HF.out HK.out HB.out (Kd.R_base HX.out g hg) kp x y hx hy⟩) (by rw[hln];exact hn));go_at_call 102;(with_reducible refine HS.out.mono ?_);rintro e wy ⟨rfl,hy⟩;have HY:=am hy;clear hy))
 go_ret;obtain⟨l',r3,b3,p3,s3⟩:=HY.out;obtain⟨A,c,rfl⟩:=Kd.R_slice r3;have hb:=HB.out.trans b3;refine⟨⟨A,l'.length,c⟩,l'.map f,rfl,⟨l',Rd.of_R rfl r3 (fun k hk hm=> ?_),All2.map_of f fun x hx=> ?_⟩,?_,?_,hb⟩
 ·have:=Kd.R_base r3 k hk;have:=HM.out k hm;omega
 ·obtain⟨ex,_,hex⟩:=HA.out.mem (p3.subset hx);rw[←HF.out _ _ hex];exact hex.keep (Keep.of_below hb)
 ·rw[HES.out];exact p3.map f
 ·rw[SortedE,List.pairwise_map,List.pairwise_iff_getElem];intro i j hi hj hij;have:=s3 i j (Nat.zero_le _) hij hj;unfold leA at this;rw[getD_at l' i hi,getD_at l' j hj]at this;have h2:=cmpE_swap (f l'[i]) (f l'[j]);simp only at this;omega
theorem eqKeys_calls (A0 A1:Option Addr) (n0 n1 c0 c1:Nat) (a b:List Int) (W:World) (h0:Kd.C (Kd.int .i64) W A0 n0 a) (h1:Kd.C (Kd.int .i64) W A1 n1 b) (hl0:n0≤1000000) (hl1:n1≤1000000):
  Calls Tryz.prog 88 #[.slice A0 n0 c0,.slice A1 n1 c1] W fun e w'=>e= .returned (.bool (decide (a=b)))∧Below W.heap.size W w':=by
 have e0:a.length=n0:=h0.1;have e1:b.length=n1:=h1.1;have H0:=am h0;have H1:=am h1;have E0:=am e0;have E1:=am e1;obtain⟨r,hr⟩:∃r,decide (a=b)=r:=⟨_,rfl⟩;rw[hr];have HRR:=am hr;clear h0 h1 e0 e1 hr;go_enter Tryz.func88,Tryz.ntmps88;by_cases hn:n0=n1
 ·subst hn;have d0:((n0:Int) != (n0:Int))=false:=by simp
  go_wp2
  go_loopw [13] (fun i w'=>∃k:Nat,k≤n0∧i= .int .i64 k∧Aside0 (∀j (h1:j<a.length) (h2:j<b.length),j<k→a[j]=b[j])∧Aside0 (Below W.heap.size W w')) (fun i _=>n0-(intOf i).toNat)
  case atStart=>exact⟨0,Nat.zero_le _,rfl,⟨fun j _ _ h=>absurd h (by omega)⟩,⟨Below.refl _ _⟩⟩
  case round=>
   obtain⟨k,hk,rfl,HE,HB⟩:=hrel;have HC0:=am (Kd.C_below H0.out HB.out);have HC1:=am (Kd.C_below H1.out HB.out);by_cases g0:k<n0
   ·obtain⟨ad0,x,q0,c00,hk2,hx⟩:=at_int HC0.out k g0;obtain⟨ad1,y,q1,c11,hk3,hy⟩:=at_int HC1.out k g0;cases q0;cases q1;have d1:decide ((k:Int)<n0)=true:=dt (by omega);have m1:(k:Int)<(n0:Nat):=by omega
    have w1:IntKind.i64.wrap ((k:Int)+1)=((k+1:Nat):Int):=(i64_w _).trans (by unfold Go.RowKit.wrap64;omega);have HX:=am hx;have HY:=am hy;clear hx hy;by_cases hxy:x=y
    ·have d2:(x != y)=false:=by simp[hxy]
     have HXY:=am hxy;clear hxy;go_upto_region 6 with (fail)
     go_region
     go_wp2_with (fail)
     go_roundw
     case rel=>exact⟨k+1,by omega,rfl,⟨fun j g1 g2 g3=>by
      rcases Nat.lt_succ_iff_lt_or_eq.1 g3 with g|rfl
      ·exact HE.out j g1 g2 g
      ·rw[HX.out,HY.out,HXY.out]⟩,⟨below_drew HB.out⟩⟩
     case measure=>simp[intOf];omega
    ·have d2:(x != y)=true:=by simp[hxy]
     have er:r=false:=by
      rw[←HRR.out];refine decide_eq_false fun e=>hxy ?_;have:=HX.out;subst e;rw[←HX.out,←HY.out]
     subst er;clear hxy;go_upto_region 6 with (fail)
     go_region
     go_wp2_with (fail)
     go_ret;exact⟨rfl,below_drew HB.out⟩
   ·have d1:decide ((k:Int)<n0)=false:=df (by omega);have er:r=true:=by
     rw[←HRR.out];refine decide_eq_true (List.ext_getElem (by rw[E0.out,E1.out]) fun j g1 g2=>HE.out j g1 g2 (by rw[E0.out]at g1;omega))
    subst er
    go_wp2
    go_ret;exact⟨rfl,HB.out⟩
 ·have d0:((n0:Int) != (n1:Int))=true:=by simp;omega
  have er:r=false:=by
   rw[←HRR.out];refine decide_eq_false fun e=>hn ?_;rw[←E0.out,←E1.out,e]
  subst er
  go_wp2
  go_ret;exact⟨rfl,Below.refl _ _⟩
theorem add_flat (x:Addr) {j:Nat} (hj:j≠0):x.add j=⟨x.block,x.off+j,none⟩:=by simp[Addr.add,hj]
theorem flat_cells {α:Type} {sz:Nat} {enc:α→List Value} {hl:∀x,(enc x).length=sz} {h1:∀x,∀u∈enc x,u.oneCell'=true} {w:World} {A:Option Addr} {n:Nat} {l:List α} (h:Kd.C (Kd.flat sz enc hl h1) w A n l) (k:Nat) (hk:k<n):
  ∃ad x,A=some ad∧(∃h2:k<l.length,l[k]=x)∧(∀u,(enc x)[0]?=some u→w.cell? (ad.add (k*sz))=some u)∧∀j u,j≠0→(enc x)[j]?=some u→w.cell? ⟨(ad.add (k*sz)).block,(ad.add (k*sz)).off+j,none⟩=some u:=by
 have hln:l.length=n:=h.1;subst hln;obtain⟨ad,e1,hc⟩:=h.2.2 (by omega);obtain⟨c,_,hK,hc0⟩:=hc k _ (List.getElem?_eq_getElem hk);obtain rfl:c=enc l[k]:=hK;refine⟨ad,l[k],e1,⟨hk,rfl⟩,fun u hu=>hc0 0 u hu,fun j u hj hu=> ?_⟩;rw[←add_flat _ hj,Go.Deep.add_add];exact hc0 j u hu
theorem ev_cells {w:World} {A:Option Addr} {n:Nat} {l:List SE} (h:Kd.C kE w A n l) (k:Nat) (hk:k<n):∃ad x,A=some ad∧(∃h2:k<l.length,l[k]=x)∧
  w.cell? (ad.add (k*6))=some (.int .i64 x.t)∧w.cell? ⟨(ad.add (k*6)).block,(ad.add (k*6)).off+1,none⟩=some (.slice x.k.A x.k.n x.k.c)∧w.cell? ⟨(ad.add (k*6)).block,(ad.add (k*6)).off+2,none⟩=some (.int .i64 x.lp)∧
   w.cell? ⟨(ad.add (k*6)).block,(ad.add (k*6)).off+3,none⟩=some (.int .i64 x.kd)∧w.cell? ⟨(ad.add (k*6)).block,(ad.add (k*6)).off+4,none⟩=some (.int .i64 x.pr)∧w.cell? ⟨(ad.add (k*6)).block,(ad.add (k*6)).off+5,none⟩=some (.int .i64 x.ar):=by
 obtain⟨ad,x,e,h2,h3,q⟩:=flat_cells h k hk;exact⟨ad,x,e,h2,h3 _ rfl,q 1 _ (by decide) rfl,q 2 _ (by decide) rfl,q 3 _ (by decide) rfl,q 4 _ (by decide) rfl,q 5 _ (by decide) rfl⟩
theorem hd_cells {w:World} {A:Option Addr} {n:Nat} {l:List SH} (h:Kd.C kH w A n l) (k:Nat) (hk:k<n):∃ad x,A=some ad∧(∃h2:k<l.length,l[k]=x)∧w.cell? (ad.add k)=some (.slice x.A x.n x.c):=by
 obtain⟨ad,x,e,h2,h3,q⟩:=flat_cells h k hk;rw[Nat.mul_one]at h3;exact⟨ad,x,e,h2,h3 _ rfl⟩
theorem cancelF_calls (x:SE) (q:Nat) (kh:SH) (a b:List Int) (W:World) (hq:W.cell? ⟨q,0,none⟩=some (.slice kh.A kh.n kh.c)) (h0:Kd.C (Kd.int .i64) W x.k.A x.k.n a) (h1:Kd.C (Kd.int .i64) W kh.A kh.n b) (hl0:x.k.n≤1000000) (hl1:kh.n≤1000000):
  Calls Tryz.prog 140 #[x.v,.pointer (some ⟨q,0,none⟩)] W fun e w'=>e= .returned (.bool (decide (a=b)))∧Below W.heap.size W w':=by
 obtain⟨xt,⟨xA,xn,xc⟩,xl,xd,xp,xa⟩:=x;obtain⟨kA',kn,kc⟩:=kh;simp only at h0 h1 hl0 hl1 hq;simp only[SE.v];have hql:q<W.heap.size:=World.block_lt_of_cell? W _ hq;obtain⟨r,hr⟩:∃r,decide (a=b)=r:=⟨_,rfl⟩;rw[hr];have hb:=fun o1=>below_alloc (Below.refl W.heap.size W) o1;have HC:=am (fun o1=>eqKeys_calls xA kA' xn kn xc kc a b (W.alloc o1) (Kd.C_below h0 (hb o1)) (Kd.C_below h1 (hb o1)) hl0 hl1);have HB:=am hb;have HR:=am hr;clear h0 h1 hb hr;go_enter Tryz.func140,Tryz.ntmps140
 go_wp2_with (first|(go_at_call 88;(with_reducible refine(HC.out _).mono ?_);rw[HR.out];rintro e wx ⟨rfl,hx⟩;have HX:=am hx;clear hx))
 go_ret;exact⟨rfl,(HB.out _).trans (HX.out.mono (HB.out _).size)⟩
theorem goneK_calls (kh:SH) (q:Nat) (x:SE) (a b:List Int) (W:World) (hq:W.cell? ⟨q,1,none⟩=some (.slice x.k.A x.k.n x.k.c)) (h0:Kd.C (Kd.int .i64) W kh.A kh.n b) (h1:Kd.C (Kd.int .i64) W x.k.A x.k.n a) (hl0:kh.n≤1000000) (hl1:x.k.n≤1000000):
  Calls Tryz.prog 87 #[.slice kh.A kh.n kh.c,.pointer (some ⟨q,0,none⟩)] W fun e w'=>e= .returned (.bool (decide (b=a)))∧Below W.heap.size W w':=by
 obtain⟨xt,⟨xA,xn,xc⟩,xl,xd,xp,xa⟩:=x;obtain⟨kA',kn,kc⟩:=kh;simp only at h0 h1 hl0 hl1 hq;obtain⟨r,hr⟩:∃r,decide (b=a)=r:=⟨_,rfl⟩;rw[hr];have HC:=am (eqKeys_calls kA' xA kn xn kc xc b a W h0 h1 hl0 hl1);have HR:=am hr;clear h0 h1 hr;go_enter Tryz.func87,Tryz.ntmps87
 go_wp2_with (first|(go_at_call 88;(with_reducible refine HC.out.mono ?_);rw[HR.out];rintro e wx ⟨rfl,hx⟩;have HX:=am hx;clear hx))
 go_ret;exact⟨rfl,HX.out⟩
def fidx {α:Type} (p:α→Bool) (l:List α):Int:=match l.findIdx? p with|some i=>(i:Int)|none=> -1
theorem fidx_at {α:Type} {p:α→Bool} {l:List α} (k:Nat) (hk:k<l.length) (h:∀j (hj:j<l.length),j<k→p l[j]=false) (hp:p l[k]=true):fidx p l=k:=by
 have:l.findIdx? p=some k:=by
  rw[List.findIdx?_eq_some_iff_getElem];exact⟨hk,hp,fun j hj=>by rw[h j (by omega) hj];simp⟩
 rw[fidx,this]
theorem fidx_none {α:Type} {p:α→Bool} {l:List α} (h:∀j (hj:j<l.length),p l[j]=false):fidx p l= -1:=by
 have:l.findIdx? p=none:=by
  rw[List.findIdx?_eq_none_iff];intro x hx;obtain⟨j,hj,rfl⟩:=List.getElem_of_mem hx;exact h j hj
 rw[fidx,this]
theorem index_cancel {W:World} (A:Option Addr) (n c q:Nat) (l:List SE) (p:SE→Bool) (h:Kd.C kE W A n l) (hs:n≤1000000)
  (hp:∀W',Below W.heap.size W W'→∀x∈l,Calls Tryz.prog 140 #[x.v,.pointer (some ⟨q,0,none⟩)] W' fun e w'=>e= .returned (.bool (p x))∧Below W'.heap.size W' w'):
  Calls Tryz.prog 111 #[.slice A n c,.func (.func 140) #[] #[.pointer (some ⟨q,0,none⟩)]] W fun e w'=>e= .returned (.int .i64 (fidx p l))∧Below W.heap.size W w':=by
 have hln:l.length=n:=h.1;have H:=am h;have HP:=am hp;have HLN:=am hln;clear h hp hln;go_enter Tryz.func111,Tryz.ntmps111
 go_wp2
 go_loopw [8] (fun i w'=>∃k:Nat,k≤n∧i= .int .i64 k∧Aside0 (∀j (hj:j<l.length),j<k→p l[j]=false)∧Aside0 (Below W.heap.size W w')) (fun i _=>n-(intOf i).toNat)
 case atStart=>exact⟨0,Nat.zero_le _,rfl,⟨fun j _ h=>absurd h (by omega)⟩,⟨Below.refl _ _⟩⟩
 case round=>
  obtain⟨k,hk,rfl,HE,HB⟩:=hrel;by_cases g0:k<n
  ·obtain⟨ad,x,e0,⟨h2,hx⟩,p0,p1,p2,p3,p4,p5⟩:=ev_cells (Kd.C_below H.out HB.out) k g0;cases e0;have d1:decide ((k:Int)<n)=true:=dt (by omega);have m1:(k:Int)<(n:Nat):=by omega
   have w1:IntKind.i64.wrap ((k:Int)+1)=((k+1:Nat):Int):=(i64_w _).trans (by unfold Go.RowKit.wrap64;omega);have hcall:=HP.out wr HB.out x (hx▸List.getElem_mem h2);have HX:=am hx;clear hx;obtain⟨b,hb⟩:∃b,p x=b:=⟨_,rfl⟩;rw[hb]at hcall;have HPX:=am hb;clear hb;obtain⟨xt,⟨xA,xn,xc⟩,xl,xd,xp,xa⟩:=x;simp only[SE.v]at p0 p1 p2 p3 p4 p5 hcall;have HCALL:=am hcall;clear hcall;cases b with
   |true=>
    go_wp2_with (first|(go_at_call 140;(with_reducible refine HCALL.out.mono ?_);rintro e wx ⟨rfl,hx⟩;have HBX:=am hx;clear hx))
    go_ret;exact⟨by rw[fidx_at k h2 HE.out (by rw[HX.out];exact HPX.out)];rfl,HB.out.trans (HBX.out.mono HB.out.size)⟩
   |false=>
    go_wp2_with (first|(go_at_call 140;(with_reducible refine HCALL.out.mono ?_);rintro e wx ⟨rfl,hx⟩;have HBX:=am hx;clear hx))
    go_roundw
    case rel=>exact⟨k+1,by omega,rfl,⟨fun j g1 g3=>by
      rcases Nat.lt_succ_iff_lt_or_eq.1 g3 with g|rfl
      ·exact HE.out j g1 g
      ·rw[HX.out];exact HPX.out⟩,⟨HB.out.trans (HBX.out.mono HB.out.size)⟩⟩
    case measure=>simp[intOf];omega
  ·have d1:decide ((k:Int)<n)=false:=df (by omega)
   go_wp2
   go_ret;exact⟨by rw[fidx_none (fun j hj=>HE.out j hj (by have:=HLN.out;omega))];rfl,HB.out⟩
theorem index_gone {W:World} (A:Option Addr) (n c q:Nat) (l:List SE) (p:SE→Bool) (h:Kd.C kE W A n l) (hs:n≤1000000)
  (hp:∀W',Below W.heap.size W W'→∀x∈l,Calls Tryz.prog 85 #[x.v,.pointer (some ⟨q,0,none⟩)] W' fun e w'=>e= .returned (.bool (p x))∧Below W'.heap.size W' w'):
  Calls Tryz.prog 111 #[.slice A n c,.func (.func 85) #[] #[.pointer (some ⟨q,0,none⟩)]] W fun e w'=>e= .returned (.int .i64 (fidx p l))∧Below W.heap.size W w':=by
 have hln:l.length=n:=h.1;have H:=am h;have HP:=am hp;have HLN:=am hln;clear h hp hln;go_enter Tryz.func111,Tryz.ntmps111
 go_wp2
 go_loopw [8] (fun i w'=>∃k:Nat,k≤n∧i= .int .i64 k∧Aside0 (∀j (hj:j<l.length),j<k→p l[j]=false)∧Aside0 (Below W.heap.size W w')) (fun i _=>n-(intOf i).toNat)
 case atStart=>exact⟨0,Nat.zero_le _,rfl,⟨fun j _ h=>absurd h (by omega)⟩,⟨Below.refl _ _⟩⟩
 case round=>
  obtain⟨k,hk,rfl,HE,HB⟩:=hrel;by_cases g0:k<n
  ·obtain⟨ad,x,e0,⟨h2,hx⟩,p0,p1,p2,p3,p4,p5⟩:=ev_cells (Kd.C_below H.out HB.out) k g0;cases e0;have d1:decide ((k:Int)<n)=true:=dt (by omega);have m1:(k:Int)<(n:Nat):=by omega
   have w1:IntKind.i64.wrap ((k:Int)+1)=((k+1:Nat):Int):=(i64_w _).trans (by unfold Go.RowKit.wrap64;omega);have hcall:=HP.out wr HB.out x (hx▸List.getElem_mem h2);have HX:=am hx;clear hx;obtain⟨b,hb⟩:∃b,p x=b:=⟨_,rfl⟩;rw[hb]at hcall;have HPX:=am hb;clear hb;obtain⟨xt,⟨xA,xn,xc⟩,xl,xd,xp,xa⟩:=x;simp only[SE.v]at p0 p1 p2 p3 p4 p5 hcall;have HCALL:=am hcall;clear hcall;cases b with
   |true=>
    go_wp2_with (first|(go_at_call 85;(with_reducible refine HCALL.out.mono ?_);rintro e wx ⟨rfl,hx⟩;have HBX:=am hx;clear hx))
    go_ret;exact⟨by rw[fidx_at k h2 HE.out (by rw[HX.out];exact HPX.out)];rfl,HB.out.trans (HBX.out.mono HB.out.size)⟩
   |false=>
    go_wp2_with (first|(go_at_call 85;(with_reducible refine HCALL.out.mono ?_);rintro e wx ⟨rfl,hx⟩;have HBX:=am hx;clear hx))
    go_roundw
    case rel=>exact⟨k+1,by omega,rfl,⟨fun j g1 g3=>by
      rcases Nat.lt_succ_iff_lt_or_eq.1 g3 with g|rfl
      ·exact HE.out j g1 g
      ·rw[HX.out];exact HPX.out⟩,⟨HB.out.trans (HBX.out.mono HB.out.size)⟩⟩
    case measure=>simp[intOf];omega
  ·have d1:decide ((k:Int)<n)=false:=df (by omega)
   go_wp2
   go_ret;exact⟨by rw[fidx_none (fun j hj=>HE.out j hj (by have:=HLN.out;omega))];rfl,HB.out⟩
theorem index_key {W:World} (A:Option Addr) (n c q:Nat) (l:List SH) (p:SH→Bool) (h:Kd.C kH W A n l) (hs:n≤1000000)
  (hp:∀W',Below W.heap.size W W'→∀x∈l,Calls Tryz.prog 87 #[.slice x.A x.n x.c,.pointer (some ⟨q,0,none⟩)] W' fun e w'=>e= .returned (.bool (p x))∧Below W'.heap.size W' w'):
  Calls Tryz.prog 110 #[.slice A n c,.func (.func 87) #[] #[.pointer (some ⟨q,0,none⟩)]] W fun e w'=>e= .returned (.int .i64 (fidx p l))∧Below W.heap.size W w':=by
 have hln:l.length=n:=h.1;have H:=am h;have HP:=am hp;have HLN:=am hln;clear h hp hln;go_enter Tryz.func110,Tryz.ntmps110
 go_wp2
 go_loopw [8] (fun i w'=>∃k:Nat,k≤n∧i= .int .i64 k∧Aside0 (∀j (hj:j<l.length),j<k→p l[j]=false)∧Aside0 (Below W.heap.size W w')) (fun i _=>n-(intOf i).toNat)
 case atStart=>exact⟨0,Nat.zero_le _,rfl,⟨fun j _ h=>absurd h (by omega)⟩,⟨Below.refl _ _⟩⟩
 case round=>
  obtain⟨k,hk,rfl,HE,HB⟩:=hrel;by_cases g0:k<n
  ·obtain⟨ad,x,e0,⟨h2,hx⟩,p0⟩:=hd_cells (Kd.C_below H.out HB.out) k g0;cases e0;have d1:decide ((k:Int)<n)=true:=dt (by omega);have m1:(k:Int)<(n:Nat):=by omega
   have w1:IntKind.i64.wrap ((k:Int)+1)=((k+1:Nat):Int):=(i64_w _).trans (by unfold Go.RowKit.wrap64;omega);have hcall:=HP.out wr HB.out x (hx▸List.getElem_mem h2);have HX:=am hx;clear hx;obtain⟨b,hb⟩:∃b,p x=b:=⟨_,rfl⟩;rw[hb]at hcall;have HPX:=am hb;clear hb;obtain⟨xA,xn,xc⟩:=x;simp only at p0 hcall;have HCALL:=am hcall;clear hcall;cases b with
   |true=>
    go_wp2_with (first|(go_at_call 87;(with_reducible refine HCALL.out.mono ?_);rintro e wx ⟨rfl,hx⟩;have HBX:=am hx;clear hx))
    go_ret;exact⟨by rw[fidx_at k h2 HE.out (by rw[HX.out];exact HPX.out)];rfl,HB.out.trans (HBX.out.mono HB.out.size)⟩
   |false=>
    go_wp2_with (first|(go_at_call 87;(with_reducible refine HCALL.out.mono ?_);rintro e wx ⟨rfl,hx⟩;have HBX:=am hx;clear hx))
    go_roundw
    case rel=>exact⟨k+1,by omega,rfl,⟨fun j g1 g3=>by
      rcases Nat.lt_succ_iff_lt_or_eq.1 g3 with g|rfl
      ·exact HE.out j g1 g
      ·rw[HX.out];exact HPX.out⟩,⟨HB.out.trans (HBX.out.mono HB.out.size)⟩⟩
    case measure=>simp[intOf];omega
  ·have d1:decide ((k:Int)<n)=false:=df (by omega)
   go_wp2
   go_ret;exact⟨by rw[fidx_none (fun j hj=>HE.out j hj (by have:=HLN.out;omega))];rfl,HB.out⟩
theorem contains_key {W:World} (A:Option Addr) (n c q:Nat) (l:List SH) (p:SH→Bool) (h:Kd.C kH W A n l) (hs:n≤1000000)
  (hp:∀W',Below W.heap.size W W'→∀x∈l,Calls Tryz.prog 87 #[.slice x.A x.n x.c,.pointer (some ⟨q,0,none⟩)] W' fun e w'=>e= .returned (.bool (p x))∧Below W'.heap.size W' w'):
  Calls Tryz.prog 86 #[.slice A n c,.func (.func 87) #[] #[.pointer (some ⟨q,0,none⟩)]] W fun e w'=>e= .returned (.bool (l.any p))∧Below W.heap.size W w':=by
 have HC:=am (index_key A n c q l p h hs hp);obtain⟨r,hr⟩:∃r,l.any p=r:=⟨_,rfl⟩;rw[hr];have HR:=am (show decide (fidx p l≥0)=r by
  rw[←hr];by_cases e:l.any p=true
  ·rw[e];cases hf:l.findIdx? p with
   |none=>
    rw[List.findIdx?_eq_none_iff]at hf;obtain⟨x,hx,hpx⟩:=List.any_eq_true.1 e;have:=hf x hx;simp[hpx]at this
   |some i=>simp[fidx,hf]
  ·have e2:l.any p=false:=by simpa using e
   rw[e2,fidx_none (fun j hj=>by
    have:=List.any_eq_false.1 e2 l[j] (List.getElem_mem hj)
    simpa using this)]
   rfl)
 clear h hp hr;go_enter Tryz.func86,Tryz.ntmps86;obtain⟨z,hz⟩:∃z,fidx p l=z:=⟨_,rfl⟩;rw[hz]at HC HR;have hd:decide (z≥0)=r:=HR.out
 go_wp2_with (first|(go_at_call 110;(with_reducible refine HC.out.mono ?_);rintro e wx ⟨rfl,hx⟩;have HX:=am hx;clear hx))
 go_ret;exact⟨by rw[←hd];rfl,HX.out⟩
theorem infoEv_is:∃i:TypeInfo,Tryz.prog.info? 49=some i∧i.size=6:=by
 obtain⟨i,h1,h2⟩:=Option.map_eq_some_iff.1 infoEv;simp only[Prod.mk.injEq]at h2;exact⟨i,h1,h2.2.1⟩
theorem evTo (A:Option Addr) (n c:Nat) (j:Int) (h0:0≤j) (hm:j≤n) (hc:n≤c):∀W:World,(Instr.slice 47 (.slice A n c) none (some (.int .i64 j)) none).run Tryz.prog W= .ok (.slice A j.toNat c) W:=by
 obtain⟨i,hi,_⟩:=infoEv_is;exact cut_to _ _ _ Tryz.underlying47 hi A n c j h0 hm hc
theorem grow_calls (n:Nat) (W:World) (hn:n≤1000000):
  Calls Tryz.prog 56 #[.slice none 0 0,.int .i64 n] W fun e w'=>∃v:Value,e= .returned v∧Kd.R kE 49 w' W.heap.size (fun _=>True) v []∧Below W.heap.size W w':=by
 have w1:IntKind.i64.wrap ((n:Int)-0)=(n:Int):=(i64_w _).trans (by unfold Go.RowKit.wrap64;omega);have w2:IntKind.i64.wrap (n:Int)=(n:Int):=(i64_w _).trans (by unfold Go.RowKit.wrap64;omega);have d0:decide ((n:Int)<0)=false:=df (by omega);by_cases h0:n=0
 ·subst h0;go_enter Tryz.func56,Tryz.ntmps56
  go_wp2_with (fail)
  go_ret;exact⟨_,rfl,Kd.R_nil _ _ _ _ _,Below.refl _ _⟩
 ·have d1:decide (0<(n:Int))=true:=dt (by omega);have q1:=evTo none 0 0 0 (Int.le_refl _) (Int.le_refl _) (Nat.le_refl _);have H0:=am (Kd.R_nil kE 49 W W.heap.size (fun _=>True));go_enter Tryz.func56,Tryz.ntmps56
  go_wp2_with (first|((with_reducible refine gate_builtin (b:= .append) (xs:= #[.tmp 20,.tmp 21]) rfl ?_);at_builtin;refine Kd.R_append_zeros kE (w0:=W) W.heap.size rfl (.tmp 20) (.tmp 21) 47 3 49 (.agg #[.int .i64 0,.slice none 0 0,.int .i64 0,.int .i64 0,.int .i64 0,.int .i64 0]) 64 rfl Tryz.underlying47 Tryz.underlying3 infoEv rfl (by decide) (by omega) (.slice none 0 0) [] SE.zero (n:Int) (fun _=>True) rfl rfl rfl (fun _ _=>trivial) H0.out (by omega) (Below.refl _ _) (Nat.le_refl _) ?aL ?_;(case aL=>simp;omega);intro v22 w22 ho22 hb22 hg22 hat22;obtain⟨A22,c22,rfl⟩:=Kd.R_slice ho22;have q22:=evTo A22 _ c22 0 (Int.le_refl _) (Int.natCast_nonneg _) (Kd.R_reads' ho22).2.1;have HO:=am ho22;have HB:=am hb22;clear ho22 hb22 hg22 hat22))
  go_ret;exact⟨_,rfl,Kd.R_take HO.out (Nat.zero_le _),HB.out⟩
theorem flat_next {α:Type} (l:List (List α)) (k:Nat) (hk:k<l.length):(l.take (k+1)).flatten=(l.take k).flatten++l[k]:=by
 rw[List.take_add_one,List.getElem?_eq_getElem hk,List.flatten_append];simp
theorem flat_le {α:Type} (l:List (List α)) (k:Nat):(l.take k).flatten.length≤l.flatten.length:=by
 conv=>rhs;rw[←List.take_append_drop k l]
 rw[List.flatten_append,List.length_append];omega
def HdOf (W:World) (h:SH) (ss:List SE):Prop:=h.n=ss.length∧h.n≤h.c∧Kd.C kE W h.A h.n ss
theorem concat_calls {W:World} (A:Option Addr) (n c:Nat) (hs:List SH) (sss:List (List SE)) (h:Kd.C kH W A n hs) (h2:All2 (HdOf W) hs sss) (hn:n≤1000000) (hl:sss.flatten.length≤1000000):
  Calls Tryz.prog 29 #[.slice A n c] W fun e w'=>∃v:Value,e= .returned v∧Kd.R kE 49 w' W.heap.size (fun _=>True) v sss.flatten∧Below W.heap.size W w':=by
 have hln:hs.length=n:=h.1;have hln2:sss.length=n:=h2.len.symm.trans hln;have H:=am h;have H2:=am h2;have HL:=am hl;have HN:=am hln2;clear h h2 hl hln2;go_enter Tryz.func29,Tryz.ntmps29
 go_wp2_with (fail)
 go_loopw [3,11] (fun sv kv w'=>∃k s:Nat,k≤n∧kv= .int .i64 k∧sv= .int .i64 s∧Aside0 (s=(sss.take k).flatten.length)∧Aside0 (w'=W)) (fun _ kv _=>n-(intOf kv).toNat)
 case atStart=>exact⟨0,0,Nat.zero_le _,rfl,rfl,⟨rfl⟩,⟨rfl⟩⟩
 case round=>
  obtain⟨k,s,hk,rfl,rfl,HS,HW⟩:=hrel;have hsl:s≤1000000:=by
   rw[HS.out];exact Nat.le_trans (flat_le _ _) HL.out
  have HC:=am (show Kd.C kH wr A n hs by rw[HW.out];exact H.out);by_cases g0:k<n
  ·obtain⟨ad,x,e0,⟨i1,hx⟩,p0⟩:=hd_cells HC.out k g0;cases e0;have i2:k<sss.length:=by rw[HN.out];exact g0
   have hxn:x.n=sss[k].length:=by
    have:=(H2.out.get k i1 i2).1
    rwa [hx]at this
   have hnx:=flat_next sss k i2;have hle:(sss.take (k+1)).flatten.length≤1000000:=Nat.le_trans (flat_le _ _) HL.out;have HNX:=am (show s+x.n=(sss.take (k+1)).flatten.length by rw[HS.out,hnx,hxn,List.length_append]);rw[←HNX.out]at hle;obtain⟨xA,xn,xc⟩:=x;simp only at p0 hle;clear hxn hx hnx;have d1:decide ((k:Int)<n)=true:=dt (by omega);have w1:IntKind.i64.wrap ((k:Int)+1)=((k+1:Nat):Int):=(i64_w _).trans (by unfold Go.RowKit.wrap64;omega);have w2:IntKind.i64.wrap ((s:Int)+(xn:Int))=((s+xn:Nat):Int):=(i64_w _).trans (by unfold Go.RowKit.wrap64;omega)
   have d2:decide (((s+xn:Nat):Int)<0)=false:=df (by omega)
   go_wp2_with (fail)
   go_roundw
   case rel=>exact⟨k+1,s+xn,by omega,rfl,rfl,HNX,HW⟩
   case measure=>simp[intOf];omega
  ·obtain rfl:k=n:=by omega
   have d1:decide ((k:Int)<k)=false:=df (by omega);have HG:=am (grow_calls s wr hsl)
   go_wp2_with (first|(go_at_call 56;(with_reducible refine HG.out.mono ?_);rintro e wx ⟨v,rfl,hv,hb⟩;have HV:=am hv;have HB:=am hb;clear hv hb))
   have HBW:=am (show Below W.heap.size W wx by rw[←HW.out];exact HB.out);have HRW:=am (show Kd.R kE 49 wx W.heap.size (fun _=>True) v []by rw[←HW.out];exact HV.out);clear HV HB HG HC HS HW
   go_loopw [6,27] (fun vv kv w'=>∃j:Nat,j≤k∧kv= .int .i64 j∧Aside0 (Kd.R kE 49 w' W.heap.size (fun _=>True) vv (sss.take j).flatten)∧Aside0 (Below W.heap.size W w')) (fun _ kv _=>k-(intOf kv).toNat)
   case atStart=>exact⟨0,Nat.zero_le _,rfl,by simpa using HRW,HBW⟩
   case round=>
    clear HRW HBW;obtain⟨j,hj,rfl,HV,HB⟩:=hrel;have HC:=am (Kd.C_below H.out HB.out);by_cases g0:j<k
    ·obtain⟨ad,x,e0,⟨i1,hx⟩,p0⟩:=hd_cells HC.out j g0;cases e0;have i2:j<sss.length:=by rw[HN.out];exact g0
     obtain⟨q1,q2,q3⟩:=H2.out.get j i1 i2;rw[hx]at q1 q2 q3;have hnx:=flat_next sss j i2;have hle:(sss.take (j+1)).flatten.length≤1000000:=Nat.le_trans (flat_le _ _) HL.out;rw[hnx,List.length_append]at hle;have HNX:=am hnx;have HLE:=am hle;have Q3:=am (Kd.C_below q3 HB.out);have Q1:=am q1;obtain⟨xA,xn,xc⟩:=x;simp only at p0 Q3 Q1;clear hx hnx q1 q2 q3 hle;have d1:decide ((j:Int)<k)=true:=dt (by omega);have w1:IntKind.i64.wrap ((j:Int)+1)=((j+1:Nat):Int):=(i64_w _).trans (by unfold Go.RowKit.wrap64;omega)
     go_wp2_with (first|((with_reducible refine gate_builtin (b:= .append) (xs:= #[.tmp 31,.tmp 32]) rfl ?_);at_builtin;refine Kd.R_append_rows kE (Rr:=Kd.K kE wr) (w0:=W) W.heap.size rfl (.tmp 31) (.tmp 32) 47 49 (.agg #[.int .i64 0,.slice none 0 0,.int .i64 0,.int .i64 0,.int .i64 0,.int .i64 0]) 64 rfl Tryz.underlying47 infoEv rfl (by decide) (by omega) _ (sss.take j).flatten sss[j] xA xn xc (fun _=>True) (fun _=>False) rfl rfl HV.out Q3.out (fun q cs hq=>hq) (fun _ h=>h.elim) (fun _ _=>trivial) HB.out HB.out.size ?aL ?_;(case aL=>have:=HLE.out;have:=Q1.out;omega);intro v33 w33 ho33 hb33 hg33 hat33;have HO:=am ho33;have HB2:=am hb33;clear ho33 hb33 hg33 hat33))
     go_roundw
     case rel=>exact⟨j+1,by omega,rfl,⟨by rw[HNX.out];exact HO.out⟩,HB2⟩
     case measure=>simp[intOf];omega
    ·obtain rfl:j=k:=by omega
     have d1:decide ((j:Int)<j)=false:=df (by omega)
     go_wp2_with (fail)
     go_ret;exact⟨_,rfl,by have:=HV.out;rwa [List.take_of_length_le (by rw[HN.out];exact Nat.le_refl _)]at this,HB.out⟩
def KeysAt (Mt:Nat→Prop) (w:World) (h:SH) (ks:List (List Int)):Prop:=∃hs,Rd kH Mt w h hs∧All2 (KeyAt Mt w) hs ks
theorem KeysAt.keep {Mt:Nat→Prop} {w w':World} {h:SH} {ks:List (List Int)} (r:KeysAt Mt w h ks) (k:Keep Mt w w'):KeysAt Mt w' h ks:=by
 obtain⟨hs,h1,h2⟩:=r;exact⟨hs,h1.keep k,h2.imp fun _ _ h=>h.keep k⟩
theorem KeysAt.below {Mt:Nat→Prop} {w w':World} {h:SH} {ks:List (List Int)} (r:KeysAt Mt w h ks) (k:Below w.heap.size w w'):KeysAt Mt w' h ks:=r.keep (Keep.of_below k)
theorem KeysAt.fresh {Mt Mt':Nat→Prop} {w w':World} {h:SH} {ks:List (List Int)} (r:KeysAt Mt w h ks) (k:Keep Mt w w') (hm:∀k,k<w.heap.size→Mt' k→Mt k):KeysAt Mt' w' h ks:=by
 obtain⟨hs,h1,h2⟩:=r;exact⟨hs,h1.fresh k hm,h2.imp fun _ _ h=>h.fresh k hm⟩
theorem KeysAt.len {Mt:Nat→Prop} {w:World} {h:SH} {ks:List (List Int)} (r:KeysAt Mt w h ks):h.n=ks.length:=by
 obtain⟨hs,h1,h2⟩:=r;rw[h1.len,h2.len]
theorem key_of (Mt:Nat→Prop) (w:World):∃f:SH→List Int,∀x e,KeyAt Mt w x e→e=f x:=by
 have:∀x,∃e0,∀e,KeyAt Mt w x e→e=e0:=fun x=>by
  by_cases h:∃e0,KeyAt Mt w x e0
  ·obtain⟨e0,h0⟩:=h;exact⟨e0,fun e he=>intC_one he.here h0.here⟩
  ·exact⟨[],fun e he=>absurd ⟨e,he⟩ h⟩
 exact⟨fun x=>(this x).choose,fun x e he=>(this x).choose_spec e he⟩
theorem All2.map_is {α β:Type} {R:α→β→Prop} {f:α→β} (hf:∀x e,R x e→e=f x) {ss:List α} {es:List β} (h:All2 R ss es):es=ss.map f:=by
 induction h with
 |nil=>rfl
 |cons h1 _ ih=>rw[List.map_cons,←ih,←hf _ _ h1]
theorem goneF_calls {Mt:Nat→Prop} {W:World} (x:SE) (k:List Int) (hx:KeyAt Mt W x.k k) (q:Nat) (h:SH) (ks:List (List Int)) (hks:KeysAt Mt W h ks) (hq:W.cell? ⟨q,0,none⟩=some (.slice h.A h.n h.c))
  (b1:k.length≤1000000) (b2:ks.length≤1000000) (b3:∀k∈ks,k.length≤1000000):
  Calls Tryz.prog 85 #[x.v,.pointer (some ⟨q,0,none⟩)] W fun e w'=>e= .returned (.bool (decide (k∈ks)))∧Below W.heap.size W w':=by
 obtain⟨xt,⟨xA,xn,xc⟩,xl,xd,xp,xa⟩:=x;obtain⟨hA,hn,hc⟩:=h;simp only at hq hx;simp only[SE.v];have hql:q<W.heap.size:=World.block_lt_of_cell? W _ hq;obtain⟨r,hr⟩:∃r,decide (k∈ks)=r:=⟨_,rfl⟩;rw[hr];obtain⟨hs,h1,h2⟩:=hks;obtain⟨f,hf⟩:=key_of Mt W;have hm:=h2.map_is hf;have hb:=fun o1=>below_alloc (Below.refl W.heap.size W) o1;have hhn:hn=hs.length:=h1.len
 have HC:=am (fun(W0:World) (hb0:Below W.heap.size W W0) (p0:W0.cell? ⟨W.heap.size,1,none⟩=some (.slice xA xn xc))=>contains_key (W:=W0) hA hn hc W.heap.size hs (fun y=>decide (f y=k)) (show Kd.C kH W0 hA hn hs from(h1.below hb0).here) (by rw[hhn,h2.len];exact b2)
  (fun W' hb' y hy=>by
   obtain⟨ky,mky,hky⟩:=h2.mem hy;rw[←hf _ _ hky];have hlt0:W.heap.size<W0.heap.size:=World.block_lt_of_cell? W0 _ p0;have hb2:Below W.heap.size W W':=hb0.trans (hb'.mono hb0.size);have e1:=hky.below hb2;have e2:=hx.below hb2;exact goneK_calls y W.heap.size ⟨xt,⟨xA,xn,xc⟩,xl,xd,xp,xa⟩ k ky W' ((hb'.cell (p:=⟨W.heap.size,1,none⟩) hlt0).trans p0) e1.here e2.here (by rw[e1.len];exact b3 _ mky) (by have:=e2.len;simp only at this ⊢;rw[this];exact b1)))
 have HR:=am (show hs.any (fun y=>decide (f y=k))=r by
  rw[←hr,hm];rw[Bool.eq_iff_iff];simp[List.any_eq_true])
 have HB:=am hb;clear hx h1 h2 hf hm hr hb hhn b1 b2 b3;go_enter Tryz.func85,Tryz.ntmps85
 go_wp2_with (first|(go_at_call 86;(with_reducible refine(HC.out _ (HB.out _) (cell_new _ _ _ _ _ _ rfl rfl)).mono ?_);rw[HR.out];rintro e wx ⟨rfl,hx⟩;have HX:=am hx;clear hx))
 go_ret;exact⟨rfl,(HB.out _).trans (HX.out.mono (HB.out _).size)⟩
theorem own_tail {e sz g n cap:Nat} {base:Nat} {xs:List Value}:∀(vs:List Value) {w:World} (o:Nat),n*sz≤o→w.ownsRow base e sz (.slice (some ⟨g,0,none⟩) n cap) n xs→(w.setCells g o vs).ownsRow base e sz (.slice (some ⟨g,0,none⟩) n cap) n xs
 | [],_,_,_,h=>h
 |v::r,w,o,ho,h=>by
  refine own_tail r (o+1) (by omega) ?_;obtain⟨h1,h2⟩:=h;refine⟨h1,?_⟩;rcases h2 with ⟨h2,_⟩|⟨g',cap',cur,h2,hg,hh,h3,h4,h5,h6⟩
  ·cases h2
  ·cases h2;refine .inr ⟨g,cap,cur.setIfInBounds o v,rfl,hg,blk_put hh o v rfl,h3,h4,by simpa using h5,?_⟩;rw[Array.toList_setIfInBounds,List.take_set_of_le ho];exact h6
theorem grown_cells {g:Nat}:∀(vs:List Value) (w:World) (o:Nat),w.grownBy (w.setCells g o vs) (some g)
 | [],w,_=>grown_refl w _
 |v::r,w,o=>by
  have h1:w.grownBy (w.setCell ⟨g,o,none⟩ v) (some g):=⟨rfl,rfl,rfl,by simp[World.setCell],fun k hk hn=>Below.heap_setCell w ⟨g,o,none⟩ v k (fun e=>hn (by rw[e]))⟩;exact grown_trans h1 (grown_cells r _ (o+1))
theorem Row.tail {W:World} {base g n cap o:Nat} {l:List SE} (h:Row W base g n cap l) (vs:List Value) (ho:n*6≤o):RowTo W (W.setCells g o vs) base g n cap l:=by
 have hg:=grown_cells (g:=g) vs W o;obtain⟨h0,inner,hi,hr⟩:=h;have hn:=(Kd.R_reads' (show Kd.R kE 49 W base (fun _=>True) _ l from⟨h0,inner,hi,hr⟩)).1;subst hn;have hrow:Row (W.setCells g o vs) base g l.length cap l:=⟨h0,inner,own_tail vs o ho hi,hr⟩;have hb:=Kd.R_base hrow g (by simp[Value.ownBlock]);have hlt:=own_lt hi g (by simp[Value.ownBlock]);exact⟨hrow,hg,(Below.refl base W).grown hg (by omega) (fun k hk=>by injection hk with hk;omega)⟩
theorem Row.some {W:World} {base g n cap:Nat} {l:List SE} (h:Row W base g n cap l) (j:Nat) (hj:j<n*6):(W.cell? ⟨g,j,none⟩).isSome=true:=by
 have hn:=h.len;subst hn;obtain⟨inner,ho⟩:=Kd.R_own h;rcases ho.2 with ⟨h2,_⟩|⟨g',cap',cur,h2,hg,hh,h3,h4,h5,h6⟩
 ·cases h2
 ·cases h2;have h7:l.length*6≤cap*6:=Nat.mul_le_mul_right _ (by omega);have h8:j<cur.size:=by rw[h5];exact Nat.lt_of_lt_of_le hj h7
  simp only[World.cell?,hh];simp[h8]
theorem zeroEv (w:World):(zeroValue 49).run Tryz.prog w= .ok (.agg #[.int .i64 0,.slice none 0 0,.int .i64 0,.int .i64 0,.int .i64 0,.int .i64 0]) w:=by
 obtain⟨i,h1,h2⟩:=Option.map_eq_some_iff.1 infoEv;simp only[Prod.mk.injEq]at h2;simp[zeroValue,typeInfo,h1,h2.1]
theorem run_clear_ev (w:World) (ty:TypeId) (b o n c:Nat) (hc:∀j,j<n*6→(w.cell? ⟨b,o+j,none⟩).isSome=true) (hf:∀j,w.frozen? ⟨b,o+j,none⟩=false):
  ∃vs,(Builtin.clear_ #[47] ty #[.slice (some ⟨b,o,none⟩) n c]).run Tryz.prog w= .ok (.tuple #[]) (w.setCells b o vs):=by
 rcases Nat.eq_zero_or_pos n with h0|h0
 ·subst h0;exact⟨[],by simp[Builtin.clear_,run_underlying Tryz.underlying47,World.setCells]⟩
 ·refine⟨(Builtin.zeroCells #[.int .i64 0,.slice none 0 0,.int .i64 0,.int .i64 0,.int .i64 0,.int .i64 0] n).toList,?_⟩;have hsz:(Builtin.zeroCells #[.int .i64 0,.slice none 0 0,.int .i64 0,.int .i64 0,.int .i64 0,.int .i64 0] n).toList.length=n*6:=by simp[Builtin.zeroCells]
  have hst:=run_storeCells_cells (P:=Tryz.prog) b o (Builtin.zeroCells #[.int .i64 0,.slice none 0 0,.int .i64 0,.int .i64 0,.int .i64 0,.int .i64 0] n).toList 0 w (by rw[hsz];simpa using hc) (fun j _=>by simpa using hf j) (by
   intro v hv;have hv:∃a,a<n*6∧(#[Value.int .i64 0,.slice none 0 0,.int .i64 0,.int .i64 0,.int .i64 0,.int .i64 0]:Array Value)[a%6]! =v:=by simpa [Builtin.zeroCells]using hv
   obtain⟨a,_,rfl⟩:=hv;have:a%6<6:=Nat.mod_lt _ (by decide);generalize a%6=r at this
   match r,this with
   |0,_=>rfl
   |1,_=>rfl
   |2,_=>rfl
   |3,_=>rfl
   |4,_=>rfl
   |5,_=>rfl)
  simp only[Nat.add_zero]at hst;obtain⟨m,rfl⟩:∃m,n=m+1:=⟨n-1,by omega⟩;have hz:(Value.agg #[.int .i64 0,.slice none 0 0,.int .i64 0,.int .i64 0,.int .i64 0,.int .i64 0]).cells= #[.int .i64 0,.slice none 0 0,.int .i64 0,.int .i64 0,.int .i64 0,.int .i64 0]:=rfl;simp[Builtin.clear_,run_underlying Tryz.underlying47,zeroEv,hz,hst]
theorem filter_snoc {α:Type} (p:α→Bool) (l:List α) (j:Nat) (hj:j<l.length):(l.take (j+1)).filter p=(l.take j).filter p++(if p l[j]then [l[j]]else []):=by
 rw[List.take_add_one,List.getElem?_eq_getElem hj,List.filter_append];simp[List.filter_cons]
theorem boxed {w wx:World} (x:SE) (hb:Below (w.alloc (.cells #[.int .i64 x.t,.slice x.k.A x.k.n x.k.c,.int .i64 x.lp,.int .i64 x.kd,.int .i64 x.pr,.int .i64 x.ar] 49)).heap.size (w.alloc (.cells #[.int .i64 x.t,.slice x.k.A x.k.n x.k.c,.int .i64 x.lp,.int .i64 x.kd,.int .i64 x.pr,.int .i64 x.ar] 49)) wx):
  Below w.heap.size w wx∧wx.cell? ⟨w.heap.size,0,none⟩=some (.int .i64 x.t)∧wx.cell? ⟨w.heap.size,1,none⟩=some (.slice x.k.A x.k.n x.k.c)∧wx.cell? ⟨w.heap.size,2,none⟩=some (.int .i64 x.lp)∧wx.cell? ⟨w.heap.size,3,none⟩=some (.int .i64 x.kd)∧wx.cell? ⟨w.heap.size,4,none⟩=some (.int .i64 x.pr)∧wx.cell? ⟨w.heap.size,5,none⟩=some (.int .i64 x.ar):=by
 have hlt:w.heap.size<(w.alloc (.cells #[.int .i64 x.t,.slice x.k.A x.k.n x.k.c,.int .i64 x.lp,.int .i64 x.kd,.int .i64 x.pr,.int .i64 x.ar] 49)).heap.size:=World.block_lt_of_cell? _ _ (cell_new _ _ _ _ 0 _ rfl rfl);have hc:∀j v,(#[Value.int .i64 x.t,.slice x.k.A x.k.n x.k.c,.int .i64 x.lp,.int .i64 x.kd,.int .i64 x.pr,.int .i64 x.ar]:Array Value)[j]?=some v→wx.cell? ⟨w.heap.size,j,none⟩=some v:=fun j v hv=>(hb.cell (p:=⟨w.heap.size,j,none⟩) hlt).trans (cell_new _ _ _ _ j _ rfl hv)
 exact⟨(below_alloc (Below.refl _ _) _).trans (hb.mono (Nat.le_of_lt hlt)),hc 0 _ rfl,hc 1 _ rfl,hc 2 _ rfl,hc 3 _ rfl,hc 4 _ rfl,hc 5 _ rfl⟩
theorem delete_calls {W:World} {base g N cap:Nat} {l:List SE} (h:Row W base g N cap l) (q:Nat) (p:SE→Bool) (hs:l.length≤1000000)
  (hp:∀W',Keep (·=g) W W'→∀x∈l,Calls Tryz.prog 85 #[x.v,.pointer (some ⟨q,0,none⟩)] W' fun e w'=>e= .returned (.bool (p x))∧Below W'.heap.size W' w'):
  Calls Tryz.prog 89 #[.slice (some ⟨g,0,none⟩) N cap,.func (.func 85) #[] #[.pointer (some ⟨q,0,none⟩)]] W fun e w'=>
   ∃n',e= .returned (.slice (some ⟨g,0,none⟩) n' cap)∧RowTo W w' base g n' cap (l.filter fun x=> !p x):=by
 have hN:=h.len;have hcap:=(Kd.R_reads' h).2.1;have HI:=am (index_gone (some ⟨g,0,none⟩) N cap q l p (by rw[hN];exact(Kd.R_reads' h).2.2) (by rw[hN];exact hs) (fun W' hb x hx=>hp W' (Keep.of_below hb) x hx));have H:=am h;have HP:=am hp;clear h hp;subst hN;by_cases hx:fidx p l= -1
 ·have HF:=am (show l.filter (fun x=> !p x)=l by
   rw[List.filter_eq_self];intro x hxm;cases hpx:p x with
   |false=>rfl
   |true=>
    exfalso;unfold fidx at hx;cases hf:l.findIdx? p with
    |none=>
     rw[List.findIdx?_eq_none_iff]at hf;have:=hf x hxm;rw[hpx]at this;cases this
    |some i=>rw[hf]at hx;simp at hx)
  rw[hx]at HI;go_enter Tryz.func89,Tryz.ntmps89
  go_wp2_with (first|(go_at_call 111;(with_reducible refine HI.out.mono ?_);rintro e wx ⟨rfl,hx⟩;have HX:=am hx;clear hx))
  go_ret;exact⟨_,rfl,by rw[HF.out];exact(RowTo.refl H.out).more HX.out⟩
 ·obtain⟨i0,hi0,hfi⟩:∃i0:Nat,fidx p l=(i0:Int)∧l.findIdx? p=some i0:=by
   unfold fidx at hx ⊢;cases hf:l.findIdx? p with
   |none=>rw[hf]at hx;exact absurd rfl hx
   |some i=>exact⟨i,rfl,rfl⟩
  rw[List.findIdx?_eq_some_iff_getElem]at hfi;obtain⟨hil,hpi,hall⟩:=hfi;rw[hi0]at HI;have HS0:=am (show(l.take (i0+1)).filter (fun x=> !p x)=l.take i0 by
   rw[filter_snoc _ l i0 hil,List.filter_eq_self.2 (fun x hxm=>by
    obtain⟨j,hj,rfl⟩:=List.getElem_of_mem hxm;have hj2:j<i0:=by rw[List.length_take]at hj;omega
    rw[List.getElem_take];have:=hall j hj2
    simpa using this),hpi]
   simp)
  have e0:((i0:Int)== -1)=false:=beq_eq_false_iff_ne.2 (by omega);have w0:IntKind.i64.wrap ((i0:Int)+1)=((i0+1:Nat):Int):=(i64_w _).trans (by unfold Go.RowKit.wrap64;omega);clear hall hpi hx;go_enter Tryz.func89,Tryz.ntmps89
  go_wp2_with (first|(go_at_call 111;(with_reducible refine HI.out.mono ?_);rintro e wx ⟨rfl,hx⟩;have HX:=am hx;clear hx))
  go_loopw [5,6] (fun iv jv w'=>∃i j:Nat,i<j∧j≤l.length∧iv= .int .i64 i∧jv= .int .i64 j∧∃l',Aside0 (RowTo W w' base g l.length cap l')∧Aside0 (l'.take i=(l.take j).filter fun x=> !p x)∧Aside0 (l'.drop j=l.drop j)) (fun _ jv _=>l.length-(intOf jv).toNat)
  case atStart=>exact⟨i0,i0+1,by omega,by omega,rfl,rfl,l,⟨(RowTo.refl H.out).more HX.out⟩,⟨HS0.out.symm⟩,⟨rfl⟩⟩
  case round=>
   clear HX HS0 HI w0 e0;obtain⟨i,j,hij,hj,rfl,rfl,l1,HR,HT,HD⟩:=hrel;have hl1:l1.length=l.length:=HR.out.row.len.symm;by_cases hjn:j<l.length
   ·have d1:decide ((j:Int)<(l.length:Nat))=true:=dt (by omega);have w1:IntKind.i64.wrap ((j:Int)+1)=((j+1:Nat):Int):=(i64_w _).trans (by unfold Go.RowKit.wrap64;omega);have w2:IntKind.i64.wrap ((i:Int)+1)=((i+1:Nat):Int):=(i64_w _).trans (by unfold Go.RowKit.wrap64;omega);have m1:(j:Int)<(l.length:Nat):=by omega
    have m2:(i:Int)<(l.length:Nat):=by omega
    obtain⟨p0,p1,p2,p3,p4,p5⟩:=HR.out.row.cells j (by omega);have fr:=HR.out.row.free;have hlj:l1[j]=l[j]:=by
     have h1:(l1.drop j)[0]?=(l.drop j)[0]?:=by rw[HD.out]
     rw[List.getElem?_drop,List.getElem?_drop,Nat.add_zero,List.getElem?_eq_getElem (by omega),List.getElem?_eq_getElem hjn]at h1
     injection h1
    have HFS:=am (filter_snoc (fun x=> !p x) l j hjn);rw[hlj]at p0 p1 p2 p3 p4 p5;have hmem:l[j]∈l:=List.getElem_mem _;have hcall:=fun W' kp=>HP.out W' kp _ hmem;obtain⟨x,hx⟩:∃x,l[j]=x:=⟨_,rfl⟩;rw[hx]at p0 p1 p2 p3 p4 p5 HFS hcall;obtain⟨b,hb⟩:∃b,p x=b:=⟨_,rfl⟩;rw[hb]at hcall HFS;obtain⟨xt,⟨xA,xn,xc⟩,xl,xd,xp,xa⟩:=x;simp only[SE.v]at p0 p1 p2 p3 p4 p5 hcall;have HCALL:=am hcall;clear hcall hlj hmem;have HK:=am HR.out.keep;cases b with
    |true=>
     go_wp2_with (first|(go_at_call 85;(with_reducible refine(HCALL.out _ (HK.out.trans (Keep.of_below (below_alloc (Below.refl _ _) _)))).mono ?_);rintro e wx ⟨rfl,hb⟩;obtain⟨hb2,c0,c1,c2,c3,c4,c5⟩:=boxed ⟨xt,⟨xA,xn,xc⟩,xl,xd,xp,xa⟩ hb;have HRX:=am (HR.out.more hb2);have fr:=HRX.out.row.free;have hcell:=HRX.out.row.cells i (by omega);clear hb hb2 p0 p1 p2 p3 p4 p5;obtain⟨y,hy⟩:∃y,l1[i]'(by omega)=y:=⟨_,rfl⟩;rw[hy]at hcell;obtain⟨q0,q1,q2,q3,q4,q5⟩:=hcell;simp only at c0 c1 c2 c3 c4 c5))
     go_roundw
     case rel=>exact⟨i,j+1,by omega,by omega,rfl,rfl,l1,HRX,⟨by rw[HT.out,HFS.out];simp⟩,⟨by rw[←List.drop_drop,←List.drop_drop,HD.out]⟩⟩
     case measure=>simp[intOf];omega
    |false=>
     go_wp2_with (first|(go_at_call 85;(with_reducible refine(HCALL.out _ (HK.out.trans (Keep.of_below (below_alloc (Below.refl _ _) _)))).mono ?_);rintro e wx ⟨rfl,hb⟩;obtain⟨hb2,c0,c1,c2,c3,c4,c5⟩:=boxed ⟨xt,⟨xA,xn,xc⟩,xl,xd,xp,xa⟩ hb;have HRX:=am (HR.out.more hb2);have fr:=HRX.out.row.free;have hcell:=HRX.out.row.cells i (by omega);clear hb hb2 p0 p1 p2 p3 p4 p5;obtain⟨y,hy⟩:∃y,l1[i]'(by omega)=y:=⟨_,rfl⟩;rw[hy]at hcell;obtain⟨q0,q1,q2,q3,q4,q5⟩:=hcell;simp only at c0 c1 c2 c3 c4 c5))
     go_roundw
     case rel=>
      have HZ:=HRX.out.trans (HRX.out.row.put i (by omega) ⟨xt,⟨xA,xn,xc⟩,xl,xd,xp,xa⟩);refine⟨i+1,j+1,by omega,by omega,rfl,rfl,_,⟨HZ⟩,⟨?_⟩,⟨?_⟩⟩
      ·have hil:i<l1.length:=by omega
       rw[HFS.out,←HT.out,List.take_add_one,List.getElem?_set_self hil,List.take_set_of_le (Nat.le_refl _)];simp
      ·rw[List.drop_set_of_lt (by omega),←List.drop_drop,←List.drop_drop,HD.out]
     case measure=>simp[intOf];omega
   ·have hjj:j=l.length:=by omega
    subst hjj;have d1:decide ((l.length:Int)<(l.length:Nat))=false:=df (by omega);obtain⟨vs,hcl⟩:=run_clear_ev wr 0 g (i*6) (l.length-i) (cap-i) (fun t ht=>by
     have h6:i*6+t<l.length*6:=by
      have:l.length*6=i*6+(l.length-i)*6:=by omega
      omega
     exact HR.out.row.some _ h6) (fun t=>HR.out.row.free _)
    have qs:=evTo (some ⟨g,0,none⟩) l.length cap i (Int.natCast_nonneg _) (by omega) hcap
    go_wp2_with (fail)
    go_ret;refine⟨i,rfl,?_⟩;have h1:Row wr base g i cap (l1.take i):=Kd.R_take HR.out.row (by omega);have h2:=h1.tail vs (Nat.le_refl _);have h3:l1.take i=l.filter fun x=> !p x:=by
     have:=HT.out
     rwa [List.take_of_length_le (Nat.le_refl l.length)]at this
    rw[h3]at h2;exact⟨h2.row,grown_trans HR.out.grown h2.grown,HR.out.below.trans h2.below⟩
theorem bsearch_calls {W:World} (A:Option Addr) (n c:Nat) (ss:List SE) (t:SE) (cmp:SE→Int) (i0:Nat) (h:Kd.C kE W A n ss) (hs:n≤1000000) (hi0:i0≤n)
  (h1:∀k (hk:k<ss.length),k<i0→cmp ss[k]<0) (h2:∀k (hk:k<ss.length),i0≤k→¬cmp ss[k]<0)
  (hp:∀W',Below W.heap.size W W'→∀x∈ss,Calls Tryz.prog 103 #[x.v,t.v] W' fun e w'=>e= .returned (.int .i64 (cmp x))∧Below W'.heap.size W' w'):
  Calls Tryz.prog 138 #[.slice A n c,t.v,.func (.func 103) #[] #[]] W fun e w'=>∃b:Bool,e= .returned (.tuple #[.int .i64 i0,.bool b])∧Below W.heap.size W w':=by
 have hln:ss.length=n:=h.1;have H:=am h;have HP:=am hp;have H1:=am h1;have H2:=am h2;have HLN:=am hln;obtain⟨tt,⟨tA,tn,tc⟩,tl,td,tp,ta⟩:=t;simp only[SE.v]at HP ⊢;clear h hp h1 h2 hln;have HB0:=am (show∀w',Below (W.alloc (.cells #[.int .i64 tt,.slice tA tn tc,.int .i64 tl,.int .i64 td,.int .i64 tp,.int .i64 ta] 49)).heap.size (W.alloc (.cells #[.int .i64 tt,.slice tA tn tc,.int .i64 tl,.int .i64 td,.int .i64 tp,.int .i64 ta] 49)) w'→_ from fun w' hb=>boxed ⟨tt,⟨tA,tn,tc⟩,tl,td,tp,ta⟩ hb);go_enter Tryz.func138,Tryz.ntmps138
 go_wp2_with (fail)
 go_loopw [9,10] (fun iv jv w'=>∃i j:Nat,i≤i0∧i0≤j∧j≤n∧iv= .int .i64 i∧jv= .int .i64 j∧Aside0 (Below (W.alloc (.cells #[.int .i64 tt,.slice tA tn tc,.int .i64 tl,.int .i64 td,.int .i64 tp,.int .i64 ta] 49)).heap.size (W.alloc (.cells #[.int .i64 tt,.slice tA tn tc,.int .i64 tl,.int .i64 td,.int .i64 tp,.int .i64 ta] 49)) w')) (fun iv jv _=>(intOf jv).toNat-(intOf iv).toNat)
 case atStart=>exact⟨0,n,Nat.zero_le _,hi0,Nat.le_refl _,rfl,rfl,⟨Below.refl _ _⟩⟩
 case round=>
  obtain⟨i,j,hi,hj,hjn,rfl,rfl,HB⟩:=hrel;obtain⟨hb2,c0,c1,c2,c3,c4,c5⟩:=HB0.out _ HB.out
  try simp only at c0 c1 c2 c3 c4 c5
  have HB2:=am hb2;clear hb2;by_cases hij:i<j
  ·have d1:decide ((i:Int)<(j:Int))=true:=dt (by omega);obtain⟨m,hm,hm1,hm2⟩:∃m:Nat,((i:Int)+(j:Int)) / 2=(m:Int)∧i≤m∧m<j:=⟨(i+j) / 2,by omega,by omega,by omega⟩;have w1:IntKind.i64.wrap ((i:Int)+(j:Int))=(i:Int)+(j:Int):=(i64_w _).trans (by unfold Go.RowKit.wrap64;omega);have w2:IntKind.i64.wrap ((m:Int)+1)=((m+1:Nat):Int):=(i64_w _).trans (by unfold Go.RowKit.wrap64;omega);have m1:(m:Int)<(n:Nat):=by omega
   obtain⟨ad,x,e0,⟨i2,hx⟩,p0,p1,p2,p3,p4,p5⟩:=ev_cells (Kd.C_below H.out HB2.out) m (by omega);cases e0;have hcall:=HP.out wr.drew (below_drew HB2.out) x (hx▸List.getElem_mem i2);have HX:=am hx;clear hx;obtain⟨r,hr⟩:∃r,cmp x=r:=⟨_,rfl⟩;rw[hr]at hcall;have HR:=am hr;clear hr;obtain⟨xt,⟨xA,xn,xc⟩,xl,xd,xp,xa⟩:=x;simp only at p0 p1 p2 p3 p4 p5 hcall;have HCALL:=am hcall;clear hcall
   have HLT:=am (show∀wx,Below wr.drew.heap.size wr.drew wx→(∀j,wx.cell? ⟨(ad.add (m*6)).block,j,none⟩=wr.cell? ⟨(ad.add (m*6)).block,j,none⟩)∧wx.cell? (ad.add (m*6))=wr.cell? (ad.add (m*6))∧(∀j,wx.cell? ⟨W.heap.size,j,none⟩=wr.cell? ⟨W.heap.size,j,none⟩)from fun wx hb=>
    ⟨fun j=>hb.cell (p:=⟨(ad.add (m*6)).block,j,none⟩) (show(ad.add (m*6)).block<wr.drew.heap.size from World.block_lt_of_cell? wr _ p0),hb.cell (World.block_lt_of_cell? wr _ p0),fun j=>hb.cell (p:=⟨W.heap.size,j,none⟩) (show W.heap.size<wr.drew.heap.size from World.block_lt_of_cell? wr ⟨W.heap.size,0,none⟩ c0)⟩)
   by_cases hlt:r<0
   ·have d3:decide (r<0)=true:=decide_eq_true hlt;go_upto_region 5 with (fail)
    go_region_held3 (fun w'=>w'.cell? (ad.add (m*6))=some (.int .i64 xt)∧w'.cell? ⟨(ad.add (m*6)).block,(ad.add (m*6)).off+1,none⟩=some (.slice xA xn xc)∧w'.cell? ⟨(ad.add (m*6)).block,(ad.add (m*6)).off+2,none⟩=some (.int .i64 xl)∧w'.cell? ⟨(ad.add (m*6)).block,(ad.add (m*6)).off+3,none⟩=some (.int .i64 xd)∧w'.cell? ⟨(ad.add (m*6)).block,(ad.add (m*6)).off+4,none⟩=some (.int .i64 xp)∧w'.cell? ⟨(ad.add (m*6)).block,(ad.add (m*6)).off+5,none⟩=some (.int .i64 xa)
     ∧w'.cell? ⟨W.heap.size,0,none⟩=some (.int .i64 tt)∧w'.cell? ⟨W.heap.size,1,none⟩=some (.slice tA tn tc)∧w'.cell? ⟨W.heap.size,2,none⟩=some (.int .i64 tl)∧w'.cell? ⟨W.heap.size,3,none⟩=some (.int .i64 td)∧w'.cell? ⟨W.heap.size,4,none⟩=some (.int .i64 tp)∧w'.cell? ⟨W.heap.size,5,none⟩=some (.int .i64 ta)) (go_keep)
     (first|(go_at_call 103;(with_reducible refine HCALL.out.mono ?_);rintro e wx ⟨rfl,hb⟩;have HBX:=am hb;obtain⟨hcl1,hcl2,hcl3⟩:=HLT.out wx hb;clear hb))
    clear hcl1 hcl2 hcl3 p0 p1 p2 p3 p4 p5 c0 c1 c2 c3 c4 c5
    go_wp2_with (fail)
    go_roundw
    case rel=>
     refine⟨m+1,j,?_,hj,hjn,rfl,rfl,⟨(below_drew HB.out).trans (HBX.out.mono HB.out.size)⟩⟩;by_cases e:i0≤m
     ·have:=H2.out m i2 e;rw[HX.out,HR.out]at this;omega
     ·omega
    case measure=>simp[intOf];omega
   ·have d3:decide (r<0)=false:=decide_eq_false hlt;go_upto_region 5 with (fail)
    go_region_held3 (fun w'=>w'.cell? (ad.add (m*6))=some (.int .i64 xt)∧w'.cell? ⟨(ad.add (m*6)).block,(ad.add (m*6)).off+1,none⟩=some (.slice xA xn xc)∧w'.cell? ⟨(ad.add (m*6)).block,(ad.add (m*6)).off+2,none⟩=some (.int .i64 xl)∧w'.cell? ⟨(ad.add (m*6)).block,(ad.add (m*6)).off+3,none⟩=some (.int .i64 xd)∧w'.cell? ⟨(ad.add (m*6)).block,(ad.add (m*6)).off+4,none⟩=some (.int .i64 xp)∧w'.cell? ⟨(ad.add (m*6)).block,(ad.add (m*6)).off+5,none⟩=some (.int .i64 xa)
     ∧w'.cell? ⟨W.heap.size,0,none⟩=some (.int .i64 tt)∧w'.cell? ⟨W.heap.size,1,none⟩=some (.slice tA tn tc)∧w'.cell? ⟨W.heap.size,2,none⟩=some (.int .i64 tl)∧w'.cell? ⟨W.heap.size,3,none⟩=some (.int .i64 td)∧w'.cell? ⟨W.heap.size,4,none⟩=some (.int .i64 tp)∧w'.cell? ⟨W.heap.size,5,none⟩=some (.int .i64 ta)) (go_keep)
     (first|(go_at_call 103;(with_reducible refine HCALL.out.mono ?_);rintro e wx ⟨rfl,hb⟩;have HBX:=am hb;obtain⟨hcl1,hcl2,hcl3⟩:=HLT.out wx hb;clear hb))
    clear hcl1 hcl2 hcl3 p0 p1 p2 p3 p4 p5 c0 c1 c2 c3 c4 c5
    go_wp2_with (fail)
    go_roundw
    case rel=>
     refine⟨i,m,hi,?_,by omega,rfl,rfl,⟨(below_drew HB.out).trans (HBX.out.mono HB.out.size)⟩⟩;by_cases e:i0≤m
     ·exact e
     ·have:=H1.out m i2 (by omega);rw[HX.out,HR.out]at this;omega
    case measure=>simp[intOf];omega
  ·obtain rfl:i=i0:=by omega
   have d1:decide ((i:Int)<(j:Int))=false:=df (by omega);by_cases hin:i<n
   ·have d4:decide ((i:Int)<(n:Int))=true:=dt (by omega);have m1:(i:Int)<(n:Nat):=by omega
    obtain⟨ad,x,e0,⟨i2,hx⟩,p0,p1,p2,p3,p4,p5⟩:=ev_cells (Kd.C_below H.out HB2.out) i (by omega);cases e0;have hcall:=HP.out wr.drew (below_drew HB2.out) x (hx▸List.getElem_mem i2);clear hx;obtain⟨r,hr⟩:∃r,cmp x=r:=⟨_,rfl⟩;rw[hr]at hcall;clear hr;obtain⟨xt,⟨xA,xn,xc⟩,xl,xd,xp,xa⟩:=x;simp only at p0 p1 p2 p3 p4 p5 hcall;have HCALL:=am hcall;clear hcall
    have HLT:=am (show∀wx,Below wr.drew.heap.size wr.drew wx→(∀j,wx.cell? ⟨(ad.add (i*6)).block,j,none⟩=wr.cell? ⟨(ad.add (i*6)).block,j,none⟩)∧wx.cell? (ad.add (i*6))=wr.cell? (ad.add (i*6))∧(∀j,wx.cell? ⟨W.heap.size,j,none⟩=wr.cell? ⟨W.heap.size,j,none⟩)from fun wx hb=>
    ⟨fun j=>hb.cell (p:=⟨(ad.add (i*6)).block,j,none⟩) (show(ad.add (i*6)).block<wr.drew.heap.size from World.block_lt_of_cell? wr _ p0),hb.cell (World.block_lt_of_cell? wr _ p0),fun j=>hb.cell (p:=⟨W.heap.size,j,none⟩) (show W.heap.size<wr.drew.heap.size from World.block_lt_of_cell? wr ⟨W.heap.size,0,none⟩ c0)⟩)
    go_wp2_with (fail)
    go_upto_region 8 with (fail)
    go_region_held3 (fun w'=>w'.cell? (ad.add (i*6))=some (.int .i64 xt)∧w'.cell? ⟨(ad.add (i*6)).block,(ad.add (i*6)).off+1,none⟩=some (.slice xA xn xc)∧w'.cell? ⟨(ad.add (i*6)).block,(ad.add (i*6)).off+2,none⟩=some (.int .i64 xl)∧w'.cell? ⟨(ad.add (i*6)).block,(ad.add (i*6)).off+3,none⟩=some (.int .i64 xd)∧w'.cell? ⟨(ad.add (i*6)).block,(ad.add (i*6)).off+4,none⟩=some (.int .i64 xp)∧w'.cell? ⟨(ad.add (i*6)).block,(ad.add (i*6)).off+5,none⟩=some (.int .i64 xa)
     ∧w'.cell? ⟨W.heap.size,0,none⟩=some (.int .i64 tt)∧w'.cell? ⟨W.heap.size,1,none⟩=some (.slice tA tn tc)∧w'.cell? ⟨W.heap.size,2,none⟩=some (.int .i64 tl)∧w'.cell? ⟨W.heap.size,3,none⟩=some (.int .i64 td)∧w'.cell? ⟨W.heap.size,4,none⟩=some (.int .i64 tp)∧w'.cell? ⟨W.heap.size,5,none⟩=some (.int .i64 ta)) (go_keep)
     (first|(go_at_call 103;(with_reducible refine HCALL.out.mono ?_);rintro e wx ⟨rfl,hb⟩;have HBX:=am hb;obtain⟨hcl1,hcl2,hcl3⟩:=HLT.out wx hb;clear hb))
    clear hcl1 hcl2 hcl3 p0 p1 p2 p3 p4 p5 c0 c1 c2 c3 c4 c5
    go_wp2_with (fail)
    go_ret2
    exact⟨_,rfl,HB2.out.trans (((below_drew (Below.refl _ _)).trans (HBX.out.mono (Nat.le_refl _))).mono HB2.out.size)⟩
   ·have d4:decide ((i:Int)<(n:Int))=false:=df (by omega)
    go_wp2_with (fail)
    go_upto_region 8 with (fail)
    refine sz_ 16 (S:=fun w'=>True) (ds:=[]) trivial (fun hHeld=> ?_);refine pz_ 0 35 16 1 ?_;refine pz_ 1 36 16 3 ?_;refine pz_ 2 37 16 7 ?_;refine pz_ 3 38 16 15 ?_;refine pz_ 4 39 16 31 ?_;refine uz_ 5 40 16 63 ?_;refine uz_ 6 41 16 127 ?_;refine uz_ 7 42 16 255 ?_;refine uz_ 8 43 16 511 ?_;refine uz_ 9 44 16 1023 ?_;refine uz_ 10 45 16 2047 ?_;refine uz_ 11 46 16 4095 ?_;refine uz_ 12 47 16 8191 ?_;refine pz_ 13 48 16 16383 ?_;refine pz_ 14 6 16 32767 ?_;refine pz_ 15 7 16 65535 ?_;refine done_ (by kernel_rfl) ?_
    go_wp2_with (fail)
    go_ret2
    exact⟨_,rfl,below_drew HB2.out⟩
end Go.Proofs.YtfnimdhghglanaaGreat.Hand
end
