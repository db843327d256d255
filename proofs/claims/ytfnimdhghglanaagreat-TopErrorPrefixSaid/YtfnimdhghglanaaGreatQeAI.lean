/- TopErrorPrefix, part 9 of 41; no condition. (Printed from the session's own texts: what is not used left out, spaces spared.) -/
import Derived.Test.YtfnimdhghglanaaGreatQeAH
import Derived.Deep.Slices
set_option maxRecDepth 100000
set_option maxHeartbeats 8000000
set_option linter.unusedVariables false
set_option linter.unusedSimpArgs false
section
namespace Go.Proofs.YtfnimdhghglanaaGreat.Hand
open Go.RowKit Go.Proofs.YtfnimdhghglanaaGreatW.PrintWords Go.Proofs.YtfnimdhghglanaaGreatW.PrintLast Go.Proofs.YtfnimdhghglanaaGreatW.PrintMore
attribute [local go_sem] max2_int min2_int max_two min_two max_three min_three max_four min_four
section
def Blk (cmp:SE→SE→Int) (l:List SE) (n k a:Nat):Prop:=∀c,k∣c→c<a→SortedOn cmp l c (min (c+k) n)
def BlkFrom (cmp:SE→SE→Int) (l:List SE) (n k a:Nat):Prop:=∀c,k∣c→a≤c→c<n→SortedOn cmp l c (min (c+k) n)
theorem dvd_next {k c a:Nat} (h1:k∣c) (h2:k∣a) (h:c<a):c+k≤a:=by
 obtain⟨p,rfl⟩:=h1;obtain⟨q,rfl⟩:=h2;have:p<q:=Nat.lt_of_mul_lt_mul_left h
 calc k*p+k=k*(p+1):=by rw[Nat.mul_succ]
  _≤k*q:=Nat.mul_le_mul_left _ this
theorem dvd_here {k c a:Nat} (h1:k∣c) (h2:k∣a) (h:a≤c) (h3:c<a+k):c=a:=by
 by_cases e:c=a
 ·exact e
 ·have:=dvd_next h2 h1 (by omega);omega
section
variable {cmp:SE→SE→Int} {l l':List SE} {n k a:Nat}
theorem Blk.step (h:Blk cmp l n k a) (hk:k∣a) (s:Seg l l' a (min (a+k) n)) (t:SortedOn cmp l' a (min (a+k) n)):Blk cmp l' n k (a+k):=by
 intro c h1 h2;by_cases e:c<a
 ·have:=dvd_next h1 hk e;exact(h c h1 e).away s (.inl (by omega))
 ·obtain rfl:=dvd_here h1 hk (by omega) h2;exact t
theorem BlkFrom.step {k2:Nat} (h:BlkFrom cmp l n k a) (hk2:k+k=k2) (hk:k2∣a) (hp:0<k) (s:Seg l l' a (min (a+k2) n)):BlkFrom cmp l' n k (a+k2):=by
 intro c h1 h2 h3;exact(h c h1 (by omega) h3).away s (.inr (by omega))
theorem Blk.from (h:Blk cmp l n k n):BlkFrom cmp l n k 0:=fun c h1 _ h3=>h c h1 h3
end
theorem stable_calls {W:World} {base g N cap:Nat} {l:List SE} {cmp:SE→SE→Int} (h:Row W base g N cap l) (hc:Cmp W g l cmp) (hs:l.length≤1000000):
  Calls Tryz.prog 119 #[.slice (some ⟨g,0,none⟩) N cap,.int .i64 N,.func (.func 103) #[] #[]] W fun e w'=>e= .returned (.tuple #[])∧∃l',RowTo W w' base g N cap l'∧l'.Perm l∧SortedOn cmp l' 0 l'.length:=by
 have hN:=h.len;have H:=am (RowTo.refl h);have HC:=am hc;clear h hc;subst hN;go_enter Tryz.func119,Tryz.ntmps119
 go_wp2_with (fail)
 go_loopw [7,8] (fun av bv w'=>∃a b:Nat,20∣a∧a+20=b∧a≤l.length∧av= .int .i64 a∧bv= .int .i64 b∧∃l',Aside0 (RowTo W w' base g l.length cap l')∧Aside0 (Seg l l' 0 l.length)∧Aside0 (Blk cmp l' l.length 20 a)) (fun av _ _=>l.length+20-(intOf av).toNat)
 case atStart=>exact⟨0,20,⟨0,rfl⟩,rfl,Nat.zero_le _,rfl,rfl,l,H,⟨Seg.refl _ _ _⟩,⟨fun c _ h=>absurd h (Nat.not_lt_zero _)⟩⟩
 case round=>
  clear H;obtain⟨a,b,ha,hab,han,rfl,rfl,l1,HR,HS,HB⟩:=hrel;have hl1:=HS.out.len;by_cases hbn:b≤l.length
  ·have d1:decide ((b:Int)≤(l.length:Nat))=true:=decide_eq_true (by omega);have w1:IntKind.i64.wrap ((b:Int)+20)=((b+20:Nat):Int):=(i64_w _).trans (by unfold Go.RowKit.wrap64;omega);have HI:=am (insertion_calls HR.out.row (HC.out.to HR.out HS.out.perm) a b (by omega) (by omega) (by omega))
   go_wp2_with (first|(go_at_call 133;(with_reducible refine HI.out.mono ?_);rintro e wx ⟨rfl,hx⟩;have HX:=am hx;clear hx))
   go_roundw
   case rel=>
    obtain⟨l2,r2,s2,t2⟩:=HX.out;have hm:min (a+20) l.length=b:=by omega
    exact⟨b,b+20,by obtain⟨q,rfl⟩:=ha;exact⟨q+1,by omega⟩,rfl,hbn,rfl,rfl,l2,⟨HR.out.trans r2⟩,⟨HS.out.trans (s2.wide (Nat.zero_le _) hbn)⟩,⟨by
     have:=HB.out.step ha (by rw[hm];exact s2) (by rw[hm];exact t2)
     rwa [hab]at this⟩⟩
   case measure=>simp[intOf];omega
  ·have d1:decide ((b:Int)≤(l.length:Nat))=false:=decide_eq_false (by omega);have HI:=am (insertion_calls HR.out.row (HC.out.to HR.out HS.out.perm) a l.length (by omega) (by omega) (by omega))
   go_wp2_with (first|(go_at_call 133;(with_reducible refine HI.out.mono ?_);rintro e wx ⟨rfl,hx⟩;have HX:=am hx;clear hx))
   obtain⟨l2,r2,s2,t2⟩:=HX.out;have HR2:=am (HR.out.trans r2);have HS2:=am (HS.out.trans (s2.wide (Nat.zero_le _) (Nat.le_refl _)));have hm:min (a+20) l.length=l.length:=by omega
   have HB2:Aside0 (Blk cmp l2 l.length 20 l.length):=⟨fun c h1 h2=>HB.out.step ha (by rw[hm];exact s2) (by rw[hm];exact t2) c h1 (by omega)⟩;clear HI HX HR HS HB hm hl1 r2 s2 t2
   go_loopw [6] (fun kv w'=>∃k:Nat,20≤k∧k≤20+l.length+l.length∧kv= .int .i64 k∧∃l',Aside0 (RowTo W w' base g l.length cap l')∧Aside0 (Seg l l' 0 l.length)∧Aside0 (Blk cmp l' l.length k l.length)) (fun kv _=>l.length-(intOf kv).toNat)
   case atStart=>exact⟨20,Nat.le_refl _,by omega,rfl,l2,HR2,HS2,HB2⟩
   case round=>
    clear HR2 HS2 HB2 d1;obtain⟨k,hk1,hk2,rfl,l3,HR,HS,HB⟩:=hrel;obtain⟨k2,hkk⟩:∃k2,k+k=k2:=⟨_,rfl⟩;have w2:IntKind.i64.wrap (2*(k:Int))=(k2:Int):=(i64_w _).trans (by unfold Go.RowKit.wrap64;omega);have w3:IntKind.i64.wrap ((k:Int)*2)=(k2:Int):=(i64_w _).trans (by unfold Go.RowKit.wrap64;omega);by_cases hkn:k<l.length
    ·have d2:decide ((k:Int)<(l.length:Nat))=true:=decide_eq_true (by omega)
     go_wp2_with (fail)
     go_loopw [7,8] (fun av bv w'=>∃a b:Nat,k2∣a∧a+k2=b∧a≤l.length∧av= .int .i64 a∧bv= .int .i64 b∧∃l',Aside0 (RowTo W w' base g l.length cap l')∧Aside0 (Seg l l' 0 l.length)∧Aside0 (Blk cmp l' l.length k2 a)∧Aside0 (BlkFrom cmp l' l.length k a)) (fun av _ _=>l.length+k2-(intOf av).toNat)
     case atStart=>exact⟨0,k2,⟨0,rfl⟩,by omega,Nat.zero_le _,rfl,rfl,l3,HR,HS,⟨fun c _ h=>absurd h (Nat.not_lt_zero _)⟩,⟨HB.out.from⟩⟩
     case round=>
      clear HR HS HB;obtain⟨c,d,hc1,hcd,hcn,rfl,rfl,l4,HR,HS,HB,HF⟩:=hrel;have hl1:=HS.out.len;obtain⟨m,hcm⟩:∃m,c+k=m:=⟨_,rfl⟩;have hkd:k∣k2:=⟨2,by omega⟩;have hkc:k∣c:=Nat.dvd_trans hkd hc1;have w4:IntKind.i64.wrap ((c:Int)+(k:Int))=(m:Int):=(i64_w _).trans (by unfold Go.RowKit.wrap64;omega);by_cases hdn:d≤l.length
      ·have d3:decide ((d:Int)≤(l.length:Nat))=true:=decide_eq_true (by omega);have w5:IntKind.i64.wrap ((d:Int)+(k2:Int))=((d+k2:Nat):Int):=(i64_w _).trans (by unfold Go.RowKit.wrap64;omega);have HI:=am (symMerge_calls (d-c) HR.out.row (HC.out.to HR.out HS.out.perm) c m d (Nat.le_refl _) (by omega) (by omega) (by omega) (by omega)
        (by have:=HF.out c hkc (Nat.le_refl _) (by omega);rwa [show min (c+k) l.length=m by omega]at this)
        (by have:=HF.out m (by rw[←hcm];exact Nat.dvd_add hkc (Nat.dvd_refl _)) (by omega) (by omega);rwa [show min (m+k) l.length=d by omega]at this))
       go_wp2_with (first|(go_at_call 134;(with_reducible refine HI.out.mono ?_);rintro e wx ⟨rfl,hx⟩;have HX:=am hx;clear hx))
       go_roundw
       case rel=>
        obtain⟨l5,r2,s2,t2⟩:=HX.out;have hm:min (c+k2) l.length=d:=by omega
        exact⟨d,d+k2,by rw[←hcd];exact Nat.dvd_add hc1 (Nat.dvd_refl _),rfl,hdn,rfl,rfl,l5,⟨HR.out.trans r2⟩,⟨HS.out.trans (s2.wide (Nat.zero_le _) hdn)⟩,⟨by
         have:=HB.out.step hc1 (by rw[hm];exact s2) (by rw[hm];exact t2)
         rwa [hcd]at this⟩,⟨by
         have:=HF.out.step hkk hc1 (by omega) (by rw[hm];exact s2)
         rwa [hcd]at this⟩⟩
       case measure=>simp[intOf];omega
      ·have d3:decide ((d:Int)≤(l.length:Nat))=false:=decide_eq_false (by omega);have hm:min (c+k2) l.length=l.length:=by omega
       by_cases hmn:m<l.length
       ·have d4:decide ((m:Int)<(l.length:Nat))=true:=decide_eq_true (by omega);have HI:=am (symMerge_calls (l.length-c) HR.out.row (HC.out.to HR.out HS.out.perm) c m l.length (Nat.le_refl _) (by omega) (by omega) (by omega) (by omega)
         (by have:=HF.out c hkc (Nat.le_refl _) (by omega);rwa [show min (c+k) l.length=m by omega]at this)
         (by have:=HF.out m (by rw[←hcm];exact Nat.dvd_add hkc (Nat.dvd_refl _)) (by omega) (by omega);rwa [show min (m+k) l.length=l.length by omega]at this))
        go_wp2_with (first|(go_at_call 134;(with_reducible refine HI.out.mono ?_);rintro e wx ⟨rfl,hx⟩;have HX:=am hx;clear hx))
        go_roundw
        case rel=>
         obtain⟨l5,r2,s2,t2⟩:=HX.out;exact⟨k2,by omega,by omega,rfl,l5,⟨HR.out.trans r2⟩,⟨HS.out.trans (s2.wide (Nat.zero_le _) (Nat.le_refl _))⟩,⟨fun p h1 h2=>HB.out.step hc1 (by rw[hm];exact s2) (by rw[hm];exact t2) p h1 (by omega)⟩⟩
        case measure=>simp[intOf];omega
       ·have d4:decide ((m:Int)<(l.length:Nat))=false:=decide_eq_false (by omega)
        go_wp2_with (fail)
        go_roundw
        case rel=>
         refine⟨k2,by omega,by omega,rfl,l4,HR,HS,⟨fun p h1 h2=> ?_⟩⟩;by_cases e:p<c
         ·exact HB.out p h1 e
         ·obtain rfl:=dvd_here h1 hc1 (by omega) (by omega);have:=HF.out p hkc (Nat.le_refl _) h2;rw[hm]
          rwa [show min (p+k) l.length=l.length by omega]at this
        case measure=>simp[intOf];omega
    ·have d2:decide ((k:Int)<(l.length:Nat))=false:=decide_eq_false (by omega)
     go_wp2_with (fail)
     go_end0
     refine⟨rfl,l3,HR.out,HS.out.perm,?_⟩;have hl1:=HS.out.len;by_cases e:l.length=0
     ·exact fun p q h1 h2 h3=>by omega
     ·have:=HB.out 0 ⟨0,rfl⟩ (by omega)
      rwa [show min (0+k) l.length=l3.length by omega]at this
end
theorem cmpI_swap (x y:Int):cmpI y x= - cmpI x y:=by
 unfold cmpI
 repeat' split
 all_goals omega
theorem cmpI_zero {x y:Int}:cmpI x y=0↔x=y:=by
 unfold cmpI
 repeat' split
 all_goals omega
theorem cmpI_neg {x y:Int}:cmpI x y<0↔x<y:=by
 unfold cmpI
 repeat' split
 all_goals omega
theorem cmpK_swap:∀a b:List Int,cmpK b a= - cmpK a b
 | [],[]=>rfl
 | [],_::_=>rfl
 |_::_,[]=>rfl
 |x::xs,y::ys=>by
  have h1:=cmpI_swap x y;have h2:=cmpK_swap xs ys;unfold cmpK;by_cases e:cmpI x y=0
  ·rw[if_neg (by omega),if_neg (by omega),h2]
  ·rw[if_pos (by omega),if_pos e,h1]
theorem cmpK_zero:∀{a b:List Int},cmpK a b=0↔a=b
 | [],[]=>by simp[cmpK]
 | [],_::_=>by simp[cmpK]
 |_::_,[]=>by simp[cmpK]
 |x::xs,y::ys=>by
  have h2:= @cmpK_zero xs ys;have h1:= @cmpI_zero x y;unfold cmpK;by_cases e:cmpI x y=0
  ·rw[if_neg (by omega),h2];simp[h1.1 e]
  ·rw[if_pos e];exact⟨fun h=>absurd h e,fun h=>absurd (h1.2 (List.cons.inj h).1) e⟩
theorem cmpK_le:∀{a b c:List Int},cmpK a b≤0→cmpK b c≤0→cmpK a c≤0
 | [],_,[]=>fun _ _=>by simp[cmpK]
 | [],_,_::_=>fun _ _=>by simp[cmpK]
 |_::_,[],_=>fun h _=>absurd h (by simp[cmpK])
 |_::_,_::_,[]=>fun _ h=>absurd h (by simp[cmpK])
 |x::xs,y::ys,z::zs=>by
  have h2:= @cmpK_le xs ys zs;have n1:= @cmpI_neg x y;have n2:= @cmpI_neg y z;have n3:= @cmpI_neg x z;have z1:= @cmpI_zero x y;have z2:= @cmpI_zero y z;have z3:= @cmpI_zero x z;simp only[cmpK]
  split<;>split<;>split<;>intro g1 g2<;>first|omega|exact h2 g1 g2|skip
theorem cmpE_swap (a b:Ev):cmpE b a= - cmpE a b:=by
 have h1:=cmpI_swap a.t b.t;have h2:=cmpK_swap a.k b.k;unfold cmpE;by_cases e:cmpI a.t b.t=0
 ·rw[if_neg (by omega),if_neg (by omega),h2]
 ·rw[if_pos (by omega),if_pos e,h1]
theorem cmpE_zero {a b:Ev}:cmpE a b=0↔a.t=b.t∧a.k=b.k:=by
 have h1:= @cmpI_zero a.t b.t;have h2:= @cmpK_zero a.k b.k;unfold cmpE;by_cases e:cmpI a.t b.t=0
 ·rw[if_neg (by omega),h2];simp[h1.1 e]
 ·rw[if_pos e];exact⟨fun h=>absurd h e,fun h=>absurd (h1.2 h.1) e⟩
theorem cmpE_le {a b c:Ev} (h1:cmpE a b≤0) (h2:cmpE b c≤0):cmpE a c≤0:=by
 have hk:= @cmpK_le a.k b.k c.k;have n1:= @cmpI_neg a.t b.t;have n2:= @cmpI_neg b.t c.t;have n3:= @cmpI_neg a.t c.t;have z1:= @cmpI_zero a.t b.t;have z2:= @cmpI_zero b.t c.t;have z3:= @cmpI_zero a.t c.t;unfold cmpE at*
 split at h1<;>split at h2<;>split<;>first|omega|exact hk h1 h2|skip
theorem weak_of (f:SE→Ev):Weak (fun x y=>cmpE (f x) (f y)):=
 ⟨fun x y h=>by have:=cmpE_swap (f x) (f y);omega,fun x y z h1 h2=>by
  have s1:=cmpE_swap (f x) (f y);have s2:=cmpE_swap (f y) (f z);have s3:=cmpE_swap (f x) (f z);have:= @cmpE_le (f x) (f y) (f z) (by omega) (by omega);omega⟩
def SortedE (es:List Ev):Prop:=es.Pairwise fun a b=>cmpE a b≤0
theorem intC_one {w:World} {A:Option Addr} {n:Nat} {xs ys:List Int} (h:Kd.C (Kd.int .i64) w A n xs) (k:Kd.C (Kd.int .i64) w A n ys):xs=ys:=by
 refine List.ext_getElem (h.1.trans k.1.symm) fun i h1 h2=> ?_;have hn:0<n:=by have:=h.1;omega
 obtain⟨ad,e1,c1⟩:=h.2.2 hn;obtain⟨ad2,e2,c2⟩:=k.2.2 hn;rw[e1]at e2
 injection e2 with e2
 subst e2;obtain⟨c,_,rfl,d1⟩:=c1 i _ (List.getElem?_eq_getElem h1);obtain⟨c',_,rfl,d2⟩:=c2 i _ (List.getElem?_eq_getElem h2);have:=(d1 0 _ rfl).symm.trans (d2 0 _ rfl)
 injection this with this
 injection this
theorem EvAt.one {Mt:Nat→Prop} {w:World} {s:SE} {e e':Ev} (h:EvAt Mt w s e) (k:EvAt Mt w s e'):e=e':=by
 obtain⟨t,key,lp,kd,pr,ar⟩:=e;obtain⟨t',key',lp',kd',pr',ar'⟩:=e';have:=intC_one h.k.here k.k.here;obtain⟨h1,h2,h3,h4,h5,_⟩:=h;obtain⟨k1,k2,k3,k4,k5,_⟩:=k;simp only at*;subst this h1 h2 h3 h4 h5 k1 k2 k3 k4 k5;rfl
theorem ev_of (Mt:Nat→Prop) (w:World):∃f:SE→Ev,∀x e,EvAt Mt w x e→e=f x:=by
 have:∀x,∃e0,∀e,EvAt Mt w x e→e=e0:=fun x=>by
  by_cases h:∃e0,EvAt Mt w x e0
  ·obtain⟨e0,h0⟩:=h;exact⟨e0,fun e he=>he.one h0⟩
  ·exact⟨⟨0,[],0,0,0,0⟩,fun e he=>absurd ⟨e,he⟩ h⟩
 exact⟨fun x=>(this x).choose,fun x e he=>(this x).choose_spec e he⟩
theorem All2.map_eq {Mt:Nat→Prop} {w:World} {f:SE→Ev} (hf:∀x e,EvAt Mt w x e→e=f x) {ss:List SE} {es:List Ev} (h:All2 (EvAt Mt w) ss es):es=ss.map f:=by
 induction h with
 |nil=>rfl
 |cons h1 _ ih=>rw[List.map_cons,←ih,←hf _ _ h1]
theorem All2.mem {α β:Type} {R:α→β→Prop} {l:List α} {m:List β} (h:All2 R l m) {a:α} (ha:a∈l):∃b,b∈m∧R a b:=by
 induction h with
 |nil=>simp at ha
 |cons h1 _ ih=>
  rcases List.mem_cons.1 ha with rfl|ha
  ·exact⟨_,List.mem_cons_self,h1⟩
  ·obtain⟨b,hb,hr⟩:=ih ha;exact⟨b,List.mem_cons_of_mem _ hb,hr⟩
theorem All2.map_of {α β:Type} {R:α→β→Prop} (f:α→β):∀{l:List α},(∀x∈l,R x (f x))→All2 R l (l.map f)
 | [],_=> .nil
 |a::l,h=> .cons (h a List.mem_cons_self) (All2.map_of f fun x hx=>h x (List.mem_cons_of_mem _ hx))
theorem insertion_none (W:World) (fv:Value):Calls Tryz.prog 133 #[.slice none 0 0,.int .i64 0,.int .i64 0,fv] W fun e w'=>e= .returned (.tuple #[])∧w'=W:=by
 go_enter Tryz.func133,Tryz.ntmps133
 go_wp2_with (fail)
 go_loopw [8] (fun i w'=>i= .int .i64 1∧Aside0 (w'=W)) (fun i _=>0)
 case atStart=>exact⟨rfl,⟨rfl⟩⟩
 case round=>
  obtain⟨rfl,HE⟩:=hrel
  go_wp2_with (fail)
  go_end0
  exact⟨rfl,HE.out⟩
theorem stable_none (W:World) (fv:Value):Calls Tryz.prog 119 #[.slice none 0 0,.int .i64 0,fv] W fun e w'=>e= .returned (.tuple #[])∧w'=W:=by
 go_enter Tryz.func119,Tryz.ntmps119
 go_wp2_with (fail)
 go_loopw [7,8] (fun a b w'=>a= .int .i64 0∧b= .int .i64 20∧Aside0 (w'=W)) (fun a b _=>0)
 case atStart=>exact⟨rfl,rfl,⟨rfl⟩⟩
 case round=>
  obtain⟨rfl,rfl,HE⟩:=hrel;have HI:=am (insertion_none wr fv)
  go_wp2_with (first|(go_at_call 133;(with_reducible refine HI.out.mono ?_);rintro e wx ⟨rfl,hx⟩;have HX:=am hx;clear hx))
  go_loopw [6] (fun k w'=>k= .int .i64 20∧Aside0 (w'=W)) (fun k _=>0)
  case atStart=>exact⟨rfl,⟨HX.out.trans HE.out⟩⟩
  case round=>
   obtain⟨rfl,HE⟩:=hrel
   go_wp2_with (fail)
   go_end0
   exact⟨rfl,HE.out⟩
theorem sortStable_calls {W:World} {base:Nat} {v:Value} {l:List SE} {cmp:SE→SE→Int} (h:Kd.R kE 49 W base (fun _=>True) v l) (hb:base≤W.heap.size) (hc:∀g,v.ownBlock=some g→Cmp W g l cmp) (hs:l.length≤1000000):
  Calls Tryz.prog 102 #[v,.func (.func 103) #[] #[]] W fun e w'=>e= .returned (.tuple #[])∧∃l',Kd.R kE 49 w' base (fun _=>True) v l'∧Below base W w'∧l'.Perm l∧SortedOn cmp l' 0 l'.length:=by
 obtain⟨inner,ho⟩:=Kd.R_own h;rcases ho.2 with ⟨rfl,h0⟩|⟨g,cap,cur,rfl,hg,hh,hr⟩
 ·have hl:l=[]:=by
   have:=(Kd.R_reads' h).1;exact List.eq_nil_of_length_eq_zero this.symm
  subst hl;have H:=am h;have HI:=am (stable_none W (.func (.func 103) #[] #[]));clear hc h ho h0 inner;go_enter Tryz.func102,Tryz.ntmps102
  go_wp2_with (first|(go_at_call 119;(with_reducible refine HI.out.mono ?_);rintro e wx ⟨rfl,hx⟩;have HX:=am hx;clear hx))
  go_end0
  exact⟨rfl,[],by rw[HX.out];exact H.out,by rw[HX.out];exact Below.refl _ _,.refl _,fun p q h1 h2 h3=>absurd h3 (by simp)⟩
 ·have HI:=am (stable_calls (show Row W base g l.length cap l from h) (hc g (by simp[Value.ownBlock])) hs);clear hc h ho inner hh hr;go_enter Tryz.func102,Tryz.ntmps102
  go_wp2_with (first|(go_at_call 119;(with_reducible refine HI.out.mono ?_);rintro e wx ⟨rfl,hx⟩;have HX:=am hx;clear hx))
  go_end0
  obtain⟨l',r,p,s⟩:=HX.out;exact⟨rfl,l',r.row,r.below,p,s⟩
theorem cmp_at {Mt:Nat→Prop} {W w1 W':World} {ss:List SE} {es:List Ev} {f:SE→Ev} {g:Nat} (hM:∀k,Mt k→k<W.heap.size) (hA:All2 (EvAt Mt W) ss es) (hf:∀x e,EvAt Mt W x e→e=f x) (hk:∀e∈es,e.k.length≤1000000)
  (hb:Below W.heap.size W w1) (hg:W.heap.size≤g) (kp:Keep (·=g) w1 W') (x y:SE) (hx:x∈ss) (hy:y∈ss):
  Calls Tryz.prog 103 #[x.v,y.v] W' fun e w'=>e= .returned (.int .i64 (cmpE (f x) (f y)))∧Below W'.heap.size W' w':=by
 have kp2:Keep Mt W W':=⟨Nat.le_trans hb.size kp.size,fun k h1 _=>(kp.block k (Nat.lt_of_lt_of_le h1 hb.size) (fun e=>by omega)).trans (hb.block k h1)⟩;obtain⟨ex,mx,hex⟩:=hA.mem hx;obtain⟨ey,my,hey⟩:=hA.mem hy;rw[←hf _ _ hex,←hf _ _ hey];have k1:=hex.k.keep kp2;have k2:=hey.k.keep kp2;exact cmpEvents_calls x y ex ey W' hex.t hey.t (k1.here) (k2.here) (by rw[k1.len];exact hk _ mx) (by rw[k2.len];exact hk _ my)
theorem sortEvents_calls {Mt:Nat→Prop} {W:World} {h:SH} {es:List Ev} (r:EvsAt Mt W h es) (hM:∀k,Mt k→k<W.heap.size) (hn:es.length≤1000000) (hk:∀e∈es,e.k.length≤1000000):
  Calls Tryz.prog 76 #[h.v] W fun e w'=>∃h' es',e= .returned h'.v∧EvsAt Mt w' h' es'∧es'.Perm es∧SortedE es'∧Below W.heap.size W w':=by
 obtain⟨ss,r1,r2⟩:=r;obtain⟨f,hf⟩:=ev_of Mt W;have hes:=r2.map_eq hf;have hln:=r2.len;have HA:=am r2;have HF:=am hf;have HES:=am hes;have HK:=am hk;have HM:=am hM;have HC:=am (cloneEv_calls h.A h.c h.n ss W (r1.len▸r1.here) r1.len.symm (by rw[r1.len,hln];exact hn));obtain⟨hA,hN,hcp⟩:=h;clear hf hes hk r2 hM;go_enter Tryz.func76,Tryz.ntmps76
 go_wp2_with (first
  |(go_at_call 101;(with_reducible refine HC.out.mono ?_);rintro e wx ⟨v,rfl,hx,hbel⟩;have HX:=am hx;have HB:=am hbel;clear hx hbel)
  |(have HS:=am (sortStable_calls (cmp:=fun x y=>cmpE (f x) (f y)) HX.out HB.out.size (fun g hg=>⟨weak_of f,fun W' kp x y hx hy=>cmp_at HM.out HA.out HF.out HK.out HB.out (Kd.R_base HX.out g hg) kp x y hx hy⟩) (by rw[hln];exact hn));go_at_call 102;(with_reducible refine HS.out.mono ?_);rintro e wy ⟨rfl,hy⟩;have HY:=am hy;clear hy))
 go_ret;obtain⟨l',r3,b3,p3,s3⟩:=HY.out;obtain⟨A,c,rfl⟩:=Kd.R_slice r3;have hb:=HB.out.trans b3;refine⟨⟨A,l'.length,c⟩,l'.map f,rfl,⟨l',Rd.of_R rfl r3 (fun k hk hm=> ?_),All2.map_of f fun x hx=> ?_⟩,?_,?_,hb⟩
 ·have:=Kd.R_base r3 k hk;have:=HM.out k hm;omega
 ·obtain⟨ex,_,hex⟩:=HA.out.mem (p3.subset hx);rw[←HF.out _ _ hex];exact hex.keep (Keep.of_below hb)
 ·rw[HES.out];exact p3.map f
 ·rw[SortedE,List.pairwise_map,List.pairwise_iff_getElem];intro i j hi hj hij;have:=s3 i j (Nat.zero_le _) hij hj;unfold leA at this;rw[getD_at l' i hi,getD_at l' j hj]at this;have h2:=cmpE_swap (f l'[i]) (f l'[j]);simp only at this;omega
theorem eqKeys_calls (A0 A1:Option Addr) (n0 n1 c0 c1:Nat) (a b:List Int) (W:World) (h0:Kd.C (Kd.int .i64) W A0 n0 a) (h1:Kd.C (Kd.int .i64) W A1 n1 b) (hl0:n0≤1000000) (hl1:n1≤1000000):
  Calls Tryz.prog 88 #[.slice A0 n0 c0,.slice A1 n1 c1] W fun e w'=>e= .returned (.bool (decide (a=b)))∧Below W.heap.size W w':=by
 have e0:a.length=n0:=h0.1;have e1:b.length=n1:=h1.1;have H0:=am h0;have H1:=am h1;have E0:=am e0;have E1:=am e1;obtain⟨r,hr⟩:∃r,decide (a=b)=r:=⟨_,rfl⟩;rw[hr];have HRR:=am hr;clear h0 h1 e0 e1 hr;go_enter Tryz.func88,Tryz.ntmps88;by_cases hn:n0=n1
 ·subst hn;have d0:((n0:Int) != (n0:Int))=false:=by simp
  go_wp2
  go_loopw [13] (fun i w'=>∃k:Nat,k≤n0∧i= .int .i64 k∧Aside0 (∀j (h1:j<a.length) (h2:j<b.length),j<k→a[j]=b[j])∧Aside0 (Below W.heap.size W w')) (fun i _=>n0-(intOf i).toNat)
  case atStart=>exact⟨0,Nat.zero_le _,rfl,⟨fun j _ _ h=>absurd h (by omega)⟩,⟨Below.refl _ _⟩⟩
  case round=>
   obtain⟨k,hk,rfl,HE,HB⟩:=hrel;have HC0:=am (Kd.C_below H0.out HB.out);have HC1:=am (Kd.C_below H1.out HB.out);by_cases g0:k<n0
   ·obtain⟨ad0,x,q0,c00,hk2,hx⟩:=at_int HC0.out k g0;obtain⟨ad1,y,q1,c11,hk3,hy⟩:=at_int HC1.out k g0;cases q0;cases q1;have d1:decide ((k:Int)<n0)=true:=decide_eq_true (by omega);have m1:(k:Int)<(n0:Nat):=by omega
    have w1:IntKind.i64.wrap ((k:Int)+1)=((k+1:Nat):Int):=(i64_w _).trans (by unfold Go.RowKit.wrap64;omega);have HX:=am hx;have HY:=am hy;clear hx hy;by_cases hxy:x=y
    ·have d2:(x != y)=false:=by simp[hxy]
     have HXY:=am hxy;clear hxy;go_upto_region 6 with (fail)
     go_region
     go_wp2_with (fail)
     go_roundw
     case rel=>exact⟨k+1,by omega,rfl,⟨fun j g1 g2 g3=>by
      rcases Nat.lt_succ_iff_lt_or_eq.1 g3 with g|rfl
      ·exact HE.out j g1 g2 g
      ·rw[HX.out,HY.out,HXY.out]⟩,⟨below_drew HB.out⟩⟩
     case measure=>simp[intOf];omega
    ·have d2:(x != y)=true:=by simp[hxy]
     have er:r=false:=by
      rw[←HRR.out];refine decide_eq_false fun e=>hxy ?_;have:=HX.out;subst e;rw[←HX.out,←HY.out]
     subst er;clear hxy;go_upto_region 6 with (fail)
     go_region
     go_wp2_with (fail)
     go_ret;exact⟨rfl,below_drew HB.out⟩
   ·have d1:decide ((k:Int)<n0)=false:=decide_eq_false (by omega);have er:r=true:=by
     rw[←HRR.out];refine decide_eq_true (List.ext_getElem (by rw[E0.out,E1.out]) fun j g1 g2=>HE.out j g1 g2 (by rw[E0.out]at g1;omega))
    subst er
    go_wp2
    go_ret;exact⟨rfl,HB.out⟩
 ·have d0:((n0:Int) != (n1:Int))=true:=by simp;omega
  have er:r=false:=by
   rw[←HRR.out];refine decide_eq_false fun e=>hn ?_;rw[←E0.out,←E1.out,e]
  subst er
  go_wp2
  go_ret;exact⟨rfl,Below.refl _ _⟩
theorem add_flat (x:Addr) {j:Nat} (hj:j≠0):x.add j=⟨x.block,x.off+j,none⟩:=by simp[Addr.add,hj]
theorem flat_cells {α:Type} {sz:Nat} {enc:α→List Value} {hl:∀x,(enc x).length=sz} {h1:∀x,∀u∈enc x,u.oneCell'=true} {w:World} {A:Option Addr} {n:Nat} {l:List α} (h:Kd.C (Kd.flat sz enc hl h1) w A n l) (k:Nat) (hk:k<n):
  ∃ad x,A=some ad∧(∃h2:k<l.length,l[k]=x)∧(∀u,(enc x)[0]?=some u→w.cell? (ad.add (k*sz))=some u)∧∀j u,j≠0→(enc x)[j]?=some u→w.cell? ⟨(ad.add (k*sz)).block,(ad.add (k*sz)).off+j,none⟩=some u:=by
 have hln:l.length=n:=h.1;subst hln;obtain⟨ad,e1,hc⟩:=h.2.2 (by omega);obtain⟨c,_,hK,hc0⟩:=hc k _ (List.getElem?_eq_getElem hk);obtain rfl:c=enc l[k]:=hK;refine⟨ad,l[k],e1,⟨hk,rfl⟩,fun u hu=>hc0 0 u hu,fun j u hj hu=> ?_⟩;rw[←add_flat _ hj,Go.Deep.add_add];exact hc0 j u hu
theorem ev_cells {w:World} {A:Option Addr} {n:Nat} {l:List SE} (h:Kd.C kE w A n l) (k:Nat) (hk:k<n):∃ad x,A=some ad∧(∃h2:k<l.length,l[k]=x)∧
  w.cell? (ad.add (k*6))=some (.int .i64 x.t)∧w.cell? ⟨(ad.add (k*6)).block,(ad.add (k*6)).off+1,none⟩=some (.slice x.k.A x.k.n x.k.c)∧w.cell? ⟨(ad.add (k*6)).block,(ad.add (k*6)).off+2,none⟩=some (.int .i64 x.lp)∧
   w.cell? ⟨(ad.add (k*6)).block,(ad.add (k*6)).off+3,none⟩=some (.int .i64 x.kd)∧w.cell? ⟨(ad.add (k*6)).block,(ad.add (k*6)).off+4,none⟩=some (.int .i64 x.pr)∧w.cell? ⟨(ad.add (k*6)).block,(ad.add (k*6)).off+5,none⟩=some (.int .i64 x.ar):=by
 obtain⟨ad,x,e,h2,h3,q⟩:=flat_cells h k hk;exact⟨ad,x,e,h2,h3 _ rfl,q 1 _ (by decide) rfl,q 2 _ (by decide) rfl,q 3 _ (by decide) rfl,q 4 _ (by decide) rfl,q 5 _ (by decide) rfl⟩
theorem hd_cells {w:World} {A:Option Addr} {n:Nat} {l:List SH} (h:Kd.C kH w A n l) (k:Nat) (hk:k<n):∃ad x,A=some ad∧(∃h2:k<l.length,l[k]=x)∧w.cell? (ad.add k)=some (.slice x.A x.n x.c):=by
 obtain⟨ad,x,e,h2,h3,q⟩:=flat_cells h k hk;rw[Nat.mul_one]at h3;exact⟨ad,x,e,h2,h3 _ rfl⟩
theorem cancelF_calls (x:SE) (q:Nat) (kh:SH) (a b:List Int) (W:World) (hq:W.cell? ⟨q,0,none⟩=some (.slice kh.A kh.n kh.c)) (h0:Kd.C (Kd.int .i64) W x.k.A x.k.n a) (h1:Kd.C (Kd.int .i64) W kh.A kh.n b) (hl0:x.k.n≤1000000) (hl1:kh.n≤1000000):
  Calls Tryz.prog 140 #[x.v,.pointer (some ⟨q,0,none⟩)] W fun e w'=>e= .returned (.bool (decide (a=b)))∧Below W.heap.size W w':=by
 obtain⟨xt,⟨xA,xn,xc⟩,xl,xd,xp,xa⟩:=x;obtain⟨kA',kn,kc⟩:=kh;simp only at h0 h1 hl0 hl1 hq;simp only[SE.v];have hql:q<W.heap.size:=World.block_lt_of_cell? W _ hq;obtain⟨r,hr⟩:∃r,decide (a=b)=r:=⟨_,rfl⟩;rw[hr];have hb:=fun o1=>below_alloc (Below.refl W.heap.size W) o1;have HC:=am (fun o1=>eqKeys_calls xA kA' xn kn xc kc a b (W.alloc o1) (Kd.C_below h0 (hb o1)) (Kd.C_below h1 (hb o1)) hl0 hl1);have HB:=am hb;have HR:=am hr;clear h0 h1 hb hr;go_enter Tryz.func140,Tryz.ntmps140
 go_wp2_with (first|(go_at_call 88;(with_reducible refine(HC.out _).mono ?_);rw[HR.out];rintro e wx ⟨rfl,hx⟩;have HX:=am hx;clear hx))
 go_ret;exact⟨rfl,(HB.out _).trans (HX.out.mono (HB.out _).size)⟩
theorem goneK_calls (kh:SH) (q:Nat) (x:SE) (a b:List Int) (W:World) (hq:W.cell? ⟨q,1,none⟩=some (.slice x.k.A x.k.n x.k.c)) (h0:Kd.C (Kd.int .i64) W kh.A kh.n b) (h1:Kd.C (Kd.int .i64) W x.k.A x.k.n a) (hl0:kh.n≤1000000) (hl1:x.k.n≤1000000):
  Calls Tryz.prog 87 #[.slice kh.A kh.n kh.c,.pointer (some ⟨q,0,none⟩)] W fun e w'=>e= .returned (.bool (decide (b=a)))∧Below W.heap.size W w':=by
 obtain⟨xt,⟨xA,xn,xc⟩,xl,xd,xp,xa⟩:=x;obtain⟨kA',kn,kc⟩:=kh;simp only at h0 h1 hl0 hl1 hq;obtain⟨r,hr⟩:∃r,decide (b=a)=r:=⟨_,rfl⟩;rw[hr];have HC:=am (eqKeys_calls kA' xA kn xn kc xc b a W h0 h1 hl0 hl1);have HR:=am hr;clear h0 h1 hr;go_enter Tryz.func87,Tryz.ntmps87
 go_wp2_with (first|(go_at_call 88;(with_reducible refine HC.out.mono ?_);rw[HR.out];rintro e wx ⟨rfl,hx⟩;have HX:=am hx;clear hx))
 go_ret;exact⟨rfl,HX.out⟩
def fidx {α:Type} (p:α→Bool) (l:List α):Int:=match l.findIdx? p with|some i=>(i:Int)|none=> -1
theorem fidx_at {α:Type} {p:α→Bool} {l:List α} (k:Nat) (hk:k<l.length) (h:∀j (hj:j<l.length),j<k→p l[j]=false) (hp:p l[k]=true):fidx p l=k:=by
 have:l.findIdx? p=some k:=by
  rw[List.findIdx?_eq_some_iff_getElem];exact⟨hk,hp,fun j hj=>by rw[h j (by omega) hj];simp⟩
 rw[fidx,this]
theorem fidx_none {α:Type} {p:α→Bool} {l:List α} (h:∀j (hj:j<l.length),p l[j]=false):fidx p l= -1:=by
 have:l.findIdx? p=none:=by
  rw[List.findIdx?_eq_none_iff];intro x hx;obtain⟨j,hj,rfl⟩:=List.getElem_of_mem hx;exact h j hj
 rw[fidx,this]
theorem index_cancel {W:World} (A:Option Addr) (n c q:Nat) (l:List SE) (p:SE→Bool) (h:Kd.C kE W A n l) (hs:n≤1000000)
  (hp:∀W',Below W.heap.size W W'→∀x∈l,Calls Tryz.prog 140 #[x.v,.pointer (some ⟨q,0,none⟩)] W' fun e w'=>e= .returned (.bool (p x))∧Below W'.heap.size W' w'):
  Calls Tryz.prog 111 #[.slice A n c,.func (.func 140) #[] #[.pointer (some ⟨q,0,none⟩)]] W fun e w'=>e= .returned (.int .i64 (fidx p l))∧Below W.heap.size W w':=by
 have hln:l.length=n:=h.1;have H:=am h;have HP:=am hp;have HLN:=am hln;clear h hp hln;go_enter Tryz.func111,Tryz.ntmps111
 go_wp2
 go_loopw [8] (fun i w'=>∃k:Nat,k≤n∧i= .int .i64 k∧Aside0 (∀j (hj:j<l.length),j<k→p l[j]=false)∧Aside0 (Below W.heap.size W w')) (fun i _=>n-(intOf i).toNat)
 case atStart=>exact⟨0,Nat.zero_le _,rfl,⟨fun j _ h=>absurd h (by omega)⟩,⟨Below.refl _ _⟩⟩
 case round=>
  obtain⟨k,hk,rfl,HE,HB⟩:=hrel;by_cases g0:k<n
  ·obtain⟨ad,x,e0,⟨h2,hx⟩,p0,p1,p2,p3,p4,p5⟩:=ev_cells (Kd.C_below H.out HB.out) k g0;cases e0;have d1:decide ((k:Int)<n)=true:=decide_eq_true (by omega);have m1:(k:Int)<(n:Nat):=by omega
   have w1:IntKind.i64.wrap ((k:Int)+1)=((k+1:Nat):Int):=(i64_w _).trans (by unfold Go.RowKit.wrap64;omega);have hcall:=HP.out wr HB.out x (hx▸List.getElem_mem h2);have HX:=am hx;clear hx;obtain⟨b,hb⟩:∃b,p x=b:=⟨_,rfl⟩;rw[hb]at hcall;have HPX:=am hb;clear hb;obtain⟨xt,⟨xA,xn,xc⟩,xl,xd,xp,xa⟩:=x;simp only[SE.v]at p0 p1 p2 p3 p4 p5 hcall;have HCALL:=am hcall;clear hcall;cases b with
   |true=>
    go_wp2_with (first|(go_at_call 140;(with_reducible refine HCALL.out.mono ?_);rintro e wx ⟨rfl,hx⟩;have HBX:=am hx;clear hx))
    go_ret;exact⟨by rw[fidx_at k h2 HE.out (by rw[HX.out];exact HPX.out)];rfl,HB.out.trans (HBX.out.mono HB.out.size)⟩
   |false=>
    go_wp2_with (first|(go_at_call 140;(with_reducible refine HCALL.out.mono ?_);rintro e wx ⟨rfl,hx⟩;have HBX:=am hx;clear hx))
    go_roundw
    case rel=>exact⟨k+1,by omega,rfl,⟨fun j g1 g3=>by
      rcases Nat.lt_succ_iff_lt_or_eq.1 g3 with g|rfl
      ·exact HE.out j g1 g
      ·rw[HX.out];exact HPX.out⟩,⟨HB.out.trans (HBX.out.mono HB.out.size)⟩⟩
    case measure=>simp[intOf];omega
  ·have d1:decide ((k:Int)<n)=false:=decide_eq_false (by omega)
   go_wp2
   go_ret;exact⟨by rw[fidx_none (fun j hj=>HE.out j hj (by have:=HLN.out;omega))];rfl,HB.out⟩
theorem index_gone {W:World} (A:Option Addr) (n c q:Nat) (l:List SE) (p:SE→Bool) (h:Kd.C kE W A n l) (hs:n≤1000000)
  (hp:∀W',Below W.heap.size W W'→∀x∈l,Calls Tryz.prog 85 #[x.v,.pointer (some ⟨q,0,none⟩)] W' fun e w'=>e= .returned (.bool (p x))∧Below W'.heap.size W' w'):
  Calls Tryz.prog 111 #[.slice A n c,.func (.func 85) #[] #[.pointer (some ⟨q,0,none⟩)]] W fun e w'=>e= .returned (.int .i64 (fidx p l))∧Below W.heap.size W w':=by
 have hln:l.length=n:=h.1;have H:=am h;have HP:=am hp;have HLN:=am hln;clear h hp hln;go_enter Tryz.func111,Tryz.ntmps111
 go_wp2
 go_loopw [8] (fun i w'=>∃k:Nat,k≤n∧i= .int .i64 k∧Aside0 (∀j (hj:j<l.length),j<k→p l[j]=false)∧Aside0 (Below W.heap.size W w')) (fun i _=>n-(intOf i).toNat)
 case atStart=>exact⟨0,Nat.zero_le _,rfl,⟨fun j _ h=>absurd h (by omega)⟩,⟨Below.refl _ _⟩⟩
 case round=>
  obtain⟨k,hk,rfl,HE,HB⟩:=hrel;by_cases g0:k<n
  ·obtain⟨ad,x,e0,⟨h2,hx⟩,p0,p1,p2,p3,p4,p5⟩:=ev_cells (Kd.C_below H.out HB.out) k g0;cases e0;have d1:decide ((k:Int)<n)=true:=decide_eq_true (by omega);have m1:(k:Int)<(n:Nat):=by omega
   have w1:IntKind.i64.wrap ((k:Int)+1)=((k+1:Nat):Int):=(i64_w _).trans (by unfold Go.RowKit.wrap64;omega);have hcall:=HP.out wr HB.out x (hx▸List.getElem_mem h2);have HX:=am hx;clear hx;obtain⟨b,hb⟩:∃b,p x=b:=⟨_,rfl⟩;rw[hb]at hcall;have HPX:=am hb;clear hb;obtain⟨xt,⟨xA,xn,xc⟩,xl,xd,xp,xa⟩:=x;simp only[SE.v]at p0 p1 p2 p3 p4 p5 hcall;have HCALL:=am hcall;clear hcall;cases b with
   |true=>
    go_wp2_with (first|(go_at_call 85;(with_reducible refine HCALL.out.mono ?_);rintro e wx ⟨rfl,hx⟩;have HBX:=am hx;clear hx))
    go_ret;exact⟨by rw[fidx_at k h2 HE.out (by rw[HX.out];exact HPX.out)];rfl,HB.out.trans (HBX.out.mono HB.out.size)⟩
   |false=>
    go_wp2_with (first|(go_at_call 85;(with_reducible refine HCALL.out.mono ?_);rintro e wx ⟨rfl,hx⟩;have HBX:=am hx;clear hx))
    go_roundw
    case rel=>exact⟨k+1,by omega,rfl,⟨fun j g1 g3=>by
      rcases Nat.lt_succ_iff_lt_or_eq.1 g3 with g|rfl
      ·exact HE.out j g1 g
      ·rw[HX.out];exact HPX.out⟩,⟨HB.out.trans (HBX.out.mono HB.out.size)⟩⟩
    case measure=>simp[intOf];omega
  ·have d1:decide ((k:Int)<n)=false:=decide_eq_false (by omega)
   go_wp2
   go_ret;exact⟨by rw[fidx_none (fun j hj=>HE.out j hj (by have:=HLN.out;omega))];rfl,HB.out⟩
theorem index_key {W:World} (A:Option Addr) (n c q:Nat) (l:List SH) (p:SH→Bool) (h:Kd.C kH W A n l) (hs:n≤1000000)
  (hp:∀W',Below W.heap.size W W'→∀x∈l,Calls Tryz.prog 87 #[.slice x.A x.n x.c,.pointer (some ⟨q,0,none⟩)] W' fun e w'=>e= .returned (.bool (p x))∧Below W'.heap.size W' w'):
  Calls Tryz.prog 110 #[.slice A n c,.func (.func 87) #[] #[.pointer (some ⟨q,0,none⟩)]] W fun e w'=>e= .returned (.int .i64 (fidx p l))∧Below W.heap.size W w':=by
 have hln:l.length=n:=h.1;have H:=am h;have HP:=am hp;have HLN:=am hln;clear h hp hln;go_enter Tryz.func110,Tryz.ntmps110
 go_wp2
 go_loopw [8] (fun i w'=>∃k:Nat,k≤n∧i= .int .i64 k∧Aside0 (∀j (hj:j<l.length),j<k→p l[j]=false)∧Aside0 (Below W.heap.size W w')) (fun i _=>n-(intOf i).toNat)
 case atStart=>exact⟨0,Nat.zero_le _,rfl,⟨fun j _ h=>absurd h (by omega)⟩,⟨Below.refl _ _⟩⟩
 case round=>
  obtain⟨k,hk,rfl,HE,HB⟩:=hrel;by_cases g0:k<n
  ·obtain⟨ad,x,e0,⟨h2,hx⟩,p0⟩:=hd_cells (Kd.C_below H.out HB.out) k g0;cases e0;have d1:decide ((k:Int)<n)=true:=decide_eq_true (by omega);have m1:(k:Int)<(n:Nat):=by omega
   have w1:IntKind.i64.wrap ((k:Int)+1)=((k+1:Nat):Int):=(i64_w _).trans (by unfold Go.RowKit.wrap64;omega);have hcall:=HP.out wr HB.out x (hx▸List.getElem_mem h2);have HX:=am hx;clear hx;obtain⟨b,hb⟩:∃b,p x=b:=⟨_,rfl⟩;rw[hb]at hcall;have HPX:=am hb;clear hb;obtain⟨xA,xn,xc⟩:=x;simp only at p0 hcall;have HCALL:=am hcall;clear hcall;cases b with
   |true=>
    go_wp2_with (first|(go_at_call 87;(with_reducible refine HCALL.out.mono ?_);rintro e wx ⟨rfl,hx⟩;have HBX:=am hx;clear hx))
    go_ret;exact⟨by rw[fidx_at k h2 HE.out (by rw[HX.out];exact HPX.out)];rfl,HB.out.trans (HBX.out.mono HB.out.size)⟩
   |false=>
    go_wp2_with (first|(go_at_call 87;(with_reducible refine HCALL.out.mono ?_);rintro e wx ⟨rfl,hx⟩;have HBX:=am hx;clear hx))
    go_roundw
    case rel=>exact⟨k+1,by omega,rfl,⟨fun j g1 g3=>by
      rcases Nat.lt_succ_iff_lt_or_eq.1 g3 with g|rfl
      ·exact HE.out j g1 g
      ·rw[HX.out];exact HPX.out⟩,⟨HB.out.trans (HBX.out.mono HB.out.size)⟩⟩
    case measure=>simp[intOf];omega
  ·have d1:decide ((k:Int)<n)=false:=decide_eq_false (by omega)
   go_wp2
   go_ret;exact⟨by rw[fidx_none (fun j hj=>HE.out j hj (by have:=HLN.out;omega))];rfl,HB.out⟩
theorem contains_key {W:World} (A:Option Addr) (n c q:Nat) (l:List SH) (p:SH→Bool) (h:Kd.C kH W A n l) (hs:n≤1000000)
  (hp:∀W',Below W.heap.size W W'→∀x∈l,Calls Tryz.prog 87 #[.slice x.A x.n x.c,.pointer (some ⟨q,0,none⟩)] W' fun e w'=>e= .returned (.bool (p x))∧Below W'.heap.size W' w'):
  Calls Tryz.prog 86 #[.slice A n c,.func (.func 87) #[] #[.pointer (some ⟨q,0,none⟩)]] W fun e w'=>e= .returned (.bool (l.any p))∧Below W.heap.size W w':=by
 have HC:=am (index_key A n c q l p h hs hp);obtain⟨r,hr⟩:∃r,l.any p=r:=⟨_,rfl⟩;rw[hr];have HR:=am (show decide (fidx p l≥0)=r by
  rw[←hr];by_cases e:l.any p=true
  ·rw[e];cases hf:l.findIdx? p with
   |none=>
    rw[List.findIdx?_eq_none_iff]at hf;obtain⟨x,hx,hpx⟩:=List.any_eq_true.1 e;have:=hf x hx;simp[hpx]at this
   |some i=>simp[fidx,hf]
  ·have e2:l.any p=false:=by simpa using e
   rw[e2,fidx_none (fun j hj=>by
    have:=List.any_eq_false.1 e2 l[j] (List.getElem_mem hj)
    simpa using this)]
   rfl)
 clear h hp hr;go_enter Tryz.func86,Tryz.ntmps86;obtain⟨z,hz⟩:∃z,fidx p l=z:=⟨_,rfl⟩;rw[hz]at HC HR;have hd:decide (z≥0)=r:=HR.out
 go_wp2_with (first|(go_at_call 110;(with_reducible refine HC.out.mono ?_);rintro e wx ⟨rfl,hx⟩;have HX:=am hx;clear hx))
 go_ret;exact⟨by rw[←hd];rfl,HX.out⟩
end Go.Proofs.YtfnimdhghglanaaGreat.Hand
end
