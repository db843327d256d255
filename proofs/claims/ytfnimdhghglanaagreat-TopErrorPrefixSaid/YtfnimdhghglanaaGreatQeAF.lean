/- TopErrorPrefix, part 6 of 41; no condition. (Printed from the session's own texts: what is not used left out, spaces spared.) -/
import Derived.Test.YtfnimdhghglanaaGreatQeAB
import Derived.Test.YtfnimdhghglanaaGreatQeAE
set_option maxRecDepth 100000
set_option maxHeartbeats 8000000
set_option linter.unusedVariables false
set_option linter.unusedSimpArgs false
section
namespace Go.Proofs.YtfnimdhghglanaaGreat.Hand
open Go.RowKit Go.Proofs.YtfnimdhghglanaaGreatW.PrintWords Go.Proofs.YtfnimdhghglanaaGreatW.PrintLast Go.Proofs.YtfnimdhghglanaaGreatW.PrintMore
attribute [local go_sem] max2_int min2_int max_two min_two max_three min_three max_four min_four
def SE.v (x:SE):Value:= .agg #[.int .i64 x.t,.slice x.k.A x.k.n x.k.c,.int .i64 x.lp,.int .i64 x.kd,.int .i64 x.pr,.int .i64 x.ar]
def Row (W:World) (base g n cap:Nat) (l:List SE):Prop:=Kd.R kE 49 W base (fun _=>True) (.slice (some ⟨g,0,none⟩) n cap) l
theorem Row.len {W:World} {base g n cap:Nat} {l:List SE} (h:Row W base g n cap l):n=l.length:=(Kd.R_reads' h).1
theorem Row.cells {W:World} {base g n cap:Nat} {l:List SE} (h:Row W base g n cap l) (i:Nat) (hi:i<l.length):
  W.cell? ⟨g,i*6,none⟩=some (.int .i64 l[i].t)∧W.cell? ⟨g,i*6+1,none⟩=some (.slice l[i].k.A l[i].k.n l[i].k.c)∧W.cell? ⟨g,i*6+2,none⟩=some (.int .i64 l[i].lp)∧W.cell? ⟨g,i*6+3,none⟩=some (.int .i64 l[i].kd)∧W.cell? ⟨g,i*6+4,none⟩=some (.int .i64 l[i].pr)∧W.cell? ⟨g,i*6+5,none⟩=some (.int .i64 l[i].ar):=by
 have hn:=h.len;obtain⟨c,_,hM,hc,_⟩:=Kd.R_elem h SE.zero (i:Int) (by omega) (by omega);rw[Int.toNat_natCast]at hM hc;have e4:l.getD i SE.zero=l[i]:=by simp[List.getD_eq_getElem?_getD,List.getElem?_eq_getElem hi]
 rw[e4]at hM;obtain rfl:c=SE.cells l[i]:=hM;exact⟨hc 0 _ rfl,hc 1 _ rfl,hc 2 _ rfl,hc 3 _ rfl,hc 4 _ rfl,hc 5 _ rfl⟩
theorem Row.free {W:World} {base g n cap:Nat} {l:List SE} (h:Row W base g n cap l) (j:Nat):W.frozen? ⟨g,j,none⟩=false:=by
 obtain⟨cells,hc⟩:=Kd.R_typed h g (by simp[Value.ownBlock]);exact blk_frozen hc _
theorem Row.set {W:World} {base g n cap:Nat} {l:List SE} (h:Row W base g n cap l) (i:Nat) (hi:i<l.length) (x:SE):Row (W.setCells g (i*6) x.cells) base g n cap (l.set i x)∧W.grownBy (W.setCells g (i*6) x.cells) (some g):=by
 have hn:=h.len;obtain⟨c,hl,hM,hc,_⟩:=Kd.R_elem h SE.zero (i:Int) (by omega) (by omega);have:=Kd.R_seg (okp:=fun _=>False) h (i:Int) (by omega) (by omega) (c:=c) (seg:=x.cells) (j:=0) (x':=x) hl hc (Nat.le_of_eq (by rfl)) (by
  have e6:c.length=6:=hl;show _=x.cells;rw[List.take_zero,List.nil_append,List.drop_eq_nil_of_le (by rw[e6];exact Nat.le_refl _),List.append_nil]) (fun _ h=>h.elim)
 rw[Int.toNat_natCast]at this;exact this
theorem getD_at {α:Type} (l:List α) (i:Nat) (hi:i<l.length) (z:α):l.getD i z=l[i]:=by simp[List.getD_eq_getElem?_getD,List.getElem?_eq_getElem hi]
def swp (l:List SE) (i j:Nat):List SE:=(l.set i (l.getD j SE.zero)).set j (l.getD i SE.zero)
theorem swp_length (l:List SE) (i j:Nat):(swp l i j).length=l.length:=by simp[swp]
theorem grown_refl (w:World) (r:Option Nat):w.grownBy w r:=⟨rfl,rfl,rfl,Nat.le_refl _,fun _ _ _=>rfl⟩
theorem grown_trans {w w1 w2:World} {r:Option Nat} (h:w.grownBy w1 r) (k:w1.grownBy w2 r):w.grownBy w2 r:=⟨k.os.trans h.os,k.tape.trans h.tape,k.output.trans h.output,Nat.le_trans h.size k.size,fun j hj hn=>(k.block j (Nat.lt_of_lt_of_le hj h.size) hn).trans (h.block j hj hn)⟩
theorem grown_drew (w:World) (r:Option Nat):w.grownBy w.drew r:=grown_of_below (below_drew (Below.refl _ _)) r
structure RowTo (W w':World) (base g n cap:Nat) (l':List SE):Prop where
 row:Row w' base g n cap l'
 grown:W.grownBy w' (some g)
 below:Below base W w'
theorem RowTo.refl {W:World} {base g n cap:Nat} {l:List SE} (h:Row W base g n cap l):RowTo W W base g n cap l:=⟨h,grown_refl _ _,Below.refl _ _⟩
theorem RowTo.trans {W w1 w2:World} {base g n cap:Nat} {l l':List SE} (h:RowTo W w1 base g n cap l) (k:RowTo w1 w2 base g n cap l'):RowTo W w2 base g n cap l':=⟨k.row,grown_trans h.grown k.grown,h.below.trans k.below⟩
theorem RowTo.drew {W w1:World} {base g n cap:Nat} {l:List SE} (h:RowTo W w1 base g n cap l):RowTo W w1.drew base g n cap l:=⟨Kd.R_drew h.row,grown_trans h.grown (grown_drew _ _),below_drew h.below⟩
theorem Row.put {W:World} {base g n cap:Nat} {l:List SE} (h:Row W base g n cap l) (i:Nat) (hi:i<l.length) (x:SE):RowTo W (W.setCells g (i*6) x.cells) base g n cap (l.set i x):=by
 obtain⟨h1,h2⟩:=h.set i hi x;have hb:=Kd.R_base h g (by simp[Value.ownBlock]);have hlt:=Kd.R_lt h g (by simp[Value.ownBlock]);exact⟨h1,h2,(Below.refl base W).grown h2 (by omega) (fun k hk=>by injection hk with hk;omega)⟩
theorem Row.swap {W:World} {base g n cap:Nat} {l:List SE} (h:Row W base g n cap l) (i j:Nat) (hi:i<l.length) (hj:j<l.length) (x y:SE) (hx:x=l.getD i SE.zero) (hy:y=l.getD j SE.zero):
  RowTo W ((W.setCells g (i*6) y.cells).setCells g (j*6) x.cells) base g n cap (swp l i j):=by
 have h1:=h.put i hi y;have h2:=h1.row.put j (by rw[List.length_set];exact hj) x;have:=h1.trans h2
 rwa [hx,hy]at this ⊢
def swpR (l:List SE) (a b:Nat):Nat→List SE
 |0=>l
 |k+1=>swp (swpR l a b k) (a+k) (b+k)
theorem swpR_length (l:List SE) (a b k:Nat):(swpR l a b k).length=l.length:=by
 induction k with
 |zero=>rfl
 |succ k ih=>rw[swpR,swp_length,ih]
theorem swapRange_calls {W:World} {base g N cap:Nat} {l:List SE} (fv:Value) (h:Row W base g N cap l) (a b n:Nat) (hab:a+n≤b) (hb:b+n≤l.length) (hs:l.length≤1000000):
  Calls Tryz.prog 155 #[.slice (some ⟨g,0,none⟩) N cap,.int .i64 a,.int .i64 b,.int .i64 n,fv] W fun e w'=>e= .returned (.tuple #[])∧Row w' base g N cap (swpR l a b n)∧W.grownBy w' (some g)∧Below base W w':=by
 have hN:=h.len;subst hN;have H:=am h;clear h;go_enter Tryz.func155,Tryz.ntmps155
 go_wp2_with (fail)
 go_loopw [10] (fun i w'=>∃k:Nat,k≤n∧i= .int .i64 k∧Aside0 (Row w' base g l.length cap (swpR l a b k))∧Aside0 (W.grownBy w' (some g))∧Aside0 (Below base W w')) (fun i _=>n-(intOf i).toNat)
 case atStart=>exact⟨0,Nat.zero_le _,rfl,H,⟨grown_refl _ _⟩,⟨Below.refl _ _⟩⟩
 case round=>
  obtain⟨k,hk,rfl,HR,HG,HB⟩:=hrel;by_cases hlt:k<n
  ·have hl:=swpR_length l a b k;obtain⟨p0,p1,p2,p3,p4,p5⟩:=HR.out.cells (a+k) (by omega);obtain⟨q0,q1,q2,q3,q4,q5⟩:=HR.out.cells (b+k) (by omega);have fr:=HR.out.free;have HD:=am (show(swpR l a b k)[a+k]=(swpR l a b k).getD (a+k) SE.zero from(getD_at _ _ _ _).symm);have HD2:=am (show(swpR l a b k)[b+k]=(swpR l a b k).getD (b+k) SE.zero from(getD_at _ _ _ _).symm);generalize (swpR l a b k)[a+k]=x at*;generalize (swpR l a b k)[b+k]=y at*;obtain⟨xt,⟨xA,xn,xc⟩,xl,xd,xp,xa⟩:=x;obtain⟨yt,⟨yA,yn,yc⟩,yl,yd,yp,ya⟩:=y;simp only at p0 p1 p2 p3 p4 p5 q0 q1 q2 q3 q4 q5;have HL:=am hl
   have w1:IntKind.i64.wrap ((a:Int)+(k:Int))=(a:Int)+k:=(i64_w _).trans (by unfold Go.RowKit.wrap64;omega);have w2:IntKind.i64.wrap ((b:Int)+(k:Int))=(b:Int)+k:=(i64_w _).trans (by unfold Go.RowKit.wrap64;omega);have t1:((a:Int)+(k:Int)).toNat=a+k:=by omega
   have t2:((b:Int)+(k:Int)).toNat=b+k:=by omega
   have z1:(0:Int)≤(a:Int)+k:=by omega
   have z2:(0:Int)≤(b:Int)+k:=by omega
   have m1:(a:Int)+k<(l.length:Nat):=by omega
   have m2:(b:Int)+k<(l.length:Nat):=by omega
   have d1:decide ((k:Int)<(n:Int))=true:=decide_eq_true (by omega);clear hl;go_upto_region 3 with (fail)
   go_region_with (fail)
   all_goals clear p0 p1 p2 p3 p4 p5 q0 q1 q2 q3 q4 q5
   all_goals go_wp2_with (fail)
   all_goals go_roundw
   all_goals first
    |(simp[intOf];omega;done)
    |(exact(fun HT=>⟨k+1,by omega,by go_num,⟨HT.row⟩,⟨HT.grown⟩,⟨HT.below⟩⟩) ((⟨HR.out,HG.out,HB.out⟩:RowTo W wr base g l.length cap (swpR l a b k)).trans (HR.out.swap (a+k) (b+k) (by rw[HL.out];omega) (by rw[HL.out];omega) _ _ HD.out HD2.out).drew))
    |(exact(fun HT=>⟨k+1,by omega,by go_num,⟨HT.row⟩,⟨HT.grown⟩,⟨HT.below⟩⟩) ((⟨HR.out,HG.out,HB.out⟩:RowTo W wr base g l.length cap (swpR l a b k)).trans (HR.out.swap' (a+k) (b+k) (by rw[HL.out];omega) (by rw[HL.out];omega) (by omega) _ _ HD.out HD2.out).drew))
  ·obtain rfl:k=n:=by omega
   have d1:decide ((k:Int)<(k:Int))=false:=decide_eq_false (by omega)
   go_wp2_with (fail)
   go_end0
   exact⟨rfl,HR.out,HG.out,HB.out⟩
theorem swapRange_calls' {W:World} {base g N cap:Nat} {l:List SE} (fv:Value) (h:Row W base g N cap l) (xa xb xn:Int) (a b n:Nat) (ea:xa=(a:Nat)) (eb:xb=(b:Nat)) (en:xn=(n:Nat)) (hab:a+n≤b) (hb:b+n≤l.length) (hs:l.length≤1000000):
  Calls Tryz.prog 155 #[.slice (some ⟨g,0,none⟩) N cap,.int .i64 xa,.int .i64 xb,.int .i64 xn,fv] W fun e w'=>e= .returned (.tuple #[])∧RowTo W w' base g N cap (swpR l a b n):=by
 subst ea eb en;exact(swapRange_calls fv h a b n hab hb hs).mono fun e w' ⟨h1,h2,h3,h4⟩=>⟨h1,h2,h3,h4⟩
theorem getD_set {α:Type} (l:List α) (i k:Nat) (x z:α) (hi:i<l.length):(l.set i x).getD k z=if k=i then x else l.getD k z:=by
 rw[List.getD_eq_getElem?_getD,List.getD_eq_getElem?_getD,List.getElem?_set];by_cases h:k=i
 ·subst h;rw[if_pos rfl,if_pos rfl,if_pos hi];rfl
 ·rw[if_neg (fun e=>h e.symm),if_neg h]
theorem swp_get (l:List SE) (i j k:Nat) (hi:i<l.length) (hj:j<l.length):(swp l i j).getD k SE.zero=if k=j then l.getD i SE.zero else if k=i then l.getD j SE.zero else l.getD k SE.zero:=by
 unfold swp;rw[getD_set _ _ _ _ _ (by rw[List.length_set];exact hj)]
 split
 ·rfl
 ·rw[getD_set _ _ _ _ _ hi]
theorem swpR_get (l:List SE) (a b n:Nat) (hab:a+n≤b) (hb:b+n≤l.length) (k:Nat):(swpR l a b n).getD k SE.zero=if a≤k∧k<a+n then l.getD (k+(b-a)) SE.zero else if b≤k∧k<b+n then l.getD (k-(b-a)) SE.zero else l.getD k SE.zero:=by
 induction n generalizing k with
 |zero=>
  rw[if_neg (by omega),if_neg (by omega)];rfl
 |succ n ih=>
  have ih:=ih (by omega) (by omega);rw[swpR,swp_get _ _ _ _ (by rw[swpR_length];omega) (by rw[swpR_length];omega)];rw[ih (a+n),ih (b+n),ih k];rw[if_neg (by omega:¬(a≤a+n∧a+n<a+n)),if_neg (by omega:¬(b≤a+n∧a+n<b+n)),if_neg (by omega:¬(a≤b+n∧b+n<a+n)),if_neg (by omega:¬(b≤b+n∧b+n<b+n))];by_cases h1:k=b+n
  ·subst h1;rw[if_pos rfl,if_neg (by omega),if_pos (by omega)]
   congr 1
   omega
  ·rw[if_neg h1];by_cases h2:k=a+n
   ·subst h2;rw[if_pos rfl,if_pos (by omega)]
    congr 1
    omega
   ·rw[if_neg h2];by_cases h3:a≤k∧k<a+n
    ·rw[if_pos h3,if_pos (show a≤k∧k<a+(n+1)by omega)]
    ·rw[if_neg h3,if_neg (show¬(a≤k∧k<a+(n+1))by omega)];by_cases h4:b≤k∧k<b+n
     ·rw[if_pos h4,if_pos (show b≤k∧k<b+(n+1)by omega)]
     ·rw[if_neg h4,if_neg (show¬(b≤k∧k<b+(n+1))by omega)]
def rotT (l:List SE) (a m b k:Nat):SE:=if a≤k∧k<a+(b-m)then l.getD (k+(m-a)) SE.zero else if a+(b-m)≤k∧k<b then l.getD (k-(b-m)) SE.zero else l.getD k SE.zero
def rotL (l:List SE) (a m b:Nat):List SE:=(List.range l.length).map (rotT l a m b)
theorem rotL_length (l:List SE) (a m b:Nat):(rotL l a m b).length=l.length:=by simp[rotL]
theorem rotL_get (l:List SE) (a m b k:Nat) (hk:k<l.length):(rotL l a m b).getD k SE.zero=rotT l a m b k:=by
 rw[getD_at _ _ (by rw[rotL_length];exact hk)];simp[rotL]
theorem ext_getD {l l':List SE} (h:l.length=l'.length) (f:∀k,k<l.length→l.getD k SE.zero=l'.getD k SE.zero):l=l':=by
 refine List.ext_getElem h fun k h1 h2=> ?_;have:=f k h1
 rwa [getD_at _ _ h1,getD_at _ _ h2]at this
structure RotI (l l':List SE) (a m b p q:Nat):Prop where
 len:l'.length=l.length
 out:∀k,k<m-p∨m+q≤k→l'.getD k SE.zero=rotT l a m b k
 lo:∀k,m-p≤k→k<m-p+q→rotT l a m b k=l'.getD (k+p) SE.zero
 hi:∀k,m-p+q≤k→k<m+q→rotT l a m b k=l'.getD (k-q) SE.zero
theorem RotI.start (l:List SE) (a m b:Nat) (h1:a≤m) (h2:m≤b):RotI l l a m b (m-a) (b-m):=by
 refine⟨rfl,fun k h=> ?_,fun k g1 g2=> ?_,fun k g1 g2=> ?_⟩
 ·unfold rotT;rw[if_neg (by omega),if_neg (by omega)]
 ·unfold rotT;rw[if_pos (by omega)]
 ·unfold rotT;rw[if_neg (by omega),if_pos (by omega)]
theorem RotI.left {l l':List SE} {a m b p q:Nat} (h:RotI l l' a m b p q) (hq:q<p) (hpm:p≤m) (hb:m+q≤l.length):RotI l (swpR l' (m-p) m q) a m b (p-q) q:=by
 have g:=swpR_get l' (m-p) m q (by omega) (by rw[h.len];omega);refine⟨by rw[swpR_length,h.len],fun k hk=> ?_,fun k h1 h2=> ?_,fun k h1 h2=> ?_⟩
 ·rw[g];by_cases c:m-p≤k∧k<m-p+q
  ·rw[if_pos c,h.lo k c.1 c.2]
   congr 1
   omega
  ·rw[if_neg c,if_neg (by omega)];exact h.out k (by omega)
 ·rw[g,if_neg (by omega),if_pos (by omega),h.hi k (by omega) (by omega)]
  congr 1
  omega
 ·rw[g,if_neg (by omega),if_neg (by omega),h.hi k (by omega) (by omega)]
theorem RotI.right {l l':List SE} {a m b p q:Nat} (h:RotI l l' a m b p q) (hq:p<q) (hpm:p≤m) (hb:m+q≤l.length):RotI l (swpR l' (m-p) (m+q-p) p) a m b p (q-p):=by
 have g:=swpR_get l' (m-p) (m+q-p) p (by omega) (by rw[h.len];omega);refine⟨by rw[swpR_length,h.len],fun k hk=> ?_,fun k h1 h2=> ?_,fun k h1 h2=> ?_⟩
 ·rw[g];by_cases c:m+q-p≤k∧k<m+q-p+p
  ·rw[if_neg (by omega),if_pos c,h.hi k (by omega) (by omega)]
   congr 1
   omega
  ·rw[if_neg (by omega),if_neg c];exact h.out k (by omega)
 ·rw[g,if_neg (by omega),if_neg (by omega),h.lo k (by omega) (by omega)]
 ·rw[g,if_pos (by omega),h.lo k (by omega) (by omega)]
  congr 1
  omega
theorem RotI.stop {l l':List SE} {a m b p:Nat} (h:RotI l l' a m b p p) (hpm:p≤m) (hb:m+p≤l.length):swpR l' (m-p) m p=rotL l a m b:=by
 have g:=swpR_get l' (m-p) m p (by omega) (by rw[h.len];omega);refine ext_getD (by rw[swpR_length,h.len,rotL_length]) fun k hk=> ?_;rw[swpR_length,h.len]at hk;rw[rotL_get _ _ _ _ _ hk,g];by_cases c:m-p≤k∧k<m-p+p
 ·rw[if_pos c,h.lo k c.1 c.2]
  congr 1
  omega
 ·rw[if_neg c];by_cases c2:m≤k∧k<m+p
  ·rw[if_pos c2,h.hi k (by omega) (by omega)]
   congr 1
   omega
  ·rw[if_neg c2];exact h.out k (by omega)
theorem rotate_calls {W:World} {base g N cap:Nat} {l:List SE} (fv:Value) (h:Row W base g N cap l) (a m b:Nat) (h1:a<m) (h2:m<b) (hb:b≤l.length) (hs:l.length≤1000000):
  Calls Tryz.prog 150 #[.slice (some ⟨g,0,none⟩) N cap,.int .i64 a,.int .i64 m,.int .i64 b,fv] W fun e w'=>e= .returned (.tuple #[])∧RowTo W w' base g N cap (rotL l a m b):=by
 have H:=am (RowTo.refl h);have w1:IntKind.i64.wrap ((m:Int)-(a:Int))=((m-a:Nat):Int):=(i64_w _).trans (by unfold Go.RowKit.wrap64;omega);have w2:IntKind.i64.wrap ((b:Int)-(m:Int))=((b-m:Nat):Int):=(i64_w _).trans (by unfold Go.RowKit.wrap64;omega);clear h;go_enter Tryz.func150,Tryz.ntmps150
 go_wp2_with (fail)
 go_loopw [10,11] (fun i j w'=>∃p q:Nat,0<p∧0<q∧p≤m-a∧q≤b-m∧i= .int .i64 p∧j= .int .i64 q∧∃l',Aside0 (RowTo W w' base g N cap l')∧Aside0 (RotI l l' a m b p q)) (fun i j _=>(intOf i).toNat+(intOf j).toNat)
 case atStart=>exact⟨m-a,b-m,by omega,by omega,Nat.le_refl _,Nat.le_refl _,rfl,rfl,l,H,⟨RotI.start l a m b (by omega) (by omega)⟩⟩
 case round=>
  clear H;obtain⟨p,q,hp,hq,hpa,hqb,rfl,rfl,l',HR,HI⟩:=hrel;have hln:=HI.out.len;by_cases e:p=q
  ·subst e;have HC:=am (swapRange_calls' fv HR.out.row ((m:Int)-p) m p (m-p) m p (by omega) rfl rfl (by omega) (by rw[hln];omega) (by rw[hln];exact hs));have e1:((p:Int) != (p:Int))=false:=by simp
   have w3:IntKind.i64.wrap ((m:Int)-(p:Int))=(m:Int)-p:=(i64_w _).trans (by unfold Go.RowKit.wrap64;omega)
   go_wp2_with (first|(go_at_call 155;(with_reducible refine HC.out.mono ?_);rintro e wx ⟨rfl,hx⟩;have HX:=am hx;clear hx))
   go_end0
   have:=HR.out.trans HX.out;rw[HI.out.stop (by omega) (by omega)]at this;exact⟨rfl,this⟩
  ·have e0:((p:Int) != (q:Int))=true:=by simp;omega
   by_cases hlt:q<p
   ·have e1:decide ((q:Int)<(p:Int))=true:=decide_eq_true (by omega);have HC:=am (swapRange_calls' fv HR.out.row ((m:Int)-p) m q (m-p) m q (by omega) rfl rfl (by omega) (by rw[hln];omega) (by rw[hln];exact hs));have w3:IntKind.i64.wrap ((m:Int)-(p:Int))=(m:Int)-p:=(i64_w _).trans (by unfold Go.RowKit.wrap64;omega);have w4:IntKind.i64.wrap ((p:Int)-(q:Int))=((p-q:Nat):Int):=(i64_w _).trans (by unfold Go.RowKit.wrap64;omega)
    go_wp2_with (first|(go_at_call 155;(with_reducible refine HC.out.mono ?_);rintro e wx ⟨rfl,hx⟩;have HX:=am hx;clear hx))
    go_roundw
    case rel=>exact⟨p-q,q,by omega,by omega,by omega,by omega,rfl,rfl,_,⟨HR.out.trans HX.out⟩,⟨HI.out.left (by omega) (by omega) (by omega)⟩⟩
    case measure=>simp[intOf];omega
   ·have e1:decide ((q:Int)<(p:Int))=false:=decide_eq_false (by omega);have HC:=am (swapRange_calls' fv HR.out.row ((m:Int)-p) ((m:Int)+q-p) p (m-p) (m+q-p) p (by omega) (by omega) rfl (by omega) (by rw[hln];omega) (by rw[hln];exact hs));have w3:IntKind.i64.wrap ((m:Int)-(p:Int))=(m:Int)-p:=(i64_w _).trans (by unfold Go.RowKit.wrap64;omega);have w5:IntKind.i64.wrap ((m:Int)+(q:Int))=(m:Int)+q:=(i64_w _).trans (by unfold Go.RowKit.wrap64;omega);have w6:IntKind.i64.wrap ((m:Int)+(q:Int)-(p:Int))=(m:Int)+q-p:=(i64_w _).trans (by unfold Go.RowKit.wrap64;omega)
    have w4:IntKind.i64.wrap ((q:Int)-(p:Int))=((q-p:Nat):Int):=(i64_w _).trans (by unfold Go.RowKit.wrap64;omega)
    go_wp2_with (first|(go_at_call 155;(with_reducible refine HC.out.mono ?_);rintro e wx ⟨rfl,hx⟩;have HX:=am hx;clear hx))
    go_roundw
    case rel=>exact⟨p,q-p,by omega,by omega,by omega,by omega,rfl,rfl,_,⟨HR.out.trans HX.out⟩,⟨HI.out.right (by omega) (by omega) (by omega)⟩⟩
    case measure=>simp[intOf];omega
structure Weak (cmp:SE→SE→Int):Prop where
 asym:∀x y,cmp x y<0→¬cmp y x<0
 trans:∀x y z,¬cmp y x<0→¬cmp z y<0→¬cmp z x<0
structure Cmp (W:World) (g:Nat) (l0:List SE) (cmp:SE→SE→Int):Prop where
 weak:Weak cmp
 call:∀W',Keep (·=g) W W'→∀x y,x∈l0→y∈l0→Calls Tryz.prog 103 #[x.v,y.v] W' fun e w'=>e= .returned (.int .i64 (cmp x y))∧Below W'.heap.size W' w'
theorem RowTo.keep {W w':World} {base g n cap:Nat} {l:List SE} (h:RowTo W w' base g n cap l):Keep (·=g) W w':=Keep.grown h.grown (fun k hk=>by injection hk with hk;exact hk.symm)
theorem Row.base_le {W:World} {base g n cap:Nat} {l:List SE} (h:Row W base g n cap l):base≤W.heap.size:=by
 have hb:=Kd.R_base h g (by simp[Value.ownBlock]);have hlt:=Kd.R_lt h g (by simp[Value.ownBlock]);omega
theorem RowTo.more {W w1 w2:World} {base g n cap:Nat} {l:List SE} (h:RowTo W w1 base g n cap l) (k:Below w1.heap.size w1 w2):RowTo W w2 base g n cap l:=⟨Kd.R_below h.row k,grown_trans h.grown (grown_of_below k _),h.below.trans (k.mono h.row.base_le)⟩
def leA (cmp:SE→SE→Int) (l:List SE) (x y:Nat):Prop:=¬cmp (l.getD y SE.zero) (l.getD x SE.zero)<0
def SortedOn (cmp:SE→SE→Int) (l:List SE) (a b:Nat):Prop:=∀p q,a≤p→p<q→q<b→leA cmp l p q
structure Seg (l l':List SE) (a b:Nat):Prop where
 len:l'.length=l.length
 perm:l'.Perm l
 out:∀k,k<a∨b≤k→l'.getD k SE.zero=l.getD k SE.zero
 src:∀k,a≤k→k<b→∃k',a≤k'∧k'<b∧l'.getD k SE.zero=l.getD k' SE.zero
theorem Seg.refl (l:List SE) (a b:Nat):Seg l l a b:=⟨rfl,.refl _,fun _ _=>rfl,fun k h1 h2=>⟨k,h1,h2,rfl⟩⟩
theorem Seg.trans {l l1 l2:List SE} {a b:Nat} (h:Seg l l1 a b) (k:Seg l1 l2 a b):Seg l l2 a b:=⟨k.len.trans h.len,k.perm.trans h.perm,fun i hi=>(k.out i hi).trans (h.out i hi),fun i h1 h2=>by
 obtain⟨j,g1,g2,g3⟩:=k.src i h1 h2;obtain⟨n,f1,f2,f3⟩:=h.src j g1 g2;exact⟨n,f1,f2,g3.trans f3⟩⟩
theorem Seg.wide {l l':List SE} {a b a' b':Nat} (h:Seg l l' a b) (ha:a'≤a) (hb:b≤b'):Seg l l' a' b':=⟨h.len,h.perm,fun k hk=>h.out k (by omega),fun k h1 h2=>by
 by_cases c:a≤k∧k<b
 ·obtain⟨j,g1,g2,g3⟩:=h.src k c.1 c.2;exact⟨j,by omega,by omega,g3⟩
 ·exact⟨k,h1,h2,h.out k (by omega)⟩⟩
theorem swp_perm (l:List SE) (i j:Nat) (hi:i<l.length) (hj:j<l.length):(swp l i j).Perm l:=by
 unfold swp;rw[getD_at l j hj,getD_at l i hi];exact List.set_set_perm hi hj
theorem Seg.swp {l:List SE} {a b i j:Nat} (h1:a≤i) (h2:i<b) (h3:a≤j) (h4:j<b) (hb:b≤l.length):Seg l (swp l i j) a b:=⟨swp_length _ _ _,swp_perm l i j (by omega) (by omega),fun k hk=>by rw[swp_get _ _ _ _ (by omega) (by omega),if_neg (by omega),if_neg (by omega)],fun k g1 g2=>by
 rw[swp_get _ _ _ _ (by omega) (by omega)];by_cases c1:k=j
 ·rw[if_pos c1];exact⟨i,h1,h2,rfl⟩
 ·rw[if_neg c1];by_cases c2:k=i
  ·rw[if_pos c2];exact⟨j,h3,h4,rfl⟩
  ·rw[if_neg c2];exact⟨k,g1,g2,rfl⟩⟩
def InsI (cmp:SE→SE→Int) (l:List SE) (a i j:Nat):Prop:=∀p q,a≤p→p<q→q≤i→q≠j→leA cmp l p q
theorem InsI.start {cmp:SE→SE→Int} {l:List SE} {a i:Nat} (h:SortedOn cmp l a i):InsI cmp l a i i:=fun p q h1 h2 h3 h4=>h p q h1 h2 (by omega)
theorem InsI.step {cmp:SE→SE→Int} {l:List SE} {a i j:Nat} (hw:Weak cmp) (h:InsI cmp l a i j) (haj:a<j) (hji:j≤i) (hi:i<l.length) (hc:cmp (l.getD j SE.zero) (l.getD (j-1) SE.zero)<0):InsI cmp (swp l j (j-1)) a i (j-1):=by
 intro p q h1 h2 h3 h4;unfold leA;rw[swp_get _ _ _ _ (by omega) (by omega),swp_get _ _ _ _ (by omega) (by omega),if_neg h4];by_cases e1:q=j
 ·subst e1;rw[if_pos rfl];by_cases e2:p=q-1
  ·rw[if_pos e2];exact hw.asym _ _ hc
  ·rw[if_neg e2,if_neg (by omega)];exact h p (q-1) h1 (by omega) (by omega) (by omega)
 ·rw[if_neg e1];by_cases e2:p=j-1
  ·rw[if_pos e2];exact h j q (by omega) (by omega) h3 e1
  ·rw[if_neg e2];by_cases e3:p=j
   ·rw[if_pos e3];exact h (j-1) q (by omega) (by omega) h3 e1
   ·rw[if_neg e3];exact h p q h1 h2 h3 e1
theorem InsI.stop {cmp:SE→SE→Int} {l:List SE} {a i j:Nat} (hw:Weak cmp) (h:InsI cmp l a i j) (hj:a≤j) (hji:j≤i) (hc:j=a∨¬cmp (l.getD j SE.zero) (l.getD (j-1) SE.zero)<0):SortedOn cmp l a (i+1):=by
 intro p q h1 h2 h3;by_cases e:q=j
 ·subst e;rcases hc with hc|hc
  ·omega
  ·by_cases e2:p=q-1
   ·rw[e2];exact hc
   ·exact hw.trans _ _ _ (h p (q-1) h1 (by omega) (by omega) (by omega)) hc
 ·exact h p q h1 h2 (by omega) e
theorem insertion_calls {W:World} {base g N cap:Nat} {l:List SE} {cmp:SE→SE→Int} (h:Row W base g N cap l) (hc:Cmp W g l cmp) (a b:Nat) (hab:a≤b) (hb:b≤l.length) (hs:l.length≤1000000):
  Calls Tryz.prog 133 #[.slice (some ⟨g,0,none⟩) N cap,.int .i64 a,.int .i64 b,.func (.func 103) #[] #[]] W fun e w'=>e= .returned (.tuple #[])∧∃l',RowTo W w' base g N cap l'∧Seg l l' a b∧SortedOn cmp l' a b:=by
 have hN:=h.len;have H:=am (RowTo.refl h);have HC:=am hc;have HW:=am hc.weak;have w1:IntKind.i64.wrap ((a:Int)+1)=((a+1:Nat):Int):=(i64_w _).trans (by unfold Go.RowKit.wrap64;omega);clear h hc;subst hN;go_enter Tryz.func133,Tryz.ntmps133
 go_wp2_with (fail)
 go_loopw [8] (fun i w'=>∃p:Nat,a+1≤p∧(p≤b∨p=a+1)∧i= .int .i64 p∧∃l',Aside0 (RowTo W w' base g l.length cap l')∧Aside0 (Seg l l' a b)∧Aside0 (SortedOn cmp l' a p)) (fun i _=>b-(intOf i).toNat)
 case atStart=>exact⟨a+1,Nat.le_refl _,.inr rfl,rfl,l,H,⟨Seg.refl _ _ _⟩,⟨fun p q h1 h2 h3=>by omega⟩⟩
 case round=>
  clear H w1;obtain⟨i,ha1,hp1,rfl,l1,HR,HS,HT⟩:=hrel;by_cases hib:i<b
  ·have d1:decide ((i:Int)<(b:Int))=true:=decide_eq_true (by omega);have w1:IntKind.i64.wrap ((i:Int)+1)=((i+1:Nat):Int):=(i64_w _).trans (by unfold Go.RowKit.wrap64;omega)
   go_wp2_with (fail)
   go_loopw [9] (fun jv w'=>∃j:Nat,a≤j∧j≤i∧jv= .int .i64 j∧∃l',Aside0 (RowTo W w' base g l.length cap l')∧Aside0 (Seg l l' a b)∧Aside0 (InsI cmp l' a i j)) (fun jv _=>(intOf jv).toNat)
   case atStart=>exact⟨i,by omega,Nat.le_refl _,rfl,l1,HR,HS,⟨InsI.start HT.out⟩⟩
   case round=>
    clear HR HS HT l1;obtain⟨j,hj1,hj2,rfl,l2,HR,HS,HI⟩:=hrel;by_cases hja:a<j
    ·have d2:decide ((a:Int)<(j:Int))=true:=decide_eq_true (by omega);have hl:=HS.out.len;obtain⟨p0,p1,p2,p3,p4,p5⟩:=HR.out.row.cells j (by omega);obtain⟨q0,q1,q2,q3,q4,q5⟩:=HR.out.row.cells (j-1) (by omega);have fr:=HR.out.row.free;have HX:=am (getD_at l2 j (by omega) SE.zero);have HY:=am (getD_at l2 (j-1) (by omega) SE.zero);have hm1:l2[j]∈l:=HS.out.perm.subset (List.getElem_mem _);have hm2:l2[j-1]∈l:=HS.out.perm.subset (List.getElem_mem _);have hcall:=HC.out.call wr.drew (HR.out.drew.keep) _ _ hm1 hm2;clear hm1 hm2;generalize l2[j]=x at*;generalize l2[j-1]=y at*
     obtain⟨c,hcc⟩:∃c,cmp x y=c:=⟨_,rfl⟩;rw[hcc]at hcall;have HCC:=am hcc;clear hcc;obtain⟨xt,⟨xA,xn,xc⟩,xl,xd,xp,xa⟩:=x;obtain⟨yt,⟨yA,yn,yc⟩,yl,yd,yp,ya⟩:=y;simp only[SE.v]at p0 p1 p2 p3 p4 p5 q0 q1 q2 q3 q4 q5 hcall;have HCALL:=am hcall;have HL:=am hl;clear hcall hl;have HLT:=am (show∀wx,Below wr.drew.heap.size wr.drew wx→∀j,wx.cell? ⟨g,j,none⟩=wr.cell? ⟨g,j,none⟩from fun wx hb j=>hb.cell (p:=⟨g,j,none⟩) (Kd.R_lt HR.out.drew.row g (by simp[Value.ownBlock])));have w3:IntKind.i64.wrap ((j:Int)-1)=((j-1:Nat):Int):=(i64_w _).trans (by unfold Go.RowKit.wrap64;omega)
     have m1:(j:Int)<(l.length:Nat):=by omega
     have m2:((j-1:Nat):Int)<(l.length:Nat):=by omega
     by_cases hlt:c<0
     ·have d3:decide (c<0)=true:=decide_eq_true hlt;go_upto_region 4 with (fail)
      go_region_held3 (fun w'=>w'.cell? ⟨g,j*6,none⟩=some (.int .i64 xt)∧w'.cell? ⟨g,j*6+1,none⟩=some (.slice xA xn xc)∧w'.cell? ⟨g,j*6+2,none⟩=some (.int .i64 xl)∧w'.cell? ⟨g,j*6+3,none⟩=some (.int .i64 xd)∧w'.cell? ⟨g,j*6+4,none⟩=some (.int .i64 xp)∧w'.cell? ⟨g,j*6+5,none⟩=some (.int .i64 xa)
       ∧w'.cell? ⟨g,(j-1)*6,none⟩=some (.int .i64 yt)∧w'.cell? ⟨g,(j-1)*6+1,none⟩=some (.slice yA yn yc)∧w'.cell? ⟨g,(j-1)*6+2,none⟩=some (.int .i64 yl)∧w'.cell? ⟨g,(j-1)*6+3,none⟩=some (.int .i64 yd)∧w'.cell? ⟨g,(j-1)*6+4,none⟩=some (.int .i64 yp)∧w'.cell? ⟨g,(j-1)*6+5,none⟩=some (.int .i64 ya)) (go_keep)
       (first|(go_at_call 103;(with_reducible refine HCALL.out.mono ?_);rintro e wx ⟨rfl,hb⟩;have HB:=am hb;have hcl:=HLT.out wx hb;clear hb))
      have HRX:=am (HR.out.drew.more HB.out);have p0:=(hcl _).trans p0;have p1:=(hcl _).trans p1;have p2:=(hcl _).trans p2;have p3:=(hcl _).trans p3;have p4:=(hcl _).trans p4;have p5:=(hcl _).trans p5;have q0:=(hcl _).trans q0;have q1:=(hcl _).trans q1;have q2:=(hcl _).trans q2;have q3:=(hcl _).trans q3;have q4:=(hcl _).trans q4;have q5:=(hcl _).trans q5;have fr:=HRX.out.row.free;clear hcl HB;go_upto_region 6 with (fail)
      go_region_with (fail)
      all_goals clear p0 p1 p2 p3 p4 p5 q0 q1 q2 q3 q4 q5 fr
      all_goals go_wp2_with (fail)
      all_goals go_roundw
      all_goals first
       |(simp[intOf];omega;done)
       |(exact(fun HT=>⟨j-1,by omega,by omega,rfl,_,⟨HT⟩,⟨HS.out.trans (Seg.swp (by omega) (by omega) (by omega) (by omega) (by rw[HL.out];exact hb))⟩,⟨HI.out.step HW.out hja hj2 (by rw[HL.out];omega) (by rw[HX.out,HY.out,HCC.out];exact hlt)⟩⟩) (HRX.out.trans (HRX.out.row.swap j (j-1) (by rw[HL.out];omega) (by rw[HL.out];omega) _ _ HX.out.symm HY.out.symm).drew))
       |(exact(fun HT=>⟨j-1,by omega,by omega,rfl,_,⟨HT⟩,⟨HS.out.trans (Seg.swp (by omega) (by omega) (by omega) (by omega) (by rw[HL.out];exact hb))⟩,⟨HI.out.step HW.out hja hj2 (by rw[HL.out];omega) (by rw[HX.out,HY.out,HCC.out];exact hlt)⟩⟩) (HRX.out.trans (HRX.out.row.swap' j (j-1) (by rw[HL.out];omega) (by rw[HL.out];omega) (by omega) _ _ HX.out.symm HY.out.symm).drew))
     ·have d3:decide (c<0)=false:=decide_eq_false hlt;go_upto_region 4 with (fail)
      go_region_held3 (fun w'=>w'.cell? ⟨g,j*6,none⟩=some (.int .i64 xt)∧w'.cell? ⟨g,j*6+1,none⟩=some (.slice xA xn xc)∧w'.cell? ⟨g,j*6+2,none⟩=some (.int .i64 xl)∧w'.cell? ⟨g,j*6+3,none⟩=some (.int .i64 xd)∧w'.cell? ⟨g,j*6+4,none⟩=some (.int .i64 xp)∧w'.cell? ⟨g,j*6+5,none⟩=some (.int .i64 xa)
       ∧w'.cell? ⟨g,(j-1)*6,none⟩=some (.int .i64 yt)∧w'.cell? ⟨g,(j-1)*6+1,none⟩=some (.slice yA yn yc)∧w'.cell? ⟨g,(j-1)*6+2,none⟩=some (.int .i64 yl)∧w'.cell? ⟨g,(j-1)*6+3,none⟩=some (.int .i64 yd)∧w'.cell? ⟨g,(j-1)*6+4,none⟩=some (.int .i64 yp)∧w'.cell? ⟨g,(j-1)*6+5,none⟩=some (.int .i64 ya)) (go_keep)
       (first|(go_at_call 103;(with_reducible refine HCALL.out.mono ?_);rintro e wx ⟨rfl,hb⟩;have HB:=am hb;have hcl:=HLT.out wx hb;clear hb))
      clear p0 p1 p2 p3 p4 p5 q0 q1 q2 q3 q4 q5 fr
      go_wp2_with (fail)
      go_roundw
      case rel=>
       exact⟨i+1,by omega,by omega,rfl,l2,⟨HR.out.drew.more HB.out⟩,HS,⟨HI.out.stop HW.out hj1 hj2 (.inr (by rw[HX.out,HY.out,HCC.out];omega))⟩⟩
      case measure=>simp[intOf];omega
    ·have d2:decide ((a:Int)<(j:Int))=false:=decide_eq_false (by omega);go_upto_region 4 with (fail)
     go_upto_region 4 with (fail)
     refine sz_ 17 (S:=fun w'=>True) (ds:=[]) trivial (fun hHeld=> ?_);refine pz_ 0 18 17 1 ?_;refine pz_ 1 19 17 3 ?_;refine pz_ 2 20 17 7 ?_;refine pz_ 3 21 17 15 ?_;refine uz_ 4 22 17 31 ?_;refine uz_ 5 23 17 63 ?_;refine uz_ 6 24 17 127 ?_;refine uz_ 7 25 17 255 ?_;refine uz_ 8 26 17 511 ?_;refine uz_ 9 27 17 1023 ?_;refine uz_ 10 28 17 2047 ?_;refine uz_ 11 29 17 4095 ?_;refine uz_ 12 30 17 8191 ?_;refine uz_ 13 31 17 16383 ?_;refine uz_ 14 32 17 32767 ?_;refine uz_ 15 33 17 65535 ?_;refine pz_ 16 34 17 131071 ?_;refine done_ (by kernel_rfl) ?_
     go_wp2_with (fail)
     go_roundw
     case rel=>
      exact⟨i+1,by omega,by omega,rfl,l2,⟨HR.out.drew⟩,HS,⟨HI.out.stop HW.out hj1 hj2 (.inl (by omega))⟩⟩
     case measure=>simp[intOf];omega
  ·have d1:decide ((i:Int)<(b:Int))=false:=decide_eq_false (by omega)
   go_wp2_with (fail)
   go_end0
   exact⟨rfl,l1,HR.out,HS.out,fun p q h1 h2 h3=>HT.out p q h1 h2 (by omega)⟩
end Go.Proofs.YtfnimdhghglanaaGreat.Hand
end
section
namespace Go.Proofs.YtfnimdhghglanaaGreat.Hand
section
theorem rotL_same {l:List SE} {a m b:Nat} (h:a=m∨m=b) (h1:a≤m) (h2:m≤b):rotL l a m b=l:=by
 refine ext_getD (rotL_length _ _ _ _) fun k hk=> ?_;rw[rotL_length]at hk;rw[rotL_get _ _ _ _ _ hk];unfold rotT;by_cases c1:a≤k∧k<a+(b-m)
 ·rw[if_pos c1]
  congr 1
  omega
 ·rw[if_neg c1];by_cases c2:a+(b-m)≤k∧k<b
  ·rw[if_pos c2]
   congr 1
   omega
  ·rw[if_neg c2]
structure Split (cmp:SE→SE→Int) (l:List SE) (a i m j b:Nat):Prop where
 s1:SortedOn cmp l a m
 s2:SortedOn cmp l m b
 ai:a≤i
 im:i≤m
 mj:m≤j
 jb:j≤b
 lo:∀p q,a≤p→p<i→j≤q→q<b→leA cmp l p q
 hi:∀p q,i≤p→p<m→m≤q→q<j→leA cmp l q p
section
variable {cmp:SE→SE→Int} {l:List SE} {a i m j b:Nat}
theorem rot_at (h:Split cmp l a i m j b) (hb:b≤l.length) (k:Nat) (hk:k<l.length):(rotL l i m j).getD k SE.zero=l.getD (if i≤k∧k<i+(j-m)then k+(m-i)else if i+(j-m)≤k∧k<j then k-(j-m)else k) SE.zero:=by
 rw[rotL_get _ _ _ _ _ hk];unfold rotT
 split
 ·rfl
 ·split<;>rfl
theorem Split.cross (h:Split cmp l a i m j b) (hb:b≤l.length) (p q:Nat) (h1:a≤p) (h2:p<i+(j-m)) (h3:i+(j-m)≤q) (h4:q<b):leA cmp (rotL l i m j) p q:=by
 have g1:=h.ai;have g2:=h.im;have g3:=h.mj;have g4:=h.jb;unfold leA;rw[rot_at h hb p (by omega),rot_at h hb q (by omega)];by_cases c1:i≤p
 ·rw[if_pos (show i≤p∧p<i+(j-m)by omega),if_neg (show¬(i≤q∧q<i+(j-m))by omega)];by_cases c2:q<j
  ·rw[if_pos (show i+(j-m)≤q∧q<j by omega)];exact h.hi _ _ (by omega) (by omega) (by omega) (by omega)
  ·rw[if_neg (show¬(i+(j-m)≤q∧q<j)by omega)];exact h.s2 _ _ (by omega) (by omega) (by omega)
 ·rw[if_neg (show¬(i≤p∧p<i+(j-m))by omega),if_neg (show¬(i+(j-m)≤p∧p<j)by omega),if_neg (show¬(i≤q∧q<i+(j-m))by omega)];by_cases c2:q<j
  ·rw[if_pos (show i+(j-m)≤q∧q<j by omega)];exact h.s1 _ _ (by omega) (by omega) (by omega)
  ·rw[if_neg (show¬(i+(j-m)≤q∧q<j)by omega)];exact h.lo _ _ (by omega) (by omega) (by omega) (by omega)
theorem Split.p1 (h:Split cmp l a i m j b) (hb:b≤l.length):SortedOn cmp (rotL l i m j) a i:=by
 have g1:=h.ai;have g2:=h.im;have g3:=h.mj;have g4:=h.jb;intro p q h1 h2 h3;unfold leA;rw[rot_at h hb p (by omega),rot_at h hb q (by omega),if_neg (show¬(i≤p∧p<i+(j-m))by omega),if_neg (show¬(i+(j-m)≤p∧p<j)by omega),if_neg (show¬(i≤q∧q<i+(j-m))by omega),if_neg (show¬(i+(j-m)≤q∧q<j)by omega)];exact h.s1 _ _ h1 h2 (by omega)
theorem Split.p2 (h:Split cmp l a i m j b) (hb:b≤l.length):SortedOn cmp (rotL l i m j) i (i+(j-m)):=by
 have g1:=h.ai;have g2:=h.im;have g3:=h.mj;have g4:=h.jb;intro p q h1 h2 h3;unfold leA;rw[rot_at h hb p (by omega),rot_at h hb q (by omega),if_pos (show i≤p∧p<i+(j-m)by omega),if_pos (show i≤q∧q<i+(j-m)by omega)];exact h.s2 _ _ (by omega) (by omega) (by omega)
theorem Split.p3 (h:Split cmp l a i m j b) (hb:b≤l.length):SortedOn cmp (rotL l i m j) (i+(j-m)) j:=by
 have g1:=h.ai;have g2:=h.im;have g3:=h.mj;have g4:=h.jb;intro p q h1 h2 h3;unfold leA;rw[rot_at h hb p (by omega),rot_at h hb q (by omega),if_neg (show¬(i≤p∧p<i+(j-m))by omega),if_pos (show i+(j-m)≤p∧p<j by omega),if_neg (show¬(i≤q∧q<i+(j-m))by omega),if_pos (show i+(j-m)≤q∧q<j by omega)];exact h.s1 _ _ (by omega) (by omega) (by omega)
theorem Split.p4 (h:Split cmp l a i m j b) (hb:b≤l.length):SortedOn cmp (rotL l i m j) j b:=by
 have g1:=h.ai;have g2:=h.im;have g3:=h.mj;have g4:=h.jb;intro p q h1 h2 h3;unfold leA;rw[rot_at h hb p (by omega),rot_at h hb q (by omega),if_neg (show¬(i≤p∧p<i+(j-m))by omega),if_neg (show¬(i+(j-m)≤p∧p<j)by omega),if_neg (show¬(i≤q∧q<i+(j-m))by omega),if_neg (show¬(i+(j-m)≤q∧q<j)by omega)];exact h.s2 _ _ (by omega) h2 h3
end
theorem shift_up (l:List SE) (a k:Nat) (h1:a≤k) (h2:k+1<l.length):swp (rotL l a (a+1) (k+1)) k (k+1)=rotL l a (a+1) (k+2):=by
 refine ext_getD (by rw[swp_length,rotL_length,rotL_length]) fun x hx=> ?_;rw[swp_length,rotL_length]at hx;rw[swp_get _ _ _ _ (by rw[rotL_length];omega) (by rw[rotL_length];omega),rotL_get _ _ _ _ _ hx,rotL_get _ _ _ _ _ hx,rotL_get _ _ _ _ _ (by omega),rotL_get _ _ _ _ _ (by omega)];unfold rotT
 repeat' split
 all_goals first
  |omega
  |rfl
  |(congr 1<;>omega)
theorem shift_down (l:List SE) (m k:Nat) (h1:0<k) (h2:k≤m) (h3:m<l.length):swp (rotL l k m (m+1)) k (k-1)=rotL l (k-1) m (m+1):=by
 refine ext_getD (by rw[swp_length,rotL_length,rotL_length]) fun x hx=> ?_;rw[swp_length,rotL_length]at hx;rw[swp_get _ _ _ _ (by rw[rotL_length];omega) (by rw[rotL_length];omega),rotL_get _ _ _ _ _ hx,rotL_get _ _ _ _ _ hx,rotL_get _ _ _ _ _ (by omega),rotL_get _ _ _ _ _ (by omega)];unfold rotT
 repeat' split
 all_goals first
  |omega
  |rfl
  |(congr 1<;>omega)
theorem SortedOn.away {cmp:SE→SE→Int} {l l':List SE} {a b c d:Nat} (h:SortedOn cmp l c d) (s:Seg l l' a b) (hd:d≤a∨b≤c):SortedOn cmp l' c d:=fun p q h1 h2 h3=>by
 unfold leA;rw[s.out p (by omega),s.out q (by omega)];exact h p q h1 h2 h3
theorem SortedOn.join {cmp:SE→SE→Int} {l:List SE} {a c b:Nat} (h1:SortedOn cmp l a c) (h2:SortedOn cmp l c b) (hx:∀p q,a≤p→p<c→c≤q→q<b→leA cmp l p q):SortedOn cmp l a b:=fun p q g1 g2 g3=>by
 by_cases k1:q<c
 ·exact h1 p q g1 g2 k1
 ·by_cases k2:p<c
  ·exact hx p q g1 k2 (by omega) g3
  ·exact h2 p q (by omega) g2 g3
theorem cross_seg {cmp:SE→SE→Int} {l l':List SE} {a c b:Nat} (hx:∀p q,a≤p→p<c→c≤q→q<b→leA cmp l p q) (s:Seg l l' a c∨Seg l l' c b):∀p q,a≤p→p<c→c≤q→q<b→leA cmp l' p q:=by
 intro p q g1 g2 g3 g4;unfold leA;rcases s with s|s
 ·obtain⟨p',k1,k2,k3⟩:=s.src p g1 g2;rw[k3,s.out q (by omega)];exact hx p' q k1 k2 g3 g4
 ·obtain⟨q',k1,k2,k3⟩:=s.src q g3 g4;rw[k3,s.out p (by omega)];exact hx p q' g1 g2 k1 k2
theorem rotL_eq (l:List SE) (a m b:Nat) (h1:a≤m) (h2:m≤b) (h3:b≤l.length):rotL l a m b=l.take a++((l.take b).drop m++((l.take m).drop a++l.drop b)):=by
 refine List.ext_getElem? fun k=> ?_;have hx:(rotL l a m b)[k]?=if k<l.length then some (rotT l a m b k)else none:=by
  by_cases hk:k<l.length
  ·rw[if_pos hk,List.getElem?_eq_getElem (by rw[rotL_length];exact hk)];simp[rotL]
  ·rw[if_neg hk,List.getElem?_eq_none (by rw[rotL_length];omega)]
 rw[hx];have hg:∀j,j<l.length→l[j]?=some (l.getD j SE.zero):=fun j hj=>by rw[getD_at l j hj,List.getElem?_eq_getElem hj]
 have hgn:∀j,l.length≤j→l[j]?=none:=fun j hj=>List.getElem?_eq_none hj;simp only[List.getElem?_append,List.length_take,List.length_drop,List.getElem?_take,List.getElem?_drop];unfold rotT
 repeat' split
 all_goals first
  |omega
  |rfl
  |(rw[hg _ (by omega)]<;>first|rfl|(congr 2<;>omega))
  |(rw[hgn _ (by omega)])
theorem rotL_perm (l:List SE) (a m b:Nat) (h1:a≤m) (h2:m≤b) (h3:b≤l.length):(rotL l a m b).Perm l:=by
 rw[rotL_eq l a m b h1 h2 h3];have e:l=l.take a++((l.take m).drop a++((l.take b).drop m++l.drop b)):=by
  refine List.ext_getElem? fun k=> ?_;have hgn:∀j,l.length≤j→l[j]?=none:=fun j hj=>List.getElem?_eq_none hj;simp only[List.getElem?_append,List.length_take,List.length_drop,List.getElem?_take,List.getElem?_drop]
  repeat' split
  all_goals first
   |omega
   |rfl
   |(congr 1<;>omega)
   |(rw[hgn _ (by omega)])
 conv=>rhs;rw[e]
 refine List.Perm.append_left _ ?_;rw[←List.append_assoc,←List.append_assoc];exact List.Perm.append_right _ List.perm_append_comm
theorem rotL_seg (l:List SE) (a i m j b:Nat) (h0:a≤i) (h1:i≤m) (h2:m≤j) (h3:j≤b) (h4:b≤l.length):Seg l (rotL l i m j) a b:=by
 refine⟨rotL_length _ _ _ _,rotL_perm l i m j h1 h2 (by omega),fun k hk=> ?_,fun k g1 g2=> ?_⟩
 ·by_cases hl:k<l.length
  ·rw[rotL_get _ _ _ _ _ hl];unfold rotT;rw[if_neg (by omega),if_neg (by omega)]
  ·rw[List.getD_eq_getElem?_getD,List.getD_eq_getElem?_getD,List.getElem?_eq_none (by rw[rotL_length];omega),List.getElem?_eq_none (by omega)]
 ·rw[rotL_get _ _ _ _ _ (by omega)];unfold rotT
  split
  ·exact⟨_,by omega,by omega,rfl⟩
  ·split
   ·exact⟨_,by omega,by omega,rfl⟩
   ·exact⟨k,g1,g2,rfl⟩
end
end Go.Proofs.YtfnimdhghglanaaGreat.Hand
end
