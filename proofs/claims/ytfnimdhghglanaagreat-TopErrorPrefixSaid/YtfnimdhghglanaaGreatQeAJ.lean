/- TopErrorPrefix, part 10 of 41; no condition. (Printed from the session's own texts: what is not used left out, spaces spared.) -/
import Derived.Test.YtfnimdhghglanaaGreatQeAB
import Derived.Test.YtfnimdhghglanaaGreatQeAI
set_option maxRecDepth 100000
set_option maxHeartbeats 8000000
set_option linter.unusedVariables false
set_option linter.unusedSimpArgs false
section
namespace Go.Proofs.YtfnimdhghglanaaGreat.Hand
open Go.RowKit Go.Proofs.YtfnimdhghglanaaGreatW.PrintWords Go.Proofs.YtfnimdhghglanaaGreatW.PrintLast Go.Proofs.YtfnimdhghglanaaGreatW.PrintMore
attribute [local go_sem] max2_int min2_int max_two min_two max_three min_three max_four min_four
theorem infoEv_is:∃i:TypeInfo,Tryz.prog.info? 49=some i∧i.size=6:=by
 obtain⟨i,h1,h2⟩:=Option.map_eq_some_iff.1 infoEv;simp only[Prod.mk.injEq]at h2;exact⟨i,h1,h2.2.1⟩
theorem evTo (A:Option Addr) (n c:Nat) (j:Int) (h0:0≤j) (hm:j≤n) (hc:n≤c):∀W:World,(Instr.slice 47 (.slice A n c) none (some (.int .i64 j)) none).run Tryz.prog W= .ok (.slice A j.toNat c) W:=by
 obtain⟨i,hi,_⟩:=infoEv_is;exact cut_to _ _ _ Tryz.underlying47 hi A n c j h0 hm hc
theorem grow_calls (n:Nat) (W:World) (hn:n≤1000000):
  Calls Tryz.prog 56 #[.slice none 0 0,.int .i64 n] W fun e w'=>∃v:Value,e= .returned v∧Kd.R kE 49 w' W.heap.size (fun _=>True) v []∧Below W.heap.size W w':=by
 have w1:IntKind.i64.wrap ((n:Int)-0)=(n:Int):=(i64_w _).trans (by unfold Go.RowKit.wrap64;omega);have w2:IntKind.i64.wrap (n:Int)=(n:Int):=(i64_w _).trans (by unfold Go.RowKit.wrap64;omega);have d0:decide ((n:Int)<0)=false:=decide_eq_false (by omega);by_cases h0:n=0
 ·subst h0;go_enter Tryz.func56,Tryz.ntmps56
  go_wp2_with (fail)
  go_ret;exact⟨_,rfl,Kd.R_nil _ _ _ _ _,Below.refl _ _⟩
 ·have d1:decide (0<(n:Int))=true:=decide_eq_true (by omega);have q1:=evTo none 0 0 0 (Int.le_refl _) (Int.le_refl _) (Nat.le_refl _);have H0:=am (Kd.R_nil kE 49 W W.heap.size (fun _=>True));go_enter Tryz.func56,Tryz.ntmps56
  go_wp2_with (first|((with_reducible refine gate_builtin (b:= .append) (xs:= #[.tmp 20,.tmp 21]) rfl ?_);at_builtin;refine Kd.R_append_zeros kE (w0:=W) W.heap.size rfl (.tmp 20) (.tmp 21) 47 3 49 (.agg #[.int .i64 0,.slice none 0 0,.int .i64 0,.int .i64 0,.int .i64 0,.int .i64 0]) 64 rfl Tryz.underlying47 Tryz.underlying3 infoEv rfl (by decide) (by omega) (.slice none 0 0) [] SE.zero (n:Int) (fun _=>True) rfl rfl rfl (fun _ _=>trivial) H0.out (by omega) (Below.refl _ _) (Nat.le_refl _) ?aL ?_;(case aL=>simp;omega);intro v22 w22 ho22 hb22 hg22 hat22;obtain⟨A22,c22,rfl⟩:=Kd.R_slice ho22;have q22:=evTo A22 _ c22 0 (Int.le_refl _) (Int.natCast_nonneg _) (Kd.R_reads' ho22).2.1;have HO:=am ho22;have HB:=am hb22;clear ho22 hb22 hg22 hat22))
  go_ret;exact⟨_,rfl,Kd.R_take HO.out (Nat.zero_le _),HB.out⟩
theorem flat_next {α:Type} (l:List (List α)) (k:Nat) (hk:k<l.length):(l.take (k+1)).flatten=(l.take k).flatten++l[k]:=by
 rw[List.take_add_one,List.getElem?_eq_getElem hk,List.flatten_append];simp
theorem flat_le {α:Type} (l:List (List α)) (k:Nat):(l.take k).flatten.length≤l.flatten.length:=by
 conv=>rhs;rw[←List.take_append_drop k l]
 rw[List.flatten_append,List.length_append];omega
def HdOf (W:World) (h:SH) (ss:List SE):Prop:=h.n=ss.length∧h.n≤h.c∧Kd.C kE W h.A h.n ss
theorem concat_calls {W:World} (A:Option Addr) (n c:Nat) (hs:List SH) (sss:List (List SE)) (h:Kd.C kH W A n hs) (h2:All2 (HdOf W) hs sss) (hn:n≤1000000) (hl:sss.flatten.length≤1000000):
  Calls Tryz.prog 29 #[.slice A n c] W fun e w'=>∃v:Value,e= .returned v∧Kd.R kE 49 w' W.heap.size (fun _=>True) v sss.flatten∧Below W.heap.size W w':=by
 have hln:hs.length=n:=h.1;have hln2:sss.length=n:=h2.len.symm.trans hln;have H:=am h;have H2:=am h2;have HL:=am hl;have HN:=am hln2;clear h h2 hl hln2;go_enter Tryz.func29,Tryz.ntmps29
 go_wp2_with (fail)
 go_loopw [3,11] (fun sv kv w'=>∃k s:Nat,k≤n∧kv= .int .i64 k∧sv= .int .i64 s∧Aside0 (s=(sss.take k).flatten.length)∧Aside0 (w'=W)) (fun _ kv _=>n-(intOf kv).toNat)
 case atStart=>exact⟨0,0,Nat.zero_le _,rfl,rfl,⟨rfl⟩,⟨rfl⟩⟩
 case round=>
  obtain⟨k,s,hk,rfl,rfl,HS,HW⟩:=hrel;have hsl:s≤1000000:=by
   rw[HS.out];exact Nat.le_trans (flat_le _ _) HL.out
  have HC:=am (show Kd.C kH wr A n hs by rw[HW.out];exact H.out);by_cases g0:k<n
  ·obtain⟨ad,x,e0,⟨i1,hx⟩,p0⟩:=hd_cells HC.out k g0;cases e0;have i2:k<sss.length:=by rw[HN.out];exact g0
   have hxn:x.n=sss[k].length:=by
    have:=(H2.out.get k i1 i2).1
    rwa [hx]at this
   have hnx:=flat_next sss k i2;have hle:(sss.take (k+1)).flatten.length≤1000000:=Nat.le_trans (flat_le _ _) HL.out;have HNX:=am (show s+x.n=(sss.take (k+1)).flatten.length by rw[HS.out,hnx,hxn,List.length_append]);rw[←HNX.out]at hle;obtain⟨xA,xn,xc⟩:=x;simp only at p0 hle;clear hxn hx hnx;have d1:decide ((k:Int)<n)=true:=decide_eq_true (by omega);have w1:IntKind.i64.wrap ((k:Int)+1)=((k+1:Nat):Int):=(i64_w _).trans (by unfold Go.RowKit.wrap64;omega);have w2:IntKind.i64.wrap ((s:Int)+(xn:Int))=((s+xn:Nat):Int):=(i64_w _).trans (by unfold Go.RowKit.wrap64;omega)
   have d2:decide (((s+xn:Nat):Int)<0)=false:=decide_eq_false (by omega)
   go_wp2_with (fail)
   go_roundw
   case rel=>exact⟨k+1,s+xn,by omega,rfl,rfl,HNX,HW⟩
   case measure=>simp[intOf];omega
  ·obtain rfl:k=n:=by omega
   have d1:decide ((k:Int)<k)=false:=decide_eq_false (by omega);have HG:=am (grow_calls s wr hsl)
   go_wp2_with (first|(go_at_call 56;(with_reducible refine HG.out.mono ?_);rintro e wx ⟨v,rfl,hv,hb⟩;have HV:=am hv;have HB:=am hb;clear hv hb))
   have HBW:=am (show Below W.heap.size W wx by rw[←HW.out];exact HB.out);have HRW:=am (show Kd.R kE 49 wx W.heap.size (fun _=>True) v []by rw[←HW.out];exact HV.out);clear HV HB HG HC HS HW
   go_loopw [6,27] (fun vv kv w'=>∃j:Nat,j≤k∧kv= .int .i64 j∧Aside0 (Kd.R kE 49 w' W.heap.size (fun _=>True) vv (sss.take j).flatten)∧Aside0 (Below W.heap.size W w')) (fun _ kv _=>k-(intOf kv).toNat)
   case atStart=>exact⟨0,Nat.zero_le _,rfl,by simpa using HRW,HBW⟩
   case round=>
    clear HRW HBW;obtain⟨j,hj,rfl,HV,HB⟩:=hrel;have HC:=am (Kd.C_below H.out HB.out);by_cases g0:j<k
    ·obtain⟨ad,x,e0,⟨i1,hx⟩,p0⟩:=hd_cells HC.out j g0;cases e0;have i2:j<sss.length:=by rw[HN.out];exact g0
     obtain⟨q1,q2,q3⟩:=H2.out.get j i1 i2;rw[hx]at q1 q2 q3;have hnx:=flat_next sss j i2;have hle:(sss.take (j+1)).flatten.length≤1000000:=Nat.le_trans (flat_le _ _) HL.out;rw[hnx,List.length_append]at hle;have HNX:=am hnx;have HLE:=am hle;have Q3:=am (Kd.C_below q3 HB.out);have Q1:=am q1;obtain⟨xA,xn,xc⟩:=x;simp only at p0 Q3 Q1;clear hx hnx q1 q2 q3 hle;have d1:decide ((j:Int)<k)=true:=decide_eq_true (by omega);have w1:IntKind.i64.wrap ((j:Int)+1)=((j+1:Nat):Int):=(i64_w _).trans (by unfold Go.RowKit.wrap64;omega)
     go_wp2_with (first|((with_reducible refine gate_builtin (b:= .append) (xs:= #[.tmp 31,.tmp 32]) rfl ?_);at_builtin;refine Kd.R_append_rows kE (Rr:=Kd.K kE wr) (w0:=W) W.heap.size rfl (.tmp 31) (.tmp 32) 47 49 (.agg #[.int .i64 0,.slice none 0 0,.int .i64 0,.int .i64 0,.int .i64 0,.int .i64 0]) 64 rfl Tryz.underlying47 infoEv rfl (by decide) (by omega) _ (sss.take j).flatten sss[j] xA xn xc (fun _=>True) (fun _=>False) rfl rfl HV.out Q3.out (fun q cs hq=>hq) (fun _ h=>h.elim) (fun _ _=>trivial) HB.out HB.out.size ?aL ?_;(case aL=>have:=HLE.out;have:=Q1.out;omega);intro v33 w33 ho33 hb33 hg33 hat33;have HO:=am ho33;have HB2:=am hb33;clear ho33 hb33 hg33 hat33))
     go_roundw
     case rel=>exact⟨j+1,by omega,rfl,⟨by rw[HNX.out];exact HO.out⟩,HB2⟩
     case measure=>simp[intOf];omega
    ·obtain rfl:j=k:=by omega
     have d1:decide ((j:Int)<j)=false:=decide_eq_false (by omega)
     go_wp2_with (fail)
     go_ret;exact⟨_,rfl,by have:=HV.out;rwa [List.take_of_length_le (by rw[HN.out];exact Nat.le_refl _)]at this,HB.out⟩
def KeysAt (Mt:Nat→Prop) (w:World) (h:SH) (ks:List (List Int)):Prop:=∃hs,Rd kH Mt w h hs∧All2 (KeyAt Mt w) hs ks
theorem KeysAt.keep {Mt:Nat→Prop} {w w':World} {h:SH} {ks:List (List Int)} (r:KeysAt Mt w h ks) (k:Keep Mt w w'):KeysAt Mt w' h ks:=by
 obtain⟨hs,h1,h2⟩:=r;exact⟨hs,h1.keep k,h2.imp fun _ _ h=>h.keep k⟩
theorem KeysAt.below {Mt:Nat→Prop} {w w':World} {h:SH} {ks:List (List Int)} (r:KeysAt Mt w h ks) (k:Below w.heap.size w w'):KeysAt Mt w' h ks:=r.keep (Keep.of_below k)
theorem KeysAt.fresh {Mt Mt':Nat→Prop} {w w':World} {h:SH} {ks:List (List Int)} (r:KeysAt Mt w h ks) (k:Keep Mt w w') (hm:∀k,k<w.heap.size→Mt' k→Mt k):KeysAt Mt' w' h ks:=by
 obtain⟨hs,h1,h2⟩:=r;exact⟨hs,h1.fresh k hm,h2.imp fun _ _ h=>h.fresh k hm⟩
theorem KeysAt.len {Mt:Nat→Prop} {w:World} {h:SH} {ks:List (List Int)} (r:KeysAt Mt w h ks):h.n=ks.length:=by
 obtain⟨hs,h1,h2⟩:=r;rw[h1.len,h2.len]
theorem key_of (Mt:Nat→Prop) (w:World):∃f:SH→List Int,∀x e,KeyAt Mt w x e→e=f x:=by
 have:∀x,∃e0,∀e,KeyAt Mt w x e→e=e0:=fun x=>by
  by_cases h:∃e0,KeyAt Mt w x e0
  ·obtain⟨e0,h0⟩:=h;exact⟨e0,fun e he=>intC_one he.here h0.here⟩
  ·exact⟨[],fun e he=>absurd ⟨e,he⟩ h⟩
 exact⟨fun x=>(this x).choose,fun x e he=>(this x).choose_spec e he⟩
theorem All2.map_is {α β:Type} {R:α→β→Prop} {f:α→β} (hf:∀x e,R x e→e=f x) {ss:List α} {es:List β} (h:All2 R ss es):es=ss.map f:=by
 induction h with
 |nil=>rfl
 |cons h1 _ ih=>rw[List.map_cons,←ih,←hf _ _ h1]
theorem goneF_calls {Mt:Nat→Prop} {W:World} (x:SE) (k:List Int) (hx:KeyAt Mt W x.k k) (q:Nat) (h:SH) (ks:List (List Int)) (hks:KeysAt Mt W h ks) (hq:W.cell? ⟨q,0,none⟩=some (.slice h.A h.n h.c))
  (b1:k.length≤1000000) (b2:ks.length≤1000000) (b3:∀k∈ks,k.length≤1000000):
  Calls Tryz.prog 85 #[x.v,.pointer (some ⟨q,0,none⟩)] W fun e w'=>e= .returned (.bool (decide (k∈ks)))∧Below W.heap.size W w':=by
 obtain⟨xt,⟨xA,xn,xc⟩,xl,xd,xp,xa⟩:=x;obtain⟨hA,hn,hc⟩:=h;simp only at hq hx;simp only[SE.v];have hql:q<W.heap.size:=World.block_lt_of_cell? W _ hq;obtain⟨r,hr⟩:∃r,decide (k∈ks)=r:=⟨_,rfl⟩;rw[hr];obtain⟨hs,h1,h2⟩:=hks;obtain⟨f,hf⟩:=key_of Mt W;have hm:=h2.map_is hf;have hb:=fun o1=>below_alloc (Below.refl W.heap.size W) o1;have hhn:hn=hs.length:=h1.len
 have HC:=am (fun(W0:World) (hb0:Below W.heap.size W W0) (p0:W0.cell? ⟨W.heap.size,1,none⟩=some (.slice xA xn xc))=>contains_key (W:=W0) hA hn hc W.heap.size hs (fun y=>decide (f y=k)) (show Kd.C kH W0 hA hn hs from(h1.below hb0).here) (by rw[hhn,h2.len];exact b2)
  (fun W' hb' y hy=>by
   obtain⟨ky,mky,hky⟩:=h2.mem hy;rw[←hf _ _ hky];have hlt0:W.heap.size<W0.heap.size:=World.block_lt_of_cell? W0 _ p0;have hb2:Below W.heap.size W W':=hb0.trans (hb'.mono hb0.size);have e1:=hky.below hb2;have e2:=hx.below hb2;exact goneK_calls y W.heap.size ⟨xt,⟨xA,xn,xc⟩,xl,xd,xp,xa⟩ k ky W' ((hb'.cell (p:=⟨W.heap.size,1,none⟩) hlt0).trans p0) e1.here e2.here (by rw[e1.len];exact b3 _ mky) (by have:=e2.len;simp only at this ⊢;rw[this];exact b1)))
 have HR:=am (show hs.any (fun y=>decide (f y=k))=r by
  rw[←hr,hm];rw[Bool.eq_iff_iff];simp[List.any_eq_true])
 have HB:=am hb;clear hx h1 h2 hf hm hr hb hhn b1 b2 b3;go_enter Tryz.func85,Tryz.ntmps85
 go_wp2_with (first|(go_at_call 86;(with_reducible refine(HC.out _ (HB.out _) (cell_new _ _ _ _ _ _ rfl rfl)).mono ?_);rw[HR.out];rintro e wx ⟨rfl,hx⟩;have HX:=am hx;clear hx))
 go_ret;exact⟨rfl,(HB.out _).trans (HX.out.mono (HB.out _).size)⟩
theorem own_tail {e sz g n cap:Nat} {base:Nat} {xs:List Value}:∀(vs:List Value) {w:World} (o:Nat),n*sz≤o→w.ownsRow base e sz (.slice (some ⟨g,0,none⟩) n cap) n xs→(w.setCells g o vs).ownsRow base e sz (.slice (some ⟨g,0,none⟩) n cap) n xs
 | [],_,_,_,h=>h
 |v::r,w,o,ho,h=>by
  refine own_tail r (o+1) (by omega) ?_;obtain⟨h1,h2⟩:=h;refine⟨h1,?_⟩;rcases h2 with ⟨h2,_⟩|⟨g',cap',cur,h2,hg,hh,h3,h4,h5,h6⟩
  ·cases h2
  ·cases h2;refine .inr ⟨g,cap,cur.setIfInBounds o v,rfl,hg,blk_put hh o v rfl,h3,h4,by simpa using h5,?_⟩;rw[Array.toList_setIfInBounds,List.take_set_of_le ho];exact h6
theorem grown_cells {g:Nat}:∀(vs:List Value) (w:World) (o:Nat),w.grownBy (w.setCells g o vs) (some g)
 | [],w,_=>grown_refl w _
 |v::r,w,o=>by
  have h1:w.grownBy (w.setCell ⟨g,o,none⟩ v) (some g):=⟨rfl,rfl,rfl,by simp[World.setCell],fun k hk hn=>Below.heap_setCell w ⟨g,o,none⟩ v k (fun e=>hn (by rw[e]))⟩;exact grown_trans h1 (grown_cells r _ (o+1))
theorem Row.tail {W:World} {base g n cap o:Nat} {l:List SE} (h:Row W base g n cap l) (vs:List Value) (ho:n*6≤o):RowTo W (W.setCells g o vs) base g n cap l:=by
 have hg:=grown_cells (g:=g) vs W o;obtain⟨h0,inner,hi,hr⟩:=h;have hn:=(Kd.R_reads' (show Kd.R kE 49 W base (fun _=>True) _ l from⟨h0,inner,hi,hr⟩)).1;subst hn;have hrow:Row (W.setCells g o vs) base g l.length cap l:=⟨h0,inner,own_tail vs o ho hi,hr⟩;have hb:=Kd.R_base hrow g (by simp[Value.ownBlock]);have hlt:=own_lt hi g (by simp[Value.ownBlock]);exact⟨hrow,hg,(Below.refl base W).grown hg (by omega) (fun k hk=>by injection hk with hk;omega)⟩
theorem Row.some {W:World} {base g n cap:Nat} {l:List SE} (h:Row W base g n cap l) (j:Nat) (hj:j<n*6):(W.cell? ⟨g,j,none⟩).isSome=true:=by
 have hn:=h.len;subst hn;obtain⟨inner,ho⟩:=Kd.R_own h;rcases ho.2 with ⟨h2,_⟩|⟨g',cap',cur,h2,hg,hh,h3,h4,h5,h6⟩
 ·cases h2
 ·cases h2;have h7:l.length*6≤cap*6:=Nat.mul_le_mul_right _ (by omega);have h8:j<cur.size:=by rw[h5];exact Nat.lt_of_lt_of_le hj h7
  simp only[World.cell?,hh];simp[h8]
theorem zeroEv (w:World):(zeroValue 49).run Tryz.prog w= .ok (.agg #[.int .i64 0,.slice none 0 0,.int .i64 0,.int .i64 0,.int .i64 0,.int .i64 0]) w:=by
 obtain⟨i,h1,h2⟩:=Option.map_eq_some_iff.1 infoEv;simp only[Prod.mk.injEq]at h2;simp[zeroValue,typeInfo,h1,h2.1]
theorem run_clear_ev (w:World) (ty:TypeId) (b o n c:Nat) (hc:∀j,j<n*6→(w.cell? ⟨b,o+j,none⟩).isSome=true) (hf:∀j,w.frozen? ⟨b,o+j,none⟩=false):
  ∃vs,(Builtin.clear_ #[47] ty #[.slice (some ⟨b,o,none⟩) n c]).run Tryz.prog w= .ok (.tuple #[]) (w.setCells b o vs):=by
 rcases Nat.eq_zero_or_pos n with h0|h0
 ·subst h0;exact⟨[],by simp[Builtin.clear_,run_underlying Tryz.underlying47,World.setCells]⟩
 ·refine⟨(Builtin.zeroCells #[.int .i64 0,.slice none 0 0,.int .i64 0,.int .i64 0,.int .i64 0,.int .i64 0] n).toList,?_⟩;have hsz:(Builtin.zeroCells #[.int .i64 0,.slice none 0 0,.int .i64 0,.int .i64 0,.int .i64 0,.int .i64 0] n).toList.length=n*6:=by simp[Builtin.zeroCells]
  have hst:=run_storeCells_cells (P:=Tryz.prog) b o (Builtin.zeroCells #[.int .i64 0,.slice none 0 0,.int .i64 0,.int .i64 0,.int .i64 0,.int .i64 0] n).toList 0 w (by rw[hsz];simpa using hc) (fun j _=>by simpa using hf j) (by
   intro v hv;have hv:∃a,a<n*6∧(#[Value.int .i64 0,.slice none 0 0,.int .i64 0,.int .i64 0,.int .i64 0,.int .i64 0]:Array Value)[a%6]! =v:=by simpa [Builtin.zeroCells]using hv
   obtain⟨a,_,rfl⟩:=hv;have:a%6<6:=Nat.mod_lt _ (by decide);generalize a%6=r at this
   match r,this with
   |0,_=>rfl
   |1,_=>rfl
   |2,_=>rfl
   |3,_=>rfl
   |4,_=>rfl
   |5,_=>rfl)
  simp only[Nat.add_zero]at hst;obtain⟨m,rfl⟩:∃m,n=m+1:=⟨n-1,by omega⟩;have hz:(Value.agg #[.int .i64 0,.slice none 0 0,.int .i64 0,.int .i64 0,.int .i64 0,.int .i64 0]).cells= #[.int .i64 0,.slice none 0 0,.int .i64 0,.int .i64 0,.int .i64 0,.int .i64 0]:=rfl;simp[Builtin.clear_,run_underlying Tryz.underlying47,zeroEv,hz,hst]
theorem filter_snoc {α:Type} (p:α→Bool) (l:List α) (j:Nat) (hj:j<l.length):(l.take (j+1)).filter p=(l.take j).filter p++(if p l[j]then [l[j]]else []):=by
 rw[List.take_add_one,List.getElem?_eq_getElem hj,List.filter_append];simp[List.filter_cons]
theorem boxed {w wx:World} (x:SE) (hb:Below (w.alloc (.cells #[.int .i64 x.t,.slice x.k.A x.k.n x.k.c,.int .i64 x.lp,.int .i64 x.kd,.int .i64 x.pr,.int .i64 x.ar] 49)).heap.size (w.alloc (.cells #[.int .i64 x.t,.slice x.k.A x.k.n x.k.c,.int .i64 x.lp,.int .i64 x.kd,.int .i64 x.pr,.int .i64 x.ar] 49)) wx):
  Below w.heap.size w wx∧wx.cell? ⟨w.heap.size,0,none⟩=some (.int .i64 x.t)∧wx.cell? ⟨w.heap.size,1,none⟩=some (.slice x.k.A x.k.n x.k.c)∧wx.cell? ⟨w.heap.size,2,none⟩=some (.int .i64 x.lp)∧wx.cell? ⟨w.heap.size,3,none⟩=some (.int .i64 x.kd)∧wx.cell? ⟨w.heap.size,4,none⟩=some (.int .i64 x.pr)∧wx.cell? ⟨w.heap.size,5,none⟩=some (.int .i64 x.ar):=by
 have hlt:w.heap.size<(w.alloc (.cells #[.int .i64 x.t,.slice x.k.A x.k.n x.k.c,.int .i64 x.lp,.int .i64 x.kd,.int .i64 x.pr,.int .i64 x.ar] 49)).heap.size:=World.block_lt_of_cell? _ _ (cell_new _ _ _ _ 0 _ rfl rfl);have hc:∀j v,(#[Value.int .i64 x.t,.slice x.k.A x.k.n x.k.c,.int .i64 x.lp,.int .i64 x.kd,.int .i64 x.pr,.int .i64 x.ar]:Array Value)[j]?=some v→wx.cell? ⟨w.heap.size,j,none⟩=some v:=fun j v hv=>(hb.cell (p:=⟨w.heap.size,j,none⟩) hlt).trans (cell_new _ _ _ _ j _ rfl hv)
 exact⟨(below_alloc (Below.refl _ _) _).trans (hb.mono (Nat.le_of_lt hlt)),hc 0 _ rfl,hc 1 _ rfl,hc 2 _ rfl,hc 3 _ rfl,hc 4 _ rfl,hc 5 _ rfl⟩
theorem delete_calls {W:World} {base g N cap:Nat} {l:List SE} (h:Row W base g N cap l) (q:Nat) (p:SE→Bool) (hs:l.length≤1000000)
  (hp:∀W',Keep (·=g) W W'→∀x∈l,Calls Tryz.prog 85 #[x.v,.pointer (some ⟨q,0,none⟩)] W' fun e w'=>e= .returned (.bool (p x))∧Below W'.heap.size W' w'):
  Calls Tryz.prog 89 #[.slice (some ⟨g,0,none⟩) N cap,.func (.func 85) #[] #[.pointer (some ⟨q,0,none⟩)]] W fun e w'=>
   ∃n',e= .returned (.slice (some ⟨g,0,none⟩) n' cap)∧RowTo W w' base g n' cap (l.filter fun x=> !p x):=by
 have hN:=h.len;have hcap:=(Kd.R_reads' h).2.1;have HI:=am (index_gone (some ⟨g,0,none⟩) N cap q l p (by rw[hN];exact(Kd.R_reads' h).2.2) (by rw[hN];exact hs) (fun W' hb x hx=>hp W' (Keep.of_below hb) x hx));have H:=am h;have HP:=am hp;clear h hp;subst hN;by_cases hx:fidx p l= -1
 ·have HF:=am (show l.filter (fun x=> !p x)=l by
   rw[List.filter_eq_self];intro x hxm;cases hpx:p x with
   |false=>rfl
   |true=>
    exfalso;unfold fidx at hx;cases hf:l.findIdx? p with
    |none=>
     rw[List.findIdx?_eq_none_iff]at hf;have:=hf x hxm;rw[hpx]at this;cases this
    |some i=>rw[hf]at hx;simp at hx)
  rw[hx]at HI;go_enter Tryz.func89,Tryz.ntmps89
  go_wp2_with (first|(go_at_call 111;(with_reducible refine HI.out.mono ?_);rintro e wx ⟨rfl,hx⟩;have HX:=am hx;clear hx))
  go_ret;exact⟨_,rfl,by rw[HF.out];exact(RowTo.refl H.out).more HX.out⟩
 ·obtain⟨i0,hi0,hfi⟩:∃i0:Nat,fidx p l=(i0:Int)∧l.findIdx? p=some i0:=by
   unfold fidx at hx ⊢;cases hf:l.findIdx? p with
   |none=>rw[hf]at hx;exact absurd rfl hx
   |some i=>exact⟨i,rfl,rfl⟩
  rw[List.findIdx?_eq_some_iff_getElem]at hfi;obtain⟨hil,hpi,hall⟩:=hfi;rw[hi0]at HI;have HS0:=am (show(l.take (i0+1)).filter (fun x=> !p x)=l.take i0 by
   rw[filter_snoc _ l i0 hil,List.filter_eq_self.2 (fun x hxm=>by
    obtain⟨j,hj,rfl⟩:=List.getElem_of_mem hxm;have hj2:j<i0:=by rw[List.length_take]at hj;omega
    rw[List.getElem_take];have:=hall j hj2
    simpa using this),hpi]
   simp)
  have e0:((i0:Int)== -1)=false:=beq_eq_false_iff_ne.2 (by omega);have w0:IntKind.i64.wrap ((i0:Int)+1)=((i0+1:Nat):Int):=(i64_w _).trans (by unfold Go.RowKit.wrap64;omega);clear hall hpi hx;go_enter Tryz.func89,Tryz.ntmps89
  go_wp2_with (first|(go_at_call 111;(with_reducible refine HI.out.mono ?_);rintro e wx ⟨rfl,hx⟩;have HX:=am hx;clear hx))
  go_loopw [5,6] (fun iv jv w'=>∃i j:Nat,i<j∧j≤l.length∧iv= .int .i64 i∧jv= .int .i64 j∧∃l',Aside0 (RowTo W w' base g l.length cap l')∧Aside0 (l'.take i=(l.take j).filter fun x=> !p x)∧Aside0 (l'.drop j=l.drop j)) (fun _ jv _=>l.length-(intOf jv).toNat)
  case atStart=>exact⟨i0,i0+1,by omega,by omega,rfl,rfl,l,⟨(RowTo.refl H.out).more HX.out⟩,⟨HS0.out.symm⟩,⟨rfl⟩⟩
  case round=>
   clear HX HS0 HI w0 e0;obtain⟨i,j,hij,hj,rfl,rfl,l1,HR,HT,HD⟩:=hrel;have hl1:l1.length=l.length:=HR.out.row.len.symm;by_cases hjn:j<l.length
   ·have d1:decide ((j:Int)<(l.length:Nat))=true:=decide_eq_true (by omega);have w1:IntKind.i64.wrap ((j:Int)+1)=((j+1:Nat):Int):=(i64_w _).trans (by unfold Go.RowKit.wrap64;omega);have w2:IntKind.i64.wrap ((i:Int)+1)=((i+1:Nat):Int):=(i64_w _).trans (by unfold Go.RowKit.wrap64;omega);have m1:(j:Int)<(l.length:Nat):=by omega
    have m2:(i:Int)<(l.length:Nat):=by omega
    obtain⟨p0,p1,p2,p3,p4,p5⟩:=HR.out.row.cells j (by omega);have fr:=HR.out.row.free;have hlj:l1[j]=l[j]:=by
     have h1:(l1.drop j)[0]?=(l.drop j)[0]?:=by rw[HD.out]
     rw[List.getElem?_drop,List.getElem?_drop,Nat.add_zero,List.getElem?_eq_getElem (by omega),List.getElem?_eq_getElem hjn]at h1
     injection h1
    have HFS:=am (filter_snoc (fun x=> !p x) l j hjn);rw[hlj]at p0 p1 p2 p3 p4 p5;have hmem:l[j]∈l:=List.getElem_mem _;have hcall:=fun W' kp=>HP.out W' kp _ hmem;obtain⟨x,hx⟩:∃x,l[j]=x:=⟨_,rfl⟩;rw[hx]at p0 p1 p2 p3 p4 p5 HFS hcall;obtain⟨b,hb⟩:∃b,p x=b:=⟨_,rfl⟩;rw[hb]at hcall HFS;obtain⟨xt,⟨xA,xn,xc⟩,xl,xd,xp,xa⟩:=x;simp only[SE.v]at p0 p1 p2 p3 p4 p5 hcall;have HCALL:=am hcall;clear hcall hlj hmem;have HK:=am HR.out.keep;cases b with
    |true=>
     go_wp2_with (first|(go_at_call 85;(with_reducible refine(HCALL.out _ (HK.out.trans (Keep.of_below (below_alloc (Below.refl _ _) _)))).mono ?_);rintro e wx ⟨rfl,hb⟩;obtain⟨hb2,c0,c1,c2,c3,c4,c5⟩:=boxed ⟨xt,⟨xA,xn,xc⟩,xl,xd,xp,xa⟩ hb;have HRX:=am (HR.out.more hb2);have fr:=HRX.out.row.free;have hcell:=HRX.out.row.cells i (by omega);clear hb hb2 p0 p1 p2 p3 p4 p5;obtain⟨y,hy⟩:∃y,l1[i]'(by omega)=y:=⟨_,rfl⟩;rw[hy]at hcell;obtain⟨q0,q1,q2,q3,q4,q5⟩:=hcell;simp only at c0 c1 c2 c3 c4 c5))
     go_roundw
     case rel=>exact⟨i,j+1,by omega,by omega,rfl,rfl,l1,HRX,⟨by rw[HT.out,HFS.out];simp⟩,⟨by rw[←List.drop_drop,←List.drop_drop,HD.out]⟩⟩
     case measure=>simp[intOf];omega
    |false=>
     go_wp2_with (first|(go_at_call 85;(with_reducible refine(HCALL.out _ (HK.out.trans (Keep.of_below (below_alloc (Below.refl _ _) _)))).mono ?_);rintro e wx ⟨rfl,hb⟩;obtain⟨hb2,c0,c1,c2,c3,c4,c5⟩:=boxed ⟨xt,⟨xA,xn,xc⟩,xl,xd,xp,xa⟩ hb;have HRX:=am (HR.out.more hb2);have fr:=HRX.out.row.free;have hcell:=HRX.out.row.cells i (by omega);clear hb hb2 p0 p1 p2 p3 p4 p5;obtain⟨y,hy⟩:∃y,l1[i]'(by omega)=y:=⟨_,rfl⟩;rw[hy]at hcell;obtain⟨q0,q1,q2,q3,q4,q5⟩:=hcell;simp only at c0 c1 c2 c3 c4 c5))
     go_roundw
     case rel=>
      have HZ:=HRX.out.trans (HRX.out.row.put i (by omega) ⟨xt,⟨xA,xn,xc⟩,xl,xd,xp,xa⟩);refine⟨i+1,j+1,by omega,by omega,rfl,rfl,_,⟨HZ⟩,⟨?_⟩,⟨?_⟩⟩
      ·have hil:i<l1.length:=by omega
       rw[HFS.out,←HT.out,List.take_add_one,List.getElem?_set_self hil,List.take_set_of_le (Nat.le_refl _)];simp
      ·rw[List.drop_set_of_lt (by omega),←List.drop_drop,←List.drop_drop,HD.out]
     case measure=>simp[intOf];omega
   ·have hjj:j=l.length:=by omega
    subst hjj;have d1:decide ((l.length:Int)<(l.length:Nat))=false:=decide_eq_false (by omega);obtain⟨vs,hcl⟩:=run_clear_ev wr 0 g (i*6) (l.length-i) (cap-i) (fun t ht=>by
     have h6:i*6+t<l.length*6:=by
      have:l.length*6=i*6+(l.length-i)*6:=by omega
      omega
     exact HR.out.row.some _ h6) (fun t=>HR.out.row.free _)
    have qs:=evTo (some ⟨g,0,none⟩) l.length cap i (Int.natCast_nonneg _) (by omega) hcap
    go_wp2_with (fail)
    go_ret;refine⟨i,rfl,?_⟩;have h1:Row wr base g i cap (l1.take i):=Kd.R_take HR.out.row (by omega);have h2:=h1.tail vs (Nat.le_refl _);have h3:l1.take i=l.filter fun x=> !p x:=by
     have:=HT.out
     rwa [List.take_of_length_le (Nat.le_refl l.length)]at this
    rw[h3]at h2;exact⟨h2.row,grown_trans HR.out.grown h2.grown,HR.out.below.trans h2.below⟩
theorem bsearch_calls {W:World} (A:Option Addr) (n c:Nat) (ss:List SE) (t:SE) (cmp:SE→Int) (i0:Nat) (h:Kd.C kE W A n ss) (hs:n≤1000000) (hi0:i0≤n)
  (h1:∀k (hk:k<ss.length),k<i0→cmp ss[k]<0) (h2:∀k (hk:k<ss.length),i0≤k→¬cmp ss[k]<0)
  (hp:∀W',Below W.heap.size W W'→∀x∈ss,Calls Tryz.prog 103 #[x.v,t.v] W' fun e w'=>e= .returned (.int .i64 (cmp x))∧Below W'.heap.size W' w'):
  Calls Tryz.prog 138 #[.slice A n c,t.v,.func (.func 103) #[] #[]] W fun e w'=>∃b:Bool,e= .returned (.tuple #[.int .i64 i0,.bool b])∧Below W.heap.size W w':=by
 have hln:ss.length=n:=h.1;have H:=am h;have HP:=am hp;have H1:=am h1;have H2:=am h2;have HLN:=am hln;obtain⟨tt,⟨tA,tn,tc⟩,tl,td,tp,ta⟩:=t;simp only[SE.v]at HP ⊢;clear h hp h1 h2 hln;have HB0:=am (show∀w',Below (W.alloc (.cells #[.int .i64 tt,.slice tA tn tc,.int .i64 tl,.int .i64 td,.int .i64 tp,.int .i64 ta] 49)).heap.size (W.alloc (.cells #[.int .i64 tt,.slice tA tn tc,.int .i64 tl,.int .i64 td,.int .i64 tp,.int .i64 ta] 49)) w'→_ from fun w' hb=>boxed ⟨tt,⟨tA,tn,tc⟩,tl,td,tp,ta⟩ hb);go_enter Tryz.func138,Tryz.ntmps138
 go_wp2_with (fail)
 go_loopw [9,10] (fun iv jv w'=>∃i j:Nat,i≤i0∧i0≤j∧j≤n∧iv= .int .i64 i∧jv= .int .i64 j∧Aside0 (Below (W.alloc (.cells #[.int .i64 tt,.slice tA tn tc,.int .i64 tl,.int .i64 td,.int .i64 tp,.int .i64 ta] 49)).heap.size (W.alloc (.cells #[.int .i64 tt,.slice tA tn tc,.int .i64 tl,.int .i64 td,.int .i64 tp,.int .i64 ta] 49)) w')) (fun iv jv _=>(intOf jv).toNat-(intOf iv).toNat)
 case atStart=>exact⟨0,n,Nat.zero_le _,hi0,Nat.le_refl _,rfl,rfl,⟨Below.refl _ _⟩⟩
 case round=>
  obtain⟨i,j,hi,hj,hjn,rfl,rfl,HB⟩:=hrel;obtain⟨hb2,c0,c1,c2,c3,c4,c5⟩:=HB0.out _ HB.out
  try simp only at c0 c1 c2 c3 c4 c5
  have HB2:=am hb2;clear hb2;by_cases hij:i<j
  ·have d1:decide ((i:Int)<(j:Int))=true:=decide_eq_true (by omega);obtain⟨m,hm,hm1,hm2⟩:∃m:Nat,((i:Int)+(j:Int)) / 2=(m:Int)∧i≤m∧m<j:=⟨(i+j) / 2,by omega,by omega,by omega⟩;have w1:IntKind.i64.wrap ((i:Int)+(j:Int))=(i:Int)+(j:Int):=(i64_w _).trans (by unfold Go.RowKit.wrap64;omega);have w2:IntKind.i64.wrap ((m:Int)+1)=((m+1:Nat):Int):=(i64_w _).trans (by unfold Go.RowKit.wrap64;omega);have m1:(m:Int)<(n:Nat):=by omega
   obtain⟨ad,x,e0,⟨i2,hx⟩,p0,p1,p2,p3,p4,p5⟩:=ev_cells (Kd.C_below H.out HB2.out) m (by omega);cases e0;have hcall:=HP.out wr.drew (below_drew HB2.out) x (hx▸List.getElem_mem i2);have HX:=am hx;clear hx;obtain⟨r,hr⟩:∃r,cmp x=r:=⟨_,rfl⟩;rw[hr]at hcall;have HR:=am hr;clear hr;obtain⟨xt,⟨xA,xn,xc⟩,xl,xd,xp,xa⟩:=x;simp only at p0 p1 p2 p3 p4 p5 hcall;have HCALL:=am hcall;clear hcall
   have HLT:=am (show∀wx,Below wr.drew.heap.size wr.drew wx→(∀j,wx.cell? ⟨(ad.add (m*6)).block,j,none⟩=wr.cell? ⟨(ad.add (m*6)).block,j,none⟩)∧wx.cell? (ad.add (m*6))=wr.cell? (ad.add (m*6))∧(∀j,wx.cell? ⟨W.heap.size,j,none⟩=wr.cell? ⟨W.heap.size,j,none⟩)from fun wx hb=>
    ⟨fun j=>hb.cell (p:=⟨(ad.add (m*6)).block,j,none⟩) (show(ad.add (m*6)).block<wr.drew.heap.size from World.block_lt_of_cell? wr _ p0),hb.cell (World.block_lt_of_cell? wr _ p0),fun j=>hb.cell (p:=⟨W.heap.size,j,none⟩) (show W.heap.size<wr.drew.heap.size from World.block_lt_of_cell? wr ⟨W.heap.size,0,none⟩ c0)⟩)
   by_cases hlt:r<0
   ·have d3:decide (r<0)=true:=decide_eq_true hlt;go_upto_region 5 with (fail)
    go_region_held3 (fun w'=>w'.cell? (ad.add (m*6))=some (.int .i64 xt)∧w'.cell? ⟨(ad.add (m*6)).block,(ad.add (m*6)).off+1,none⟩=some (.slice xA xn xc)∧w'.cell? ⟨(ad.add (m*6)).block,(ad.add (m*6)).off+2,none⟩=some (.int .i64 xl)∧w'.cell? ⟨(ad.add (m*6)).block,(ad.add (m*6)).off+3,none⟩=some (.int .i64 xd)∧w'.cell? ⟨(ad.add (m*6)).block,(ad.add (m*6)).off+4,none⟩=some (.int .i64 xp)∧w'.cell? ⟨(ad.add (m*6)).block,(ad.add (m*6)).off+5,none⟩=some (.int .i64 xa)
     ∧w'.cell? ⟨W.heap.size,0,none⟩=some (.int .i64 tt)∧w'.cell? ⟨W.heap.size,1,none⟩=some (.slice tA tn tc)∧w'.cell? ⟨W.heap.size,2,none⟩=some (.int .i64 tl)∧w'.cell? ⟨W.heap.size,3,none⟩=some (.int .i64 td)∧w'.cell? ⟨W.heap.size,4,none⟩=some (.int .i64 tp)∧w'.cell? ⟨W.heap.size,5,none⟩=some (.int .i64 ta)) (go_keep)
     (first|(go_at_call 103;(with_reducible refine HCALL.out.mono ?_);rintro e wx ⟨rfl,hb⟩;have HBX:=am hb;obtain⟨hcl1,hcl2,hcl3⟩:=HLT.out wx hb;clear hb))
    clear hcl1 hcl2 hcl3 p0 p1 p2 p3 p4 p5 c0 c1 c2 c3 c4 c5
    go_wp2_with (fail)
    go_roundw
    case rel=>
     refine⟨m+1,j,?_,hj,hjn,rfl,rfl,⟨(below_drew HB.out).trans (HBX.out.mono HB.out.size)⟩⟩;by_cases e:i0≤m
     ·have:=H2.out m i2 e;rw[HX.out,HR.out]at this;omega
     ·omega
    case measure=>simp[intOf];omega
   ·have d3:decide (r<0)=false:=decide_eq_false hlt;go_upto_region 5 with (fail)
    go_region_held3 (fun w'=>w'.cell? (ad.add (m*6))=some (.int .i64 xt)∧w'.cell? ⟨(ad.add (m*6)).block,(ad.add (m*6)).off+1,none⟩=some (.slice xA xn xc)∧w'.cell? ⟨(ad.add (m*6)).block,(ad.add (m*6)).off+2,none⟩=some (.int .i64 xl)∧w'.cell? ⟨(ad.add (m*6)).block,(ad.add (m*6)).off+3,none⟩=some (.int .i64 xd)∧w'.cell? ⟨(ad.add (m*6)).block,(ad.add (m*6)).off+4,none⟩=some (.int .i64 xp)∧w'.cell? ⟨(ad.add (m*6)).block,(ad.add (m*6)).off+5,none⟩=some (.int .i64 xa)
     ∧w'.cell? ⟨W.heap.size,0,none⟩=some (.int .i64 tt)∧w'.cell? ⟨W.heap.size,1,none⟩=some (.slice tA tn tc)∧w'.cell? ⟨W.heap.size,2,none⟩=some (.int .i64 tl)∧w'.cell? ⟨W.heap.size,3,none⟩=some (.int .i64 td)∧w'.cell? ⟨W.heap.size,4,none⟩=some (.int .i64 tp)∧w'.cell? ⟨W.heap.size,5,none⟩=some (.int .i64 ta)) (go_keep)
     (first|(go_at_call 103;(with_reducible refine HCALL.out.mono ?_);rintro e wx ⟨rfl,hb⟩;have HBX:=am hb;obtain⟨hcl1,hcl2,hcl3⟩:=HLT.out wx hb;clear hb))
    clear hcl1 hcl2 hcl3 p0 p1 p2 p3 p4 p5 c0 c1 c2 c3 c4 c5
    go_wp2_with (fail)
    go_roundw
    case rel=>
     refine⟨i,m,hi,?_,by omega,rfl,rfl,⟨(below_drew HB.out).trans (HBX.out.mono HB.out.size)⟩⟩;by_cases e:i0≤m
     ·exact e
     ·have:=H1.out m i2 (by omega);rw[HX.out,HR.out]at this;omega
    case measure=>simp[intOf];omega
  ·obtain rfl:i=i0:=by omega
   have d1:decide ((i:Int)<(j:Int))=false:=decide_eq_false (by omega);by_cases hin:i<n
   ·have d4:decide ((i:Int)<(n:Int))=true:=decide_eq_true (by omega);have m1:(i:Int)<(n:Nat):=by omega
    obtain⟨ad,x,e0,⟨i2,hx⟩,p0,p1,p2,p3,p4,p5⟩:=ev_cells (Kd.C_below H.out HB2.out) i (by omega);cases e0;have hcall:=HP.out wr.drew (below_drew HB2.out) x (hx▸List.getElem_mem i2);clear hx;obtain⟨r,hr⟩:∃r,cmp x=r:=⟨_,rfl⟩;rw[hr]at hcall;clear hr;obtain⟨xt,⟨xA,xn,xc⟩,xl,xd,xp,xa⟩:=x;simp only at p0 p1 p2 p3 p4 p5 hcall;have HCALL:=am hcall;clear hcall
    have HLT:=am (show∀wx,Below wr.drew.heap.size wr.drew wx→(∀j,wx.cell? ⟨(ad.add (i*6)).block,j,none⟩=wr.cell? ⟨(ad.add (i*6)).block,j,none⟩)∧wx.cell? (ad.add (i*6))=wr.cell? (ad.add (i*6))∧(∀j,wx.cell? ⟨W.heap.size,j,none⟩=wr.cell? ⟨W.heap.size,j,none⟩)from fun wx hb=>
    ⟨fun j=>hb.cell (p:=⟨(ad.add (i*6)).block,j,none⟩) (show(ad.add (i*6)).block<wr.drew.heap.size from World.block_lt_of_cell? wr _ p0),hb.cell (World.block_lt_of_cell? wr _ p0),fun j=>hb.cell (p:=⟨W.heap.size,j,none⟩) (show W.heap.size<wr.drew.heap.size from World.block_lt_of_cell? wr ⟨W.heap.size,0,none⟩ c0)⟩)
    go_wp2_with (fail)
    go_upto_region 8 with (fail)
    go_region_held3 (fun w'=>w'.cell? (ad.add (i*6))=some (.int .i64 xt)∧w'.cell? ⟨(ad.add (i*6)).block,(ad.add (i*6)).off+1,none⟩=some (.slice xA xn xc)∧w'.cell? ⟨(ad.add (i*6)).block,(ad.add (i*6)).off+2,none⟩=some (.int .i64 xl)∧w'.cell? ⟨(ad.add (i*6)).block,(ad.add (i*6)).off+3,none⟩=some (.int .i64 xd)∧w'.cell? ⟨(ad.add (i*6)).block,(ad.add (i*6)).off+4,none⟩=some (.int .i64 xp)∧w'.cell? ⟨(ad.add (i*6)).block,(ad.add (i*6)).off+5,none⟩=some (.int .i64 xa)
     ∧w'.cell? ⟨W.heap.size,0,none⟩=some (.int .i64 tt)∧w'.cell? ⟨W.heap.size,1,none⟩=some (.slice tA tn tc)∧w'.cell? ⟨W.heap.size,2,none⟩=some (.int .i64 tl)∧w'.cell? ⟨W.heap.size,3,none⟩=some (.int .i64 td)∧w'.cell? ⟨W.heap.size,4,none⟩=some (.int .i64 tp)∧w'.cell? ⟨W.heap.size,5,none⟩=some (.int .i64 ta)) (go_keep)
     (first|(go_at_call 103;(with_reducible refine HCALL.out.mono ?_);rintro e wx ⟨rfl,hb⟩;have HBX:=am hb;obtain⟨hcl1,hcl2,hcl3⟩:=HLT.out wx hb;clear hb))
    clear hcl1 hcl2 hcl3 p0 p1 p2 p3 p4 p5 c0 c1 c2 c3 c4 c5
    go_wp2_with (fail)
    go_ret2
    exact⟨_,rfl,HB2.out.trans (((below_drew (Below.refl _ _)).trans (HBX.out.mono (Nat.le_refl _))).mono HB2.out.size)⟩
   ·have d4:decide ((i:Int)<(n:Int))=false:=decide_eq_false (by omega)
    go_wp2_with (fail)
    go_upto_region 8 with (fail)
    refine sz_ 16 (S:=fun w'=>True) (ds:=[]) trivial (fun hHeld=> ?_);refine pz_ 0 35 16 1 ?_;refine pz_ 1 36 16 3 ?_;refine pz_ 2 37 16 7 ?_;refine pz_ 3 38 16 15 ?_;refine pz_ 4 39 16 31 ?_;refine uz_ 5 40 16 63 ?_;refine uz_ 6 41 16 127 ?_;refine uz_ 7 42 16 255 ?_;refine uz_ 8 43 16 511 ?_;refine uz_ 9 44 16 1023 ?_;refine uz_ 10 45 16 2047 ?_;refine uz_ 11 46 16 4095 ?_;refine uz_ 12 47 16 8191 ?_;refine pz_ 13 48 16 16383 ?_;refine pz_ 14 6 16 32767 ?_;refine pz_ 15 7 16 65535 ?_;refine done_ (by kernel_rfl) ?_
    go_wp2_with (fail)
    go_ret2
    exact⟨_,rfl,below_drew HB2.out⟩
end Go.Proofs.YtfnimdhghglanaaGreat.Hand
end
