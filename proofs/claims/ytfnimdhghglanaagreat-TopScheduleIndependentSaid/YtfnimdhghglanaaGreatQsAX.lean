/- TopScheduleIndependent, part 24 of 27; no condition.  -/
import Derived.Test.YtfnimdhghglanaaGreatQsAW
set_option maxRecDepth 100000
set_option maxHeartbeats 8000000
set_option linter.unusedVariables false
set_option linter.unusedSimpArgs false
section
namespace Go.Proofs.YtfnimdhghglanaaGreat.Hand
open Go.RowKit Go.Shelf Go.Proofs.YtfnimdhghglanaaGreatW PrintWords PrintLast PrintMore
attribute [local go_sem] max2_int min2_int max_two min_two max_three min_three max_four min_four
section
structure CmPre (progs:List (List OpC)) (n:Nat) (s:Sq) (e:Ev) (p:List Ev) (lp:Lp):Prop where
 pend:s.pend=e::p
 at_:s.lps[e.lp.toNat]?=some lp
 i0:0≤e.lp∧e.lp<n
 tl:s.tr.length=n
 ll:s.lps.length=n
 pre:ExecPre progs.length lp e
 pg:PgsOk progs
 bd:ExecBd (exec progs lp e)
 pl:p.length≤400000
 tr:∀t∈s.tr,t.length≤400000
 pk:∀f∈p,f.k.length≤1000000
 nd:KeysD (p++(exec progs lp e).2.1)
 cn:s.n≤1000000
theorem SimAt.moved {Mt:Nat→Prop} {B:Nat} {w w':World} {b n g cg gl cl:Nat} {c:SCf} {hs:List SH} {ss:List SLp} {ph ph':SH} {s:Sq} {pend':List Ev} {m':Nat} {ov':Bool} (h:SimAt Mt B w b n g cg gl cl c hs ss ph s) (hk:Keep (·=b) w w') (hblk:w'.heap[b]?=some (.cells (simCells c n g cg gl cl ph' m' ov') TSim (0,0))) (hp:EvsAt (Mtab (Ms Mt b gl) g hs) w' ph' pend'):
  SimAt Mt B w' b n g cg gl cl c hs ss ph' {s with pend:=pend',n:=m',ov:=ov'}:=by
 have hty:∀k,(∃cells t,t≠TSim∧w.heap[k]?=some (Obj.cells cells t (0,0)))→k<w.heap.size→w'.heap[k]?=w.heap[k]?:=fun k ⟨cells,t,ht,hc⟩ hl=>hk.block k hl fun e=>by
  subst e;rw[h.blk]at hc;cases hc;exact ht rfl
 obtain⟨⟨gc,hgc⟩,_,hgl⟩:=h.tab.row.typed;obtain⟨⟨lc,hlc⟩,_,hll⟩:=h.row.typed;have hk2:Keep (Mtab (Ms Mt b gl) g hs) w w':=hk.mono fun k _ e=> .inl (.inr (.inl e));refine⟨hblk,h.tab.fresh (hk.mono fun k _ e=> .inr (.inl e)) (hty g ⟨_,_,by decide,hgc⟩ hgl) (fun x hx j hj=> ?_) (fun _ _ h=>h),h.row.stay (hty gl ⟨_,_,by decide,hlc⟩ hll),h.lps.imp fun _ _ h=>h.keep hk2,hp,h.hb⟩;obtain⟨⟨cc,hc⟩,_,hl⟩:=h.tab.own x hx j hj;exact hty j ⟨_,_,by decide,hc⟩ hl
theorem SimAt.push {Mt:Nat→Prop} {B:Nat} {w:World} {b n g cg gl cl:Nat} {c:SCf} {hs:List SH} {ss:List SLp} {ph:SH} {s:Sq} (h:SimAt Mt B w b n g cg gl cl c hs ss ph s) (i:Nat) {hh:SH} {es:List Ev} (hi:hs[i]?=some hh) (he:s.tr[i]?=some es) {sr:List SE} (hss:All2 (EvAt (Mtab (Ms Mt b gl) g hs) w) sr es) {x:SE} {e:Ev} (hse:EvAt (Mtab (Ms Mt b gl) g hs) w x e) {w5:World} {A:Option Addr} {m d:Nat}
  (hv:Kd.R kE 49 w5 B (fun _=>True) (.slice A m d) (sr++[x])) (hg:w.grownBy w5 hh.own) (hat:(SH.mk A m d).own=hh.own∨∃k,(SH.mk A m d).own=some k∧w.heap.size≤k):
  SimAt Mt B (w5.setCell ⟨g,i,none⟩ (.slice A m d)) b n g cg gl cl c (hs.set i ⟨A,m,d⟩) ss ph {s with tr:=s.tr.set i (es++[e])}∧TabTo w g hs (w5.setCell ⟨g,i,none⟩ (.slice A m d)) (hs.set i ⟨A,m,d⟩):=by
 obtain⟨t1,t2,t3⟩:=h.tab.push i hi he hss hse hv hg hat;have hty:∀(k:Nat),(∃cells t,t≠THd∧t≠49∧w.heap[k]?=some (Obj.cells cells t (0,0)))→k<w.heap.size→(w5.setCell ⟨g,i,none⟩ (.slice A m d)).heap[k]?=w.heap[k]?:=fun k ⟨cells,t,n1,n2,hc⟩ hl=>t2.keep.block k hl fun hm=>by
  rcases hm with hm|rfl|⟨y,hy,hm⟩
  ·exact hm
  ·obtain⟨⟨cc,hc2⟩,_⟩:=h.tab.row.typed;rw[hc]at hc2;cases hc2;exact n1 rfl
  ·obtain⟨⟨cc,hc2⟩,_⟩:=h.tab.own y hy k hm;rw[hc]at hc2;cases hc2;exact n2 rfl
 obtain⟨⟨lc,hlc⟩,_,hll⟩:=h.row.typed;exact⟨⟨(hty b ⟨_,_,by decide,by decide,h.blk⟩ (blk_lt h.blk)).trans h.blk,t1,h.row.stay (hty gl ⟨_,_,by decide,by decide,hlc⟩ hll),h.lps.imp fun _ _ h=>h.fresh t2.keepM t2.oldM,h.pend.fresh t2.keepM t2.oldM,h.hb⟩,t2⟩
theorem SimAt.mt {Mt:Nat→Prop} {B:Nat} {w:World} {b n g cg gl cl:Nat} {c:SCf} {hs:List SH} {ss:List SLp} {ph:SH} {s:Sq} (h:SimAt Mt B w b n g cg gl cl c hs ss ph s) (k:Nat) (hm:Mtab (Ms Mt b gl) g hs k):Mt k∨(B≤k∧k<w.heap.size):=by
 rcases hm with (hm|rfl|rfl)|rfl|⟨x,hx,hm⟩
 ·exact .inl hm
 ·exact .inr ⟨h.hb,blk_lt h.blk⟩
 ·exact .inr ⟨h.row.typed.2.1,h.row.typed.2.2⟩
 ·exact .inr ⟨h.tab.row.typed.2.1,h.tab.row.typed.2.2⟩
 ·exact .inr (h.tab.own x hx k hm).2
theorem LRow.vals {w:World} {B g n c:Nat} {ss:List SLp} (h:LRow w B g n c ss) (i:Nat) (hi:i<ss.length) {y:SLp} (hy:ss[i]=y):w.cell? ⟨g,i*4,none⟩=some (.int .i64 y.r0)∧w.cell? ⟨g,i*4+1,none⟩=some (.int .i64 y.r1)∧w.cell? ⟨g,i*4+2,none⟩=some (.slice y.ps.A y.ps.n y.ps.c)∧w.cell? ⟨g,i*4+3,none⟩=some (.int .i64 y.sum):=by
 have hn:=(Kd.R_reads' h).1;obtain⟨cc,hcl,hM,hcc,hf⟩:=Kd.R_elem h SLp.zero (i:Int) (by omega) (by omega);have e4:ss.getD (i:Int).toNat SLp.zero=ss[i]'hi:=by simp[List.getD_eq_getElem?_getD,List.getElem?_eq_getElem hi]
 rw[e4,hy]at hM;obtain rfl:cc=y.cells:=hM;rw[Int.toNat_natCast]at hcc;exact⟨hcc 0 _ rfl,hcc 1 _ rfl,hcc 2 _ rfl,hcc 3 _ rfl⟩
def tg (v:Value) (j:Nat):Value:=match v with
 | .tuple a=>a.getD j undef
 |_=>undef
def Mv (M:Nat→Prop) (D:Nat→Bool) (x:Nat→Value) (k:Nat):Prop:=M k∨(D 19=true∧x 19= .pointer (some ⟨k,0,none⟩))∨(D 20=true∧x 20= .pointer (some ⟨k,0,none⟩))
abbrev zLP:Array Value:= #[.int .i64 0,.int .i64 0,.slice none 0 0,.int .i64 0]
structure ExI (M:Nat→Prop) (W:World) (r:Lp×List Ev×List (List Int)×Bool) (D:Nat→Bool) (x:Nat→Value) (w:World):Prop where
 below:Below W.heap.size W w
 a:D 19=true→∃(q:Nat) (cs:Array Value),x 19= .pointer (some ⟨q,0,none⟩)∧W.heap.size≤q∧cs.size=4∧w.heap[q]?=some (.cells cs 91 (0,0))∧(D 21=true→x 15= .agg cs)
 b:D 20=true→∃(q:Nat) (v:Value),x 20= .pointer (some ⟨q,0,none⟩)∧W.heap.size≤q∧w.heap[q]?=some (.cells #[v] 134 (0,0))∧(D 23=true→x 17=v)
 r:D 13=true→∃(s:SLp) (ch xh:SH),x 13= .tuple #[.agg #[.int .i64 s.r0,.int .i64 s.r1,.slice s.ps.A s.ps.n s.ps.c,.int .i64 s.sum],.slice ch.A ch.n ch.c,.slice xh.A xh.n xh.c,.bool r.2.2.2]∧LpAt (Mv M D x) w s r.1∧EvsAt (Mv M D x) w ch r.2.1∧KeysAt (Mv M D x) w xh r.2.2.1
 t:D 14=true→D 13=true∧x 14=x 13
 u:∀j,j<4→D (15+j)=true→D 13=true∧x (15+j)=tg (x 13) j
 s:D 22=true→D 16=true∧x 22=x 16
 d:D 21=true→D 15=true∧D 19=true
 f:D 23=true→D 17=true∧D 20=true
section
variable {M:Nat→Prop} {W:World} {r:Lp×List Ev×List (List Int)×Bool} {D:Nat→Bool} {x:Nat→Value} {w w':World}
theorem ExI.own (h:ExI M W r D x w) (k:Nat) (hk:Mv M D x k):M k∨(W.heap.size≤k∧k<w.heap.size):=by
 rcases hk with hk|⟨h1,h2⟩|⟨h1,h2⟩
 ·exact .inl hk
 ·obtain⟨q,_,e,hq,_,hc,_⟩:=h.a h1;rw[h2]at e;cases e;exact .inr ⟨hq,blk_lt hc⟩
 ·obtain⟨q,_,e,hq,hc,_⟩:=h.b h1;rw[h2]at e;cases e;exact .inr ⟨hq,blk_lt hc⟩
theorem ExI.add (h:ExI M W r D x w) {c:Nat} {v:Value} (hc:c≠21∧c≠23) (hD:D c=false) (hb:Below w.heap.size w w') (hv:∀k,(c=19∨c=20)→v= .pointer (some ⟨k,0,none⟩)→w.heap.size≤k)
  (a:c=19→∃q,v= .pointer (some ⟨q,0,none⟩)∧W.heap.size≤q∧w'.heap[q]?=some (.cells zLP 91 (0,0)))
  (b:c=20→∃q,v= .pointer (some ⟨q,0,none⟩)∧W.heap.size≤q∧w'.heap[q]?=some (.cells #[.slice none 0 0] 134 (0,0)))
  (r':c=13→∃(s:SLp) (ch xh:SH),v= .tuple #[.agg #[.int .i64 s.r0,.int .i64 s.r1,.slice s.ps.A s.ps.n s.ps.c,.int .i64 s.sum],.slice ch.A ch.n ch.c,.slice xh.A xh.n xh.c,.bool r.2.2.2]∧LpAt (Mv M D x) w' s r.1∧EvsAt (Mv M D x) w' ch r.2.1∧KeysAt (Mv M D x) w' xh r.2.2.1)
  (t:c=14→D 13=true∧v=x 13) (u:∀j,j<4→c=15+j→D 13=true∧v=tg (x 13) j) (s:c=22→D 16=true∧v=x 16):ExI M W r (fun i=>i==c||D i) (upd x c v) w':=by
 have k:=Keep.of_below (Mt:=Mv M D x) hb;have hd:∀j,j≠c→((j==c||D j)=true↔D j=true):=fun j hj=>by simp[hj]
 have hd2:∀j,D j=true→(j==c||D j)=true:=fun j hj=>by simp[hj]
 have hx:∀j,j≠c→upd x c v j=x j:=fun j hj=>by simp[upd,hj]
 have hne:∀j,D j=true→j≠c:=fun j hj e=>by rw[e,hD]at hj;cases hj
 have hm:∀k,k<w.heap.size→Mv M (fun i=>i==c||D i) (upd x c v) k→Mv M D x k:=fun k hk hm=>by
  rcases hm with hm|⟨h1,h2⟩|⟨h1,h2⟩
  ·exact .inl hm
  ·by_cases e:19=c
   ·subst e;have:=hv k (.inl rfl) (by simpa [upd]using h2);omega
   ·rw[hx 19 e]at h2;exact .inr (.inl ⟨(hd 19 e).1 h1,h2⟩)
  ·by_cases e:20=c
   ·subst e;have:=hv k (.inr rfl) (by simpa [upd]using h2);omega
   ·rw[hx 20 e]at h2;exact .inr (.inr ⟨(hd 20 e).1 h1,h2⟩)
 refine⟨h.below.trans (hb.mono h.below.size),fun h1=> ?_,fun h1=> ?_,fun h1=> ?_,fun h1=> ?_,fun j hj h1=> ?_,fun h1=> ?_,fun h1=> ?_,fun h1=> ?_⟩
 ·by_cases e:19=c
  ·subst e;obtain⟨q,e1,e2,e3⟩:=a rfl;exact⟨q,_,by simpa [upd]using e1,e2,rfl,e3,fun h5=>by
    have:=(h.d ((hd 21 (by omega)).1 h5)).2;rw[hD]at this;cases this⟩
  ·obtain⟨q,cs,e1,e2,e4,e3,e5⟩:=h.a ((hd _ e).1 h1);exact⟨q,cs,by rw[hx _ e];exact e1,e2,e4,box_more hb e3,fun h5=>by
    have h6:=(hd 21 (Ne.symm hc.1)).1 h5;rw[hx 15 (hne 15 (h.d h6).1)];exact e5 h6⟩
 ·by_cases e:20=c
  ·subst e;obtain⟨q,e1,e2,e3⟩:=b rfl;exact⟨q,_,by simpa [upd]using e1,e2,e3,fun h5=>by
    have:=(h.f ((hd 23 (by omega)).1 h5)).2;rw[hD]at this;cases this⟩
  ·obtain⟨q,cs,e1,e2,e3,e5⟩:=h.b ((hd _ e).1 h1);exact⟨q,cs,by rw[hx _ e];exact e1,e2,box_more hb e3,fun h5=>by
    have h6:=(hd 23 (Ne.symm hc.2)).1 h5;rw[hx 17 (hne 17 (h.f h6).1)];exact e5 h6⟩
 ·by_cases e:13=c
  ·subst e;obtain⟨s,ch,xh,e1,e2,e3,e4⟩:=r' rfl;have hm2:∀k,k<w'.heap.size→Mv M (fun i=>i==13||D i) (upd x 13 v) k→Mv M D x k:=fun k _ hm=>by
    rcases hm with hm|⟨h1,h2⟩|⟨h1,h2⟩
    ·exact .inl hm
    ·exact .inr (.inl ⟨(hd 19 (by omega)).1 h1,by rw[←hx 19 (by omega)];exact h2⟩)
    ·exact .inr (.inr ⟨(hd 20 (by omega)).1 h1,by rw[←hx 20 (by omega)];exact h2⟩)
   exact⟨s,ch,xh,by simpa [upd]using e1,e2.fresh (Keep.refl _ _) hm2,e3.fresh (Keep.refl _ _) hm2,e4.fresh (Keep.refl _ _) hm2⟩
  ·obtain⟨s,ch,xh,e1,e2,e3,e4⟩:=h.r ((hd _ e).1 h1);exact⟨s,ch,xh,by rw[hx _ e];exact e1,e2.fresh k hm,e3.fresh k hm,e4.fresh k hm⟩
 ·by_cases e:14=c
  ·subst e;obtain⟨h2,h3⟩:=t rfl;exact⟨hd2 _ h2,by rw[hx 13 (by omega)];simpa [upd]using h3⟩
  ·obtain⟨h2,h3⟩:=h.t ((hd _ e).1 h1);exact⟨hd2 _ h2,by rw[hx 14 e,hx 13 (hne _ h2)];exact h3⟩
 ·by_cases e:15+j=c
  ·subst e;obtain⟨h2,h3⟩:=u j hj rfl;exact⟨hd2 _ h2,by rw[hx 13 (by omega)];simpa [upd]using h3⟩
  ·obtain⟨h2,h3⟩:=h.u j hj ((hd _ e).1 h1);exact⟨hd2 _ h2,by rw[hx _ e,hx 13 (hne _ h2)];exact h3⟩
 ·by_cases e:22=c
  ·subst e;obtain⟨h2,h3⟩:=s rfl;exact⟨hd2 _ h2,by rw[hx 16 (by omega)];simpa [upd]using h3⟩
  ·obtain⟨h2,h3⟩:=h.s ((hd _ e).1 h1);exact⟨hd2 _ h2,by rw[hx 22 e,hx 16 (hne _ h2)];exact h3⟩
 ·obtain⟨h2,h3⟩:=h.d ((hd _ (Ne.symm hc.1)).1 h1);exact⟨hd2 _ h2,hd2 _ h3⟩
 ·obtain⟨h2,h3⟩:=h.f ((hd _ (Ne.symm hc.2)).1 h1);exact⟨hd2 _ h2,hd2 _ h3⟩
theorem ExI.wr (h:ExI M W r D x w) {c:Nat} {v:Value} (hc:c=21∨c=23) (hk:Keep (Mv M D x) w w') (hB:Below W.heap.size W w')
  (a:D 19=true→∃(q:Nat) (cs:Array Value),x 19= .pointer (some ⟨q,0,none⟩)∧W.heap.size≤q∧cs.size=4∧w'.heap[q]?=some (.cells cs 91 (0,0))∧((21==c||D 21)=true→x 15= .agg cs))
  (b:D 20=true→∃(q:Nat) (v:Value),x 20= .pointer (some ⟨q,0,none⟩)∧W.heap.size≤q∧w'.heap[q]?=some (.cells #[v] 134 (0,0))∧((23==c||D 23)=true→x 17=v))
  (d:c=21→D 15=true∧D 19=true) (f:c=23→D 17=true∧D 20=true):ExI M W r (fun i=>i==c||D i) (upd x c v) w':=by
 have hd:∀j,j≠c→((j==c||D j)=true↔D j=true):=fun j hj=>by simp[hj]
 have hd2:∀j,D j=true→(j==c||D j)=true:=fun j hj=>by simp[hj]
 have hx:∀j,j≠c→upd x c v j=x j:=fun j hj=>by simp[upd,hj]
 have hm:∀k,k<w'.heap.size→Mv M (fun i=>i==c||D i) (upd x c v) k→Mv M D x k:=fun k hk hm=>by
  rcases hm with hm|⟨h1,h2⟩|⟨h1,h2⟩
  ·exact .inl hm
  ·exact .inr (.inl ⟨(hd 19 (by omega)).1 h1,by rw[←hx 19 (by omega)];exact h2⟩)
  ·exact .inr (.inr ⟨(hd 20 (by omega)).1 h1,by rw[←hx 20 (by omega)];exact h2⟩)
 refine⟨hB,fun h1=> ?_,fun h1=> ?_,fun h1=> ?_,fun h1=> ?_,fun j hj h1=> ?_,fun h1=> ?_,fun h1=> ?_,fun h1=> ?_⟩
 ·rw[hx 19 (by omega),hx 15 (by omega)];exact a ((hd 19 (by omega)).1 h1)
 ·rw[hx 20 (by omega),hx 17 (by omega)];exact b ((hd 20 (by omega)).1 h1)
 ·obtain⟨s,ch,xh,e1,e2,e3,e4⟩:=h.r ((hd 13 (by omega)).1 h1);exact⟨s,ch,xh,by rw[hx 13 (by omega)];exact e1,(e2.keep hk).fresh (Keep.refl _ _) hm,(e3.keep hk).fresh (Keep.refl _ _) hm,(e4.keep hk).fresh (Keep.refl _ _) hm⟩
 ·obtain⟨h2,h3⟩:=h.t ((hd 14 (by omega)).1 h1);exact⟨hd2 _ h2,by rw[hx 14 (by omega),hx 13 (by omega)];exact h3⟩
 ·obtain⟨h2,h3⟩:=h.u j hj ((hd (15+j) (by omega)).1 h1);exact⟨hd2 _ h2,by rw[hx _ (by omega),hx 13 (by omega)];exact h3⟩
 ·obtain⟨h2,h3⟩:=h.s ((hd 22 (by omega)).1 h1);exact⟨hd2 _ h2,by rw[hx 22 (by omega),hx 16 (by omega)];exact h3⟩
 ·by_cases e:21=c
  ·obtain⟨h2,h3⟩:=d e.symm;exact⟨hd2 _ h2,hd2 _ h3⟩
  ·obtain⟨h2,h3⟩:=h.d ((hd _ e).1 h1);exact⟨hd2 _ h2,hd2 _ h3⟩
 ·by_cases e:23=c
  ·obtain⟨h2,h3⟩:=f e.symm;exact⟨hd2 _ h2,hd2 _ h3⟩
  ·obtain⟨h2,h3⟩:=h.f ((hd _ e).1 h1);exact⟨hd2 _ h2,hd2 _ h3⟩
theorem ExI.apart (h:ExI M W r D x w) (h1:D 19=true) (h2:D 20=true) {q k:Nat} (e1:x 19= .pointer (some ⟨q,0,none⟩)) (e2:x 20= .pointer (some ⟨k,0,none⟩)):k≠q:=fun e=>by
 obtain⟨q1,cs,a1,_,_,a4,_⟩:=h.a h1;obtain⟨q2,v2,b1,_,b4,_⟩:=h.b h2;rw[e1]at a1;rw[e2]at b1;cases a1;cases b1;rw[e,a4]at b4;cases b4
theorem ExI.put21 (h:ExI M W r D x w) {v:Value} (hD:D 21=false) (h15:D 15=true) (h19:D 19=true) {q:Nat} {cs:Array Value} (e:x 19= .pointer (some ⟨q,0,none⟩)) (hg:w.grownBy w' (some q)) (hq:w'.heap[q]?=some (.cells cs 91 (0,0))) (hc:cs.size=4) (hx:x 15= .agg cs):
  ExI M W r (fun i=>i==21||D i) (upd x 21 v) w':=by
 obtain⟨q1,c1,a1,a2,a3,a4,a5⟩:=h.a h19;obtain rfl:q=q1:=by rw[e]at a1;cases a1;rfl
 refine h.wr (.inl rfl) (Keep.grown hg fun k e1=>by injection e1 with e1;exact .inr (.inl ⟨h19,by rw[←e1];exact e⟩)) (below_grown h.below hg a2) (fun _=>⟨q,cs,e,a2,hc,hq,fun _=>hx⟩) (fun h20=> ?_) (fun _=>⟨h15,h19⟩) (fun h=>by omega);obtain⟨q2,v2,b1,b2,b4,b5⟩:=h.b h20;exact⟨q2,v2,b1,b2,(hg.block q2 (blk_lt b4) (fun e1=>h.apart h19 h20 e b1 (by injection e1))).trans b4,fun h5=>b5 (by simpa using h5)⟩
theorem ExI.put23 (h:ExI M W r D x w) {v:Value} (hD:D 23=false) (h17:D 17=true) (h20:D 20=true) {q:Nat} {u v0:Value} (e:x 20= .pointer (some ⟨q,0,none⟩)) (hq:w.heap[q]?=some (.cells #[v0] 134 (0,0))) (hx:x 17=u):
  ExI M W r (fun i=>i==23||D i) (upd x 23 v) (w.setCell ⟨q,0,none⟩ u):=by
 obtain⟨q1,v1,a1,a2,a4,a5⟩:=h.b h20;obtain rfl:q=q1:=by rw[e]at a1;cases a1;rfl
 refine h.wr (.inr rfl) (Keep.set (b:=q) (.inr (.inr ⟨h20,e⟩)) _) (h.below.setCell (p:=⟨q,0,none⟩) a2 _) (fun h19=> ?_) (fun _=>⟨q,u,e,a2,blk_put hq 0 _ rfl,fun _=>hx⟩) (fun h=>by omega) (fun _=>⟨h17,h20⟩);obtain⟨q2,c2,b1,b2,b3,b4,b5⟩:=h.a h19;exact⟨q2,c2,b1,b2,b3,(Below.heap_setCell w ⟨q,0,none⟩ _ q2 (fun e1=>h.apart h19 h20 b1 e (by simpa using e1.symm))).trans b4,fun h5=>b5 (by simpa using h5)⟩
end
theorem SimAt.putL {Mt:Nat→Prop} {B:Nat} {w:World} {b n g cg gl cl:Nat} {c:SCf} {hs:List SH} {ss:List SLp} {ph:SH} {s:Sq} (h:SimAt Mt B w b n g cg gl cl c hs ss ph s) (i:Nat) (hi:i<ss.length) {x:SLp} {l:Lp} (hx:LpAt (Mtab (Ms Mt b gl) g hs) w x l):
  SimAt Mt B (w.setCells gl (i*4) x.cells) b n g cg gl cl c hs (ss.set i x) ph {s with lps:=s.lps.set i l}∧w.grownBy (w.setCells gl (i*4) x.cells) (some gl):=by
 obtain⟨p1,p2⟩:=h.row.put i hi x;have hk:Keep (·=gl) w (w.setCells gl (i*4) x.cells):=Keep.grown p2 fun k e=>by injection e with e;exact e.symm
 obtain⟨⟨lc,hlc⟩,_,hll⟩:=h.row.typed;have hty:∀(k:Nat),(∃cells t,t≠91∧w.heap[k]?=some (Obj.cells cells t (0,0)))→k<w.heap.size→(w.setCells gl (i*4) x.cells).heap[k]?=w.heap[k]?:=fun k ⟨cells,t,n1,hc⟩ hl=>hk.block k hl fun e=>by
  subst e;rw[hc]at hlc;cases hlc;exact n1 rfl
 obtain⟨⟨gc,hgc⟩,_,hgl⟩:=h.tab.row.typed;have hk2:Keep (Mtab (Ms Mt b gl) g hs) w (w.setCells gl (i*4) x.cells):=hk.mono fun k _ e=> .inl (.inr (.inr e));refine⟨⟨(hty b ⟨_,_,by decide,h.blk⟩ (blk_lt h.blk)).trans h.blk,h.tab.fresh (hk.mono fun k _ e=> .inr (.inr e)) (hty g ⟨_,_,by decide,hgc⟩ hgl) (fun x hx j hj=> ?_) (fun _ _ h=>h),p1,(h.lps.imp fun _ _ h=>h.keep hk2).set i (hx.keep hk2),h.pend.keep hk2,h.hb⟩,p2⟩;obtain⟨⟨cc,hc⟩,_,hl⟩:=h.tab.own x hx j hj;exact hty j ⟨_,_,by decide,hc⟩ hl
theorem lp_store {w:World} {q:Nat} {cs:Array Value} (h:w.heap[q]?=some (.cells cs 91 (0,0))) (h4:cs.size=4) (s:SLp):
  ∃w',(Instr.storeAt 91 (.pointer (some ⟨q,0,none⟩)) (.agg #[.int .i64 s.r0,.int .i64 s.r1,.slice s.ps.A s.ps.n s.ps.c,.int .i64 s.sum])).run Tryz.prog w= .ok () w'∧w.grownBy w' (some q)∧w'.heap[q]?=some (.cells #[.int .i64 s.r0,.int .i64 s.r1,.slice s.ps.A s.ps.n s.ps.c,.int .i64 s.sum] 91 (0,0)):=by
 obtain⟨l,hl⟩:∃l,cs=l.toArray:=⟨cs.toList,by simp⟩;subst hl
 match l,h4 with
 | [a,b,c,d],_=>
  have o0:w.cell? ⟨q,0,none⟩=some a:=by simp[World.cell?,h]
  have o1:w.cell? ⟨q,1,none⟩=some b:=by simp[World.cell?,h]
  have o2:w.cell? ⟨q,2,none⟩=some c:=by simp[World.cell?,h]
  have o3:w.cell? ⟨q,3,none⟩=some d:=by simp[World.cell?,h]
  have z0:=blk_frozen h 0;have z1:=blk_frozen h 1;have z2:=blk_frozen h 2;have z3:=blk_frozen h 3;refine⟨(((w.setCell ⟨q,0,none⟩ (.int .i64 s.r0)).setCell ⟨q,1,none⟩ (.int .i64 s.r1)).setCell ⟨q,2,none⟩ (.slice s.ps.A s.ps.n s.ps.c)).setCell ⟨q,3,none⟩ (.int .i64 s.sum),?_,
   grown_cells [.int .i64 s.r0,.int .i64 s.r1,.slice s.ps.A s.ps.n s.ps.c,.int .i64 s.sum] w 0,blk_put (blk_put (blk_put (blk_put h 0 _ rfl) 1 _ rfl) 2 _ rfl) 3 _ rfl⟩
  simp[go_sem,o0,o1,o2,o3,z0,z1,z2,z3]
theorem box_store {w:World} {q:Nat} {v:Value} (h:w.heap[q]?=some (.cells #[v] 134 (0,0))) (A:Option Addr) (n c:Nat):
  (Instr.storeAt 134 (.pointer (some ⟨q,0,none⟩)) (.slice A n c)).run Tryz.prog w= .ok () (w.setCell ⟨q,0,none⟩ (.slice A n c)):=by
 have o0:w.cell? ⟨q,0,none⟩=some v:=by simp[World.cell?,h]
 have z0:=blk_frozen h 0;simp[go_sem,o0,z0]
theorem EvsAt.tail {M:Nat→Prop} {w:World} {A:Option Addr} {n c:Nat} {e:Ev} {p:List Ev} (h:EvsAt M w ⟨A,n,c⟩ (e::p)):EvsAt M w ⟨if c=1 then A else A.map (·.add (1*6)),n-1,c-1⟩ p:=by
 obtain⟨ss,r1,r2⟩:=h;have hl:=r1.len;have hcap:=r1.cap;simp only at hl hcap;subst hl;cases r2 with
 |cons h1 h2=>
  rename_i x xs;refine⟨xs,⟨by simp,by simp only[List.length_cons]at hcap ⊢;omega,fun w2 hk=> ?_⟩,h2⟩;have h3:=Kd.C_drop (r1.2.2 w2 hk) (m:=1) (by simp) hcap
  simpa [show kE.sz=6 from rfl]using h3
theorem commit_calls {Mt:Nat→Prop} {B:Nat} {W w:World} {b n g cg gl cl:Nat} {c:SCf} {hs:List SH} {ss:List SLp} {ph:SH} {s:Sq} {progs:List (List OpC)} {e:Ev} {p:List Ev} {lp:Lp} (h:SimAt Mt B w b n g cg gl cl c hs ss ph s) (hM:∀k,Mt k→k<B) (hW:W.heap.size=B) (hbW:Below B W w) (hpg:PgsAt Mt W c.pgs progs) (hc:CmPre progs n s e p lp):
  Calls Tryz.prog 57 #[.pointer (some ⟨b,0,none⟩)] w fun r w'=>(∃v,r= .returned v)∧(∃(hs':List SH) (ss':List SLp) (ph':SH),SimAt Mt B w' b n g cg gl cl c hs' ss' ph' (s.commit progs))∧Below B w w':=by
 obtain⟨pA,pn,pc⟩:=ph;have q7:w.cell? ⟨b,7,none⟩=some (.slice pA pn pc):=h.cells (Below.refl _ _) 7 _ rfl;obtain⟨es,r1,r2⟩:=h.pend;have hpn:pn=es.length:=r1.len;subst hpn;rw[hc.pend]at r2;cases r2 with
 |cons h1 h2=>
  rename_i x xs;obtain⟨ad,e0,hab,hcl⟩:=ev_head r1.here;simp only at e0;subst e0;have hC2:=Kd.C_drop r1.here (m:=1) (by simp) r1.cap;obtain⟨p0,p1,p2,p3,p4,p5⟩:=hcl w (fun _ _=>rfl);obtain⟨i,hi⟩:∃i:Nat,e.lp=(i:Int):=⟨e.lp.toNat,by have:=hc.i0;omega⟩;have hxl:x.lp=(i:Int):=h1.lp.trans hi;obtain⟨m,hm⟩:∃m,(x::xs).length=m:=⟨_,rfl⟩;have hn1:(0:Int)<(m:Int):=by rw[←hm];simp
  have hn2:0<m:=by omega
  have hcap:m≤pc:=by have:=r1.cap;simp only[hm]at this;exact this
  have hn0:xs.length=m-1:=by rw[←hm];simp
  have hn3:(1:Int)≤(m:Int):=by omega
  have q2:=evFrom (some ad) m pc 1 (by omega) hn3;rw[show(1:Int).toNat=1 by rfl]at q2;obtain⟨A2,hA2⟩:∃A2,(if pc=1 then some ad else(some ad).map (·.add (1*6)))=A2:=⟨_,rfl⟩;have hrt:=h.pend;rw[hc.pend]at hrt;have hrt:=hrt.tail;rw[hA2,hm]at hrt;have HRT:=am hrt;rw[hA2]at q2;rw[hm]at q7;have H:=am h;have HC:=am hc;have HM:=am hM;have HBW:=am hbW;have HPG:=am hpg;have HE1:=am h1;have HE2:=am h2;have HR1:=am r1;have HI:=am hi;have HMM:=am hm;have HWB:=am hW;rw[hxl]at p2
  clear h hc hM hbW hpg h1 h2 r1 hi hm hcl hxl hW hrt hA2 hC2;obtain⟨xt,⟨xA,xn,xc⟩,xl,xd,xp,xa⟩:=x;simp only at p0 p1 p2 p3 p4 p5;go_enter Tryz.func57,Tryz.ntmps57;go_upto_region 1 with (fail)
  obtain⟨qe,hqe⟩:∃qe,w.heap.size=qe:=⟨_,rfl⟩;obtain⟨w1,hw1⟩:∃w1,w.alloc (.cells #[.int .i64 xt,.slice xA xn xc,.int .i64 (i:Int),.int .i64 xd,.int .i64 xp,.int .i64 xa] 49)=w1:=⟨_,rfl⟩;have hb1:Below w.heap.size w w1:=hw1▸below_alloc (Below.refl _ _) _;have hke:w1.heap[qe]?=some (.cells #[.int .i64 xt,.slice xA xn xc,.int .i64 (i:Int),.int .i64 xd,.int .i64 xp,.int .i64 xa] 49 (0,0)):=by rw[←hw1,←hqe];exact World.alloc_heap_new _ _
  rw[hw1,hqe];have h1:=H.out.more hb1;have q7:w1.cell? ⟨b,7,none⟩=some (.slice (some ad) m pc):=by have:=h1.cells (Below.refl _ _) 7 _ rfl;rw[HMM.out]at this;exact this
  have z7:w1.frozen? ⟨b,7,none⟩=false:=blk_frozen h1.blk 7;have H1:=am h1;have HKE:=am hke;have HB1:=am hb1;have HQE:=am hqe;clear hb1 hke h1 hw1 hqe p0 p1 p2 p3 p4 p5;go_upto_region 2 with (fail)
  obtain⟨w2,hw2⟩:∃w2,w1.setCell ⟨b,7,none⟩ (.slice A2 (m-1) (pc-1))=w2:=⟨_,rfl⟩;rw[hw2];have hkb:Keep (·=b) w1 w2:=hw2▸Keep.set (Mt:=(·=b)) (b:=b) rfl _;have hqb:b≠qe:=fun e=>by
   have h5:=H.out.blk;have h6:=blk_lt h5;have:=HQE.out;omega
  have h2:SimAt Mt B w2 b n g cg gl cl c hs ss ⟨A2,m-1,pc-1⟩ {s with pend:=p}:=H1.out.moved hkb (by rw[←hw2];exact blk_put H1.out.blk 7 _ rfl) ((HRT.out.keep (Keep.of_below HB1.out)).keep (hkb.mono fun k _ e=> .inl (.inr (.inl e))));have hke2:w2.heap[qe]?=some (.cells #[.int .i64 xt,.slice xA xn xc,.int .i64 (i:Int),.int .i64 xd,.int .i64 xp,.int .i64 xa] 49 (0,0)):=(hkb.block qe (blk_lt HKE.out) (Ne.symm hqb)).trans HKE.out;have hin:i<n:=by have:=HC.out.i0;have:=HI.out;omega
  have hih:i<hs.length:=by rw[h2.tab.len];have:=HC.out.tl;simp only;omega
  obtain⟨hh,hhh⟩:∃hh,hs[i]=hh:=⟨_,rfl⟩;have hgi:=h2.tab.row.get i hih;rw[hhh]at hgi;have hit:i<s.tr.length:=by have:=HC.out.tl;omega
  obtain⟨ti,hti⟩:∃ti,s.tr[i]=ti:=⟨_,rfl⟩;have hi1:hs[i]?=some hh:=by rw[List.getElem?_eq_getElem hih,hhh]
  have hi2:s.tr[i]?=some ti:=by rw[List.getElem?_eq_getElem hit,hti]
  obtain⟨sr,hse,hse2⟩:=h2.tab.el i hh ti hi1 hi2;have hgl2:=h2.tab.row.typed.2.2;have hql2:=blk_lt hke2;have HEL2:=am (show∀w',Below w2.heap.size w2 w'→w'.cell? ⟨b,5,none⟩=some (.slice (some ⟨g,0,none⟩) n cg)∧w'.cell? ⟨g,i,none⟩=some (.slice hh.A hh.n hh.c)∧w'.cell? ⟨qe,0,none⟩=some (.int .i64 xt)∧w'.cell? ⟨qe,1,none⟩=some (.slice xA xn xc)∧w'.cell? ⟨qe,2,none⟩=some (.int .i64 (i:Int))∧w'.cell? ⟨qe,3,none⟩=some (.int .i64 xd)∧w'.cell? ⟨qe,4,none⟩=some (.int .i64 xp)∧w'.cell? ⟨qe,5,none⟩=some (.int .i64 xa)from fun w' hb=>by
   have k1:=box_more hb hke2;refine⟨h2.cells hb 5 _ rfl,(hb.cell (p:=⟨g,i,none⟩) hgl2).trans hgi.1,?_,?_,?_,?_,?_,?_⟩<;>simp[World.cell?,k1])
  have HSL:=am (show sr.length≤500000 by
   rw[hse2.len];have:=HC.out.tr ti (List.mem_of_getElem? hi2);omega)
  have HNB:=am (show some g≠(Value.slice hh.A hh.n hh.c).ownBlock from fun e1=>by
   obtain⟨⟨cc,hc⟩,_⟩:=h2.tab.own hh (List.mem_of_getElem? hi1) g e1.symm;obtain⟨⟨c2,hc2⟩,_⟩:=h2.tab.row.typed;rw[hc2]at hc;cases hc)
  have hown:∀(k:Nat) (t:TypeId),t≠49→(∃cells,w2.heap[k]?=some (Obj.cells cells t (0,0)))→some k≠(Value.slice hh.A hh.n hh.c).ownBlock:=fun k t ht ⟨cs,hk⟩ e1=>by
   obtain⟨⟨cc,hc⟩,_⟩:=h2.tab.own hh (List.mem_of_getElem? hi1) k e1.symm;rw[hk]at hc;cases hc;exact ht rfl
  have HNBB:=am (hown b TSim (by decide) ⟨_,h2.blk⟩);have HBL:=am (blk_lt h2.blk);have HQL:=am hql2;have HNQ:=am (show some qe≠(Value.slice hh.A hh.n hh.c).ownBlock from fun e1=>by
   obtain⟨_,_,h5⟩:=H.out.tab.own hh (List.mem_of_getElem? hi1) qe e1.symm;have:=HQE.out;omega)
  have HEL0:=am (HEL2.out _ (Below.refl _ _));have HGI:=am hgi;have HGL:=am hgl2;have HI1:=am hi1;have HI2:=am hi2;have HSE:=am hse;have HSE2:=am hse2;have HSZ:=am (show B≤w2.heap.size from Nat.le_trans h2.hb (Nat.le_of_lt (blk_lt h2.blk)));have H2:=am h2;have HKW2:=am (show Keep (Mtab (Ms Mt b gl) g hs) w w2 from(Keep.of_below HB1.out).trans (hkb.mono fun k _ e=> .inl (.inr (.inl e))));have HKE2:=am hke2
  have HB2:=am (show Below B w w2 from hw2▸(HB1.out.mono (Nat.le_trans H.out.hb (Nat.le_of_lt (blk_lt H.out.blk)))).setCell (p:=⟨b,7,none⟩) H.out.hb _);have mi0:(0:Int)≤(i:Int):=by omega
  have mi1:(i:Int)<(n:Nat):=by omega
  clear hown hw2 hkb hqb h2 hke2 hih hhh hgi hit hti hi1 hi2 hse hse2 hgl2 hql2 q7 z7 q2
  refine sz_ 19 (S:=fun w'=>w'.cell? ⟨b,5,none⟩=some (.slice (some ⟨g,0,none⟩) n cg)∧w'.cell? ⟨g,i,none⟩=some (.slice hh.A hh.n hh.c)∧w'.cell? ⟨qe,0,none⟩=some (.int .i64 xt)∧w'.cell? ⟨qe,1,none⟩=some (.slice xA xn xc)∧w'.cell? ⟨qe,2,none⟩=some (.int .i64 (i:Int))∧w'.cell? ⟨qe,3,none⟩=some (.int .i64 xd)∧w'.cell? ⟨qe,4,none⟩=some (.int .i64 xp)∧w'.cell? ⟨qe,5,none⟩=some (.int .i64 xa)) (ds:=[18]) ⟨(HEL2.out _ (below_drew (Below.refl w2.heap.size w2))).1,(HEL2.out _ (below_drew (Below.refl w2.heap.size w2))).2.1,(HEL2.out _ (below_drew (Below.refl w2.heap.size w2))).2.2.1,(HEL2.out _ (below_drew (Below.refl w2.heap.size w2))).2.2.2.1,(HEL2.out _ (below_drew (Below.refl w2.heap.size w2))).2.2.2.2.1,(HEL2.out _ (below_drew (Below.refl w2.heap.size w2))).2.2.2.2.2.1,(HEL2.out _ (below_drew (Below.refl w2.heap.size w2))).2.2.2.2.2.2.1,(HEL2.out _ (below_drew (Below.refl w2.heap.size w2))).2.2.2.2.2.2.2⟩ (fun hHeld=> ?_)
  refine pz_ 0 22 19 1 ?_;refine pz_ 1 23 19 3 ?_;refine pz_ 2 24 19 7 ?_;refine pz_ 4 26 19 23 ?_;refine pz_ 6 28 19 87 ?_;refine pz_ 7 29 19 215 ?_;refine pz_ 8 30 19 471 ?_;refine pz_ 10 32 19 1495 ?_;refine tz_ 3 25 19 1503 hHeld ?_;refine tz_ 5 27 19 1535 hHeld ?_;refine tz_ 9 31 19 2047 hHeld ?_;refine tz_ 11 33 19 4095 hHeld ?_;refine pz_ 12 34 19 8191 ?_;refine tz_ 13 35 19 16383 hHeld ?_;refine tz_ 14 36 19 32767 hHeld ?_;refine one_ (i:=15) (N:=some 37) (bv 19 65535) rfl rfl (by kernel_rfl) (by decide) (fun K hK=> ?_);refine value_ (w1:= ?_) (v:= ?_) (by rfl) rfl ?_ ?_;rotate_left 2
  ·go_simp;constructor
   ·rfl
   ·rfl
  refine hK.out _ _ ⟨(HEL2.out _ (below_alloc (below_drew (Below.refl w2.heap.size w2)) _)).1,(HEL2.out _ (below_alloc (below_drew (Below.refl w2.heap.size w2)) _)).2.1,(HEL2.out _ (below_alloc (below_drew (Below.refl w2.heap.size w2)) _)).2.2.1,(HEL2.out _ (below_alloc (below_drew (Below.refl w2.heap.size w2)) _)).2.2.2.1,(HEL2.out _ (below_alloc (below_drew (Below.refl w2.heap.size w2)) _)).2.2.2.2.1,(HEL2.out _ (below_alloc (below_drew (Below.refl w2.heap.size w2)) _)).2.2.2.2.2.1,(HEL2.out _ (below_alloc (below_drew (Below.refl w2.heap.size w2)) _)).2.2.2.2.2.2.1,(HEL2.out _ (below_alloc (below_drew (Below.refl w2.heap.size w2)) _)).2.2.2.2.2.2.2⟩ (fun hHeld=> ?_)
  clear hK K;refine norm_ (a':= ?_) ?_ ?_;rotate_left
  ·show Act.put _ (some 37) _=_;simp only[Act.put,List.setIfInBounds_toArray,List.set_cons_zero,List.set_cons_succ,i64_w,i32_w];rfl
  refine one_ (i:=16) (N:=some 38) (bv 19 131071) rfl rfl (by kernel_rfl) (by decide) (fun K hK=> ?_)
  refine Kd.R_append_step kE (w0:=w2.drew) B (by rfl) (.tmp 35) (.tmp 37) 47 49 (.agg #[.int .i64 0,.slice none 0 0,.int .i64 0,.int .i64 0,.int .i64 0,.int .i64 0]) 64 rfl Tryz.underlying47 infoEv rfl (by decide) (by omega) (.slice hh.A hh.n hh.c) sr ⟨xt,⟨xA,xn,xc⟩,(i:Int),xd,xp,xa⟩ [.int .i64 xt,.slice xA xn xc,.int .i64 (i:Int),.int .i64 xd,.int .i64 xp,.int .i64 xa] (fun _=>True) (fun _=>False) rfl rfl rfl (fun _ hk=>hk.elim) (fun _ _=>trivial) (Kd.R_drew HSE.out) (Below.refl _ _) HSZ.out (by have:=HSL.out;omega) ?_;intro v5 w5 hv5 hb5 hg5 hat5;obtain⟨Z5,z5,zc5,hn5,rfl⟩:=R_slice3 hv5
  have hx10:w5.cell? ⟨g,i,none⟩=some (.slice hh.A hh.n hh.c):=by simp only[World.cell?,hg5.block g HGL.out HNB.out];exact HGI.out.1
  have hf10:w5.frozen? ⟨g,i,none⟩=false:=by simp only[World.frozen?,hg5.block g HGL.out HNB.out];exact HGI.out.2.1
  have yb:w5.cell? ⟨b,5,none⟩=some (.slice (some ⟨g,0,none⟩) n cg):=by simp only[World.cell?,hg5.block b HBL.out HNBB.out];exact HEL0.out.1
  have y0:w5.cell? ⟨qe,0,none⟩=some (.int .i64 xt):=by simp only[World.cell?,hg5.block qe HQL.out HNQ.out];exact HEL0.out.2.2.1
  have y1:w5.cell? ⟨qe,1,none⟩=some (.slice xA xn xc):=by simp only[World.cell?,hg5.block qe HQL.out HNQ.out];exact HEL0.out.2.2.2.1
  have y2:w5.cell? ⟨qe,2,none⟩=some (.int .i64 (i:Int)):=by simp only[World.cell?,hg5.block qe HQL.out HNQ.out];exact HEL0.out.2.2.2.2.1
  have y3:w5.cell? ⟨qe,3,none⟩=some (.int .i64 xd):=by simp only[World.cell?,hg5.block qe HQL.out HNQ.out];exact HEL0.out.2.2.2.2.2.1
  have y4:w5.cell? ⟨qe,4,none⟩=some (.int .i64 xp):=by simp only[World.cell?,hg5.block qe HQL.out HNQ.out];exact HEL0.out.2.2.2.2.2.2.1
  have y5:w5.cell? ⟨qe,5,none⟩=some (.int .i64 xa):=by simp only[World.cell?,hg5.block qe HQL.out HNQ.out];exact HEL0.out.2.2.2.2.2.2.2
  have HV5:=am hv5;have HG5:=am hg5;have HAT5:=am hat5;have HB5:=am hb5;clear hv5 hg5 hb5 hat5 hn5;refine hK.out _ _ ⟨yb,hx10,y0,y1,y2,y3,y4,y5⟩ (fun hHeld=> ?_);clear hK K;refine norm_ (a':= ?_) ?_ ?_;rotate_left
  ·show Act.put _ (some 38) _=_;simp only[Act.put,List.setIfInBounds_toArray,List.set_cons_zero,List.set_cons_succ,i64_w,i32_w];rfl
  refine pz_ 17 39 19 262143 ?_;refine last_ (i:=18) (N:=none) (bv 19 524287) rfl rfl (by kernel_rfl) (by decide) (fun K hK=> ?_);refine skip_ (w1:= ?_) (by rfl) rfl ?_ ?_;rotate_left
  ·go_simp;rfl
  refine hK.out _ _ ?_;clear hK K;refine done_ (by kernel_rfl) ?_;have hd2:=below_drew (Below.refl w2.heap.size w2);have hex:EvAt (Mtab (Ms Mt b gl) g hs) w2.drew ⟨xt,⟨xA,xn,xc⟩,(i:Int),xd,xp,xa⟩ e:=by
   have h5:=(HE1.out.keep HKW2.out).keep (Keep.of_below hd2);exact⟨h5.t,HI.out.symm,h5.kd,h5.pr,h5.ar,h5.k⟩
  obtain⟨h3,hto⟩:=(H2.out.more hd2).push i HI1.out HI2.out (HSE2.out.imp fun _ _ h=>h.keep (Keep.of_below hd2)) hex HV5.out HG5.out HAT5.out;obtain⟨w3,hw3⟩:∃w3,w5.setCell ⟨g,i,none⟩ (.slice Z5 z5 zc5)=w3:=⟨_,rfl⟩;rw[hw3]at h3 hto ⊢;obtain⟨hs3,hhs3⟩:∃hs3,hs.set i ⟨Z5,z5,zc5⟩=hs3:=⟨_,rfl⟩;rw[hhs3]at h3 hto;have hke3:w3.heap[qe]?=some (.cells #[.int .i64 xt,.slice xA xn xc,.int .i64 (i:Int),.int .i64 xd,.int .i64 xp,.int .i64 xa] 49 (0,0)):=(hto.keep.block qe HQL.out fun hm=>by
   have h5:=HQE.out;rcases hm with hm|hm|⟨y,hy,hm⟩
   ·exact hm
   ·have:=H.out.tab.row.typed.2.2;omega
   ·have:=(H.out.tab.own y hy qe hm).2.2;omega).trans HKE2.out
  have hex3:EvAt (Mtab (Ms Mt b gl) g hs3) w3 ⟨xt,⟨xA,xn,xc⟩,(i:Int),xd,xp,xa⟩ e:=hex.fresh hto.keepM hto.oldM;have hb3:Below B w w3:=HB2.out.trans ⟨hto.os,hto.tape,hto.output,hto.keep.size,fun k hk=>(hto.keep.block k (Nat.lt_of_lt_of_le hk HSZ.out) fun hm=>by
   rcases hm with hm|hm|⟨y,hy,hm⟩
   ·exact hm
   ·have:=H2.out.tab.row.typed.2.1;omega
   ·have:=(H2.out.tab.own y hy k hm).2.1;omega)⟩
  have HTR:=am (show s.tr.set i (s.tr.getD i []++[e])=s.tr.set i (ti++[e])by rw[List.getD_eq_getElem?_getD,HI2.out];rfl);have q8:w3.cell? ⟨b,8,none⟩=some (.int .i64 (s.n:Int)):=h3.cells (Below.refl _ _) 8 _ rfl;have z8:w3.frozen? ⟨b,8,none⟩=false:=blk_frozen h3.blk 8;have hwr:IntKind.i64.wrap ((s.n:Int)+1)=(s.n:Int)+1:=IntWalk.i64_in _ (by have:=HC.out.cn;omega);have H3:=am h3;have HKE3:=am hke3;have HX3:=am hex3;have HB3:=am hb3
  clear hd2 hex h3 hto hw3 hhs3 hke3 hex3 hb3 HV5 HG5 HAT5 HEL2 HEL0 HGI HSE HSE2 hx10 hf10 yb y0 y1 y2 y3 y4 y5 HB5 HNB HNBB HNQ HGL HSL HQL HBL;obtain⟨sn,hsn⟩:∃sn,s.n=sn:=⟨_,rfl⟩;rw[hsn]at q8 hwr;have HSN:=am hsn;clear hsn;go_upto_region 4 with (fail)
  obtain⟨w4,hw4⟩:∃w4,w3.setCell ⟨b,8,none⟩ (.int .i64 ((sn:Int)+1))=w4:=⟨_,rfl⟩;rw[hw4];have hkb:Keep (·=b) w3 w4:=hw4▸Keep.set (Mt:=(·=b)) (b:=b) rfl _;have h4:=H3.out.moved (m':=sn+1) (ov':=s.ov) hkb (by rw[←hw4];exact blk_put H3.out.blk 8 _ rfl) (H3.out.pend.keep (hkb.mono fun k _ e=> .inl (.inr (.inl e))));have hx4:=HX3.out.keep (hkb.mono fun k _ e=>(.inl (.inr (.inl e)):Mtab (Ms Mt b gl) g hs3 k));have hke4:w4.heap[qe]?=some (.cells #[.int .i64 xt,.slice xA xn xc,.int .i64 (i:Int),.int .i64 xd,.int .i64 xp,.int .i64 xa] 49 (0,0)):=(hkb.block qe (blk_lt HKE3.out) fun e=>by
   have:=blk_lt H.out.blk;have:=HQE.out;omega).trans HKE3.out
  have hil:i<ss.length:=by have h5:=h4.lps.len;have:=HC.out.ll;simp only at h5;omega
  obtain⟨y,hy⟩:∃y,ss[i]=y:=⟨_,rfl⟩;have hv:=h4.row.vals i hil hy;have hly:LpAt (Mtab (Ms Mt b gl) g hs3) w4 y lp:=by
   have h5:=h4.lps.get i hil (by have:=HC.out.ll;simp only;omega);rw[hy]at h5;have h6:=HC.out.at_;rw[HI.out,Int.toNat_natCast,List.getElem?_eq_getElem (by have:=HC.out.ll;omega)]at h6
   injection h6 with h6
   rw[←h6];exact h5
  have hll4:=h4.row.typed.2.2
  have HEL4:=am (show∀w',Below w4.heap.size w4 w'→w'.cell? ⟨b,0,none⟩=some (.slice c.lps.A c.lps.n c.lps.c)∧w'.cell? ⟨b,1,none⟩=some (.slice c.pgs.A c.pgs.n c.pgs.c)∧w'.cell? ⟨b,2,none⟩=some (.int .i64 c.la)∧w'.cell? ⟨b,3,none⟩=some (.int .i64 c.en)∧w'.cell? ⟨b,4,none⟩=some (.int .i64 c.cp)∧w'.cell? ⟨b,6,none⟩=some (.slice (some ⟨gl,0,none⟩) n cl)∧w'.cell? ⟨qe,0,none⟩=some (.int .i64 xt)∧w'.cell? ⟨qe,1,none⟩=some (.slice xA xn xc)∧w'.cell? ⟨qe,2,none⟩=some (.int .i64 (i:Int))∧w'.cell? ⟨qe,3,none⟩=some (.int .i64 xd)∧w'.cell? ⟨qe,4,none⟩=some (.int .i64 xp)∧w'.cell? ⟨qe,5,none⟩=some (.int .i64 xa)∧w'.cell? ⟨gl,i*4,none⟩=some (.int .i64 y.r0)∧w'.cell? ⟨gl,i*4+1,none⟩=some (.int .i64 y.r1)∧w'.cell? ⟨gl,i*4+2,none⟩=some (.slice y.ps.A y.ps.n y.ps.c)∧w'.cell? ⟨gl,i*4+3,none⟩=some (.int .i64 y.sum)from fun w' hb=>by
   have k1:=box_more hb hke4;have k2:=box_more hb h4.blk;have k3:∀j,w'.cell? ⟨gl,j,none⟩=w4.cell? ⟨gl,j,none⟩:=fun j=>hb.cell (p:=⟨gl,j,none⟩) hll4;refine⟨?_,?_,?_,?_,?_,?_,?_,?_,?_,?_,?_,?_,(k3 _).trans hv.1,(k3 _).trans hv.2.1,(k3 _).trans hv.2.2.1,(k3 _).trans hv.2.2.2⟩
   ·simp[World.cell?,k2,simCells]
   ·simp[World.cell?,k2,simCells]
   ·simp[World.cell?,k2,simCells]
   ·simp[World.cell?,k2,simCells]
   ·simp[World.cell?,k2,simCells]
   ·simp[World.cell?,k2,simCells]
   ·simp[World.cell?,k1]
   ·simp[World.cell?,k1]
   ·simp[World.cell?,k1]
   ·simp[World.cell?,k1]
   ·simp[World.cell?,k1]
   ·simp[World.cell?,k1])
  obtain⟨M,hM⟩:∃M,Mtab (Ms Mt b gl) g hs3=M:=⟨_,rfl⟩;rw[hM]at hly hx4;have HML:=am (show∀k,M k→k<w4.heap.size from fun k hk=>by
   rw[←hM]at hk;rcases h4.mt k hk with h5|h5
   ·have h6:=h4.hb;have h7:=blk_lt h4.blk;have:=HM.out k h5;omega
   ·exact h5.2)
  have hb4:Below B w w4:=hw4▸HB3.out.setCell (p:=⟨b,8,none⟩) H.out.hb _;have HPG4:=am (show PgsAt M w4 c.pgs progs from by
   obtain⟨ps,p1,p2⟩:=HPG.out;have hbw:Below W.heap.size W w4:=by rw[HWB.out];exact HBW.out.trans hb4
   have hmm:∀k,k<W.heap.size→M k→Mt k:=fun k hk hm=>by
    rw[←hM]at hm;rw[HWB.out]at hk;rcases h4.mt k hm with h5|h5
    ·exact h5
    ·omega
   exact⟨ps,p1.fresh (Keep.of_below hbw) hmm,p2.imp fun _ _ h=>h.fresh (Keep.of_below hbw) hmm⟩)
  have HEX:=am (show∀(M':Nat→Prop) (W':World),Below w4.heap.size w4 W'→(∀k,M' k→k<W'.heap.size)→(∀k,k<w4.heap.size→M' k→M k)→Calls Tryz.prog 84 #[.agg #[.slice c.lps.A c.lps.n c.lps.c,.slice c.pgs.A c.pgs.n c.pgs.c,.int .i64 c.la,.int .i64 c.en,.int .i64 c.cp],.agg #[.int .i64 y.r0,.int .i64 y.r1,.slice y.ps.A y.ps.n y.ps.c,.int .i64 y.sum],.agg #[.int .i64 xt,.slice xA xn xc,.int .i64 (i:Int),.int .i64 xd,.int .i64 xp,.int .i64 xa]] W' (fun r w'=>∃(s:SLp) (ch xh:SH),r= .returned (.tuple #[.agg #[.int .i64 s.r0,.int .i64 s.r1,.slice s.ps.A s.ps.n s.ps.c,.int .i64 s.sum],.slice ch.A ch.n ch.c,.slice xh.A xh.n xh.c,.bool (exec progs lp e).2.2.2])∧LpAt M' w' s (exec progs lp e).1∧EvsAt M' w' ch (exec progs lp e).2.1∧KeysAt M' w' xh (exec progs lp e).2.2.1∧Below W'.heap.size W' w')from fun M' W' hb hM' hm=>by
   obtain⟨ps,p1,p2⟩:=HPG4.out;have h5:=exec_calls hM' c y ⟨xt,⟨xA,xn,xc⟩,(i:Int),xd,xp,xa⟩ (hly.fresh (Keep.of_below hb) hm) (hx4.fresh (Keep.of_below hb) hm) (show PgsAt M' W' c.pgs progs from⟨ps,p1.fresh (Keep.of_below hb) hm,p2.imp fun _ _ h=>h.fresh (Keep.of_below hb) hm⟩) HC.out.pre HC.out.pg;simp only[SCf.v,SLp.v,SE.v]at h5;refine h5.mono ?_;rintro r w' ⟨⟨s,ch,xh,rfl,q1,q2,q3⟩,q4⟩;exact⟨s,ch,xh,rfl,q1,q2,q3,q4⟩)
  have H4:=am h4;have HMe:=am hM;have HKE4:=am hke4;have HB4:=am hb4;have HIL:=am hil;have HY:=am (show ss[i]?=some y by rw[List.getElem?_eq_getElem hil,hy]);clear hw4 hkb h4 hx4 hke4 hil hy hv hly hll4 hM hb4 hwr q8 z8
  refine sz_ 25 (S:=fun w'=>w'.cell? ⟨b,0,none⟩=some (.slice c.lps.A c.lps.n c.lps.c)∧w'.cell? ⟨b,1,none⟩=some (.slice c.pgs.A c.pgs.n c.pgs.c)∧w'.cell? ⟨b,2,none⟩=some (.int .i64 c.la)∧w'.cell? ⟨b,3,none⟩=some (.int .i64 c.en)∧w'.cell? ⟨b,4,none⟩=some (.int .i64 c.cp)∧w'.cell? ⟨b,6,none⟩=some (.slice (some ⟨gl,0,none⟩) n cl)∧w'.cell? ⟨qe,0,none⟩=some (.int .i64 xt)∧w'.cell? ⟨qe,1,none⟩=some (.slice xA xn xc)∧w'.cell? ⟨qe,2,none⟩=some (.int .i64 (i:Int))∧w'.cell? ⟨qe,3,none⟩=some (.int .i64 xd)∧w'.cell? ⟨qe,4,none⟩=some (.int .i64 xp)∧w'.cell? ⟨qe,5,none⟩=some (.int .i64 xa)∧w'.cell? ⟨gl,i*4,none⟩=some (.int .i64 y.r0)∧w'.cell? ⟨gl,i*4+1,none⟩=some (.int .i64 y.r1)∧w'.cell? ⟨gl,i*4+2,none⟩=some (.slice y.ps.A y.ps.n y.ps.c)∧w'.cell? ⟨gl,i*4+3,none⟩=some (.int .i64 y.sum)) (ds:=[]) ⟨(HEL4.out _ (below_drew (Below.refl w4.heap.size w4))).1,(HEL4.out _ (below_drew (Below.refl w4.heap.size w4))).2.1,(HEL4.out _ (below_drew (Below.refl w4.heap.size w4))).2.2.1,(HEL4.out _ (below_drew (Below.refl w4.heap.size w4))).2.2.2.1,(HEL4.out _ (below_drew (Below.refl w4.heap.size w4))).2.2.2.2.1,(HEL4.out _ (below_drew (Below.refl w4.heap.size w4))).2.2.2.2.2.1,(HEL4.out _ (below_drew (Below.refl w4.heap.size w4))).2.2.2.2.2.2.1,(HEL4.out _ (below_drew (Below.refl w4.heap.size w4))).2.2.2.2.2.2.2.1,(HEL4.out _ (below_drew (Below.refl w4.heap.size w4))).2.2.2.2.2.2.2.2.1,(HEL4.out _ (below_drew (Below.refl w4.heap.size w4))).2.2.2.2.2.2.2.2.2.1,(HEL4.out _ (below_drew (Below.refl w4.heap.size w4))).2.2.2.2.2.2.2.2.2.2.1,(HEL4.out _ (below_drew (Below.refl w4.heap.size w4))).2.2.2.2.2.2.2.2.2.2.2.1,(HEL4.out _ (below_drew (Below.refl w4.heap.size w4))).2.2.2.2.2.2.2.2.2.2.2.2.1,(HEL4.out _ (below_drew (Below.refl w4.heap.size w4))).2.2.2.2.2.2.2.2.2.2.2.2.2.1,(HEL4.out _ (below_drew (Below.refl w4.heap.size w4))).2.2.2.2.2.2.2.2.2.2.2.2.2.2.1,(HEL4.out _ (below_drew (Below.refl w4.heap.size w4))).2.2.2.2.2.2.2.2.2.2.2.2.2.2.2⟩ (fun hHeld=> ?_)
  refine pz_ 0 48 25 1 ?_;refine pz_ 1 49 25 3 ?_;refine pz_ 2 50 25 7 ?_;refine pz_ 4 52 25 23 ?_;refine pz_ 5 53 25 55 ?_;refine pz_ 6 54 25 119 ?_;refine pz_ 8 56 25 375 ?_;refine tz_ 3 51 25 383 hHeld ?_;refine tz_ 7 55 25 511 hHeld ?_;refine tz_ 9 57 25 1023 hHeld ?_;refine pz_ 10 58 25 2047 ?_;refine tz_ 11 59 25 4095 hHeld ?_;refine tz_ 12 60 25 8191 hHeld ?_
  refine compN_ (fuel:=1) (bv 25 16777215) [(13,61),(14,47),(15,62),(16,63),(17,64),(18,65),(19,3),(20,5),(21,1000),(22,4),(23,1001)] (fun c=>if c=14 then [13]else if c=15 then [14]else if c=16 then [14]else if c=17 then [14]else if c=18 then [14]else if c=21 then [15,19]else if c=22 then [16,21]else if c=23 then [17,20,22]else []) (ExI M w4 (exec progs lp e)) (by kernel_rfl) (by decide) (by decide) (fun D x w' hI=>HEL4.out w' hI.below) (fun x=>⟨below_drew (Below.refl _ _),(fun h=>by cases h),(fun h=>by cases h),(fun h=>by cases h),(fun h=>by cases h),(fun j hj h=>by cases h),(fun h=>by cases h),(fun h=>by cases h),(fun h=>by cases h)⟩) ?_ ?_
  ·intro c hc;simp only[List.map_cons,List.map_nil,List.mem_cons,List.not_mem_nil,or_false]at hc;rcases hc with rfl|rfl|rfl|rfl|rfl|rfl|rfl|rfl|rfl|rfl|rfl
   ·refine⟨_,_,61,rfl,rfl,by simp,Or.inl rfl,fun D x w' hI hD hd a' ha K hK=> ?_⟩;simp only[mkA,List.map_cons,List.map_nil,putAll,Act.put,List.setIfInBounds_toArray,List.set_cons_zero,List.set_cons_succ,List.set_nil]at ha;subst ha
    refine goes_ Tryz.func84 (by kernel_rfl) rfl #[.agg #[.slice c.lps.A c.lps.n c.lps.c,.slice c.pgs.A c.pgs.n c.pgs.c,.int .i64 c.la,.int .i64 c.en,.int .i64 c.cp],.agg #[.int .i64 y.r0,.int .i64 y.r1,.slice y.ps.A y.ps.n y.ps.c,.int .i64 y.sum],.agg #[.int .i64 xt,.slice xA xn xc,.int .i64 (i:Int),.int .i64 xd,.int .i64 xp,.int .i64 xa]] (by rfl) rfl rfl (by simp only[List.map_toArray,List.map_cons,List.map_nil];rfl) ?_
    refine(HEX.out (Mv M D x) w' hI.below (fun k hk=>(hI.own k hk).elim (fun h=>Nat.lt_of_lt_of_le (HML.out k h) hI.below.size) (fun h=>h.2)) (fun k hk hm=>(hI.own k hm).elim id (fun h=>by omega))).mono ?_;rintro r w5 ⟨s5,ch,xh,rfl,q1,q2,q3,hb5⟩;exact⟨_,rfl,hK _ _ (hI.add (by decide) hD hb5 (fun k h _=>by omega) (fun h=>by omega) (fun h=>by omega) (fun _=>⟨s5,ch,xh,rfl,q1,q2,q3⟩) (fun h=>by omega) (fun j hj h=>by omega) (fun h=>by omega))⟩
   ·refine⟨_,_,47,rfl,rfl,by simp,Or.inl rfl,fun D x w' hI hD hd a' ha K hK=> ?_⟩;simp only[mkA,List.map_cons,List.map_nil,putAll,Act.put,List.setIfInBounds_toArray,List.set_cons_zero,List.set_cons_succ,List.set_nil]at ha;subst ha;refine value_ (w1:=w') (v:=x 13) (by rfl) rfl ?_ ?_
    ·go_simp
    ·exact hK _ _ (hI.add (by decide) hD (Below.refl _ _) (fun k h _=>by omega) (fun h=>by omega) (fun h=>by omega) (fun h=>by omega) (fun _=>⟨hd 13 (by simp),rfl⟩) (fun j hj h=>by omega) (fun h=>by omega))
   ·refine⟨_,_,62,rfl,rfl,by simp,Or.inl rfl,fun D x w' hI hD hd a' ha K hK=> ?_⟩;simp only[mkA,List.map_cons,List.map_nil,putAll,Act.put,List.setIfInBounds_toArray,List.set_cons_zero,List.set_cons_succ,List.set_nil]at ha;subst ha;have ht:=hI.t (hd 14 (by simp));obtain⟨s5,ch,xh,hx13,q1,q2,q3⟩:=hI.r ht.1;have e14:=ht.2.trans hx13;refine value_ (w1:=w') (v:=tg (x 13) 0) (by rfl) rfl ?_ ?_
    ·rw[hx13];go_simp;rfl
    ·exact hK _ _ (hI.add (by decide) hD (Below.refl _ _) (fun k h _=>by omega) (fun h=>by omega) (fun h=>by omega) (fun h=>by omega) (fun h=>by omega) (fun j hj h=>⟨ht.1,by rw[show j=0 by omega]⟩) (fun h=>by omega))
   ·refine⟨_,_,63,rfl,rfl,by simp,Or.inl rfl,fun D x w' hI hD hd a' ha K hK=> ?_⟩;simp only[mkA,List.map_cons,List.map_nil,putAll,Act.put,List.setIfInBounds_toArray,List.set_cons_zero,List.set_cons_succ,List.set_nil]at ha;subst ha;have ht:=hI.t (hd 14 (by simp));obtain⟨s5,ch,xh,hx13,q1,q2,q3⟩:=hI.r ht.1;have e14:=ht.2.trans hx13;refine value_ (w1:=w') (v:=tg (x 13) 1) (by rfl) rfl ?_ ?_
    ·rw[hx13];go_simp;rfl
    ·exact hK _ _ (hI.add (by decide) hD (Below.refl _ _) (fun k h _=>by omega) (fun h=>by omega) (fun h=>by omega) (fun h=>by omega) (fun h=>by omega) (fun j hj h=>⟨ht.1,by rw[show j=1 by omega]⟩) (fun h=>by omega))
   ·refine⟨_,_,64,rfl,rfl,by simp,Or.inl rfl,fun D x w' hI hD hd a' ha K hK=> ?_⟩;simp only[mkA,List.map_cons,List.map_nil,putAll,Act.put,List.setIfInBounds_toArray,List.set_cons_zero,List.set_cons_succ,List.set_nil]at ha;subst ha;have ht:=hI.t (hd 14 (by simp));obtain⟨s5,ch,xh,hx13,q1,q2,q3⟩:=hI.r ht.1;have e14:=ht.2.trans hx13;refine value_ (w1:=w') (v:=tg (x 13) 2) (by rfl) rfl ?_ ?_
    ·rw[hx13];go_simp;rfl
    ·exact hK _ _ (hI.add (by decide) hD (Below.refl _ _) (fun k h _=>by omega) (fun h=>by omega) (fun h=>by omega) (fun h=>by omega) (fun h=>by omega) (fun j hj h=>⟨ht.1,by rw[show j=2 by omega]⟩) (fun h=>by omega))
   ·refine⟨_,_,65,rfl,rfl,by simp,Or.inl rfl,fun D x w' hI hD hd a' ha K hK=> ?_⟩;simp only[mkA,List.map_cons,List.map_nil,putAll,Act.put,List.setIfInBounds_toArray,List.set_cons_zero,List.set_cons_succ,List.set_nil]at ha;subst ha;have ht:=hI.t (hd 14 (by simp));obtain⟨s5,ch,xh,hx13,q1,q2,q3⟩:=hI.r ht.1;have e14:=ht.2.trans hx13;refine value_ (w1:=w') (v:=tg (x 13) 3) (by rfl) rfl ?_ ?_
    ·rw[hx13];go_simp;rfl
    ·exact hK _ _ (hI.add (by decide) hD (Below.refl _ _) (fun k h _=>by omega) (fun h=>by omega) (fun h=>by omega) (fun h=>by omega) (fun h=>by omega) (fun j hj h=>⟨ht.1,by rw[show j=3 by omega]⟩) (fun h=>by omega))
   ·refine⟨_,_,3,rfl,rfl,by simp,Or.inl rfl,fun D x w' hI hD hd a' ha K hK=> ?_⟩;simp only[mkA,List.map_cons,List.map_nil,putAll,Act.put,List.setIfInBounds_toArray,List.set_cons_zero,List.set_cons_succ,List.set_nil]at ha;subst ha;refine value_ (w1:=w'.alloc (.cells zLP 91)) (v:= .pointer (some ⟨w'.heap.size,0,none⟩)) (by rfl) rfl ?_ ?_
    ·go_simp
    ·exact hK _ _ (hI.add (by decide) hD (below_alloc (Below.refl _ _) _) (fun k _ h=>by cases h;exact Nat.le_refl _) (fun _=>⟨_,rfl,hI.below.size,World.alloc_heap_new _ _⟩) (fun h=>by omega) (fun h=>by omega) (fun h=>by omega) (fun j hj h=>by omega) (fun h=>by omega))
   ·refine⟨_,_,5,rfl,rfl,by simp,Or.inl rfl,fun D x w' hI hD hd a' ha K hK=> ?_⟩;simp only[mkA,List.map_cons,List.map_nil,putAll,Act.put,List.setIfInBounds_toArray,List.set_cons_zero,List.set_cons_succ,List.set_nil]at ha;subst ha;refine value_ (w1:=w'.alloc (.cells #[.slice none 0 0] 134)) (v:= .pointer (some ⟨w'.heap.size,0,none⟩)) (by rfl) rfl ?_ ?_
    ·go_simp
    ·exact hK _ _ (hI.add (by decide) hD (below_alloc (Below.refl _ _) _) (fun k _ h=>by cases h;exact Nat.le_refl _) (fun h=>by omega) (fun _=>⟨_,rfl,hI.below.size,World.alloc_heap_new _ _⟩) (fun h=>by omega) (fun h=>by omega) (fun j hj h=>by omega) (fun h=>by omega))
   ·refine⟨_,_,1000,rfl,rfl,by simp,Or.inr ⟨rfl,by simp⟩,fun D x w' hI hD hd a' ha K hK=> ?_⟩;simp only[mkA,List.map_cons,List.map_nil,putAll,Act.put,List.setIfInBounds_toArray,List.set_cons_zero,List.set_cons_succ,List.set_nil]at ha;subst ha;have h15:=hI.u 0 (by decide) (hd 15 (by simp));obtain⟨q,cs,hq1,hq2,hq3,hq4,hq5⟩:=hI.a (hd 19 (by simp));obtain⟨s5,ch,xh,hx13,p1,p2,p3⟩:=hI.r h15.1;have hx15:x 15= .agg #[.int .i64 s5.r0,.int .i64 s5.r1,.slice s5.ps.A s5.ps.n s5.ps.c,.int .i64 s5.sum]:=h15.2.trans (by rw[hx13];rfl);obtain⟨w6,hst,hg,hq6⟩:=lp_store hq4 hq3 s5
    refine skip_store (by rfl) rfl rfl hq1 hx15 hst ?_;exact hK undef _ (hI.put21 hD (hd 15 (by simp)) (hd 19 (by simp)) hq1 hg hq6 rfl hx15)
   ·refine⟨_,_,4,rfl,rfl,by simp,Or.inl rfl,fun D x w' hI hD hd a' ha K hK=> ?_⟩;simp only[mkA,List.map_cons,List.map_nil,putAll,Act.put,List.setIfInBounds_toArray,List.set_cons_zero,List.set_cons_succ,List.set_nil]at ha;subst ha;refine value_ (w1:=w') (v:=x 16) (by rfl) rfl ?_ ?_
    ·go_simp
    ·exact hK _ _ (hI.add (by decide) hD (Below.refl _ _) (fun k h _=>by omega) (fun h=>by omega) (fun h=>by omega) (fun h=>by omega) (fun h=>by omega) (fun j hj h=>by omega) (fun _=>⟨hd 16 (by simp),rfl⟩))
   ·refine⟨_,_,1001,rfl,rfl,by simp,Or.inr ⟨rfl,by simp⟩,fun D x w' hI hD hd a' ha K hK=> ?_⟩;simp only[mkA,List.map_cons,List.map_nil,putAll,Act.put,List.setIfInBounds_toArray,List.set_cons_zero,List.set_cons_succ,List.set_nil]at ha;subst ha;have h17:=hI.u 2 (by decide) (hd 17 (by simp));obtain⟨q,v0,hq1,hq2,hq4,hq5⟩:=hI.b (hd 20 (by simp));obtain⟨s5,ch,xh,hx13,p1,p2,p3⟩:=hI.r h17.1;have hx17:x 17= .slice xh.A xh.n xh.c:=h17.2.trans (by rw[hx13];rfl);refine skip_store (by rfl) rfl rfl hq1 hx17 (box_store hq4 _ _ _) ?_
    exact hK undef _ (hI.put23 hD (hd 17 (by simp)) (hd 20 (by simp)) hq1 hq4 hx17)
  intro x w7 hI;have hHeld:=HEL4.out w7 hI.below;obtain⟨qy,cs,hya1,hya2,hya3,hya4,hya5⟩:=hI.a (by decide);obtain⟨qz,vz,hzb1,hzb2,hzb3,hzb4⟩:=hI.b (by decide);obtain⟨s5,ch,xh,hx13,k1,k2,k3⟩:=hI.r (by decide);have hx15:x 15= .agg #[.int .i64 s5.r0,.int .i64 s5.r1,.slice s5.ps.A s5.ps.n s5.ps.c,.int .i64 s5.sum]:=(hI.u 0 (by decide) (by decide)).2.trans (by rw[hx13];rfl);have hx16:x 16= .slice ch.A ch.n ch.c:=(hI.u 1 (by decide) (by decide)).2.trans (by rw[hx13];rfl);have hx17:x 17= .slice xh.A xh.n xh.c:=(hI.u 2 (by decide) (by decide)).2.trans (by rw[hx13];rfl)
  have hx18:x 18= .bool (exec progs lp e).2.2.2:=(hI.u 3 (by decide) (by decide)).2.trans (by rw[hx13];rfl);have hx22:=(hI.s (by decide)).2.trans hx16;have hcs:=(hya5 (by decide)).symm.trans hx15;have hvz:=(hzb4 (by decide)).symm.trans hx17
  injection hcs with hcs
  subst hcs;subst hvz;refine norm_ (a':= ?_) ?_ ?_;rotate_left
  ·simp only[mkA,List.map_cons,List.map_nil,putAll,Act.put,List.setIfInBounds_toArray,List.set_cons_zero,List.set_cons_succ,List.set_nil];rfl
  refine pz_ 24 6 25 33554431 ?_;refine done_ (by kernel_rfl) ?_;rw[hx22,hx18];have hbel7:=hI.below;have hyz:=hI.apart (by decide) (by decide) hya1 hzb1;have HL7:=am (k1.fresh (Keep.refl _ _) (fun k _ h=> .inl h):LpAt M w7 s5 _);have HC7:=am (k2.fresh (Keep.refl _ _) (fun k _ h=> .inl h):EvsAt M w7 ch _);have HX7:=am (k3.fresh (Keep.refl _ _) (fun k _ h=> .inl h):KeysAt M w7 xh _);have hq7:=hya4;have hz7:=hzb3;have h7:=H4.out.more hbel7;have HB7:=am (HB4.out.trans (hbel7.mono (by have:=H4.out.hb;have:=blk_lt H4.out.blk;omega)));have hke7:=box_more hbel7 HKE4.out
  obtain⟨q19,hq19⟩:∃v,x 19=v:=⟨_,rfl⟩;obtain⟨q20,hq20⟩:∃v,x 20=v:=⟨_,rfl⟩;obtain rfl:=hq19.symm.trans hya1;obtain rfl:=hq20.symm.trans hzb1;rw[hq19,hq20];obtain⟨x13,hx13'⟩:∃v,x 13=v:=⟨_,rfl⟩;have HYL:=am hya2;have HZL:=am hzb2;have HYZ:=am hyz;have f0:w7.cell? ⟨b,6,none⟩=some (.slice (some ⟨gl,0,none⟩) n cl):=h7.cells (Below.refl _ _) 6 _ rfl;have f1:w7.cell? ⟨qe,2,none⟩=some (.int .i64 (i:Int)):=by simp[World.cell?,hke7]
  have f2:w7.cell? ⟨qy,0,none⟩=some (.int .i64 s5.r0):=by simp[World.cell?,hq7]
  have f3:w7.cell? ⟨qy,1,none⟩=some (.int .i64 s5.r1):=by simp[World.cell?,hq7]
  have f4:w7.cell? ⟨qy,2,none⟩=some (.slice s5.ps.A s5.ps.n s5.ps.c):=by simp[World.cell?,hq7]
  have f5:w7.cell? ⟨qy,3,none⟩=some (.int .i64 s5.sum):=by simp[World.cell?,hq7]
  have hld:=h7.row.get i HIL.out;obtain⟨u0,d0⟩:=Option.isSome_iff_exists.1 (hld.1 0 (by omega));obtain⟨u1,d1⟩:=Option.isSome_iff_exists.1 (hld.1 1 (by omega));obtain⟨u2,d2⟩:=Option.isSome_iff_exists.1 (hld.1 2 (by omega));obtain⟨u3,d3⟩:=Option.isSome_iff_exists.1 (hld.1 3 (by omega));have y0:=hld.2.1 (i*4);have y1:=hld.2.1 (i*4+1);have y2:=hld.2.1 (i*4+2);have y3:=hld.2.1 (i*4+3);rw[Nat.add_zero]at d0;have H7:=am h7;have HZ7:=am hz7;clear hbel7 hq7 hz7 h7 hke7 hld hHeld hI hya1 hya2 hya3 hya4 hya5 hzb1 hzb2 hzb3 hzb4 k1 k2 k3 hx13 hx15 hx16 hx17 hx18 hx22 hyz
  obtain⟨ov5,hov5⟩:∃v,(exec progs lp e).2.2.2=v:=⟨_,rfl⟩;rw[hov5];have HOV:=am hov5;clear hov5;go_upto_region 5 with (fail)
  refine sz_ 9 (S:=fun w'=>w'.cell? ⟨b,6,none⟩=some (.slice (some ⟨gl,0,none⟩) n cl)∧w'.cell? ⟨qe,2,none⟩=some (.int .i64 (i:Int))∧w'.cell? ⟨qy,0,none⟩=some (.int .i64 s5.r0)∧w'.cell? ⟨qy,1,none⟩=some (.int .i64 s5.r1)∧w'.cell? ⟨qy,2,none⟩=some (.slice s5.ps.A s5.ps.n s5.ps.c)∧w'.cell? ⟨qy,3,none⟩=some (.int .i64 s5.sum)) (ds:=[8]) ⟨f0,f1,f2,f3,f4,f5⟩ (fun hHeld=> ?_);refine pz_ 0 66 9 1 ?_;refine pz_ 1 67 9 3 ?_;refine pz_ 2 68 9 7 ?_;refine pz_ 4 70 9 23 ?_;refine tz_ 3 69 9 31 hHeld ?_;refine tz_ 5 71 9 63 hHeld ?_;refine tz_ 6 72 9 127 hHeld ?_;refine pz_ 7 73 9 255 ?_
  refine last_ (i:=8) (N:=none) (bv 9 511) rfl rfl (by kernel_rfl) (by decide) (fun K hK=> ?_);refine skip_ (w1:= ?_) (by rfl) rfl ?_ ?_;rotate_left
  ·go_simp;rfl
  refine hK.out _ _ ?_;clear hK K;refine done_ (by kernel_rfl) ?_;obtain⟨h8,hg8⟩:=H7.out.putL i HIL.out (x:=s5) (by rw[HMe.out];exact HL7.out);obtain⟨w8,hw8⟩:∃w8,((((w7.setCell ⟨gl,i*4,none⟩ (.int .i64 s5.r0)).setCell ⟨gl,i*4+1,none⟩ (.int .i64 s5.r1)).setCell ⟨gl,i*4+2,none⟩ (.slice s5.ps.A s5.ps.n s5.ps.c)).setCell ⟨gl,i*4+3,none⟩ (.int .i64 s5.sum)).drew=w8:=⟨_,rfl⟩;rw[hw8];have hw8':(w7.setCells gl (i*4) s5.cells).drew=w8:=hw8;have hd8:Below (w7.setCells gl (i*4) s5.cells).heap.size (w7.setCells gl (i*4) s5.cells) w8:=hw8'▸below_drew (Below.refl _ _);have h8:=h8.more hd8
  have hk8:Keep M w7 w8:=(Keep.grown hg8 fun k e1=>by injection e1 with e1;rw[←HMe.out,←e1];exact .inl (.inr (.inr rfl))).trans (Keep.of_below hd8);have hgB:B≤gl∧gl<w4.heap.size:=H4.out.row.typed.2;have hz8:=box_more hd8 ((hg8.block qz (blk_lt HZ7.out) (fun e1=>by injection e1 with e1;have:=HZL.out;omega)).trans HZ7.out)
  have HB8:=am (HB7.out.trans ((⟨hg8.os,hg8.tape,hg8.output,hg8.size,fun k hk=>hg8.block k (by have:=H7.out.hb;have:=blk_lt H7.out.blk;omega) (fun e1=>by injection e1 with e1;have:=hgB.1;omega)⟩:Below B w7 (w7.setCells gl (i*4) s5.cells)).trans (hd8.mono (by have:=H7.out.hb;have:=blk_lt H7.out.blk;have:=hg8.size;omega))));have HC8:=am (HC7.out.keep hk8);have HX8:=am (HX7.out.keep hk8);obtain⟨sv,hsv⟩:∃sv,s.ov=sv:=⟨_,rfl⟩;have f9:w8.cell? ⟨b,9,none⟩=some (.bool sv):=by rw[←hsv];exact h8.cells (Below.refl _ _) 9 _ rfl
  have z9:w8.frozen? ⟨b,9,none⟩=false:=blk_frozen h8.blk 9;have H8:=am h8;have HZ8:=am hz8;have HSV:=am hsv;clear hw8 hw8' hd8 h8 hk8 hgB hz8 hsv hg8 f0 f1 f2 f3 f4 f5 d0 d1 d2 d3 y0 y1 y2 y3;go_upto_region 6 with (fail)
  go_cut [] (fun wx=>wx=w8.setCell ⟨b,9,none⟩ (.bool (sv||ov5)))
  case first=>
   cases sv
   all_goals
    go_wp2_with (fail)
    go_meet;exact rfl
  case rest=>
  obtain⟨w9,hw9⟩:∃w9,w8.setCell ⟨b,9,none⟩ (.bool (sv||ov5))=w9:=⟨_,rfl⟩;rw[hw9]at hcut;have hcut2:=hcut.symm;subst hcut2;clear hcut;have hkb:Keep (·=b) w8 w9:=hw9▸Keep.set (Mt:=(·=b)) (b:=b) rfl _;have hkm:Keep M w8 w9:=hkb.mono fun k _ e1=>by rw[←HMe.out];exact .inl (.inr (.inl e1))
  have h9:=H8.out.moved (m':=sn+1) (ov':=sv||ov5) hkb (by rw[←hw9];exact blk_put H8.out.blk 9 _ rfl) (by rw[HMe.out];exact(HMe.out▸H8.out.pend).keep hkm);have HC9:=am (HC8.out.keep hkm);have HX9:=am (HX8.out.keep hkm);have hz9:=(hkb.block qz (blk_lt HZ8.out) (fun e1=>by have:=HZL.out;have:=blk_lt H4.out.blk;omega)).trans HZ8.out;have HB9:=am (hw9▸HB8.out.setCell (p:=⟨b,9,none⟩) H.out.hb _:Below B w w9);have H9:=am h9;have HZ9:=am hz9;clear hkb hkm h9 hz9 hw9 f9 z9;obtain⟨cr,hcr⟩:∃v,(exec progs lp e).2.1=v:=⟨_,rfl⟩
  obtain⟨ca,hca⟩:∃v,(exec progs lp e).2.2.1=v:=⟨_,rfl⟩;have hbd1:=HC.out.bd.cr;have hbd2:=HC.out.bd.crk;have hbd3:=HC.out.bd.ca;have hbd4:=HC.out.bd.cak;have hnd:=HC.out.nd;rw[hcr]at hbd1 hbd2 hnd;rw[hca]at hbd3 hbd4;obtain⟨psl,pr1,pr2⟩:=(HMe.out▸H9.out.pend:EvsAt M w9 ⟨A2,m-1,pc-1⟩ p);obtain⟨csl,cr1,cr2⟩:=(hcr▸HC9.out:EvsAt M w9 ch cr);have hX9:KeysAt M w9 xh ca:=hca▸HX9.out;obtain⟨chA,chn,chc⟩:=ch;have hM9:∀k,M k→k<w9.heap.size:=fun k hk=>by
   rw[←HMe.out]at hk;rcases H9.out.mt k hk with h5|h5
   ·have:=HM.out k h5;have:=H9.out.hb;have:=blk_lt H9.out.blk;omega
   ·exact h5.2
  have hl1:=pr2.len;have hl2:=cr2.len;have hpl:=HC.out.pl;have HCAT:=am (show∀W0,Below w9.heap.size w9 W0→W0.heap[w9.heap.size]?=some (.cells #[.slice A2 (m-1) (pc-1),.slice chA chn chc] THd (0,0))→Calls Tryz.prog 29 #[.slice (some ⟨w9.heap.size,0,none⟩) 2 2] W0 (fun e w'=>∃h':SH,e= .returned (.slice h'.A h'.n h'.c)∧Kd.R kE 49 w' W0.heap.size (fun _=>True) (.slice h'.A h'.n h'.c) (psl++csl)∧Below W0.heap.size W0 w')from fun W0 hb hbl=>by
   have a1:=pr1.fresh (Keep.of_below hb) (fun _ _ h=>h);have a2:=cr1.fresh (Keep.of_below hb) (fun _ _ h=>h);refine(concat_calls (some ⟨w9.heap.size,0,none⟩) 2 2 [⟨A2,m-1,pc-1⟩,⟨chA,chn,chc⟩] [psl,csl] (hd_row [⟨A2,m-1,pc-1⟩,⟨chA,chn,chc⟩] THd hbl (by simp)) (.cons ⟨a1.1,a1.2.1,a1.here⟩ (.cons ⟨a2.1,a2.2.1,a2.here⟩ .nil)) (by omega) (by simp;omega)).mono ?_;rintro e w' ⟨v,rfl,hv,hb2⟩;obtain⟨A,n,c,hnn,rfl⟩:=R_slice3 hv;exact⟨⟨A,n,c⟩,rfl,by simpa using hv,hb2⟩)
  obtain⟨L2,hL2⟩:∃L,(p++cr).filter (fun f=> !ca.contains f.k)=L:=⟨_,rfl⟩;have HDEL:=am (show∀(W1:World) (base:Nat) (h:SH),Below w9.heap.size w9 W1→w9.heap.size≤base→Kd.R kE 49 W1 base (fun _=>True) (.slice h.A h.n h.c) (psl++csl)→Calls Tryz.prog 89 #[.slice h.A h.n h.c,.func (.func 85) #[] #[.pointer (some ⟨qz,0,none⟩)]] W1 (fun e w'=>∃h':SH,e= .returned (.slice h'.A h'.n h'.c)∧EvsAt M w' h' L2∧Below w9.heap.size W1 w')from fun W1 base h hb hbase hr=>by
   rw[←hL2];refine gone_calls hb hbase hr (pr2.append cr2) hM9 HZ9.out hX9 (fun f hf=> ?_) (by omega) hbd4 (by rw[List.length_append];omega);rcases List.mem_append.1 hf with hf|hf
   ·exact HC.out.pk f hf
   ·exact hbd2 f hf)
  have hsub:∀f∈L2,f.k.length≤1000000:=fun f hf=>by
   rw[←hL2]at hf;rcases List.mem_append.1 (List.mem_filter.1 hf).1 with hf|hf
   ·exact HC.out.pk f hf
   ·exact hbd2 f hf
  have hlen2:L2.length≤1000000:=by
   rw[←hL2];refine Nat.le_trans (List.length_filter_le _ _) ?_;rw[List.length_append];omega
  have hkd2:KeysD L2:=by rw[←hL2];exact hnd.sub List.filter_sublist
  have HSRT:=am (show∀(W1:World) (h:SH),Below w9.heap.size w9 W1→EvsAt M W1 h L2→Calls Tryz.prog 76 #[.slice h.A h.n h.c] W1 (fun e w'=>∃h':SH,e= .returned (.slice h'.A h'.n h'.c)∧EvsAt M w' h' (sortC L2)∧Below W1.heap.size W1 w')from fun W1 h hb hr=>by
   refine(sortEvents_calls hr (fun k hk=>Nat.lt_of_lt_of_le (hM9 k hk) hb.size) hlen2 hsub).mono ?_;rintro e w' ⟨h',es',rfl,q1,q2,q3,q4⟩;rw[sortC_of q2 q3 hkd2]at q1;exact⟨h',rfl,q1,q4⟩)
  have HEL9:=am (show∀w',Below w9.heap.size w9 w'→w'.cell? ⟨b,7,none⟩=some (.slice A2 (m-1) (pc-1))from fun w' hb=>H9.out.cells hb 7 _ rfl);have HCR:=am hcr;have HCA:=am hca;have HL2:=am hL2;clear hcr hca hbd1 hbd2 hbd3 hbd4 hnd pr1 pr2 cr1 cr2 hX9 hM9 hl1 hl2 hpl hL2 hsub hlen2 hkd2;have hz10:w9.heap.size≤(w9.alloc (.cells #[.slice A2 (m-1) (pc-1),.slice chA chn chc] 47)).heap.size:=(below_alloc (Below.refl _ _) _).size;have HZ10:=am hz10;have HA10:=am (below_alloc (Below.refl w9.heap.size w9) (.cells #[.slice A2 (m-1) (pc-1),.slice chA chn chc] 47))
  have HC10:=am (HCAT.out (w9.alloc (.cells #[.slice A2 (m-1) (pc-1),.slice chA chn chc] 47)) (below_alloc (Below.refl _ _) _) (World.alloc_heap_new _ _));have x7:w9.cell? ⟨b,7,none⟩=some (.slice A2 (m-1) (pc-1)):=HEL9.out _ (Below.refl _ _);clear hz10
  go_wp2_with (first
   |(go_at_call 29;go_must (with_reducible refine HC10.out.mono ?_);go_must (rintro e1 w10 ⟨⟨hA,hn,hc⟩,rfl,hR10,hb10⟩);go_must (have HB10:=am (HA10.out.trans (hb10.mono HZ10.out));have hd:=HDEL.out _ _ ⟨hA,hn,hc⟩ HB10.out HZ10.out hR10);go_must (simp only at hd);go_must (have HD10:=am hd;clear hd hR10 hb10))
   |(go_at_call 89;go_must (with_reducible refine HD10.out.mono ?_);go_must (rintro e1 w11 ⟨⟨hA2,hn2,hc2⟩,rfl,hE11,hb11⟩);go_must (have HB11:=am (HB10.out.trans hb11);have hd:=HSRT.out _ ⟨hA2,hn2,hc2⟩ HB11.out hE11);go_must (simp only at hd);go_must (have HS11:=am hd;clear hd hE11 hb11))
   |(go_at_call 76;go_must (with_reducible refine HS11.out.mono ?_);go_must (rintro e1 w12 ⟨⟨hA3,hn3,hc3⟩,rfl,hE12,hb12⟩);go_must (have HB12:=HB11.go hb12;have HE12:=am hE12);go_must (have x12:w12.cell? ⟨b,7,none⟩=some (.slice A2 (m-1) (pc-1)):=HEL9.out _ HB12.out);go_must (have y12:w12.frozen? ⟨b,7,none⟩=false:=blk_frozen (box_more HB12.out H9.out.blk) 7);clear hE12 hb12))
  obtain⟨w13,hw13⟩:∃v,w12.setCell ⟨b,7,none⟩ (.slice hA3 hn3 hc3)=v:=⟨_,rfl⟩;rw[hw13];have h12:=H9.out.more HB12.out;have hkb:Keep (·=b) w12 w13:=hw13▸Keep.set (Mt:=(·=b)) (b:=b) rfl _;have hkm:Keep M w12 w13:=hkb.mono fun k _ e1=>by rw[←HMe.out];exact .inl (.inr (.inl e1))
  have h13:=h12.moved (m':=sn+1) (ov':=sv||ov5) (ph':=⟨hA3,hn3,hc3⟩) hkb (by rw[←hw13];exact blk_put h12.blk 7 _ rfl) (by rw[HMe.out];exact HE12.out.keep hkm);have hcm:s.commit progs={tr:=s.tr.set i (ti++[e]),lps:=s.lps.set i (exec progs lp e).1,pend:=sortC L2,n:=sn+1,ov:=sv||ov5}:=by
   have e1:e.lp.toNat=i:=by rw[HI.out];exact Int.toNat_natCast i
   have e2:s.lps.getD i Lp.zero=lp:=by
    have h5:=HC.out.at_;rw[e1]at h5;rw[List.getD_eq_getElem?_getD,h5];rfl
   unfold Sq.commit;rw[HC.out.pend];simp only[e1,e2,HCR.out,HCA.out,HL2.out,HTR.out,HSN.out,HSV.out,HOV.out]
  have h14:SimAt Mt B w13 b n g cg gl cl c hs3 (ss.set i s5) ⟨hA3,hn3,hc3⟩ (s.commit progs):=by
   rw[hcm];exact h13
  have hb14:Below B w (w12.setCell ⟨b,7,none⟩ (.slice hA3 hn3 hc3)):=(HB9.out.trans (HB12.out.mono (by have:=H9.out.hb;have:=blk_lt H9.out.blk;omega))).setCell (p:=⟨b,7,none⟩) H.out.hb _;rw[hw13]at hb14;have H14:=am h14;have HB14:=am hb14;clear h13 hcm hkm hkb h12 h14 hb14 hw13 x12 y12
  go_end0
  exact⟨⟨_,rfl⟩,⟨_,_,_,H14.out⟩,HB14.out⟩
end
structure SqI (N P:Nat) (C:List (List Int)) (s:Sq):Prop where
 k:KInv N P C s.lps s.pend
 nt:s.tr.length=N
 cn:C.length=s.n
 tl:∀t∈s.tr,t.length≤s.n
 pl:s.pend.length≤64+16*s.n
theorem SqI.step {N P:Nat} {la:Int} {pgs:List (List OpC)} {C:List (List Int)} {s:Sq} {e:Ev} {p:List Ev} (h:SqI N P C s) (hP:pgs.length=P) (hP8:P≤8) (hp:∀p∈pgs,∀o∈p,OpV N P la o) (hpl:∀p∈pgs,p.length≤16) (he:s.pend=e::p) (hn:s.n≤2000):
  ∃lp,CmPre pgs N s e p lp∧SqI N P (e.k::C) (s.commit pgs)∧(s.commit pgs).n=s.n+1:=by
 have heQ:e∈s.pend:=he▸List.mem_cons_self;have hr:=h.k.rng e heQ;have hnl:=h.k.nl;have hcn:=h.cn;have hlt:e.lp.toNat<s.lps.length:=by omega
 obtain⟨lp,hlp⟩:∃lp,s.lps[e.lp.toNat]?=some lp:=⟨_,List.getElem?_eq_getElem hlt⟩;have hlm:lp∈s.lps:=List.mem_of_getElem? hlp;have st:=h.k.step (la:=la) (R:=p) (he▸List.Perm.refl _) hP hp hlp (by omega);have hek:=h.k.len e heQ;have htm:∀k∈lp.tms,k.length≤C.length+2:=fun k hk=>by
  rcases h.k.tm lp hlm k hk with h1|⟨_,_,h1⟩
  ·rw[h1];simp
  ·exact h1
 have hpl2:=h.pl;rw[he,List.length_cons]at hpl2;have hfew:=st.ex.few;have hg:s.lps.getD e.lp.toNat Lp.zero=lp:=by rw[List.getD_eq_getElem?_getD,hlp];rfl
 have hcm:s.commit pgs={tr:=s.tr.set e.lp.toNat (s.tr.getD e.lp.toNat []++[e]),lps:=s.lps.set e.lp.toNat (exec pgs lp e).1,pend:=sortC ((p++(exec pgs lp e).2.1).filter (fun f=> !(exec pgs lp e).2.2.1.contains f.k)),n:=s.n+1,ov:=s.ov||(exec pgs lp e).2.2.2}:=by
  unfold Sq.commit;rw[he];simp only[hg]
 refine⟨lp,⟨he,hlp,hr,h.nt,hnl,⟨hP▸h.k.lps lp hlm,by omega,h.k.ar e heQ,fun q hq=>by have:=htm _ (List.mem_map_of_mem hq);omega⟩,⟨by omega,fun l hl=>⟨by have:=hpl l hl;omega,fun x hx=>(hp l hl x hx).ok⟩⟩,⟨hfew.1,fun f hf=> ?_,hfew.2,fun k hk=> ?_⟩,by omega,fun t ht=>by have:=h.tl t ht;omega,fun f hf=> ?_,st.nd,by omega⟩,?_,?_⟩
 ·obtain⟨j,hj⟩:=st.ex.cr f hf;rw[hj];simp only[List.length_append,List.length_cons,List.length_nil];omega
 ·rcases st.ex.tm k (List.mem_append.2 (.inr hk))with h1|h1|⟨j,h1⟩
  ·rw[h1];simp
  ·have:=htm k h1;omega
  ·rw[h1];simp only[List.length_append,List.length_cons,List.length_nil];omega
 ·have:=h.k.len f (he▸List.mem_cons_of_mem _ hf);omega
 ·rw[hcm];refine⟨st.inv.perm (sortC_perm _).symm (.refl _),by simp only[List.length_set];exact h.nt,by simp only[List.length_cons];omega,fun t ht=> ?_,?_⟩
  ·simp only at ht ⊢;rcases List.mem_or_eq_of_mem_set ht with h1|rfl
   ·have:=h.tl t h1;omega
   ·have h2:e.lp.toNat<s.tr.length:=by have:=h.nt;omega
    have h3:=h.tl _ (List.getElem_mem h2);rw[List.getD_eq_getElem?_getD,List.getElem?_eq_getElem h2];simp only[Option.getD_some,List.length_append,List.length_cons,List.length_nil];omega
  ·simp only;rw[(sortC_perm _).length_eq];refine Nat.le_trans (List.length_filter_le _ _) ?_;rw[List.length_append];omega
 ·rw[hcm]
theorem CfOk.sqi {c:Cf} {N P:Nat} (h:CfOk c N P):SqI N P [] c.s0:=by
 refine⟨h.kinv.perm (sortC_perm _).symm (.refl _),by simp only[Cf.s0,List.length_replicate];exact h.n,rfl,fun t ht=> ?_,?_⟩
 ·simp only[Cf.s0]at ht;rw[(List.mem_replicate.1 ht).2];simp
 ·simp only[Cf.s0];rw[(sortC_perm _).length_eq];have:=evs0_len h;omega
structure SeqW (Mt:Nat→Prop) (B:Nat) (w:World) (b n g cg gl cl P:Nat) (c:SCf) (cf:Cf) (s:Sq) (lim:Nat) (k:Nat) (wr:World) (s':Sq):Prop where
 at_:∃(hs:List SH) (ss:List SLp) (ph:SH),SimAt Mt B wr b n g cg gl cl c hs ss ph s'
 inv:∃C,SqI n P C s'
 go:Sq.run cf.pgs cf.en lim s=Sq.run cf.pgs cf.en (k-1) s'
 fuel:s'.n+k=lim+1
 one:1≤k
 bel:Below B w wr
theorem run_ready {pgs:List (List OpC)} {en:Int} {k:Nat} {s:Sq} (h:s.ready en=true):Sq.run pgs en (k+1) s=Sq.run pgs en k (s.commit pgs):=by
 conv=>lhs;unfold Sq.run
 rw[if_pos h]
theorem run_stop {pgs:List (List OpC)} {en:Int} {k:Nat} {s:Sq} (h:s.ready en=false):Sq.run pgs en k s=s:=by
 cases k with
 |zero=>rfl
 |succ k=>
  unfold Sq.run;rw[if_neg (by rw[h];decide)]
theorem ready_pend {en:Int} {s:Sq} (h:s.ready en=true):∃e p,s.pend=e::p:=by
 unfold Sq.ready at h
 split at h
 ·cases h
 ·exact⟨_,_,by assumption⟩
theorem simRun_calls {Mt:Nat→Prop} {B:Nat} {W w:World} {b n g cg gl cl P:Nat} {c:SCf} {cf:Cf} {hs:List SH} {ss:List SLp} {ph:SH} {s:Sq} {C:List (List Int)} (hok:CfOk cf n P) (h:SimAt Mt B w b n g cg gl cl c hs ss ph s) (hM:∀k,Mt k→k<B) (hW:W.heap.size=B) (hbW:Below B W w) (hpg:PgsAt Mt W c.pgs cf.pgs) (hen:c.en=cf.en) (hi:SqI n P C s) (h0:s.n=0) (lim:Nat) (hl:lim≤2000):
  Calls Tryz.prog 31 #[.pointer (some ⟨b,0,none⟩),.int .i64 lim] w fun r w'=>(∃v,r= .returned v)∧(∃(hs':List SH) (ss':List SLp) (ph':SH),SimAt Mt B w' b n g cg gl cl c hs' ss' ph' (Sq.run cf.pgs cf.en lim s))∧Below B w w':=by
 have HW0:=am (show SeqW Mt B w b n g cg gl cl P c cf s lim (lim+1) w s from⟨⟨_,_,_,h⟩,⟨_,hi⟩,rfl,by omega,by omega,Below.refl _ _⟩);have HOK:=am hok;have HM:=am hM;have HWB:=am hW;have HBW:=am hbW;have HPG:=am hpg;have HEN:=am hen;have HL:=am hl;clear hok h hM hW hbW hpg hen hi h0 hl;go_enter Tryz.func31,Tryz.ntmps31
 go_wp2_with (fail)
 go_loopg [4] (lim+1) (fun k e wr=>∃s':Sq,Aside0 (SeqW Mt B w b n g cg gl cl P c cf s lim k wr s'))
 case atStart=>exact⟨_,HW0⟩
 case round=>
  obtain⟨s',HS⟩:=hrel;obtain⟨k,hk⟩:∃k,gk=k+1:=⟨gk-1,by have:=HS.out.one;omega⟩;obtain⟨⟨hs',ss',ph',hat⟩,⟨C',hinv⟩,hgo,hfu,hone,hbel⟩:=HS.out;have x8:wr.cell? ⟨b,8,none⟩=some (.int .i64 (s'.n:Int)):=hat.cells (Below.refl _ _) 8 _ rfl;obtain⟨m,hm⟩:∃m,s'.n=m:=⟨_,rfl⟩;rw[hm]at x8 hfu;have HK:=am hk;have HAT:=am hat;have HINV:=am hinv;have HGO:=am hgo;have HMN:=am hm;have HFU:=am (show m+k=lim by omega);have HBEL:=am hbel;clear hat hinv hgo hfu hone hbel hm hk;by_cases hlt:m<lim
  ·have d1:decide ((m:Int)<(lim:Int))=true:=dt (by omega);have d1':decide (m<lim)=true:=decide_eq_true hlt;obtain⟨k2,hk2⟩:∃k2,k=k2+1:=⟨k-1,by have:=HFU.out;omega⟩;have HK2:=am hk2;clear hk2 hlt;obtain⟨rd,hrd⟩:∃rd,s'.ready c.en=rd:=⟨_,rfl⟩;have HRD:=am (hrd▸ready_calls HAT.out);cases rd with
   |true=>
    have hrd2:s'.ready cf.en=true:=by rw[←HEN.out];exact hrd
    obtain⟨e,p,hep⟩:=ready_pend hrd2;obtain⟨lp,hcp,hinv2,hn2⟩:=HINV.out.step HOK.out.p HOK.out.p8 HOK.out.op HOK.out.pl hep (by rw[HMN.out];have:=HFU.out;have:=HL.out;omega);have HCP:=am hcp;have HI2:=am hinv2;have HN2:=am hn2;have HGO2:=am (show Sq.run cf.pgs cf.en lim s=Sq.run cf.pgs cf.en k2 (s'.commit cf.pgs)by rw[HGO.out,HK.out,Nat.add_sub_cancel,HK2.out,run_ready hrd2]);clear hcp hinv2 hn2 hrd hrd2 hep
    go_wp2_with (first
     |(go_at_call 32;go_must (with_reducible refine HRD.out.mono ?_);go_must (rintro e1 w1 ⟨rfl,hb1⟩);go_must (have HB1:=am hb1;clear hb1);go_must (have HCM:=am (commit_calls (HAT.out.more HB1.out) HM.out HWB.out (HBW.out.trans (HBEL.out.trans (HB1.out.mono (Nat.le_trans HAT.out.hb (Nat.le_of_lt (blk_lt HAT.out.blk)))))) HPG.out HCP.out)))
     |(go_at_call 57;go_must (with_reducible refine HCM.out.mono ?_);go_must (rintro e1 w2 ⟨⟨v,rfl⟩,hs2,hb2⟩);go_must (have HS2:=am hs2;have HB2:=am hb2;clear hs2 hb2)))
    go_roundg k
    ·refine⟨_,⟨⟨HS2.out,⟨_,HI2.out⟩,?_,?_,?_,?_⟩⟩⟩
     ·rw[HGO2.out,HK2.out,Nat.add_sub_cancel]
     ·rw[HN2.out,HMN.out];have:=HFU.out;omega
     ·have:=HK2.out;omega
     ·exact HBEL.out.trans ((HB1.out.mono (Nat.le_trans HAT.out.hb (Nat.le_of_lt (blk_lt HAT.out.blk)))).trans HB2.out)
    ·have:=HK.out;omega
   |false=>
    have HGO2:=am (show Sq.run cf.pgs cf.en lim s=s' by rw[HGO.out,run_stop (by rw[←HEN.out];exact hrd)]);clear hrd
    go_wp2_with (first
     |(go_at_call 32;go_must (with_reducible refine HRD.out.mono ?_);go_must (rintro e1 w1 ⟨rfl,hb1⟩);go_must (have HB1:=am hb1;clear hb1)))
    go_end0
    exact⟨⟨_,rfl⟩,⟨_,_,_,HGO2.out▸HAT.out.more HB1.out⟩,HBEL.out.trans (HB1.out.mono (Nat.le_trans HAT.out.hb (Nat.le_of_lt (blk_lt HAT.out.blk))))⟩
  ·have d1:decide ((m:Int)<(lim:Int))=false:=df (by omega);have d1':decide (m<lim)=false:=decide_eq_false hlt;have hk0:k=0:=by have:=HFU.out;omega
   have HGO2:=am (show Sq.run cf.pgs cf.en lim s=s' by rw[HGO.out,HK.out,hk0];rfl);clear hlt hk0
   go_wp2_with (fail)
   go_end0
   exact⟨⟨_,rfl⟩,⟨_,_,_,HGO2.out▸HAT.out⟩,HBEL.out⟩
end Go.Proofs.YtfnimdhghglanaaGreat.Hand
end
