/- TopScheduleIndependent, part 22 of 27; no condition.  -/
import Derived.Test.YtfnimdhghglanaaGreatQsAU
import Derived.Deep.DeepMust
import Derived.Handy
set_option maxRecDepth 100000
set_option maxHeartbeats 8000000
set_option linter.unusedVariables false
set_option linter.unusedSimpArgs false
section
namespace Go.Proofs.YtfnimdhghglanaaGreat.Hand
open Go.RowKit Go.Shelf Go.Proofs.YtfnimdhghglanaaGreatW PrintWords PrintLast PrintMore
attribute [local go_sem] max2_int min2_int max_two min_two max_three min_three max_four min_four
section
theorem pair_cells {w:World} {A:Option Addr} {n:Nat} {l:List (Int×Int)} (h:Kd.C kP w A n l) (k:Nat) (hk:k<n):∃ad x,A=some ad∧(∃h2:k<l.length,l[k]=x)∧w.cell? (ad.add (k*2))=some (.int .i64 x.1)∧w.cell? ⟨(ad.add (k*2)).block,(ad.add (k*2)).off+1,none⟩=some (.int .i64 x.2):=by
 have hln:l.length=n:=h.1;subst hln;obtain⟨ad,e1,hc⟩:=h.2.2 (by omega);obtain⟨c,_,hK,hc0⟩:=hc k _ (List.getElem?_eq_getElem hk);obtain rfl:=kP_open hK;refine⟨ad,l[k],e1,⟨hk,rfl⟩,hc0 0 _ rfl,?_⟩;rw[←add_flat _ (by omega:(1:Nat)≠0),Go.Deep.add_add];exact hc0 1 _ rfl
theorem infoPrs:(Tryz.prog.info? 42).map (fun i=>(i.zero,i.size,i.bytes))=some (some (.slice none 0 0),1,24):=by kernel_rfl
theorem box3 {w w1:World} {o1 o2 o3:Obj} (hb:Below (((w.alloc o1).alloc o2).alloc o3).heap.size (((w.alloc o1).alloc o2).alloc o3) w1):
  (w1.heap[w.heap.size]?=some o1∧w1.heap[w.heap.size+1]?=some o2∧w1.heap[w.heap.size+1+1]?=some o3)∧Below w.heap.size w w1∧w.heap.size+3≤w1.heap.size:=by
 obtain⟨h1,h2⟩:=allocs_below [o1,o2,o3] w;have ha:=allocs_at [o1,o2,o3] w;have hw:allocs w [o1,o2,o3]=((w.alloc o1).alloc o2).alloc o3:=rfl;rw[hw]at h1 h2 ha;simp only[List.length_cons,List.length_nil]at h2;have hs:=hb.size;exact⟨⟨(hb.block _ (by omega)).trans (ha 0 _ rfl),(hb.block _ (by omega)).trans (ha 1 _ rfl),(hb.block _ (by omega)).trans (ha 2 _ rfl)⟩,h1.trans (hb.mono h1.size),by omega⟩
structure NextPre (progs:List (List OpC)) (la en fl:Int) (p:Ps) (prs:List (Int×Int)):Prop where
 n1:1≤p.lps.length
 n2:p.lps.length≤64
 ntr:p.tr.length=p.lps.length
 nbx:p.bx.length=p.lps.length
 ok:∀(i:Nat) (o:Oc),p.outs[i]?=some o→∀n,n≤2000→OutOk progs (hzn la en fl) (Oc.run progs (hzn la en fl) n o)
 hfl:0≤fl∧fl≤1152921504606846976
 hla:0≤la∧la≤1152921504606846976
 hen:0≤en∧en≤1152921504606846976
 pg:PgsOk progs
 prn:∀x∈prs,0≤x.1∧x.1<p.lps.length
 prl:prs.length≤1000
 nd:(prs.map Prod.fst).Nodup
 trl:∀(i:Nat) (t:List Ev) (o:Oc),p.tr[i]?=some t→p.outs[i]?=some o→t.length+(Oc.run progs (hzn la en fl) 2000 o).com.length≤1000000
 fll:p.fl.length≤1000000
 npl:p.np≤1000000
theorem steps_tr (F:Nat→Oc) (i:Nat):∀(l:List (Int×Int)) (m0:Mid),(∀x∈l,x.1.toNat≠i)→(l.foldl (fun m x=>Mid.step F m x.1.toNat) m0).tr[i]?=m0.tr[i]?
 | [],_,_=>rfl
 |x::l,m0,h=>by
  rw[List.foldl_cons,steps_tr F i l _ fun y hy=>h y (List.mem_cons_of_mem _ hy)];exact List.getElem?_set_ne (h x (List.mem_cons_self ..))
theorem not_before {prs:List (Int×Int)} (hnd:(prs.map Prod.fst).Nodup) (h0:∀x∈prs,0≤x.1) {k i:Nat} {v:Int} (hk:prs[k]?=some ((i:Int),v)):∀x∈prs.take k,x.1.toNat≠i:=by
 intro x hx e;obtain⟨hkl,hke⟩:=List.getElem?_eq_some_iff.1 hk;obtain⟨j,hj,hxj⟩:=List.mem_iff_getElem.1 hx;rw[List.length_take]at hj;rw[List.getElem_take]at hxj;have h1:=List.pairwise_iff_getElem.1 hnd j k (by rw[List.length_map];omega) (by rw[List.length_map];omega) (by omega);rw[List.getElem_map,List.getElem_map,hke,hxj]at h1;have:=h0 x (List.mem_of_mem_take hx);exact h1 (by simp only;omega)
structure NxI (Mt:Nat→Prop) (w wr:World) (n g1 c1 gl cl g2 c2 g3 c3 qt:Nat) (tr lps bx fl pr:SH) (ov:Bool) (cl1 cl2:SH) (la en cp hz:Int) (m:Mid):Prop where
 mid:MidAt Mt (w.heap.size+3) wr n g1 c1 gl cl g2 c2 g3 c3 qt fl pr m
 q0:wr.heap[w.heap.size]?=some (.cells #[.slice tr.A tr.n tr.c,.slice lps.A lps.n lps.c,.slice bx.A bx.n bx.c,.bool ov,.slice fl.A fl.n fl.c,.slice pr.A pr.n pr.c] TSt (0,0))
 q1:wr.heap[w.heap.size+1]?=some (.cells #[.slice cl1.A cl1.n cl1.c,.slice cl2.A cl2.n cl2.c,.int .i64 la,.int .i64 en,.int .i64 cp] 25 (0,0))
 q2:wr.heap[w.heap.size+1+1]?=some (.cells #[.slice none 0 0,.slice none 0 0,.slice none 0 0,.bool false,.slice none 0 0,.slice none 0 0] TSt (0,0))
 bel:Below w.heap.size w wr
section
variable {Mt:Nat→Prop} {w wr w':World} {n g1 c1 gl cl g2 c2 g3 c3 qt:Nat} {tr lps bx fl pr:SH} {ov:Bool} {cl1 cl2:SH} {la en cp hz:Int} {m m':Mid}
theorem NxI.step (h:NxI Mt w wr n g1 c1 gl cl g2 c2 g3 c3 qt tr lps bx fl pr ov cl1 cl2 la en cp hz m) (hb:Below (w.heap.size+3) wr w') (h':MidAt Mt (w.heap.size+3) w' n g1 c1 gl cl g2 c2 g3 c3 qt fl pr m'):NxI Mt w w' n g1 c1 gl cl g2 c2 g3 c3 qt tr lps bx fl pr ov cl1 cl2 la en cp hz m':=
 ⟨h',(hb.block _ (by omega)).trans h.q0,(hb.block _ (by omega)).trans h.q1,(hb.block _ (by omega)).trans h.q2,h.bel.trans (hb.mono (by omega))⟩
theorem NxI.big (h:NxI Mt w wr n g1 c1 gl cl g2 c2 g3 c3 qt tr lps bx fl pr ov cl1 cl2 la en cp hz m):w.heap.size+3≤wr.heap.size:=by
 have:=blk_lt h.q2;omega
theorem NxI.more (h:NxI Mt w wr n g1 c1 gl cl g2 c2 g3 c3 qt tr lps bx fl pr ov cl1 cl2 la en cp hz m) (hb:Below wr.heap.size wr w'):NxI Mt w w' n g1 c1 gl cl g2 c2 g3 c3 qt tr lps bx fl pr ov cl1 cl2 la en cp hz m:=
 h.step (hb.mono h.big) (h.mid.more hb)
theorem NxI.mt (h:NxI Mt w wr n g1 c1 gl cl g2 c2 g3 c3 qt tr lps bx fl pr ov cl1 cl2 la en cp hz m):∀k,k<w.heap.size→M5 Mt g1 gl g2 g3 qt k→Mt k:=fun k hk hm=>by
 obtain⟨b1,b2,b3,b4,b5⟩:=h.mid.bases;rcases hm with hm|rfl|rfl|rfl|rfl|rfl
 ·exact hm
 all_goals omega
theorem NxI.putL (h:NxI Mt w wr n g1 c1 gl cl g2 c2 g3 c3 qt tr lps bx fl pr ov cl1 cl2 la en cp hz m) (i:Nat) (hi:i<m.lps.length) {x:SLp} {l:Lp} (hx:LpAt (M5 Mt g1 gl g2 g3 qt) wr x l):NxI Mt w (wr.setCells gl (i*4) x.cells).drew n g1 c1 gl cl g2 c2 g3 c3 qt tr lps bx fl pr ov cl1 cl2 la en cp hz {m with lps:=m.lps.set i l}∧Keep (M5 Mt g1 gl g2 g3 qt) wr (wr.setCells gl (i*4) x.cells).drew∧∀k,k<wr.heap.size→k≠gl→(wr.setCells gl (i*4) x.cells).drew.heap[k]?=wr.heap[k]?:=by
 have hg:=grown_cells (g:=gl) x.cells wr (i*4);have hd:=below_drew (Below.refl (wr.setCells gl (i*4) x.cells).heap.size (wr.setCells gl (i*4) x.cells));have h1:=(h.mid.putL i hi hx).more hd;have h2:Below (w.heap.size+3) wr (wr.setCells gl (i*4) x.cells).drew:=Below.trans (b:=wr.setCells gl (i*4) x.cells) ⟨hg.os,hg.tape,hg.output,hg.size,fun k hk=>hg.block k (Nat.lt_of_lt_of_le hk h.big) fun e=>by cases e;have:=h.mid.bases;omega⟩ (hd.mono (Nat.le_trans h.big hg.size))
 exact⟨h.step h2 h1,(Keep.grown hg fun j hj=>by cases hj;exact .inr (.inr (.inl rfl))).trans (Keep.of_below hd),fun k hk hn=>hg.block k hk fun e=>by cases e;exact hn rfl⟩
theorem NxI.put1 (h:NxI Mt w wr n g1 c1 gl cl g2 c2 g3 c3 qt tr lps bx fl pr ov cl1 cl2 la en cp hz m) (i:Nat) (hi:i<m.tr.length) {x:SH} {l:List Ev} (hx:EvsAt (M5 Mt g1 gl g2 g3 qt) wr x l):NxI Mt w (wr.setCell ⟨g1,i,none⟩ (.slice x.A x.n x.c)) n g1 c1 gl cl g2 c2 g3 c3 qt tr lps bx fl pr ov cl1 cl2 la en cp hz {m with tr:=m.tr.set i l}:=
 h.step ((Below.refl _ _).setCell (p:=⟨g1,i,none⟩) (by have:=h.mid.bases;simp only;omega) _) (h.mid.put1 i hi hx)
theorem NxI.put2 (h:NxI Mt w wr n g1 c1 gl cl g2 c2 g3 c3 qt tr lps bx fl pr ov cl1 cl2 la en cp hz m) (i:Nat) (hi:i<m.bx.length) {x:SH} {l:List Ev} (hx:EvsAt (M5 Mt g1 gl g2 g3 qt) wr x l):NxI Mt w (wr.setCell ⟨g2,i,none⟩ (.slice x.A x.n x.c)) n g1 c1 gl cl g2 c2 g3 c3 qt tr lps bx fl pr ov cl1 cl2 la en cp hz {m with bx:=m.bx.set i l}:=
 h.step ((Below.refl _ _).setCell (p:=⟨g2,i,none⟩) (by have:=h.mid.bases;simp only;omega) _) (h.mid.put2 i hi hx)
theorem NxI.put3 (h:NxI Mt w wr n g1 c1 gl cl g2 c2 g3 c3 qt tr lps bx fl pr ov cl1 cl2 la en cp hz m) (i:Nat) (hi:i<m.sn.length) {x:SH} {l:List Ev} (hx:EvsAt (M5 Mt g1 gl g2 g3 qt) wr x l):NxI Mt w (wr.setCell ⟨g3,i,none⟩ (.slice x.A x.n x.c)) n g1 c1 gl cl g2 c2 g3 c3 qt tr lps bx fl pr ov cl1 cl2 la en cp hz {m with sn:=m.sn.set i l}:=
 h.step ((Below.refl _ _).setCell (p:=⟨g3,i,none⟩) (by have:=h.mid.bases;simp only;omega) _) (h.mid.put3 i hi hx)
theorem NxI.putOv (h:NxI Mt w wr n g1 c1 gl cl g2 c2 g3 c3 qt tr lps bx fl pr ov cl1 cl2 la en cp hz m) (v:Bool):NxI Mt w (wr.setCell ⟨qt,3,none⟩ (.bool v)) n g1 c1 gl cl g2 c2 g3 c3 qt tr lps bx fl pr ov cl1 cl2 la en cp hz {m with ov:=v}:=
 h.step ((Below.refl _ _).setCell (p:=⟨qt,3,none⟩) (by have:=h.mid.bases;simp only;omega) _) (h.mid.putOv v)
end
theorem cell_old {w w':World} (h:Below w.heap.size w w') {a:Addr} {v:Value} (hc:w.cell? a=some v):w'.cell? a=some v:=(h.cell (World.block_lt_of_cell? w _ hc)).trans hc
def M9 (M:Nat→Prop) (q k:Nat):Prop:=M k∨k=q
structure Res9 (M:Nat→Prop) (W:World) (o:Oc) (q:Nat) (s:SLp) (bh ch sh:SH) (w':World):Prop where
 below:Below W.heap.size W w'
 lp:LpAt (M9 M q) w' s o.lp
 bx:EvsAt (M9 M q) w' bh o.box
 cm:EvsAt (M9 M q) w' ch o.com
 sn:EvsAt (M9 M q) w' sh o.sent
 new:W.heap.size≤q
 blk:w'.heap[q]?=some (.cells #[.int .i64 0,.int .i64 0,.slice none 0 0,.int .i64 0] 91 (0,0))
theorem res9_call {M:Nat→Prop} {W w0 w3:World} {o:Oc} {s:SLp} {bh ch sh:SH} (h0:Below W.heap.size W w0) (h1:LpAt M w3 s o.lp) (h2:EvsAt M w3 bh o.box) (h3:EvsAt M w3 ch o.com) (h4:EvsAt M w3 sh o.sent) (hb:Below w0.heap.size w0 w3):
  Res9 M W o w3.heap.size s bh ch sh (w3.alloc (.cells #[.int .i64 0,.int .i64 0,.slice none 0 0,.int .i64 0] 91)):=by
 have hb2:=below_alloc (Below.refl w3.heap.size w3) (.cells #[.int .i64 0,.int .i64 0,.slice none 0 0,.int .i64 0] 91);have hb3:=h0.trans (hb.mono h0.size);have hm:∀k,k<w3.heap.size→M9 M w3.heap.size k→M k:=fun k hk h=>by
  rcases h with h|rfl
  ·exact h
  ·omega
 exact⟨hb3.trans (hb2.mono hb3.size),h1.fresh (Keep.of_below hb2) hm,h2.fresh (Keep.of_below hb2) hm,h3.fresh (Keep.of_below hb2) hm,h4.fresh (Keep.of_below hb2) hm,hb3.size,World.alloc_heap_new _ _⟩
theorem res9_alloc {M:Nat→Prop} {W w0 w3:World} {o:Oc} {s:SLp} {bh ch sh:SH} (h0:Below W.heap.size W w0) (h1:LpAt (M9 M w0.heap.size) w3 s o.lp) (h2:EvsAt (M9 M w0.heap.size) w3 bh o.box) (h3:EvsAt (M9 M w0.heap.size) w3 ch o.com) (h4:EvsAt (M9 M w0.heap.size) w3 sh o.sent)
  (hb:Below (w0.alloc (.cells #[.int .i64 0,.int .i64 0,.slice none 0 0,.int .i64 0] 91)).heap.size (w0.alloc (.cells #[.int .i64 0,.int .i64 0,.slice none 0 0,.int .i64 0] 91)) w3):
  Res9 M W o w0.heap.size s bh ch sh w3:=by
 have hb2:=below_alloc (Below.refl w0.heap.size w0) (.cells #[.int .i64 0,.int .i64 0,.slice none 0 0,.int .i64 0] 91);have hlt:w0.heap.size<(w0.alloc (.cells #[.int .i64 0,.int .i64 0,.slice none 0 0,.int .i64 0] 91)).heap.size:=by rw[World.size_alloc];omega
 have hb3:=h0.trans ((hb2.trans (hb.mono (Nat.le_of_lt hlt))).mono h0.size);exact⟨hb3,h1,h2,h3,h4,h0.size,(hb.block _ hlt).trans (World.alloc_heap_new _ _)⟩
theorem m9_lt {M:Nat→Prop} {w:World} {o:Obj} (h:∀k,M k→k<w.heap.size):∀k,M9 M w.heap.size k→k<(w.alloc o).drew.heap.size:=fun k hk=>by
 have h1:(w.alloc o).drew.heap.size=w.heap.size+1:=World.size_alloc _ _;rcases hk with hk|rfl
 ·have:=h k hk;omega
 ·omega
theorem m9_old {M:Nat→Prop} {n k:Nat} (hk:k<n) (h:M9 M n k):M k:=by
 rcases h with h|rfl
 ·exact h
 ·omega
theorem lp_cells {w:World} {A:Option Addr} {n:Nat} {l:List SLp} (h:Kd.C kLp w A n l) (k:Nat) (hk:k<n):∃ad x,A=some ad∧(∃h2:k<l.length,l[k]=x)∧
  w.cell? (ad.add (k*4))=some (.int .i64 x.r0)∧w.cell? ⟨(ad.add (k*4)).block,(ad.add (k*4)).off+1,none⟩=some (.int .i64 x.r1)∧w.cell? ⟨(ad.add (k*4)).block,(ad.add (k*4)).off+2,none⟩=some (.slice x.ps.A x.ps.n x.ps.c)∧w.cell? ⟨(ad.add (k*4)).block,(ad.add (k*4)).off+3,none⟩=some (.int .i64 x.sum):=by
 obtain⟨ad,x,e,h2,h3,q⟩:=flat_cells h k hk;exact⟨ad,x,e,h2,h3 _ rfl,q 1 _ (by decide) rfl,q 2 _ (by decide) rfl,q 3 _ (by decide) rfl⟩
theorem outs_at {p:Ps} {i:Nat} (h1:i<p.lps.length) (h2:i<p.bx.length):p.outs[i]?=some ⟨p.lps[i],p.bx[i],[],[],false⟩:=by
 unfold Ps.outs;rw[List.getElem?_eq_getElem (by rw[List.length_zipWith];omega),List.getElem_zipWith]
theorem next_calls {Mx:Nat→Prop} {w:World} (hM:∀k,Mx k→k<w.heap.size) (c:SCf) (s:SPs) (fl:Int) (ph:SH) {p:Ps} {progs:List (List OpC)} {prs:List (Int×Int)} (hs:PsAt Mx w s p) (hc:PgsAt Mx w c.pgs progs) (hpr:Rd kP Mx w ph prs) (hpre:NextPre progs c.la c.en fl p prs)
  (hdl:DlvPre ((p.ends progs (hzn c.la c.en fl)).map Oc.box) ((p.ends progs (hzn c.la c.en fl)).map Oc.sent)) (hall:∀i,i<p.lps.length→∃x∈prs,x.1=(i:Int)):
  Calls Tryz.prog 55 #[s.v,c.v,.int .i64 fl,.slice ph.A ph.n ph.c] w fun r w'=>∃s':SPs,r= .returned s'.v∧PsAt Mx w' s' (p.next progs c.la c.en fl)∧Below w.heap.size w w':=by
 obtain⟨Mt,hMt⟩:∃Mt,Mq Mx (w.heap.size+1+1)=Mt:=⟨_,rfl⟩;have hmx:∀k,k<w.heap.size→Mt k→Mx k:=fun k hk hm=>by
  rw[←hMt]at hm;rcases hm with hm|hm
  ·exact hm
  ·omega
 have HMX:=am (show∀k,Mx k→Mt k from fun k hk=>hMt▸ .inl hk);have HMR:=am (show Mt (w.heap.size+1+1)from hMt▸ .inr rfl);have hM:∀k,Mt k→k<w.heap.size+3:=fun k hk=>by
  rw[←hMt]at hk;rcases hk with hk|hk
  ·have:=hM k hk;omega
  ·omega
 have hs:=hs.fresh (Keep.refl _ _) hmx;have hc:PgsAt Mt w c.pgs progs:=by
  obtain⟨ss,p1,p2⟩:=hc;exact⟨ss,p1.fresh (Keep.refl _ _) hmx,p2.imp fun _ _ h=>h.fresh (Keep.refl _ _) hmx⟩
 have hpr:=hpr.fresh (Keep.refl _ _) hmx;clear hmx hMt;obtain⟨⟨tA,tn,tc⟩,⟨lA,ln,lc⟩,⟨bA,bn,bc⟩,ov,⟨fA,fn,fc⟩,⟨rA,rn,rc⟩⟩:=s;obtain⟨⟨cA,cn,cc⟩,⟨pA,pn,pc⟩,la,en,cp⟩:=c;obtain⟨phA,phn,phc⟩:=ph;obtain⟨n,hn⟩:∃n,p.lps.length=n:=⟨_,rfl⟩;obtain rfl:tn=n:=by have:=hs.tr;obtain⟨x,h1,h2⟩:=this;have h3:=h1.len;have h4:=h2.len;have:=hpre.ntr;simp only at h3;omega
 obtain rfl:ln=tn:=by have:=hs.lps.len;simp only at this;omega
 obtain rfl:bn=ln:=by have:=hs.bx;obtain⟨x,h1,h2⟩:=this;have h3:=h1.len;have h4:=h2.len;have:=hpre.nbx;simp only at h3;omega
 obtain⟨n,rfl⟩:∃n,n=bn:=⟨bn,rfl⟩;have HNL:=am hn;have hn1:1≤n:=by rw[←hn];exact hpre.n1
 have hn2:n≤64:=by rw[←hn];exact hpre.n2
 obtain⟨hs1,rt1,rt2⟩:=hs.tr;obtain⟨ssl,rl1,rl2⟩:=hs.lps;obtain⟨hs2,rb1,rb2⟩:=hs.bx;have HC1:=am (show∀w0,Below w.heap.size w w0→Calls Tryz.prog 79 #[.slice tA n tc] w0 (fun e w'=>∃g c,e= .returned (.slice (some ⟨g,0,none⟩) n c)∧HRow w' w0.heap.size g n c hs1∧Below w0.heap.size w0 w')from fun w0 hb=>by
  refine(cloneEvs_calls tA tc n hs1 w0 ((rt1.below hb).here) rt1.len.symm (by omega)).mono ?_;rintro e w' ⟨v,rfl,hv,hb'⟩;obtain⟨g,c,rfl,_⟩:=Kd.R_form hv (by rw[←rt1.len];exact hn1);rw[←rt1.len]at hv ⊢;exact⟨g,c,rfl,hv,hb'⟩)
 have HC2:=am (show∀w0,Below w.heap.size w w0→Calls Tryz.prog 79 #[.slice bA n bc] w0 (fun e w'=>∃g c,e= .returned (.slice (some ⟨g,0,none⟩) n c)∧HRow w' w0.heap.size g n c hs2∧Below w0.heap.size w0 w')from fun w0 hb=>by
  refine(cloneEvs_calls bA bc n hs2 w0 ((rb1.below hb).here) rb1.len.symm (by omega)).mono ?_;rintro e w' ⟨v,rfl,hv,hb'⟩;obtain⟨g,c,rfl,_⟩:=Kd.R_form hv (by rw[←rb1.len];exact hn1);rw[←rb1.len]at hv ⊢;exact⟨g,c,rfl,hv,hb'⟩)
 have HCL:=am (show∀w0,Below w.heap.size w w0→Calls Tryz.prog 80 #[.slice lA n lc] w0 (fun e w'=>∃g c,e= .returned (.slice (some ⟨g,0,none⟩) n c)∧LRow w' w0.heap.size g n c ssl∧Below w0.heap.size w0 w')from fun w0 hb=>by
  refine(cloneLP_calls lA lc n ssl w0 ((rl1.below hb).here) rl1.len.symm (by omega)).mono ?_;rintro e w' ⟨v,rfl,hv,hb'⟩;obtain⟨g,c,rfl,_⟩:=Kd.R_form hv (by rw[←rl1.len];exact hn1);rw[←rl1.len]at hv ⊢;exact⟨g,c,rfl,hv,hb'⟩)
 have HT1:=am rt1;have HT2:=am rt2;have HL1:=am rl1;have HL2':=am rl2;have HBX1:=am rb1;have HBX2:=am rb2;clear rt1 rt2 rl1 rl2 rb1 rb2;clear hn;have HM:=am hM;have HS:=am hs;have HC:=am hc;have HPR:=am hpr;have HPRE:=am hpre;have HDL:=am hdl;have HALL:=am hall;have HHZ:=am (show∀w0,Calls Tryz.prog 78 #[.agg #[.slice cA cn cc,.slice pA pn pc,.int .i64 la,.int .i64 en,.int .i64 cp],.int .i64 fl] w0 (fun e w'=>e= .returned (.int .i64 (hzn la en fl))∧Below w0.heap.size w0 w')from fun w0=>
  horizon_calls w0 ⟨⟨cA,cn,cc⟩,⟨pA,pn,pc⟩,la,en,cp⟩ fl hpre.hfl hpre.hla hpre.hen)
 clear hM hs hc hpr hpre hdl hall;obtain⟨hz,hhz⟩:∃hz,hzn la en fl=hz:=⟨_,rfl⟩;have HHE:=am hhz;rw[hhz]at HHZ;clear hhz;simp only[SPs.v,SCf.v];go_enter Tryz.func55,Tryz.ntmps55
 go_upto_region 3 with (first|(go_at_call 78;(with_reducible refine(HHZ.out _).mono ?_);rintro e w1 ⟨rfl,hb⟩;go_must (obtain⟨⟨f0,f1,f2⟩,fb,fs⟩:=box3 hb);go_must (have x0:w1.cell? ⟨w.heap.size,0,none⟩=some (.slice tA n tc):=by simp[World.cell?,f0]);go_must (have x1:w1.cell? ⟨w.heap.size,1,none⟩=some (.slice lA n lc):=by simp[World.cell?,f0]);go_must (have x2:w1.cell? ⟨w.heap.size,2,none⟩=some (.slice bA n bc):=by simp[World.cell?,f0]);go_must (have x3:w1.cell? ⟨w.heap.size,3,none⟩=some (.bool ov):=by simp[World.cell?,f0]);go_must (have x4:w1.cell? ⟨w.heap.size,4,none⟩=some (.slice fA fn fc):=by simp[World.cell?,f0]);go_must (have x5:w1.cell? ⟨w.heap.size,5,none⟩=some (.slice rA rn rc):=by simp[World.cell?,f0]);have F0:=am f0;have F1:=am f1;have F2:=am f2;have FB:=am fb;have FS:=am fs;clear f0 f1 f2 fb fs hb))
 obtain⟨qt,hqt⟩:∃qt,w1.heap.size=qt:=⟨_,rfl⟩;obtain⟨w2,hw2⟩:∃w2,w1.alloc (.cells #[.slice tA n tc,.slice lA n lc,.slice bA n bc,.bool ov,.slice fA fn fc,.slice rA rn rc] TSt)=w2:=⟨_,rfl⟩;rw[hw2,hqt];have hb2:=below_alloc (Below.refl w1.heap.size w1) (.cells #[.slice tA n tc,.slice lA n lc,.slice bA n bc,.bool ov,.slice fA fn fc,.slice rA rn rc] TSt);have hbt:w2.heap[qt]?=some (.cells #[.slice tA n tc,.slice lA n lc,.slice bA n bc,.bool ov,.slice fA fn fc,.slice rA rn rc] TSt (0,0)):=by rw[←hw2,←hqt];exact World.alloc_heap_new _ _
 rw[hw2]at hb2;have HQT:=am hbt;have HB2:=am hb2;have HQE:=am hqt;have HBW2:=FB.go hb2;have HL2:=am (show∀w',Below w2.heap.size w2 w'→w'.cell? ⟨w.heap.size,0,none⟩=some (.slice tA n tc)∧w'.cell? ⟨w.heap.size,1,none⟩=some (.slice lA n lc)∧w'.cell? ⟨w.heap.size,2,none⟩=some (.slice bA n bc)from fun w' hb=>by
  have t0:=box_more hb (box_more HB2.out F0.out);refine⟨?_,?_,?_⟩<;>simp[World.cell?,t0])
 have HC1:=am (fun(w0:World) (hb:Below w2.heap.size w2 w0)=>HC1.out w0 (HBW2.out.trans (hb.mono HBW2.out.size)));have HC2:=am (fun(w0:World) (hb:Below w2.heap.size w2 w0)=>HC2.out w0 (HBW2.out.trans (hb.mono HBW2.out.size)));have HCL:=am (fun(w0:World) (hb:Below w2.heap.size w2 w0)=>HCL.out w0 (HBW2.out.trans (hb.mono HBW2.out.size)));clear hbt hb2 hqt hw2 x0 x1 x2 x3 x4 x5
 refine sz_ 15 (S:=fun w'=>w'.cell? ⟨w.heap.size,0,none⟩=some (.slice tA n tc)∧w'.cell? ⟨w.heap.size,1,none⟩=some (.slice lA n lc)∧w'.cell? ⟨w.heap.size,2,none⟩=some (.slice bA n bc)) (ds:=[10,12,14]) ⟨(HL2.out _ (below_drew (Below.refl w2.heap.size w2))).1,(HL2.out _ (below_drew (Below.refl w2.heap.size w2))).2.1,(HL2.out _ (below_drew (Below.refl w2.heap.size w2))).2.2⟩ (fun hHeld=> ?_);refine pz_ 0 24 15 1 ?_;refine pz_ 3 27 15 9 ?_;refine pz_ 6 30 15 73 ?_;refine tz_ 1 25 15 75 hHeld ?_;refine tz_ 4 28 15 91 hHeld ?_;refine tz_ 7 31 15 219 hHeld ?_
 refine one_ (i:=2) (N:=some 26) (bv 15 223) rfl rfl (by kernel_rfl) (by decide) (fun K hK=> ?_);refine goes_ Tryz.func79 (by kernel_rfl) rfl #[.slice tA n tc] (by rfl) rfl rfl (by simp only[List.map_toArray,List.map_cons,List.map_nil];rfl) ?_;with_reducible refine(HC1.out _ (below_drew (Below.refl _ _))).mono ?_
 rintro e w3 ⟨g1,c1,rfl,hr1,hb3⟩;refine⟨_,rfl,?_⟩;have hb32:=(below_drew (Below.refl w2.heap.size w2)).trans hb3;refine hK.out _ _ ⟨(HL2.out _ hb32).1,(HL2.out _ hb32).2.1,(HL2.out _ hb32).2.2⟩ (fun hHeld=> ?_);clear hK K;refine norm_ (a':= ?_) ?_ ?_;rotate_left
 ·show Act.put _ (some 26) _=_;simp only[Act.put,List.setIfInBounds_toArray,List.set_cons_zero,List.set_cons_succ,i64_w,i32_w];rfl
 refine pz_ 9 33 15 735 ?_;refine one_ (i:=5) (N:=some 29) (bv 15 767) rfl rfl (by kernel_rfl) (by decide) (fun K hK=> ?_);refine goes_ Tryz.func80 (by kernel_rfl) rfl #[.slice lA n lc] (by rfl) rfl rfl (by simp only[List.map_toArray,List.map_cons,List.map_nil];rfl) ?_;with_reducible refine(HCL.out _ hb32).mono ?_
 rintro e w4 ⟨gl,cl,rfl,hrl,hb4⟩;refine⟨_,rfl,?_⟩;have hb42:=hb32.trans (hb4.mono hb32.size);refine hK.out _ _ ⟨(HL2.out _ hb42).1,(HL2.out _ hb42).2.1,(HL2.out _ hb42).2.2⟩ (fun hHeld=> ?_);clear hK K;refine norm_ (a':= ?_) ?_ ?_;rotate_left
 ·show Act.put _ (some 29) _=_;simp only[Act.put,List.setIfInBounds_toArray,List.set_cons_zero,List.set_cons_succ,i64_w,i32_w];rfl
 refine one_ (i:=8) (N:=some 32) (bv 15 1023) rfl rfl (by kernel_rfl) (by decide) (fun K hK=> ?_);refine goes_ Tryz.func79 (by kernel_rfl) rfl #[.slice bA n bc] (by rfl) rfl rfl (by simp only[List.map_toArray,List.map_cons,List.map_nil];rfl) ?_;with_reducible refine(HC2.out _ hb42).mono ?_
 rintro e w5 ⟨g2,c2,rfl,hr2,hb5⟩;refine⟨_,rfl,?_⟩;have hb52:=hb42.trans (hb5.mono hb42.size);have kq:=box_more hb52 HQT.out;have z0:w5.cell? ⟨qt,0,none⟩=some (.slice tA n tc):=by simp[World.cell?,kq]
 have z1:w5.cell? ⟨qt,1,none⟩=some (.slice lA n lc):=by simp[World.cell?,kq]
 have z2:w5.cell? ⟨qt,2,none⟩=some (.slice bA n bc):=by simp[World.cell?,kq]
 have y0:w5.frozen? ⟨qt,0,none⟩=false:=blk_frozen kq 0;have y1:w5.frozen? ⟨qt,1,none⟩=false:=blk_frozen kq 1;have y2:w5.frozen? ⟨qt,2,none⟩=false:=blk_frozen kq 2;refine hK.out _ _ ⟨(HL2.out _ hb52).1,(HL2.out _ hb52).2.1,(HL2.out _ hb52).2.2⟩ (fun hHeld=> ?_);clear hK K;refine norm_ (a':= ?_) ?_ ?_;rotate_left
 ·show Act.put _ (some 32) _=_;simp only[Act.put,List.setIfInBounds_toArray,List.set_cons_zero,List.set_cons_succ,i64_w,i32_w];rfl
 refine last_ (i:=10) (N:=none) (bv 15 2047) rfl rfl (by kernel_rfl) (by decide) (fun K hK=> ?_);refine skip_ (w1:= ?_) (by rfl) rfl ?_ ?_;rotate_left
 ·go_simp;rfl
 refine hK.out _ _ ?_;clear hK K;refine pz_ 11 34 15 4095 ?_;refine last_ (i:=12) (N:=none) (bv 15 8191) rfl rfl (by kernel_rfl) (by decide) (fun K hK=> ?_);refine skip_ (w1:= ?_) (by rfl) rfl ?_ ?_;rotate_left
 ·go_simp;rfl
 refine hK.out _ _ ?_;clear hK K;refine pz_ 13 35 15 16383 ?_;refine last_ (i:=14) (N:=none) (bv 15 32767) rfl rfl (by kernel_rfl) (by decide) (fun K hK=> ?_);refine skip_ (w1:= ?_) (by rfl) rfl ?_ ?_;rotate_left
 ·go_simp;rfl
 refine hK.out _ _ ?_;clear hK K;refine done_ (by kernel_rfl) ?_;obtain⟨w6,hw6⟩:∃w6,((w5.setCell ⟨qt,0,none⟩ (.slice (some ⟨g1,0,none⟩) n c1)).setCell ⟨qt,1,none⟩ (.slice (some ⟨gl,0,none⟩) n cl)).setCell ⟨qt,2,none⟩ (.slice (some ⟨g2,0,none⟩) n c2)=w6:=⟨_,rfl⟩;rw[hw6];have hg6:w5.grownBy w6 (some qt):=by rw[←hw6];exact grown_cells [.slice (some ⟨g1,0,none⟩) n c1,.slice (some ⟨gl,0,none⟩) n cl,.slice (some ⟨g2,0,none⟩) n c2] w5 0
 have hqt6:w6.heap[qt]?=some (.cells (stCells n g1 c1 gl cl g2 c2 ov ⟨fA,fn,fc⟩ ⟨rA,rn,rc⟩) TSt (0,0)):=by
  rw[←hw6];exact blk_put (blk_put (blk_put kq 0 (.slice (some ⟨g1,0,none⟩) n c1) rfl) 1 (.slice (some ⟨gl,0,none⟩) n cl) rfl) 2 (.slice (some ⟨g2,0,none⟩) n c2) rfl
 have hqb:w.heap.size+3≤qt∧qt<w2.heap.size:=⟨by have:=FS.out;have:=HQE.out;omega,blk_lt HQT.out⟩;have hbw5:Below w.heap.size w w5:=HBW2.out.trans (hb52.mono HBW2.out.size);have hbw6:Below w.heap.size w w6:=below_grown hbw5 hg6 (by omega);have hs6:∀k,k≠qt→k<w5.heap.size→w6.heap[k]?=w5.heap[k]?:=fun k hk hl=>hg6.block k hl fun e=>by cases e;exact hk rfl
 have hd2:w2.drew.heap.size=w2.heap.size:=rfl;obtain⟨_,hg1b,hg1l⟩:=hr1.typed;obtain⟨_,hglb,hgll⟩:=hrl.typed;obtain⟨_,hg2b,hg2l⟩:=hr2.typed;have hz32:=hb32.size;have hz43:=hb4.size;have hz54:=hb5.size;have hwz:=HBW2.out.size;have R1:HRow w6 (w.heap.size+3) g1 n c1 hs1:=HRow.stay (Kd.R_lower hr1 (by omega)) ((hs6 g1 (by omega) (by omega)).trans ((hb5.block g1 (by omega)).trans (hb4.block g1 hg1l)));have RL:LRow w6 (w.heap.size+3) gl n cl ssl:=LRow.stay (Kd.R_lower hrl (by omega)) ((hs6 gl (by omega) (by omega)).trans (hb5.block gl hgll))
 have R2:HRow w6 (w.heap.size+3) g2 n c2 hs2:=HRow.stay (Kd.R_lower hr2 (by omega)) (hs6 g2 (by omega) (by omega));have q0:=(hs6 w.heap.size (by omega) (by omega)).trans (box_more hb52 (box_more HB2.out F0.out));have q1:=(hs6 (w.heap.size+1) (by omega) (by omega)).trans (box_more hb52 (box_more HB2.out F1.out));have q2:=(hs6 (w.heap.size+1+1) (by omega) (by omega)).trans (box_more hb52 (box_more HB2.out F2.out))
 have HNE:=am (show(g1≠g2∧qt<w6.heap.size)∧(w.heap.size+3≤g1∧w.heap.size+3≤gl∧w.heap.size+3≤g2∧w.heap.size+3≤qt)∧(g1<w6.heap.size∧g2<w6.heap.size)from⟨⟨by omega,blk_lt hqt6⟩,⟨by omega,by omega,by omega,by omega⟩,by have:=hg6.size;omega,by have:=hg6.size;omega⟩);have HR1:=am R1;have HRL:=am RL;have HR2:=am R2;have HQ0:=am q0;have HQ1:=am q1;have HQ2:=am q2;have HQT6:=am hqt6;have HBW6:=am hbw6;have x1:w6.cell? ⟨w.heap.size,1,none⟩=some (.slice lA n lc):=by simp[World.cell?,q0]
 clear hw6 hg6 hqt6 hqb hbw5 hbw6 hs6 hd2 hg1b hg1l hglb hgll hg2b hg2l hz32 hz43 hz54 hwz R1 RL R2 q0 q1 q2 hr1 hrl hr2 hb3 hb4 hb5 hb32 hb42 hb52 kq z0 z1 z2 y0 y1 y2
 go_wp2_with (first
  |((with_reducible refine gate_dst (N:=39) rfl ?_);refine Kd.R_make kH (w0:=w6) w6.heap.size THd rfl (N:=39) rfl 31 _ _ rfl (n:Int) rfl rfl Tryz.underlying31 (.slice none 0 0) 24 infoEvs rfl (by decide) (by omega) SH.nil (ok:=fun _=>True) (okp:=fun _=>True) rfl (fun _ hk=>hk) trivial (by omega) (by omega) (Below.refl _ _) (Nat.le_refl _) ?_;intro vo w7 ho hb7 hg7 hnew7;obtain⟨g3,c3,rfl,hg3,hgl3,hgt3⟩:=Kd.R_form ho (by rw[List.length_replicate];omega);rw[List.length_replicate,Int.toNat_natCast]at ho ⊢;have HR3:=am ho;have HB7:=am hb7;have HG3:=am hg3;clear ho hb7 hg7 hnew7 hg3 hgl3 hgt3))
 obtain⟨m0,hm0⟩:∃m0:Mid,m0=⟨p.tr,p.lps,p.bx,List.replicate n [],ov⟩:=⟨_,rfl⟩;have hI0:NxI Mt w w7 n g1 c1 gl cl g2 c2 g3 c3 qt ⟨tA,n,tc⟩ ⟨lA,n,lc⟩ ⟨bA,n,bc⟩ ⟨fA,fn,fc⟩ ⟨rA,rn,rc⟩ ov ⟨cA,cn,cc⟩ ⟨pA,pn,pc⟩ la en cp hz m0:=by
  subst hm0;have l3:=Kd.R_lt HR3.out g3 rfl;have hq:=blk_lt HQT6.out;have hl:=HRL.out.typed;have h7:=HB7.out;have hbb:=HBW6.out.trans (h7.mono HBW6.out.size);have hmm:∀k,k<w.heap.size→M5 Mt g1 gl g2 g3 qt k→Mt k:=fun k hk hm=>by
   have:=HNE.out;have:=HG3.out;rcases hm with hm|rfl|rfl|rfl|rfl|rfl
   ·exact hm
   all_goals omega
  have h6:w.heap.size+3≤w6.heap.size:=by have:=blk_lt HQ2.out;omega
  refine⟨⟨⟨hs1,HR1.out.stay (h7.block _ HNE.out.2.2.1),HT2.out.imp fun _ _ h=>h.fresh (Keep.of_below hbb) hmm⟩,⟨ssl,HRL.out.stay (h7.block _ hl.2.2),HL2'.out.imp fun _ _ h=>h.fresh (Keep.of_below hbb) hmm⟩,⟨hs2,HR2.out.stay (h7.block _ HNE.out.2.2.2),HBX2.out.imp fun _ _ h=>h.fresh (Keep.of_below hbb) hmm⟩,
   ⟨List.replicate n .nil,Kd.R_lower HR3.out h6,?_⟩,(h7.block _ hq).trans HQT6.out,HNE.out.2.1.2.2.2,HNE.out.1.1,by have:=HNE.out.2.2;have:=HG3.out;omega,by have:=HNE.out.2.2;have:=HG3.out;omega⟩,(h7.block _ (by omega)).trans HQ0.out,(h7.block _ (by omega)).trans HQ1.out,(h7.block _ (by omega)).trans HQ2.out,hbb⟩
  refine All2.of_get (by simp) fun k h1 h2=> ?_;rw[List.getElem_replicate,List.getElem_replicate];exact⟨[],Rd.nil _ _ _,.nil⟩
 have HI0:=am hI0;have HM0:=am hm0;clear hI0 hm0 x1 HR1 HRL HR2 HQ0 HQ1 HQ2 HQT6 HBW6 HR3 HB7 HG3 HNE HQT HB2 HQE HBW2 HL2 HC1 HC2 HCL F0 F1 F2 FB FS;have hpl:phn≤1000:=by have h1:=HPR.out.len;have h2:=HPRE.out.prl;simp only at h1;omega
 go_loopw [42] (fun j wr=>∃k:Nat,k≤phn∧j= .int .i64 k∧Aside0 (NxI Mt w wr n g1 c1 gl cl g2 c2 g3 c3 qt ⟨tA,n,tc⟩ ⟨lA,n,lc⟩ ⟨bA,n,bc⟩ ⟨fA,fn,fc⟩ ⟨rA,rn,rc⟩ ov ⟨cA,cn,cc⟩ ⟨pA,pn,pc⟩ la en cp hz ((prs.take k).foldl (fun m x=>Mid.step (ocAt progs hz p) m x.1.toNat) m0))) (fun j _=>phn-(intOf j).toNat)
 case atStart=>exact⟨0,Nat.zero_le _,rfl,HI0⟩
 case round=>
  obtain⟨k,hk,rfl,HI⟩:=hrel;by_cases hkn:k<phn
  ·have d3:decide ((k:Int)<(phn:Int))=true:=dt (by omega);have d3':decide (k<phn)=true:=decide_eq_true hkn;obtain⟨m,hm⟩:∃m,(prs.take k).foldl (fun m x=>Mid.step (ocAt progs hz p) m x.1.toNat) m0=m:=⟨_,rfl⟩;rw[hm]at HI;have HM1:=am hm;clear hm;obtain⟨ad,⟨xi,xj⟩,e0,⟨hlk,hx⟩,y0,y1⟩:=pair_cells (HPR.out.below HI.out.bel).here k hkn;simp only at e0 y0 y1;subst e0;have hxm:(xi,xj)∈prs:=hx▸List.getElem_mem hlk;obtain⟨hx0,hx1⟩:=HPRE.out.prn _ hxm;simp only at hx0 hx1;obtain⟨i,rfl⟩:∃i:Nat,xi=(i:Int):=⟨xi.toNat,by omega⟩;have hin:i<n:=by have:=HNL.out;omega
   have HX:=am (show prs[k]?=some ((i:Int),xj)by rw[List.getElem?_eq_getElem hlk,hx]);clear hx hlk hxm hx0 hx1;have mk0:(0:Int)≤(k:Int):=by omega
   have mk1:(k:Int)<(phn:Nat):=by omega
   have mi0:(0:Int)≤(i:Int):=by omega
   have mi1:(i:Int)<(n:Nat):=by omega
   go_upto_region 9 with (fail)
   obtain⟨w8,hw8⟩:∃w8,wr.alloc (.cells #[.int .i64 i,.int .i64 xj] 88)=w8:=⟨_,rfl⟩;rw[hw8];have hb8:Below wr.heap.size wr w8:=hw8▸below_alloc (Below.refl _ _) _;have HI8:=am (HI.out.more hb8);clear hw8 hb8 y0 y1;obtain⟨adL,⟨lr0,lr1,⟨sA,sn,sc⟩,lsum⟩,eL,⟨hlL,hxL⟩,l0,l1,l2,l3⟩:=lp_cells (HL1.out.below HI8.out.bel).here i hin;obtain⟨adB,⟨xA,xn,xc⟩,eB,⟨hlB,hxB⟩,b0⟩:=hd_cells (HBX1.out.below HI8.out.bel).here i hin;simp only at eL eB l0 l1 l2 l3 b0;subst eL eB;have hLp:=HL2'.out.get i hlL (by have:=HNL.out;omega);have hBx:=HBX2.out.get i hlB (by have:=HNL.out;have:=HPRE.out.nbx;omega)
   rw[hxL]at hLp;rw[hxB]at hBx;have hoc:ocAt progs hz p i=Oc.run progs hz 2000 ⟨p.lps[i]'(by have:=HNL.out;omega),p.bx[i]'(by have:=HNL.out;have:=HPRE.out.nbx;omega),[],[],false⟩:=by
    unfold ocAt;rw[List.getD_eq_getElem?_getD,outs_at (by have:=HNL.out;omega) (by have:=HNL.out;have:=HPRE.out.nbx;omega)];rfl
   have hok:=HPRE.out.ok i _ (outs_at (by have:=HNL.out;omega) (by have:=HNL.out;have:=HPRE.out.nbx;omega));rw[HHE.out]at hok;obtain⟨oc,hoe⟩:∃oc,ocAt progs hz p i=oc:=⟨_,rfl⟩;have HOE:=am hoe;rw[hoe]at hoc;have hM8:=HI8.out.mid.mt (fun k hk=>Nat.lt_of_lt_of_le (HM.out k hk) HI8.out.big)
   have HPC:=am (show∀(Mt':Nat→Prop) (w0:World),Below w8.heap.size w8 w0→(∀k,Mt' k→k<w0.heap.size)→(∀k,k<w8.heap.size→Mt' k→M5 Mt g1 gl g2 g3 qt k)→Calls Tryz.prog 81 #[.agg #[.slice cA cn cc,.slice pA pn pc,.int .i64 la,.int .i64 en,.int .i64 cp],.agg #[.int .i64 lr0,.int .i64 lr1,.slice sA sn sc,.int .i64 lsum],.slice xA xn xc,.int .i64 hz] w0 (fun e w'=>∃(s:SLp) (bh ch sh:SH),e= .returned (.tuple #[.agg #[.int .i64 s.r0,.int .i64 s.r1,.slice s.ps.A s.ps.n s.ps.c,.int .i64 s.sum],.slice bh.A bh.n bh.c,.slice ch.A ch.n ch.c,.slice sh.A sh.n sh.c,.bool oc.ov])∧LpAt Mt' w' s oc.lp∧EvsAt Mt' w' bh oc.box∧EvsAt Mt' w' ch oc.com∧EvsAt Mt' w' sh oc.sent∧Below w0.heap.size w0 w')from fun Mt' w0 hb hM' hmm=>by
    have hbb:=HI8.out.bel.trans (hb.mono HI8.out.bel.size);have hm2:∀k,k<w.heap.size→Mt' k→Mt k:=fun k hk hm=>HI8.out.mt k hk (hmm k (Nat.lt_of_lt_of_le hk HI8.out.bel.size) hm);have hpg:PgsAt Mt' w0 ⟨pA,pn,pc⟩ progs:=by
     obtain⟨ss,p1,p2⟩:=HC.out;exact⟨ss,p1.fresh (Keep.of_below hbb) hm2,p2.imp fun _ _ h=>h.fresh (Keep.of_below hbb) hm2⟩
    refine(process_calls (Mt:=Mt') hM' ⟨⟨cA,cn,cc⟩,⟨pA,pn,pc⟩,la,en,cp⟩ ⟨lr0,lr1,⟨sA,sn,sc⟩,lsum⟩ ⟨xA,xn,xc⟩ hz (hLp.fresh (Keep.of_below hbb) hm2) (hBx.fresh (Keep.of_below hbb) hm2) hpg HPRE.out.pg hok).mono ?_;rw[←hoc];rintro e w' ⟨⟨s,bh,ch,sh,rfl,q1,q2,q3,q4⟩,q5⟩;exact⟨s,bh,ch,sh,rfl,q1,q2,q3,q4,q5⟩)
   have HM8:=am hM8;have HTB:=am (show∀t,p.tr[i]?=some t→t.length+oc.com.length≤1000000 from fun t ht=>by
    have h1:=HPRE.out.trl i t _ ht (outs_at (by have:=HNL.out;omega) (by have:=HNL.out;have:=HPRE.out.nbx;omega));rw[HHE.out,←hoc]at h1;exact h1)
   have HL9:=am (show∀w',Below w8.heap.size w8 w'→w'.cell? ⟨w.heap.size+1,0,none⟩=some (.slice cA cn cc)∧w'.cell? ⟨w.heap.size+1,1,none⟩=some (.slice pA pn pc)∧w'.cell? ⟨w.heap.size+1,2,none⟩=some (.int .i64 la)∧w'.cell? ⟨w.heap.size+1,3,none⟩=some (.int .i64 en)∧w'.cell? ⟨w.heap.size+1,4,none⟩=some (.int .i64 cp)∧w'.cell? ⟨w.heap.size,1,none⟩=some (.slice (some adL) n lc)∧w'.cell? (adL.add (i*4))=some (.int .i64 lr0)∧w'.cell? ⟨(adL.add (i*4)).block,(adL.add (i*4)).off+1,none⟩=some (.int .i64 lr1)∧w'.cell? ⟨(adL.add (i*4)).block,(adL.add (i*4)).off+2,none⟩=some (.slice sA sn sc)∧w'.cell? ⟨(adL.add (i*4)).block,(adL.add (i*4)).off+3,none⟩=some (.int .i64 lsum)∧w'.cell? ⟨w.heap.size,2,none⟩=some (.slice (some adB) n bc)∧w'.cell? (adB.add i)=some (.slice xA xn xc)from fun w' hb=>by
    have t0:=HI8.out.more hb;have t1:=t0.q0;have t2:=t0.q1;exact⟨by simp[World.cell?,t2],by simp[World.cell?,t2],by simp[World.cell?,t2],by simp[World.cell?,t2],by simp[World.cell?,t2],by simp[World.cell?,t1],cell_old hb l0,cell_old hb l1,cell_old hb l2,cell_old hb l3,by simp[World.cell?,t1],cell_old hb b0⟩)
   clear hoe hoc hok hLp hBx hxL hxB hlL hlB hM8 l0 l1 l2 l3 b0
   refine sz_ 25 (S:=fun w'=>w'.cell? ⟨w.heap.size+1,0,none⟩=some (.slice cA cn cc)∧w'.cell? ⟨w.heap.size+1,1,none⟩=some (.slice pA pn pc)∧w'.cell? ⟨w.heap.size+1,2,none⟩=some (.int .i64 la)∧w'.cell? ⟨w.heap.size+1,3,none⟩=some (.int .i64 en)∧w'.cell? ⟨w.heap.size+1,4,none⟩=some (.int .i64 cp)∧w'.cell? ⟨w.heap.size,1,none⟩=some (.slice (some adL) n lc)∧w'.cell? (adL.add (i*4))=some (.int .i64 lr0)∧w'.cell? ⟨(adL.add (i*4)).block,(adL.add (i*4)).off+1,none⟩=some (.int .i64 lr1)∧w'.cell? ⟨(adL.add (i*4)).block,(adL.add (i*4)).off+2,none⟩=some (.slice sA sn sc)∧w'.cell? ⟨(adL.add (i*4)).block,(adL.add (i*4)).off+3,none⟩=some (.int .i64 lsum)∧w'.cell? ⟨w.heap.size,2,none⟩=some (.slice (some adB) n bc)∧w'.cell? (adB.add i)=some (.slice xA xn xc)) (ds:=[20]) ⟨(HL9.out _ (below_drew (Below.refl w8.heap.size w8))).1,(HL9.out _ (below_drew (Below.refl w8.heap.size w8))).2.1,(HL9.out _ (below_drew (Below.refl w8.heap.size w8))).2.2.1,(HL9.out _ (below_drew (Below.refl w8.heap.size w8))).2.2.2.1,(HL9.out _ (below_drew (Below.refl w8.heap.size w8))).2.2.2.2.1,(HL9.out _ (below_drew (Below.refl w8.heap.size w8))).2.2.2.2.2.1,(HL9.out _ (below_drew (Below.refl w8.heap.size w8))).2.2.2.2.2.2.1,(HL9.out _ (below_drew (Below.refl w8.heap.size w8))).2.2.2.2.2.2.2.1,(HL9.out _ (below_drew (Below.refl w8.heap.size w8))).2.2.2.2.2.2.2.2.1,(HL9.out _ (below_drew (Below.refl w8.heap.size w8))).2.2.2.2.2.2.2.2.2.1,(HL9.out _ (below_drew (Below.refl w8.heap.size w8))).2.2.2.2.2.2.2.2.2.2.1,(HL9.out _ (below_drew (Below.refl w8.heap.size w8))).2.2.2.2.2.2.2.2.2.2.2⟩ (fun hHeld=> ?_)
   refine pz_ 1 50 25 2 ?_;refine pz_ 3 52 25 10 ?_;refine pz_ 6 55 25 74 ?_;refine pz_ 8 57 25 330 ?_;refine pz_ 11 60 25 2378 ?_;refine tz_ 0 49 25 2379 hHeld ?_;refine tz_ 2 51 25 2383 hHeld ?_;refine pz_ 4 53 25 2399 ?_;refine tz_ 5 54 25 2431 hHeld ?_;refine tz_ 7 56 25 2559 hHeld ?_;refine pz_ 9 58 25 3071 ?_;refine tz_ 10 59 25 4095 hHeld ?_
   refine join_ (σ:=Nat×SLp×SH×SH×SH) 5 (bv 25 1048575) (fun s=>[(61,.tuple #[.agg #[.int .i64 s.2.1.r0,.int .i64 s.2.1.r1,.slice s.2.1.ps.A s.2.1.ps.n s.2.1.ps.c,.int .i64 s.2.1.sum],.slice s.2.2.1.A s.2.2.1.n s.2.2.1.c,.slice s.2.2.2.1.A s.2.2.2.1.n s.2.2.2.1.c,.slice s.2.2.2.2.A s.2.2.2.2.n s.2.2.2.2.c,.bool oc.ov]),(15,.pointer (some ⟨s.1,0,none⟩)),(48,.tuple #[.agg #[.int .i64 s.2.1.r0,.int .i64 s.2.1.r1,.slice s.2.1.ps.A s.2.1.ps.n s.2.1.ps.c,.int .i64 s.2.1.sum],.slice s.2.2.1.A s.2.2.1.n s.2.2.1.c,.slice s.2.2.2.1.A s.2.2.2.1.n s.2.2.2.1.c,.slice s.2.2.2.2.A s.2.2.2.2.n s.2.2.2.2.c,.bool oc.ov]),(62,.agg #[.int .i64 s.2.1.r0,.int .i64 s.2.1.r1,.slice s.2.1.ps.A s.2.1.ps.n s.2.1.ps.c,.int .i64 s.2.1.sum]),(63,.slice s.2.2.1.A s.2.2.1.n s.2.2.1.c),(64,.slice s.2.2.2.1.A s.2.2.2.1.n s.2.2.2.1.c),(65,.slice s.2.2.2.2.A s.2.2.2.2.n s.2.2.2.2.c),(66,.bool oc.ov)]) (fun s w'=>Res9 (M5 Mt g1 gl g2 g3 qt) w8 oc s.1 s.2.1 s.2.2.1 s.2.2.2.1 s.2.2.2.2 w') ?_ ?_
   rotate_left
   ·intro hCont;refine two_ (i:=12) (j:=19) (Ni:=some 61) (Nj:=some 15) (bv 25 8191) (bv 25 528383) rfl rfl rfl rfl (by kernel_rfl) (by decide) (by decide) (fun K hK=> ?_) (fun K hK=> ?_)
    ·skip
     refine goes_ Tryz.func81 (by kernel_rfl) rfl #[.agg #[.slice cA cn cc,.slice pA pn pc,.int .i64 la,.int .i64 en,.int .i64 cp],.agg #[.int .i64 lr0,.int .i64 lr1,.slice sA sn sc,.int .i64 lsum],.slice xA xn xc,.int .i64 hz] (by rfl) rfl rfl (by simp only[List.map_toArray,List.map_cons,List.map_nil];rfl) ?_;with_reducible refine(HPC.out _ _ (below_drew (Below.refl _ _)) HM8.out (fun _ _ h=>h)).mono ?_
     rintro e w9 ⟨sx,bhx,chx,shx,rfl,hL,hB,hC,hS,hb9⟩;refine⟨_,rfl,?_⟩;have hb10:=(below_drew (Below.refl w8.heap.size w8)).trans (hb9.mono (Nat.le_refl _));refine hK.out _ _ ⟨(HL9.out _ hb10).1,(HL9.out _ hb10).2.1,(HL9.out _ hb10).2.2.1,(HL9.out _ hb10).2.2.2.1,(HL9.out _ hb10).2.2.2.2.1,(HL9.out _ hb10).2.2.2.2.2.1,(HL9.out _ hb10).2.2.2.2.2.2.1,(HL9.out _ hb10).2.2.2.2.2.2.2.1,(HL9.out _ hb10).2.2.2.2.2.2.2.2.1,(HL9.out _ hb10).2.2.2.2.2.2.2.2.2.1,(HL9.out _ hb10).2.2.2.2.2.2.2.2.2.2.1,(HL9.out _ hb10).2.2.2.2.2.2.2.2.2.2.2⟩ (fun hHeld=> ?_);clear hK K;refine norm_ (a':= ?_) ?_ ?_
     rotate_left
     ·show Act.put _ (some 61) _=_;simp only[Act.put,List.setIfInBounds_toArray,List.set_cons_zero,List.set_cons_succ,i64_w,i32_w];rfl
     refine pz_ 13 48 25 16383 ?_;refine pz_ 14 62 25 32767 ?_;refine pz_ 15 63 25 65535 ?_;refine pz_ 16 64 25 131071 ?_;refine pz_ 17 65 25 262143 ?_;refine pz_ 18 66 25 524287 ?_;refine one_ (i:=19) (N:=some 15) (bv 25 1048575) rfl rfl (by kernel_rfl) (by decide) (fun K hK=> ?_);refine value_ (w1:= ?_) (v:= ?_) (by rfl) rfl ?_ ?_;rotate_left 2
     ·go_simp;constructor
      ·rfl
      ·rfl
     refine hK.out _ _ ⟨(HL9.out _ (below_alloc hb10 _)).1,(HL9.out _ (below_alloc hb10 _)).2.1,(HL9.out _ (below_alloc hb10 _)).2.2.1,(HL9.out _ (below_alloc hb10 _)).2.2.2.1,(HL9.out _ (below_alloc hb10 _)).2.2.2.2.1,(HL9.out _ (below_alloc hb10 _)).2.2.2.2.2.1,(HL9.out _ (below_alloc hb10 _)).2.2.2.2.2.2.1,(HL9.out _ (below_alloc hb10 _)).2.2.2.2.2.2.2.1,(HL9.out _ (below_alloc hb10 _)).2.2.2.2.2.2.2.2.1,(HL9.out _ (below_alloc hb10 _)).2.2.2.2.2.2.2.2.2.1,(HL9.out _ (below_alloc hb10 _)).2.2.2.2.2.2.2.2.2.2.1,(HL9.out _ (below_alloc hb10 _)).2.2.2.2.2.2.2.2.2.2.2⟩ (fun hHeld=> ?_)
     clear hK K;refine norm_ (a':= ?_) ?_ ?_;rotate_left
     ·show Act.put _ (some 15) _=_;simp only[Act.put,List.setIfInBounds_toArray,List.set_cons_zero,List.set_cons_succ,i64_w,i32_w];rfl
     exact norm_ (by simp only[putAll,Act.put,List.setIfInBounds_toArray,List.set_cons_zero,List.set_cons_succ]) (hCont (w9.heap.size,sx,bhx,chx,shx) _ (res9_call (below_drew (Below.refl w8.heap.size w8)) hL hB hC hS hb9))
    ·skip
     refine value_ (w1:= ?_) (v:= ?_) (by rfl) rfl ?_ ?_;rotate_left 2
     ·go_simp;constructor
      ·rfl
      ·rfl
     refine hK.out _ _ ⟨(HL9.out _ (below_drew (below_alloc (Below.refl w8.heap.size w8) _))).1,(HL9.out _ (below_drew (below_alloc (Below.refl w8.heap.size w8) _))).2.1,(HL9.out _ (below_drew (below_alloc (Below.refl w8.heap.size w8) _))).2.2.1,(HL9.out _ (below_drew (below_alloc (Below.refl w8.heap.size w8) _))).2.2.2.1,(HL9.out _ (below_drew (below_alloc (Below.refl w8.heap.size w8) _))).2.2.2.2.1,(HL9.out _ (below_drew (below_alloc (Below.refl w8.heap.size w8) _))).2.2.2.2.2.1,(HL9.out _ (below_drew (below_alloc (Below.refl w8.heap.size w8) _))).2.2.2.2.2.2.1,(HL9.out _ (below_drew (below_alloc (Below.refl w8.heap.size w8) _))).2.2.2.2.2.2.2.1,(HL9.out _ (below_drew (below_alloc (Below.refl w8.heap.size w8) _))).2.2.2.2.2.2.2.2.1,(HL9.out _ (below_drew (below_alloc (Below.refl w8.heap.size w8) _))).2.2.2.2.2.2.2.2.2.1,(HL9.out _ (below_drew (below_alloc (Below.refl w8.heap.size w8) _))).2.2.2.2.2.2.2.2.2.2.1,(HL9.out _ (below_drew (below_alloc (Below.refl w8.heap.size w8) _))).2.2.2.2.2.2.2.2.2.2.2⟩ (fun hHeld=> ?_)
     clear hK K;refine norm_ (a':= ?_) ?_ ?_;rotate_left
     ·show Act.put _ (some 15) _=_;simp only[Act.put,List.setIfInBounds_toArray,List.set_cons_zero,List.set_cons_succ,i64_w,i32_w];rfl
     refine one_ (i:=12) (N:=some 61) (bv 25 532479) rfl rfl (by kernel_rfl) (by decide) (fun K hK=> ?_);refine goes_ Tryz.func81 (by kernel_rfl) rfl #[.agg #[.slice cA cn cc,.slice pA pn pc,.int .i64 la,.int .i64 en,.int .i64 cp],.agg #[.int .i64 lr0,.int .i64 lr1,.slice sA sn sc,.int .i64 lsum],.slice xA xn xc,.int .i64 hz] (by rfl) rfl rfl (by simp only[List.map_toArray,List.map_cons,List.map_nil];rfl) ?_;with_reducible refine(HPC.out (M9 (M5 Mt g1 gl g2 g3 qt) w8.heap.size) _ (below_drew (below_alloc (Below.refl _ _) _)) (m9_lt HM8.out) (fun _ hk h=>m9_old hk h)).mono ?_
     rintro e w9 ⟨sx,bhx,chx,shx,rfl,hL,hB,hC,hS,hb9⟩;refine⟨_,rfl,?_⟩;have hb10:=(below_drew (below_alloc (Below.refl w8.heap.size w8) _)).trans (hb9.mono ((below_drew (below_alloc (Below.refl w8.heap.size w8) _)).size))
     refine hK.out _ _ ⟨(HL9.out _ hb10).1,(HL9.out _ hb10).2.1,(HL9.out _ hb10).2.2.1,(HL9.out _ hb10).2.2.2.1,(HL9.out _ hb10).2.2.2.2.1,(HL9.out _ hb10).2.2.2.2.2.1,(HL9.out _ hb10).2.2.2.2.2.2.1,(HL9.out _ hb10).2.2.2.2.2.2.2.1,(HL9.out _ hb10).2.2.2.2.2.2.2.2.1,(HL9.out _ hb10).2.2.2.2.2.2.2.2.2.1,(HL9.out _ hb10).2.2.2.2.2.2.2.2.2.2.1,(HL9.out _ hb10).2.2.2.2.2.2.2.2.2.2.2⟩ (fun hHeld=> ?_);clear hK K;refine norm_ (a':= ?_) ?_ ?_;rotate_left
     ·show Act.put _ (some 61) _=_;simp only[Act.put,List.setIfInBounds_toArray,List.set_cons_zero,List.set_cons_succ,i64_w,i32_w];rfl
     refine pz_ 13 48 25 540671 ?_;refine pz_ 14 62 25 557055 ?_;refine pz_ 15 63 25 589823 ?_;refine pz_ 16 64 25 655359 ?_;refine pz_ 17 65 25 786431 ?_;refine pz_ 18 66 25 1048575 ?_;exact norm_ (by simp only[putAll,Act.put,List.setIfInBounds_toArray,List.set_cons_zero,List.set_cons_succ]) (hCont (w8.heap.size,sx,bhx,chx,shx) _ (res9_alloc (Below.refl w8.heap.size w8) hL hB hC hS ((below_drew (Below.refl _ _)).trans hb9)))
   rintro⟨q6,sx,bh,ch,sh⟩ w10 hR
   have hHeld:w10.cell? ⟨w.heap.size+1,0,none⟩=some (.slice cA cn cc)∧w10.cell? ⟨w.heap.size+1,1,none⟩=some (.slice pA pn pc)∧w10.cell? ⟨w.heap.size+1,2,none⟩=some (.int .i64 la)∧w10.cell? ⟨w.heap.size+1,3,none⟩=some (.int .i64 en)∧w10.cell? ⟨w.heap.size+1,4,none⟩=some (.int .i64 cp)∧w10.cell? ⟨w.heap.size,1,none⟩=some (.slice (some adL) n lc)∧w10.cell? (adL.add (i*4))=some (.int .i64 lr0)∧w10.cell? ⟨(adL.add (i*4)).block,(adL.add (i*4)).off+1,none⟩=some (.int .i64 lr1)∧w10.cell? ⟨(adL.add (i*4)).block,(adL.add (i*4)).off+2,none⟩=some (.slice sA sn sc)∧w10.cell? ⟨(adL.add (i*4)).block,(adL.add (i*4)).off+3,none⟩=some (.int .i64 lsum)∧w10.cell? ⟨w.heap.size,2,none⟩=some (.slice (some adB) n bc)∧w10.cell? (adB.add i)=some (.slice xA xn xc):=HL9.out w10 hR.below
   have HR:=am hR;have hbk:=hR.blk;simp only at hbk;have z0:w10.cell? ⟨q6,0,none⟩=some (.int .i64 0):=by simp[World.cell?,hbk]
   have z1:w10.cell? ⟨q6,1,none⟩=some (.int .i64 0):=by simp[World.cell?,hbk]
   have z2:w10.cell? ⟨q6,2,none⟩=some (.slice none 0 0):=by simp[World.cell?,hbk]
   have z3:w10.cell? ⟨q6,3,none⟩=some (.int .i64 0):=by simp[World.cell?,hbk]
   have y0:w10.frozen? ⟨q6,0,none⟩=false:=blk_frozen hbk 0;have y1:w10.frozen? ⟨q6,1,none⟩=false:=blk_frozen hbk 1;have y2:w10.frozen? ⟨q6,2,none⟩=false:=blk_frozen hbk 2;have y3:w10.frozen? ⟨q6,3,none⟩=false:=blk_frozen hbk 3;clear hR;refine norm_ (a':= ?_) ?_ ?_;rotate_left
   ·simp only[putAll,Act.put,List.setIfInBounds_toArray,List.set_cons_zero,List.set_cons_succ];rfl
   refine last_ (i:=20) (N:=none) (bv 25 2097151) rfl rfl (by kernel_rfl) (by decide) (fun K hK=> ?_);refine skip_ (w1:= ?_) (by rfl) rfl ?_ ?_;rotate_left
   ·go_simp;rfl
   refine hK.out _ _ ?_;clear hK K;refine pz_ 21 16 25 4194303 ?_;refine pz_ 22 17 25 8388607 ?_;refine pz_ 23 18 25 16777215 ?_;refine pz_ 24 19 25 33554431 ?_;refine done_ (by kernel_rfl) ?_;obtain⟨w11,hw11⟩:∃w11,(((w10.setCell ⟨q6,0,none⟩ (.int .i64 sx.r0)).setCell ⟨q6,1,none⟩ (.int .i64 sx.r1)).setCell ⟨q6,2,none⟩ (.slice sx.ps.A sx.ps.n sx.ps.c)).setCell ⟨q6,3,none⟩ (.int .i64 sx.sum)=w11:=⟨_,rfl⟩;rw[hw11];have p4:w11.heap[q6]?=some (.cells #[.int .i64 sx.r0,.int .i64 sx.r1,.slice sx.ps.A sx.ps.n sx.ps.c,.int .i64 sx.sum] 91 (0,0)):=by
    rw[←hw11];exact blk_put (blk_put (blk_put (blk_put hbk 0 (.int .i64 sx.r0) rfl) 1 (.int .i64 sx.r1) rfl) 2 (.slice sx.ps.A sx.ps.n sx.ps.c) rfl) 3 (.int .i64 sx.sum) rfl
   have hg11:w10.grownBy w11 (some q6):=by
    rw[←hw11];exact grown_cells [.int .i64 sx.r0,.int .i64 sx.r1,.slice sx.ps.A sx.ps.n sx.ps.c,.int .i64 sx.sum] w10 0
   have hq6:w8.heap.size≤q6:=HR.out.new;have hb11:Below w8.heap.size w8 w11:=below_grown HR.out.below hg11 hq6;have hk11:Keep (M9 (M5 Mt g1 gl g2 g3 qt) q6) w10 w11:=Keep.grown hg11 fun k hk=>by
    cases hk;exact .inr rfl
   have hin11:∀k,k<w10.heap.size→M5 Mt g1 gl g2 g3 qt k→M9 (M5 Mt g1 gl g2 g3 qt) q6 k:=fun _ _ h=> .inl h;have HLP:=am (show LpAt (M5 Mt g1 gl g2 g3 qt) w11 sx oc.lp from HR.out.lp.fresh hk11 hin11);have HBXN:=am (show EvsAt (M5 Mt g1 gl g2 g3 qt) w11 bh oc.box from HR.out.bx.fresh hk11 hin11);have HCM:=am (show EvsAt (M5 Mt g1 gl g2 g3 qt) w11 ch oc.com from HR.out.cm.fresh hk11 hin11);have HSN:=am (show EvsAt (M5 Mt g1 gl g2 g3 qt) w11 sh oc.sent from HR.out.sn.fresh hk11 hin11);have hI11:=HI8.out.more hb11;have HI11:=am hI11;have HQ6:=am p4
   have HQ6N:=am hq6;obtain⟨⟨a1,r1,e1⟩,⟨aL,rL,eL⟩,⟨a2,r2,e2⟩,⟨a3,r3,e3⟩,hqb,_,_,_,_⟩:=hI11.mid;clear z0 z1 z2 z3 y0 y1 y2 y3 hw11 hg11 hb11 hk11 hin11 hI11 hbk p4 hq6;have haL:aL.length=n:=((Kd.R_reads' rL).1).symm;have ha2:a2.length=n:=((Kd.R_reads' r2).1).symm;have ha3:a3.length=n:=((Kd.R_reads' r3).1).symm;have ha1:a1.length=n:=((Kd.R_reads' r1).1).symm;obtain⟨kk1,kk2,kk3⟩:=HI11.out.mid.kinds;have hld:=rL.get i (by omega);obtain⟨u0,d0⟩:=Option.isSome_iff_exists.1 (hld.1 0 (by omega));obtain⟨u1,d1⟩:=Option.isSome_iff_exists.1 (hld.1 1 (by omega))
   obtain⟨u2,d2⟩:=Option.isSome_iff_exists.1 (hld.1 2 (by omega));obtain⟨u3,d3⟩:=Option.isSome_iff_exists.1 (hld.1 3 (by omega));have y0:=hld.2.1 (i*4);have y1:=hld.2.1 (i*4+1);have y2:=hld.2.1 (i*4+2);have y3:=hld.2.1 (i*4+3);rw[Nat.add_zero]at d0;have f0:w11.cell? ⟨qt,1,none⟩=some (.slice (some ⟨gl,0,none⟩) n cl):=by simp[World.cell?,hqb,stCells]
   have f1:w11.cell? ⟨qt,2,none⟩=some (.slice (some ⟨g2,0,none⟩) n c2):=by simp[World.cell?,hqb,stCells]
   have f2:w11.cell? ⟨q6,0,none⟩=some (.int .i64 sx.r0):=by simp[World.cell?,HQ6.out]
   have f3:w11.cell? ⟨q6,1,none⟩=some (.int .i64 sx.r1):=by simp[World.cell?,HQ6.out]
   have f4:w11.cell? ⟨q6,2,none⟩=some (.slice sx.ps.A sx.ps.n sx.ps.c):=by simp[World.cell?,HQ6.out]
   have f5:w11.cell? ⟨q6,3,none⟩=some (.int .i64 sx.sum):=by simp[World.cell?,HQ6.out]
   have HML:=am (show i<m.lps.length by have:=eL.len;omega);have HMB:=am (show i<m.bx.length by have:=e2.len;omega);have HMS:=am (show i<m.sn.length by have:=e3.len;omega);have HMT:=am (show i<m.tr.length by have:=e1.len;omega);have HQ6L:=am (show q6<w11.heap.size∧q6≠gl from⟨blk_lt HQ6.out,by have:=HQ6N.out;have:=HI8.out.mid.lts;omega⟩);clear r1 e1 rL eL r2 e2 r3 e3 hqb hld;have n23:g3≠g2:=HI11.out.mid.n23.symm;go_upto_region 10 with (fail)
   refine sz_ 17 (S:=fun w'=>w'.cell? ⟨qt,1,none⟩=some (.slice (some ⟨gl,0,none⟩) n cl)∧w'.cell? ⟨qt,2,none⟩=some (.slice (some ⟨g2,0,none⟩) n c2)∧w'.cell? ⟨q6,0,none⟩=some (.int .i64 sx.r0)∧w'.cell? ⟨q6,1,none⟩=some (.int .i64 sx.r1)∧w'.cell? ⟨q6,2,none⟩=some (.slice sx.ps.A sx.ps.n sx.ps.c)∧w'.cell? ⟨q6,3,none⟩=some (.int .i64 sx.sum)) (ds:=[14,16]) ⟨f0,f1,f2,f3,f4,f5⟩ (fun hHeld=> ?_);refine pz_ 0 67 17 1 ?_;refine pz_ 2 69 17 5 ?_;refine pz_ 3 70 17 13 ?_;refine pz_ 5 72 17 45 ?_;refine pz_ 6 73 17 109 ?_;refine pz_ 7 74 17 237 ?_;refine pz_ 9 76 17 749 ?_;refine pz_ 10 77 17 1773 ?_
   refine tz_ 1 68 17 1775 hHeld ?_;refine tz_ 4 71 17 1791 hHeld ?_;refine tz_ 8 75 17 2047 hHeld ?_;refine pz_ 11 78 17 4095 ?_;refine one_ (i:=12) (N:=none) (bv 17 8191) rfl rfl (by kernel_rfl) (by decide) (fun K hK=> ?_);refine skip_ (w1:= ?_) (by rfl) rfl ?_ ?_;rotate_left
   ·go_simp;rfl
   obtain⟨w12,hw12⟩:∃w12,((((w11.setCell ⟨gl,i*4,none⟩ (.int .i64 sx.r0)).setCell ⟨gl,i*4+1,none⟩ (.int .i64 sx.r1)).setCell ⟨gl,i*4+2,none⟩ (.slice sx.ps.A sx.ps.n sx.ps.c)).setCell ⟨gl,i*4+3,none⟩ (.int .i64 sx.sum)).drew=w12:=⟨_,rfl⟩;rw[hw12];have hputL:=HI11.out.putL i HML.out HLP.out;have hw12':(w11.setCells gl (i*4) sx.cells).drew=w12:=hw12;rw[hw12']at hputL;have hq12:=(hputL.2.2 q6 HQ6L.out.1 HQ6L.out.2).trans HQ6.out;obtain⟨⟨b1,s1,_⟩,⟨bL,sL,_⟩,⟨b2,s2,_⟩,⟨b3,s3,_⟩,hqb,_,_,_,_⟩:=hputL.1.mid;have hs2:=s2.get i (by have:=(Kd.R_reads' s2).1;omega)
   have hs3:=s3.get i (by have:=(Kd.R_reads' s3).1;omega);obtain⟨v2,x2⟩:∃v,w12.cell? ⟨g2,i,none⟩=some v:=⟨_,hs2.1⟩;have y2:=hs2.2.1;obtain⟨v3,x3⟩:∃v,w12.cell? ⟨g3,i,none⟩=some v:=⟨_,hs3.1⟩;have y3:=hs3.2.1;have HPL:=am hputL;have j0:w12.cell? ⟨qt,1,none⟩=some (.slice (some ⟨gl,0,none⟩) n cl):=by simp[World.cell?,hqb,stCells]
   have j1:w12.cell? ⟨qt,2,none⟩=some (.slice (some ⟨g2,0,none⟩) n c2):=by simp[World.cell?,hqb,stCells]
   have j2:w12.cell? ⟨q6,0,none⟩=some (.int .i64 sx.r0):=by simp[World.cell?,hq12]
   have j3:w12.cell? ⟨q6,1,none⟩=some (.int .i64 sx.r1):=by simp[World.cell?,hq12]
   have j4:w12.cell? ⟨q6,2,none⟩=some (.slice sx.ps.A sx.ps.n sx.ps.c):=by simp[World.cell?,hq12]
   have j5:w12.cell? ⟨q6,3,none⟩=some (.int .i64 sx.sum):=by simp[World.cell?,hq12]
   clear hputL hw12 hw12' hq12 s1 sL s2 s3 hqb hs2 hs3;refine hK.out _ _ ⟨j0,j1,j2,j3,j4,j5⟩ (fun hHeld=> ?_);clear hK K;refine pz_ 13 79 17 16383 ?_;refine last_ (i:=14) (N:=none) (bv 17 32767) rfl rfl (by kernel_rfl) (by decide) (fun K hK=> ?_);refine skip_ (w1:= ?_) (by rfl) rfl ?_ ?_;rotate_left
   ·go_simp;rfl
   refine hK.out _ _ ?_;clear hK K;refine pz_ 15 80 17 65535 ?_;refine last_ (i:=16) (N:=none) (bv 17 131071) rfl rfl (by kernel_rfl) (by decide) (fun K hK=> ?_);refine skip_ (w1:= ?_) (by rfl) rfl ?_ ?_;rotate_left
   ·go_simp;rfl
   refine hK.out _ _ ?_;clear hK K;refine done_ (by kernel_rfl) ?_;obtain⟨w13,hw13⟩:∃w13,(w12.setCell ⟨g2,i,none⟩ (.slice bh.A bh.n bh.c)).setCell ⟨g3,i,none⟩ (.slice sh.A sh.n sh.c)=w13:=⟨_,rfl⟩;rw[hw13];have hk12:=HPL.out.2.1;have hk13:Keep (M5 Mt g1 gl g2 g3 qt) w12 w13:=by
    rw[←hw13];exact(Keep.set (b:=g2) (.inr (.inr (.inr (.inl rfl)))) _).trans (Keep.set (b:=g3) (.inr (.inr (.inr (.inr (.inl rfl))))) _)
   have hI13:=(HPL.out.1.put2 i HMB.out (HBXN.out.keep hk12)).put3 i HMS.out ((HSN.out.keep hk12).keep (Keep.set (b:=g2) (.inr (.inr (.inr (.inl rfl)))) _));rw[hw13]at hI13;have hC13:EvsAt (M5 Mt g1 gl g2 g3 qt) w13 ch oc.com:=(HCM.out.keep hk12).keep hk13;obtain⟨⟨h1,s1,e1⟩,⟨hL,sL,eL⟩,⟨h2,s2,e2⟩,⟨h3,s3,e3⟩,hqb,_,_,_,_⟩:=hI13.mid;simp only at e1;have hl1:i<h1.length:=by have:=e1.len;have:=HMT.out;omega
   have hT13:=e1.get i hl1 HMT.out;obtain⟨th,hth⟩:∃th,h1[i]=th:=⟨_,rfl⟩;rw[hth]at hT13;obtain⟨tA1,tn1,tc1⟩:=th;obtain⟨chA,chn,chc⟩:=ch;have hM13:=hI13.mid.mt (fun k hk=>Nat.lt_of_lt_of_le (HM.out k hk) hI13.big);obtain⟨ti,hti⟩:∃ti,m.tr[i]'HMT.out=ti:=⟨_,rfl⟩;rw[hti]at hT13;have HTI:=am hti;have htl:ti.length+oc.com.length≤1000000:=by
    refine HTB.out ti ?_;have h9:m.tr[i]?=m0.tr[i]?:=by
     rw[←HM1.out];exact steps_tr _ i _ _ (not_before HPRE.out.nd (fun x hx=>(HPRE.out.prn x hx).1) HX.out)
    rw[List.getElem?_eq_getElem HMT.out,hti,HM0.out]at h9;exact h9.symm
   have HCC:=am (show∀W0,Below w13.heap.size w13 W0→W0.heap[w13.heap.size]?=some (.cells #[.slice tA1 tn1 tc1,.slice chA chn chc] THd (0,0))→Calls Tryz.prog 29 #[.slice (some ⟨w13.heap.size,0,none⟩) 2 2] W0 (fun e w'=>∃h':SH,e= .returned (.slice h'.A h'.n h'.c)∧EvsAt (M5 Mt g1 gl g2 g3 qt) w' h' (ti++oc.com)∧Below W0.heap.size W0 w')from fun W0 hb hbl=>by
    have hrd:EvssAt (M5 Mt g1 gl g2 g3 qt) W0 ⟨some ⟨w13.heap.size,0,none⟩,2,2⟩ [ti,oc.com]:=⟨[⟨tA1,tn1,tc1⟩,⟨chA,chn,chc⟩],⟨rfl,Nat.le_refl _,fun W2 hk2=>hd_row [⟨tA1,tn1,tc1⟩,⟨chA,chn,chc⟩] THd ((hk2.block _ (blk_lt hbl) (fun hm=>by have:=hM13 _ hm;omega)).trans hbl) (by simp)⟩,.cons (hT13.below hb) (.cons (hC13.below hb) .nil)⟩;refine(concatDeep hrd (fun k hk=>Nat.lt_of_lt_of_le (hM13 k hk) hb.size) (by simp) (by simp;omega)).mono ?_;rintro e w' ⟨h',rfl,_,h4,h5⟩;exact⟨h',rfl,by simpa using h4,h5⟩)
   have HL13:=am (show∀w',Below w13.heap.size w13 w'→w'.cell? ⟨qt,0,none⟩=some (.slice (some ⟨g1,0,none⟩) n c1)∧w'.cell? ⟨g1,i,none⟩=some (.slice tA1 tn1 tc1)from fun w' hb=>by
    have t0:=(hI13.more hb).mid.blk;have t1:=cell_old hb ((s1.get i hl1).1);rw[hth]at t1;exact⟨by simp[World.cell?,t0,stCells],t1⟩)
   have HF13:=am (show∀w',Below w13.heap.size w13 w'→w'.frozen? ⟨g1,i,none⟩=false from fun w' hb=>by
    obtain⟨⟨cells,hc⟩,_,hlt⟩:=s1.typed;exact blk_frozen ((hb.block _ hlt).trans hc) i)
   have HI13:=am hI13;clear hw13 hk12 hk13 hI13 hC13 s1 e1 sL eL s2 e2 s3 e3 hqb hl1 hT13 hth hti hM13 htl j0 j1 j2 j3 j4 j5 f0 f1 f2 f3 f4 f5 d0 d1 d2 d3 y0 y1 y2 y3 x2 x3;go_upto_region 11 with (fail)
   refine sz_ 13 (S:=fun w'=>w'.cell? ⟨qt,0,none⟩=some (.slice (some ⟨g1,0,none⟩) n c1)∧w'.cell? ⟨g1,i,none⟩=some (.slice tA1 tn1 tc1)) (ds:=[12]) ⟨(HL13.out _ (below_drew (Below.refl w13.heap.size w13))).1,(HL13.out _ (below_drew (Below.refl w13.heap.size w13))).2⟩ (fun hHeld=> ?_);refine pz_ 0 81 13 1 ?_;refine pz_ 2 83 13 5 ?_;refine pz_ 3 84 13 13 ?_;refine pz_ 5 86 13 45 ?_;refine pz_ 8 89 13 301 ?_;refine tz_ 1 82 13 303 hHeld ?_;refine tz_ 4 85 13 319 hHeld ?_;refine pz_ 6 87 13 383 ?_;refine tz_ 7 88 13 511 hHeld ?_
   refine one_ (i:=9) (N:=some 90) (bv 13 1023) rfl rfl (by kernel_rfl) (by decide) (fun K hK=> ?_);refine value_ (w1:= ?_) (v:= ?_) (by rfl) rfl ?_ ?_;rotate_left 2
   ·go_simp;constructor
    ·rfl
    ·rfl
   refine hK.out _ _ ⟨(HL13.out _ (below_alloc (below_drew (Below.refl w13.heap.size w13)) _)).1,(HL13.out _ (below_alloc (below_drew (Below.refl w13.heap.size w13)) _)).2⟩ (fun hHeld=> ?_);clear hK K;refine norm_ (a':= ?_) ?_ ?_;rotate_left
   ·show Act.put _ (some 90) _=_;simp only[Act.put,List.setIfInBounds_toArray,List.set_cons_zero,List.set_cons_succ,i64_w,i32_w];rfl
   refine one_ (i:=10) (N:=some 91) (bv 13 2047) rfl rfl (by kernel_rfl) (by decide) (fun K hK=> ?_);refine goes_ Tryz.func29 (by kernel_rfl) rfl #[.slice (some ⟨w13.heap.size,0,none⟩) 2 2] (by rfl) rfl rfl (by simp only[List.map_toArray,List.map_cons,List.map_nil];rfl) ?_;with_reducible refine(HCC.out _ (below_drew (below_alloc (Below.refl _ _) _)) (World.alloc_heap_new _ _)).mono ?_
   rintro e w14 ⟨h14,rfl,hE14,hb14⟩;refine⟨_,rfl,?_⟩;have hb13:=(below_drew (below_alloc (Below.refl w13.heap.size w13) (.cells #[.slice tA1 tn1 tc1,.slice chA chn chc] THd))).trans (hb14.mono (below_alloc (Below.refl w13.heap.size w13) _).size);have x2:=(HL13.out _ hb13).2;have y2:=HF13.out _ hb13;refine hK.out _ _ ⟨(HL13.out _ hb13).1,(HL13.out _ hb13).2⟩ (fun hHeld=> ?_);clear hK K;refine norm_ (a':= ?_) ?_ ?_;rotate_left
   ·show Act.put _ (some 91) _=_;simp only[Act.put,List.setIfInBounds_toArray,List.set_cons_zero,List.set_cons_succ,i64_w,i32_w];rfl
   refine pz_ 11 92 13 4095 ?_;refine last_ (i:=12) (N:=none) (bv 13 8191) rfl rfl (by kernel_rfl) (by decide) (fun K hK=> ?_);refine skip_ (w1:= ?_) (by rfl) rfl ?_ ?_;rotate_left
   ·go_simp;rfl
   refine hK.out _ _ ?_;clear hK K;refine done_ (by kernel_rfl) ?_;have hk14:Keep (M5 Mt g1 gl g2 g3 qt) w14 (w14.setCell ⟨g1,i,none⟩ (.slice h14.A h14.n h14.c)):=Keep.set (b:=g1) (.inr (.inl rfl)) _;have hI15:=(HI13.out.more hb13).put1 i HMT.out hE14;obtain⟨w15,hw15⟩:∃w15,w14.setCell ⟨g1,i,none⟩ (.slice h14.A h14.n h14.c)=w15:=⟨_,rfl⟩;rw[hw15]at hI15 ⊢;have hqb:=hI15.mid.blk;obtain⟨mv,hmv⟩:∃mv,m.ov=mv:=⟨_,rfl⟩;simp only[hmv]at hqb;have f3:w15.cell? ⟨qt,3,none⟩=some (.bool mv):=by simp[World.cell?,hqb,stCells]
   have y3:w15.frozen? ⟨qt,3,none⟩=false:=blk_frozen hqb 3;have HI15:=am hI15;have HMV:=am hmv;clear hw15 hI15 hqb hk14 hE14 hb14 hb13 x2 y2 hmv;have HST:=am (show(prs.take (k+1)).foldl (fun m x=>Mid.step (ocAt progs hz p) m x.1.toNat) m0=Mid.mk (m.tr.set i (ti++oc.com)) (m.lps.set i oc.lp) (m.bx.set i oc.box) (m.sn.set i oc.sent) (mv||oc.ov)from by
    obtain⟨hkl,hke⟩:=List.getElem?_eq_some_iff.1 HX.out;rw[←List.take_append_getElem hkl,List.foldl_append,HM1.out,hke];show Mid.step (ocAt progs hz p) m ((i:Int).toNat)=_;rw[Int.toNat_natCast];unfold Mid.step;rw[HOE.out,HMV.out,List.getD_eq_getElem?_getD,List.getElem?_eq_getElem HMT.out,HTI.out];rfl)
   cases mv with
   |true=>
    go_wp2_with (fail)
    have hIF:=HI15.out.putOv true
    go_roundw
    case rel=>exact⟨k+1,Nat.succ_le_of_lt hkn,by go_num,⟨by rw[HST.out];exact hIF⟩⟩
    case measure=>simp[intOf];omega
   |false=>
    go_wp2_with (fail)
    have hIF:=HI15.out.putOv oc.ov
    go_roundw
    case rel=>exact⟨k+1,Nat.succ_le_of_lt hkn,by go_num,⟨by rw[HST.out];exact hIF⟩⟩
    case measure=>simp[intOf];omega
  ·obtain rfl:k=phn:=by omega
   have d3:decide ((k:Int)<(k:Int))=false:=df (by omega);have d3':decide (k<k)=false:=df (by omega);have hpl2:prs.length=k:=by have:=HPR.out.len;simp only at this;omega
   have hout:p.outs.length=n:=by
    unfold Ps.outs;rw[List.length_zipWith];have:=HNL.out;have:=HPRE.out.nbx;omega
   rw[List.take_of_length_le (by omega),HM0.out,steps_end hout (HPRE.out.ntr.trans HNL.out) HNL.out (HPRE.out.nbx.trans HNL.out) HPRE.out.nd (fun x hx=>by have:=HPRE.out.prn x hx;have:=HNL.out;omega) (fun i hi=>HALL.out i (by have:=HNL.out;omega)) ov]at HI;obtain⟨F,hF⟩:∃F,p.ends progs hz=F:=⟨_,rfl⟩;rw[hF]at HI;have hDL:=HDL.out;have HNX:=am (show p.next progs la en fl=⟨List.zipWith (·++·) p.tr (F.map Oc.com),F.map Oc.lp,dlv (F.map Oc.box) (F.map Oc.sent).flatten,p.ov||F.any Oc.ov,p.fl++[fl],p.np+1⟩from by
    unfold Ps.next;rw[HHE.out,hF])
   rw[HHE.out,hF]at hDL;obtain⟨⟨a1,r1,q1⟩,⟨aL,rL,qL⟩,⟨a2,r2,q2⟩,⟨a3,r3,q3⟩,hqb,hqB,n12,n13,n23⟩:=HI.out.mid;obtain⟨⟨k1,k2,k3⟩,⟨k4,k5,k6⟩,k7⟩:=HI.out.mid.kinds;have hmt:∀k,Mq Mt qt k→M5 Mt g1 gl g2 g3 qt k:=fun k hk=>by
    rcases hk with hk|hk
    ·exact .inl hk
    ·exact .inr (.inr (.inr (.inr (.inr hk))))
   have hno:∀g,w.heap.size+3≤g→g≠qt→¬Mq Mt qt g:=fun g hg hne hm=>by
    rcases hm with hm|hm
    ·have:=HM.out g hm;omega
    ·exact hne hm
   have e1:EvssAt (Mq Mt qt) wr ⟨some ⟨g1,0,none⟩,n,c1⟩ (List.zipWith (·++·) p.tr (F.map Oc.com)):=⟨a1,Rd.of_R rfl r1 (fun k hk hm=>by cases hk;exact hno g1 r1.typed.2.1 (Ne.symm k4) hm),q1.imp fun _ _ h=>h.fresh (Keep.refl _ _) (fun k _ h=>hmt k h)⟩;have e2:EvssAt (Mq Mt qt) wr ⟨some ⟨g2,0,none⟩,n,c2⟩ (F.map Oc.box):=⟨a2,Rd.of_R rfl r2 (fun k hk hm=>by cases hk;exact hno g2 r2.typed.2.1 (Ne.symm k5) hm),q2.imp fun _ _ h=>h.fresh (Keep.refl _ _) (fun k _ h=>hmt k h)⟩
   have e3:EvssAt (Mq Mt qt) wr ⟨some ⟨g3,0,none⟩,n,c3⟩ (F.map Oc.sent):=⟨a3,Rd.of_R rfl r3 (fun k hk hm=>by cases hk;exact hno g3 r3.typed.2.1 (Ne.symm k6) hm),q3.imp fun _ _ h=>h.fresh (Keep.refl _ _) (fun k _ h=>hmt k h)⟩;have eL:LpsAt (Mq Mt qt) wr ⟨some ⟨gl,0,none⟩,n,cl⟩ (F.map Oc.lp):=⟨aL,Rd.of_R rfl rL (fun k hk hm=>by cases hk;exact hno gl rL.typed.2.1 (Ne.symm k7) hm),qL.imp fun _ _ h=>h.fresh (Keep.refl _ _) (fun k _ h=>hmt k h)⟩
   have HDV:=am (deliver_calls (Mt:=Mq Mt qt) (w:=wr) (fun k hk=>HI.out.mid.mt (fun k hk=>Nat.lt_of_lt_of_le (HM.out k hk) HI.out.big) k (hmt k hk)) e2 e3 hDL);obtain⟨mov,hmov⟩:∃mov,(ov||F.any Oc.ov)=mov:=⟨_,rfl⟩;simp only[hmov]at hqb;have HMOV:=am hmov;have HE1:=am e1;have HEL:=am eL;have HQB:=am hqb;have HQQ:=am hqB;have x2:wr.cell? ⟨qt,2,none⟩=some (.slice (some ⟨g2,0,none⟩) n c2):=by simp[World.cell?,hqb,stCells]
   clear hpl2 hout hF hDL r1 q1 rL qL r2 q2 r3 q3 hqb hqB n12 n13 n23 k1 k2 k3 k4 k5 k6 k7 hmt hno e1 e2 e3 eL hmov;go_upto_region 15 with (first|(go_at_call 74;go_must (with_reducible refine HDV.out.mono ?_);go_must (rintro e w1 ⟨⟨bA2,bn2,bc2⟩,rfl,hev,hb1⟩);go_must (have HEV:=am hev;have HB1:=am hb1;have hq1:=box_more hb1 HQB.out);go_must (have y2:w1.frozen? ⟨qt,2,none⟩=false:=blk_frozen hq1 2);go_must (have x22:w1.cell? ⟨qt,2,none⟩=some (.slice (some ⟨g2,0,none⟩) n c2):=by(simp[World.cell?,hq1,stCells]));clear hev hb1 hq1))
   obtain⟨w2,hw2⟩:∃w2,w1.setCell ⟨qt,2,none⟩ (.slice bA2 bn2 bc2)=w2:=⟨_,rfl⟩;rw[hw2];have hI1:=HI.out.more HB1.out;have hs2:Keep (Mq Mt qt) w1 w2:=hw2▸Keep.set (b:=qt) (.inr rfl) _;have hk2:Keep (Mq Mt qt) wr w2:=(Keep.of_below HB1.out).trans hs2;have hne:w.heap.size≠qt:=by have:=HQQ.out;omega
   have t0:=(show w2.heap[w.heap.size]?=w1.heap[w.heap.size]?from hw2▸Below.heap_setCell w1 ⟨qt,2,none⟩ _ _ hne).trans hI1.q0;have t2:=(show w2.heap[w.heap.size+1+1]?=w1.heap[w.heap.size+1+1]?from hw2▸Below.heap_setCell w1 ⟨qt,2,none⟩ _ _ (show w.heap.size+1+1≠qt by have:=HQQ.out;omega)).trans hI1.q2;have tq:w2.heap[qt]?=some (.cells #[.slice (some ⟨g1,0,none⟩) n c1,.slice (some ⟨gl,0,none⟩) n cl,.slice bA2 bn2 bc2,.bool mov,.slice fA fn fc,.slice rA rn rc] TSt (0,0)):=by
    rw[←hw2];exact blk_put (box_more HB1.out HQB.out) 2 _ rfl
   have hbw2:Below w.heap.size w w2:=hw2▸hI1.bel.setCell (p:=⟨qt,2,none⟩) (by simp only;have:=HQQ.out;omega) _;have HE1:=am (HE1.out.keep hk2);have HEL:=am (HEL.out.keep hk2);have HEV:=am (HEV.out.keep hs2);have HFL:=am (HS.out.fl.below hbw2);have HFC:=am (show fn≤fc from HS.out.fl.cap);have HFN:=am (show fn≤1000000 by have h1:=HS.out.fl.len;have h2:=HPRE.out.fll;simp only at h1;omega);have T0:=am t0;have T2:=am t2;have TQ:=am tq;have HBW2:=am hbw2
   have x4:w2.cell? ⟨w.heap.size,4,none⟩=some (.slice fA fn fc):=by simp[World.cell?,t0]
   clear hw2 hI1 hs2 hk2 hne t0 t2 tq hbw2 x2 x22 y2;go_upto_region 16 with (first
    |(go_at_call 82;go_must (with_reducible refine(clipI_calls fA fn fc HFC.out _).mono ?_);go_must (rintro e w3 ⟨rfl,hb3⟩);have HB3:=am hb3;clear hb3)
    |((with_reducible refine gate_dst (N:=110) rfl ?_);go_must (refine append_clip (d:=Kd.int .i64) (enc:=Value.int .i64) rfl (fun h=>h) (fun _ _ _ _=>rfl) rfl (.tmp 107) (.tmp 109) 35 3 (.int .i64 0) 8 rfl Tryz.underlying35 infoInt rfl (HFL.out.below HB3.out).here fl rfl rfl rfl HFN.out (by omega) ?_);go_must (intro v4 w4 hv4 hb4);go_must (obtain⟨vA,vn,vc,hvn,rfl⟩:=R_slice3 hv4);have HV4:=am hv4;have HB4:=am hb4;go_must (have hq4:=box_more hb4 (box_more HB3.out TQ.out));go_must (have y4:w4.frozen? ⟨qt,4,none⟩=false:=blk_frozen hq4 4);go_must (have x44:w4.cell? ⟨qt,4,none⟩=some (.slice fA fn fc):=by(simp[World.cell?,hq4]));clear hv4 hb4 hq4 hvn))
   obtain⟨w5,hw5⟩:∃w5,w4.setCell ⟨qt,4,none⟩ (.slice vA vn vc)=w5:=⟨_,rfl⟩;rw[hw5];have hb24:Below w2.heap.size w2 w4:=HB3.out.trans (HB4.out.mono HB3.out.size);have hs5:Keep (Mq Mt qt) w4 w5:=hw5▸Keep.set (b:=qt) (.inr rfl) _;have hk5:Keep (Mq Mt qt) w2 w5:=(Keep.of_below hb24).trans hs5;have hne:w.heap.size≠qt:=by have:=HQQ.out;omega
   have t0:=(show w5.heap[w.heap.size]?=w4.heap[w.heap.size]?from hw5▸Below.heap_setCell w4 ⟨qt,4,none⟩ _ _ hne).trans (box_more hb24 T0.out);have t2:=(show w5.heap[w.heap.size+1+1]?=w4.heap[w.heap.size+1+1]?from hw5▸Below.heap_setCell w4 ⟨qt,4,none⟩ _ _ (show w.heap.size+1+1≠qt by have:=HQQ.out;omega)).trans (box_more hb24 T2.out);have tq:w5.heap[qt]?=some (.cells #[.slice (some ⟨g1,0,none⟩) n c1,.slice (some ⟨gl,0,none⟩) n cl,.slice bA2 bn2 bc2,.bool mov,.slice vA vn vc,.slice rA rn rc] TSt (0,0)):=by
    rw[←hw5];exact blk_put (box_more hb24 TQ.out) 4 _ rfl
   have hbw5:Below w.heap.size w w5:=hw5▸(HBW2.out.trans (hb24.mono HBW2.out.size)).setCell (p:=⟨qt,4,none⟩) (by simp only;have:=HQQ.out;omega) _;have HE1:=am (HE1.out.keep hk5);have HEL:=am (HEL.out.keep hk5);have HEV:=am (HEV.out.keep hk5);have HRV:=am (show Rd (Kd.int .i64) (Mq Mt qt) w5 ⟨vA,vn,vc⟩ (p.fl++[fl])from(Rd.of_R rfl HV4.out (fun k hk hm=>by
    have h1:=Kd.R_base HV4.out k hk;have h2:=HB3.out.size;have h3:=HBW2.out.size;have h4:=blk_lt TQ.out;rcases hm with hm|hm
    ·have:=HM.out k hm;have:=HQQ.out;omega
    ·omega)).keep hs5)
   obtain⟨hsp,hp1,hp2⟩:=HS.out.pr;have HFP:=am (hp1.below hbw5);have HFPL:=am hp2;have HFC:=am (show rn≤rc from hp1.cap);have HFN:=am (show rn≤1000000 by have h1:=hp1.len;have h2:=HPRE.out.npl;simp only at h1;omega);have T2:=am t2;have TQ5:=am tq;have HBW5:=am hbw5;have x5:w5.cell? ⟨w.heap.size,5,none⟩=some (.slice rA rn rc):=by simp[World.cell?,t0]
   clear hw5 hb24 hs5 hk5 hne t0 t2 tq hbw5 x4 x44 y4 hp1 hp2;go_upto_region 17 with (first
    |(go_at_call 83;go_must (with_reducible refine(clipP_calls rA rn rc HFC.out _).mono ?_);go_must (rintro e w6 ⟨rfl,hb6⟩);have HB6:=am hb6;clear hb6)
    |((with_reducible refine gate_dst (N:=117) rfl ?_);go_must (refine append_clip (d:=kH) (enc:=fun h:SH=> .slice h.A h.n h.c) rfl (fun h=>h) (fun _ _ _ _=>rfl) rfl (.tmp 114) (.tmp 116) 45 42 (.slice none 0 0) 24 rfl Tryz.underlying45 infoPrs rfl (HFP.out.below HB6.out).here ⟨phA,k,phc⟩ rfl rfl rfl HFN.out (by omega) ?_);go_must (intro v7 w7 hv7 hb7);go_must (obtain⟨zA,zn,zc,hzn,rfl⟩:=R_slice3 hv7);have HV7:=am hv7;have HB7:=am hb7;go_must (have hq7:=box_more hb7 (box_more HB6.out TQ5.out));go_must (have y7:w7.frozen? ⟨qt,5,none⟩=false:=blk_frozen hq7 5);go_must (have x77:w7.cell? ⟨qt,5,none⟩=some (.slice rA rn rc):=by(simp[World.cell?,hq7]));clear hv7 hb7 hq7 hzn))
   obtain⟨w8,hw8⟩:∃w8,w7.setCell ⟨qt,5,none⟩ (.slice zA zn zc)=w8:=⟨_,rfl⟩;rw[hw8];have hb57:Below w5.heap.size w5 w7:=HB6.out.trans (HB7.out.mono HB6.out.size);have hs8:Keep (Mq Mt qt) w7 w8:=hw8▸Keep.set (b:=qt) (.inr rfl) _;have hk8:Keep (Mq Mt qt) w5 w8:=(Keep.of_below hb57).trans hs8;have t2:=(show w8.heap[w.heap.size+1+1]?=w7.heap[w.heap.size+1+1]?from hw8▸Below.heap_setCell w7 ⟨qt,5,none⟩ _ _ (show w.heap.size+1+1≠qt by have:=HQQ.out;omega)).trans (box_more hb57 T2.out)
   have tq:w8.heap[qt]?=some (.cells #[.slice (some ⟨g1,0,none⟩) n c1,.slice (some ⟨gl,0,none⟩) n cl,.slice bA2 bn2 bc2,.bool mov,.slice vA vn vc,.slice zA zn zc] TSt (0,0)):=by
    rw[←hw8];exact blk_put (box_more hb57 TQ5.out) 5 _ rfl
   have hbw8:Below w.heap.size w w8:=hw8▸(HBW5.out.trans (hb57.mono HBW5.out.size)).setCell (p:=⟨qt,5,none⟩) (by simp only;have:=HQQ.out;omega) _;have hrp:Rd kH (Mq Mt qt) w8 ⟨zA,zn,zc⟩ (hsp++[⟨phA,k,phc⟩]):=(Rd.of_R rfl HV7.out (fun k hk hm=>by
    have h1:=Kd.R_base HV7.out k hk;have h2:=HB6.out.size;have h3:=HBW5.out.size;have h4:=blk_lt TQ5.out;rcases hm with hm|hm
    ·have:=HM.out k hm;have:=HQQ.out;omega
    ·omega)).keep hs8
   have hfin:PsAt (Mq Mt qt) w8 ⟨⟨some ⟨g1,0,none⟩,n,c1⟩,⟨some ⟨gl,0,none⟩,n,cl⟩,⟨bA2,bn2,bc2⟩,mov,⟨vA,vn,vc⟩,⟨zA,zn,zc⟩⟩ (p.next progs la en fl):=by
    rw[HNX.out];exact⟨HE1.out.keep hk8,HEL.out.keep hk8,HEV.out.keep hk8,by rw[←HMOV.out];exact congrArg (·||F.any Oc.ov) HS.out.ov,HRV.out.keep hk8,⟨_,hrp,by rw[List.length_append,HFPL.out];rfl⟩⟩
   have HFIN:=am hfin;have HBW8:=am hbw8;obtain⟨wz,hst,hg9,pz⟩:=st_store t2 rfl ⟨some ⟨g1,0,none⟩,n,c1⟩ ⟨some ⟨gl,0,none⟩,n,cl⟩ ⟨bA2,bn2,bc2⟩ ⟨vA,vn,vc⟩ ⟨zA,zn,zc⟩ mov;have HLD:=am (st_load (tr:=⟨some ⟨g1,0,none⟩,n,c1⟩) (lps:=⟨some ⟨gl,0,none⟩,n,cl⟩) (bx:=⟨bA2,bn2,bc2⟩) (fl:=⟨vA,vn,vc⟩) (pr:=⟨zA,zn,zc⟩) tq).1;have HST:=am hst;have HPZ:=am (st_load (tr:=⟨some ⟨g1,0,none⟩,n,c1⟩) (lps:=⟨some ⟨gl,0,none⟩,n,cl⟩) (bx:=⟨bA2,bn2,bc2⟩) (fl:=⟨vA,vn,vc⟩) (pr:=⟨zA,zn,zc⟩) pz).2;have hkz:Keep (Mq Mt qt) w8 wz:=Keep.grown hg9 fun k hk=>by
    cases hk;exact .inl HMR.out
   have HFZ:=am (hfin.keep hkz);have HBZ:=am (below_grown hbw8 hg9 (by omega));clear hw8 hb57 hs8 hk8 t2 tq hbw8 hrp hfin x5 x77 y7 hst hg9 pz hkz
   go_wp2_with (first
    |((with_reducible refine gate_dst (N:=119) rfl ?_);go_must (refine wpList_load_var 119 rfl rfl TSt (.tmp 10) rfl rfl HLD.out ?_))
    |((with_reducible refine gate_store (t:=TSt) (p:=8) rfl ?_);go_must (refine wpList_store_var rfl rfl TSt (.tmp 8) (.tmp 119) rfl rfl rfl HST.out ?_);go_must (rename_i Q9 K9 hK9);go_must (refine hK9 _ _ ?_);go_must (apply wp_ret);go_must (exact bodyPost_ret (results_cell1 Tryz.results55 rfl HPZ.out) rfl ⟨⟨⟨some ⟨g1,0,none⟩,n,c1⟩,⟨some ⟨gl,0,none⟩,n,cl⟩,⟨bA2,bn2,bc2⟩,mov,⟨vA,vn,vc⟩,⟨zA,zn,zc⟩⟩,rfl,HFZ.out.fresh (Keep.refl _ _) (fun k _ hk=> .inl (HMX.out k hk)),HBZ.out⟩)))
end
end Go.Proofs.YtfnimdhghglanaaGreat.Hand
end
