/- TopScheduleIndependent, part 23 of 27; no condition.  -/
import Derived.Test.YtfnimdhghglanaaGreatQsAV
import Derived.WalkMore
set_option maxRecDepth 100000
set_option maxHeartbeats 8000000
set_option linter.unusedVariables false
set_option linter.unusedSimpArgs false
section
namespace Go.Proofs.YtfnimdhghglanaaGreat.Hand
open Go.RowKit Go.Shelf Go.Proofs.YtfnimdhghglanaaGreatW PrintWords PrintLast PrintMore
attribute [local go_sem] max2_int min2_int max_two min_two max_three min_three max_four min_four
section
def Mz (M:Nat→Prop) (D:Nat→Bool) (x:Nat→Value) (k:Nat):Prop:=M k∨(D 13=true∧x 13= .pointer (some ⟨k,0,none⟩))
structure RunI (M:Nat→Prop) (W:World) (n:Nat) (L:List Lp) (E:List Ev) (D:Nat→Bool) (x:Nat→Value) (w:World):Prop where
 below:Below W.heap.size W w
 a:D 13=true→∃q,x 13= .pointer (some ⟨q,0,none⟩)∧W.heap.size≤q∧w.heap[q]?=some (.cells #[.slice none 0 0,.slice none 0 0,.slice none 0 0,.bool false,.slice none 0 0,.slice none 0 0] TSt (0,0))
 m:D 3=true→∃h:SH,x 3= .slice h.A h.n h.c∧EvssAt (Mz M D x) w h (List.replicate n [])
 s:D 5=true→∃h:SH,x 5= .slice h.A h.n h.c∧LpsAt (Mz M D x) w h L
 i:D 10=true→∃h:SH,x 10= .slice h.A h.n h.c∧EvsAt (Mz M D x) w h E
 b:D 11=true→∃h:SH,x 11= .slice h.A h.n h.c∧EvssAt (Mz M D x) w h (dlv (List.replicate n []) E)
 z:D 12=true→∃t l h:SH,x 12= .agg #[.slice t.A t.n t.c,.slice l.A l.n l.c,.slice h.A h.n h.c,.bool false,.slice none 0 0,.slice none 0 0]∧EvssAt (Mz M D x) w t (List.replicate n [])∧LpsAt (Mz M D x) w l L∧EvssAt (Mz M D x) w h (dlv (List.replicate n []) E)
section
variable {M:Nat→Prop} {W:World} {n:Nat} {L:List Lp} {E:List Ev} {D:Nat→Bool} {x:Nat→Value} {w w':World}
theorem RunI.lt (h:RunI M W n L E D x w) (hM:∀k,M k→k<W.heap.size) (k:Nat) (hk:Mz M D x k):k<w.heap.size:=by
 rcases hk with hk|⟨h1,h2⟩
 ·exact Nat.lt_of_lt_of_le (hM k hk) h.below.size
 ·obtain⟨q,e,_,hq⟩:=h.a h1;rw[h2]at e;cases e;exact blk_lt hq
theorem RunI.add (h:RunI M W n L E D x w) {c:Nat} {v:Value} (hc:c≠13) (hb:Below w.heap.size w w')
  (m:c=3→∃h:SH,v= .slice h.A h.n h.c∧EvssAt (Mz M D x) w' h (List.replicate n []))
  (s:c=5→∃h:SH,v= .slice h.A h.n h.c∧LpsAt (Mz M D x) w' h L)
  (i:c=10→∃h:SH,v= .slice h.A h.n h.c∧EvsAt (Mz M D x) w' h E)
  (b:c=11→∃h:SH,v= .slice h.A h.n h.c∧EvssAt (Mz M D x) w' h (dlv (List.replicate n []) E))
  (z:c=12→∃t l h:SH,v= .agg #[.slice t.A t.n t.c,.slice l.A l.n l.c,.slice h.A h.n h.c,.bool false,.slice none 0 0,.slice none 0 0]∧EvssAt (Mz M D x) w' t (List.replicate n [])∧LpsAt (Mz M D x) w' l L∧EvssAt (Mz M D x) w' h (dlv (List.replicate n []) E)):
  RunI M W n L E (fun i=>i==c||D i) (upd x c v) w':=by
 have k:=Keep.of_below (Mt:=Mz M D x) hb;have hz:Mz M (fun i=>i==c||D i) (upd x c v)=Mz M D x:=by
  funext j
  simp[Mz,upd,Ne.symm hc]
 have hd:∀j,j≠c→((j==c||D j)=true↔D j=true):=fun j hj=>by simp[hj]
 have hx:∀j,j≠c→upd x c v j=x j:=fun j hj=>by simp[upd,hj]
 refine⟨h.below.trans (hb.mono h.below.size),fun h1=> ?_,fun h1=> ?_,fun h1=> ?_,fun h1=> ?_,fun h1=> ?_,fun h1=> ?_⟩
 ·obtain⟨q,e1,e2,e3⟩:=h.a ((hd 13 (Ne.symm hc)).1 h1);exact⟨q,by rw[hx 13 (Ne.symm hc)];exact e1,e2,box_more hb e3⟩
 ·rw[hz];by_cases e:3=c
  ·subst e
   simpa [upd]using m rfl
  ·obtain⟨q,e1,e2⟩:=h.m ((hd _ e).1 h1);exact⟨q,by rw[hx _ e];exact e1,e2.keep k⟩
 ·rw[hz];by_cases e:5=c
  ·subst e
   simpa [upd]using s rfl
  ·obtain⟨q,e1,e2⟩:=h.s ((hd _ e).1 h1);exact⟨q,by rw[hx _ e];exact e1,e2.keep k⟩
 ·rw[hz];by_cases e:10=c
  ·subst e
   simpa [upd]using i rfl
  ·obtain⟨q,e1,e2⟩:=h.i ((hd _ e).1 h1);exact⟨q,by rw[hx _ e];exact e1,e2.keep k⟩
 ·rw[hz];by_cases e:11=c
  ·subst e
   simpa [upd]using b rfl
  ·obtain⟨q,e1,e2⟩:=h.b ((hd _ e).1 h1);exact⟨q,by rw[hx _ e];exact e1,e2.keep k⟩
 ·rw[hz];by_cases e:12=c
  ·subst e
   simpa [upd]using z rfl
  ·obtain⟨t,l,q,e1,e2,e3,e4⟩:=h.z ((hd _ e).1 h1);exact⟨t,l,q,by rw[hx _ e];exact e1,e2.keep k,e3.keep k,e4.keep k⟩
theorem RunI.blk (h:RunI M W n L E D x w) (hD:D 13=false):RunI M W n L E (fun i=>i==13||D i) (upd x 13 (.pointer (some ⟨w.heap.size,0,none⟩))) (w.alloc (.cells #[.slice none 0 0,.slice none 0 0,.slice none 0 0,.bool false,.slice none 0 0,.slice none 0 0] TSt)):=by
 have hb:=below_alloc (Below.refl w.heap.size w) (.cells #[.slice none 0 0,.slice none 0 0,.slice none 0 0,.bool false,.slice none 0 0,.slice none 0 0] TSt);have k:=Keep.of_below (Mt:=Mz M D x) hb;have hm:∀k,k<w.heap.size→Mz M (fun i=>i==13||D i) (upd x 13 (.pointer (some ⟨w.heap.size,0,none⟩))) k→Mz M D x k:=fun k hk hm=>by
  rcases hm with hm|⟨_,hm⟩
  ·exact .inl hm
  ·simp[upd]at hm
 have hd:∀j,j≠13→((j==13||D j)=true↔D j=true):=fun j hj=>by simp[hj]
 have hx:∀j,j≠13→upd x 13 (.pointer (some ⟨w.heap.size,0,none⟩)) j=x j:=fun j hj=>by simp[upd,hj]
 refine⟨h.below.trans (hb.mono h.below.size),fun h1=>⟨w.heap.size,by simp[upd],h.below.size,World.alloc_heap_new _ _⟩,fun h1=> ?_,fun h1=> ?_,fun h1=> ?_,fun h1=> ?_,fun h1=> ?_⟩
 ·obtain⟨q,e1,e2⟩:=h.m ((hd 3 (by omega)).1 h1);exact⟨q,by rw[hx 3 (by omega)];exact e1,e2.fresh k hm⟩
 ·obtain⟨q,e1,e2⟩:=h.s ((hd 5 (by omega)).1 h1);exact⟨q,by rw[hx 5 (by omega)];exact e1,e2.fresh k hm⟩
 ·obtain⟨q,e1,e2⟩:=h.i ((hd 10 (by omega)).1 h1);exact⟨q,by rw[hx 10 (by omega)];exact e1,e2.fresh k hm⟩
 ·obtain⟨q,e1,e2⟩:=h.b ((hd 11 (by omega)).1 h1);exact⟨q,by rw[hx 11 (by omega)];exact e1,e2.fresh k hm⟩
 ·obtain⟨t,l,q,e1,e2,e3,e4⟩:=h.z ((hd 12 (by omega)).1 h1);exact⟨t,l,q,by rw[hx 12 (by omega)];exact e1,e2.fresh k hm,e3.fresh k hm,e4.fresh k hm⟩
end
theorem RunI.old {M:Nat→Prop} {W:World} {n:Nat} {L:List Lp} {E:List Ev} {D:Nat→Bool} {x:Nat→Value} {w:World} (h:RunI M W n L E D x w) (k:Nat) (hk:k<W.heap.size) (hm:Mz M D x k):M k:=by
 rcases hm with hm|⟨h1,h2⟩
 ·exact hm
 ·obtain⟨q,e,hq,_⟩:=h.a h1;rw[h2]at e;cases e;omega
theorem evss_nils {M:Nat→Prop} {w:World} {B g n c:Nat} {ok:Nat→Prop} (h:Kd.R kH THd w B ok (.slice (some ⟨g,0,none⟩) n c) (List.replicate n SH.nil)) (hm:¬M g):EvssAt M w ⟨some ⟨g,0,none⟩,n,c⟩ (List.replicate n []):=by
 refine⟨List.replicate n SH.nil,Rd.of_R rfl h (fun k hk hm2=>by cases hk;exact hm hm2),All2.of_get (by simp) fun i h3 h4=> ?_⟩;simp only[List.getElem_replicate];exact⟨[],Rd.nil _ _ _,.nil⟩
theorem nextPre_of {cf:Cf} {N P:Nat} (hok:CfOk cf N P) {p:Ps} (h:Head N P cf.pgs cf.en cf.s0 p) {lim:Int} (h50:lim≤50) (h1:¬cf.cp<(p.bx.flatten.length:Int)) (h2:¬((firsts p.bx).isEmpty=true∨cf.en≤lmin (firsts p.bx))) (h3:¬lim≤(p.tr.flatten.length:Int)) {prs:List (Int×Int)} (hp:PrsOk N prs):
  NextPre cf.pgs cf.la cf.en (lmin (firsts p.bx)) p prs∧DlvPre ((p.ends cf.pgs (hzn cf.la cf.en (lmin (firsts p.bx)))).map Oc.box) ((p.ends cf.pgs (hzn cf.la cf.en (lmin (firsts p.bx)))).map Oc.sent)∧∀i,i<p.lps.length→∃x∈prs,x.1=(i:Int):=by
 obtain⟨C,hpi⟩:=h.ex;have hne:(firsts p.bx).isEmpty=false:=by
  cases h4:(firsts p.bx).isEmpty with
  |false=>rfl
  |true=>exact absurd (.inl h4) h2
 obtain⟨f1,i,o,e,b,ho,hb,hc,he⟩:=floor_of hpi hne;have hN8:=hok.n8;have hN1:=hok.n1;have hcp:=hok.cp;have hcnt:=hpi.cnt;have hnl:=hpi.nl;obtain⟨z1,z2⟩:=hpi.zip;have ht:=hpi.g.k.time e (mem_pool.2 ⟨i,o,ho,.inl (hb▸List.mem_cons_self)⟩);obtain⟨C',hn⟩:=PI.next hok.p hok.op hpi cf.en (lmin (firsts p.bx)) (by omega);have hC':=hn.c;have hpl:=hn.pl
 refine⟨⟨by omega,by omega,hpi.nt.trans hnl.symm,hpi.nb.trans hnl.symm,fun j o2 ho2 n hn2=> ?_,by rw[←he];exact ht,by have:=hok.la;omega,hok.en,⟨by have:=hok.p;have:=hok.p8;omega,fun l hl=>⟨by have:=hok.pl l hl;omega,fun x hx=>(hok.op l hl x hx).ok⟩⟩,fun x hx=>by rw[hnl];exact hp.rng x hx,by have:=hp.len;omega,hp.nd,fun j t o2 ht2 ho2=> ?_,by have:=h.nf;have:=h.cnt;omega,by have:=h.nf;have:=h.cnt;have:=h.np;omega⟩,
  dlvPre_of hn.ends hn.el hN1 (by omega) (by omega) (by omega),fun j hj=>hp.all j (by omega)⟩
 ·obtain⟨d,C2,d1,d2,d3,d4,d5⟩:=GInv.runOne (la:=cf.la) hok.p hok.op (hzn cf.la cf.en (lmin (firsts p.bx))) j n C p.outs o2 hpi.g ho2 (by omega);have hj:=(List.getElem?_eq_some_iff.1 ho2).1;rw[(outs_mem (List.mem_of_getElem? ho2)).1,List.nil_append]at d1;rw[z2]at d5;exact outOk_of hok.p hok.op _ d4 (List.getElem?_set_self hj) (by omega) (by omega) (by rw[d1];omega)
 ·obtain⟨d,d1,d2,_,_⟩:=run_com cf.pgs (hzn cf.la cf.en (lmin (firsts p.bx))) 2000 o2;rw[d1,(outs_mem (List.mem_of_getElem? ho2)).1,List.nil_append];have:=(List.sublist_flatten_of_mem (List.mem_of_getElem? ht2)).length_le;omega
abbrev z6:Array Value:= #[.slice none 0 0,.slice none 0 0,.slice none 0 0,.bool false,.slice none 0 0,.slice none 0 0]
abbrev cf5 (c:SCf):Array Value:= #[.slice c.lps.A c.lps.n c.lps.c,.slice c.pgs.A c.pgs.n c.pgs.c,.int .i64 c.la,.int .i64 c.en,.int .i64 c.cp]
abbrev st6 (s:SPs):Array Value:= #[.slice s.tr.A s.tr.n s.tr.c,.slice s.lps.A s.lps.n s.lps.c,.slice s.bx.A s.bx.n s.bx.c,.bool s.ov,.slice s.fl.A s.fl.n s.fl.c,.slice s.pr.A s.pr.n s.pr.c]
structure PrW (M:Nat→Prop) (w:World) (q qc rq:Nat) (c:SCf) (cf:Cf) (N P:Nat) (lim:Int) (f:Nat) (wr:World) (p:Ps) (s:SPs):Prop where
 blk:wr.heap[q]?=some (.cells (st6 s) TSt (0,0))
 at_:PsAt (Mq M q) wr s p
 head:Head N P cf.pgs cf.en cf.s0 p
 go:cf.par lim=Ps.go cf.pgs cf.la cf.en cf.cp lim f p
 fuel:lim<f+p.tr.flatten.length
 one:1≤f
 box:wr.heap[qc]?=some (.cells (cf5 c) 25 (0,0))
 res:wr.heap[rq]?=some (.cells z6 TSt (0,0))
 bel:Below w.heap.size w wr
theorem PrW.more {M:Nat→Prop} {w:World} {q qc rq:Nat} {c:SCf} {cf:Cf} {N P:Nat} {lim:Int} {f:Nat} {wr w':World} {p:Ps} {s:SPs} (h:PrW M w q qc rq c cf N P lim f wr p s) (hb:Below wr.heap.size wr w'):PrW M w q qc rq c cf N P lim f w' p s:=
 ⟨box_more hb h.blk,h.at_.keep (Keep.of_below hb),h.head,h.go,h.fuel,h.one,box_more hb h.box,box_more hb h.res,h.bel.trans (hb.mono h.bel.size)⟩
theorem PrW.fin {M Mt:Nat→Prop} {w:World} {q qc:Nat} {c:SCf} {cf:Cf} {N P:Nat} {lim:Int} {f:Nat} {wr:World} {p:Ps} {s:SPs} (h:PrW M w q qc (qc+1) c cf N P lim f wr p s) (hm:∀k,Mt k→M k) (hr:M (qc+1)) (hq:w.heap.size=qc):
  (Instr.loadAt TSt (.pointer (some ⟨q,0,none⟩))).run Tryz.prog wr= .ok (.agg (st6 s)) wr∧∃wz,(Instr.storeAt TSt (.pointer (some ⟨qc+1,0,none⟩)) (.agg (st6 s))).run Tryz.prog wr= .ok () wz∧(loadVar TSt ⟨qc+1,0,none⟩).run Tryz.prog wz= .ok (.agg (st6 s)) wz∧PsAt Mt wz s p∧Below w.heap.size w wz:=by
 obtain⟨wz,hst,hg,hz⟩:=st_store h.res rfl s.tr s.lps s.bx s.fl s.pr s.ov;refine⟨(st_load h.blk).1,wz,hst,(st_load hz).2,(h.at_.keep (Keep.grown hg fun k hk=>by cases hk;exact .inl hr)).fresh (Keep.refl _ _) (fun k _ hk=> .inl (hm k hk)),below_grown h.bel hg (by omega)⟩
theorem prun_calls {Mt:Nat→Prop} {w:World} (hM:∀k,Mt k→k<w.heap.size) (c:SCf) {cf:Cf} {N P:Nat} (hok:CfOk cf N P) (hc:CfAt Mt w c cf) (wk:Nat) (hw0:1≤wk) (hw:wk≤64) (ph:SH) (l:List Int) (hl:l.length≤1000) (hr:∀p∈l,0≤p∧p<wk) (hpk:Rd (Kd.int .i64) Mt w ph l) (lim:Int) (h0:0≤lim) (h50:lim≤50):
  Calls Tryz.prog 28 #[c.v,.int .i64 wk,.slice ph.A ph.n ph.c,.int .i64 lim] w fun r w'=>∃s:SPs,r= .returned (.tuple #[s.v,.int .i64 (cf.par lim).2])∧PsAt Mt w' s (cf.par lim).1∧Below w.heap.size w w':=by
 obtain⟨⟨cA,cn,cc⟩,⟨pA,pn,pc⟩,la,en,cp⟩:=c;obtain⟨phA,phn,phc⟩:=ph;obtain⟨prs,NF,hprs,hfin⟩:=finish_ok N wk l (by have:=hok.n8;omega) hw0 hw hl hr;have hln:phn=l.length:=hpk.len;subst hln;have hla:la=cf.la:=hc.la;have hen:en=cf.en:=hc.en;have hcp:cp=cf.cp:=hc.cp;have hcn:cn=N:=by
  obtain⟨ss,p1,p2⟩:=hc.lps;have h1:=p1.len;have h2:=p2.len;have h3:=hok.n;simp only at h1;omega
 subst hcn;have hN8:=hok.n8;have hN1:=hok.n1;obtain⟨c,hcv⟩:∃c:SCf,c=⟨⟨cA,cn,cc⟩,⟨pA,pn,pc⟩,la,en,cp⟩:=⟨_,rfl⟩;have HST:=am (show∀(M':Nat→Prop) (W:World),(∀k,M' k→k<W.heap.size)→CfAt M' W c cf→Calls Tryz.prog 50 #[.agg #[.slice cA cn cc,.slice pA pn pc,.int .i64 la,.int .i64 en,.int .i64 cp]] W (fun e w'=>∃h:SH,e= .returned (.slice h.A h.n h.c)∧LpsAt M' w' h (cf.lps.map lp0)∧Below W.heap.size W w')from fun M' W hM' hcf=>by
  have h1:=states_calls hM' c hcf (by rw[hok.n];exact hN1) (by rw[hok.n];exact hN8) hok.row;rw[hcv]at h1;refine h1.mono ?_;rintro e w' ⟨g,c1,ss,rfl,hrow,hal,hb⟩;refine⟨⟨some ⟨g,0,none⟩,_,c1⟩,rfl,⟨ss,Rd.of_R rfl hrow (fun k hk hm=> ?_),hal.imp fun _ _ h=>h.fresh (Keep.refl _ _) (fun _ _ h=> .inl h)⟩,hb⟩;cases hk;have:=hM' g hm;have:=hrow.typed.2.1;omega)
 have HIN:=am (show∀(M':Nat→Prop) (W:World),(∀k,M' k→k<W.heap.size)→CfAt M' W c cf→Calls Tryz.prog 52 #[.agg #[.slice cA cn cc,.slice pA pn pc,.int .i64 la,.int .i64 en,.int .i64 cp]] W (fun e w'=>∃h:SH,e= .returned (.slice h.A h.n h.c)∧EvsAt M' w' h (sortC (evs0 cf.lps))∧Below W.heap.size W w')from fun M' W hM' hcf=>by
  have h1:=initial_calls hM' c hcf (by rw[hok.n];exact hN8) hok.row;rw[hcv]at h1;exact h1)
 have HBO:=am (show∀(M':Nat→Prop) (W:World) (h:SH),(∀k,M' k→k<W.heap.size)→EvsAt M' W h (sortC (evs0 cf.lps))→Calls Tryz.prog 51 #[.int .i64 cn,.slice h.A h.n h.c] W (fun e w'=>∃h':SH,e= .returned (.slice h'.A h'.n h'.c)∧EvssAt M' w' h' (dlv (List.replicate cn []) (sortC (evs0 cf.lps)))∧Below W.heap.size W w')from fun M' W h hM' hev=>
  boxes_calls hM' cn hN1 (by omega) hev (by have:=evs0_len hok;have:=(sortC_perm (evs0 cf.lps)).length_eq;omega) (fun e he=>by
   obtain⟨a,b,c,d,_,_,rfl⟩:=mem_evs0.1 ((sortC_perm _).subset he);simp[ev0]) (fun e he=>hok.kinv.rng e ((sortC_perm _).subset he)) ((evs0_keys cf.lps).perm (sortC_perm _).symm))
 obtain⟨M,hMM⟩:∃M,Mq Mt (w.heap.size+1)=M:=⟨_,rfl⟩;have hmx:∀k,k<w.heap.size→M k→Mt k:=fun k hk hm=>by
  rw[←hMM]at hm;rcases hm with hm|hm
  ·exact hm
  ·omega
 have HMX:=am (show∀k,Mt k→M k from fun k hk=>hMM▸ .inl hk);have HMR:=am (show M (w.heap.size+1)from hMM▸ .inr rfl);have HM:=am (show∀k,M k→k<w.heap.size+2 from fun k hk=>by
  rw[←hMM]at hk;rcases hk with hk|hk
  ·have:=hM k hk;omega
  ·omega)
 have HCF:=am (show CfAt M w c cf from(hcv▸hc).fresh (Keep.refl _ _) hmx);have HPK:=am (hpk.fresh (Keep.refl _ _) hmx);have HOK:=am hok;have HFIN:=am hfin;have HPRS:=am hprs;have HLA:=am hla;have HEN:=am hen;have HCP:=am hcp;have HCV:=am hcv;clear hM hc hpk hok hfin hprs hla hen hcp hmx hMM hr hl;simp only[SCf.v];go_enter Tryz.func28,Tryz.ntmps28;go_upto_region 1 with (fail)
 obtain⟨qc,hqc⟩:∃qc,w.heap.size=qc:=⟨_,rfl⟩;obtain⟨ws,hws⟩:∃ws,(w.alloc (.cells #[.slice cA cn cc,.slice pA pn pc,.int .i64 la,.int .i64 en,.int .i64 cp] 25)).alloc (.cells #[.slice none 0 0,.slice none 0 0,.slice none 0 0,.bool false,.slice none 0 0,.slice none 0 0] TSt)=ws:=⟨_,rfl⟩;obtain⟨hb1,hbc,hbe⟩:=box2 hws;rw[hqc]at hbc hbe ⊢;rw[hws];have hsz:ws.heap.size=w.heap.size+2:=by rw[←hws,World.size_alloc,World.size_alloc]
 have HB1:=am (show Below w.heap.size w ws from hb1);have HBC:=am hbc;have HBE:=am hbe;have HQC:=am hqc;have HMS:=am (show∀k,M k→k<ws.heap.size from fun k hk=>by have:=HM.out k hk;omega);have HCS:=am (show CfAt M ws c cf from HCF.out.keep (Keep.of_below hb1));have HEL:=am (show∀w',Below ws.heap.size ws w'→w'.cell? ⟨qc,0,none⟩=some (.slice cA cn cc)∧w'.cell? ⟨qc,1,none⟩=some (.slice pA pn pc)∧w'.cell? ⟨qc,2,none⟩=some (.int .i64 la)∧w'.cell? ⟨qc,3,none⟩=some (.int .i64 en)∧w'.cell? ⟨qc,4,none⟩=some (.int .i64 cp)from fun w' hb=>by
  have h9:=box_more hb hbc;refine⟨?_,?_,?_,?_,?_⟩<;>simp[World.cell?,h9])
 clear hb1 hbc hbe hqc hws hsz
 go_step3
 go_upto_region 1 with (fail)
 refine sz_ 15 (S:=fun w'=>w'.cell? ⟨qc,0,none⟩=some (.slice cA cn cc)∧w'.cell? ⟨qc,1,none⟩=some (.slice pA pn pc)∧w'.cell? ⟨qc,2,none⟩=some (.int .i64 la)∧w'.cell? ⟨qc,3,none⟩=some (.int .i64 en)∧w'.cell? ⟨qc,4,none⟩=some (.int .i64 cp)) (ds:=[14]) ⟨(HEL.out _ (below_drew (Below.refl ws.heap.size ws))).1,(HEL.out _ (below_drew (Below.refl ws.heap.size ws))).2.1,(HEL.out _ (below_drew (Below.refl ws.heap.size ws))).2.2.1,(HEL.out _ (below_drew (Below.refl ws.heap.size ws))).2.2.2.1,(HEL.out _ (below_drew (Below.refl ws.heap.size ws))).2.2.2.2⟩ (fun hHeld=> ?_);refine pz_ 0 16 15 1 ?_
 refine pz_ 6 22 15 65 ?_;refine tz_ 1 17 15 67 hHeld ?_;refine pz_ 2 18 15 71 ?_;refine tz_ 4 20 15 87 hHeld ?_;refine tz_ 7 23 15 215 hHeld ?_;refine pz_ 8 24 15 471 ?_;refine tz_ 9 25 15 983 hHeld ?_
 refine compA_ (fuel:=1) (bv 15 16383) [(3,19),(5,21),(10,26),(11,27),(12,28),(13,10)] (fun c=>if c=11 then [10]else if c=12 then [3,5,11]else []) (RunI M ws cn (cf.lps.map lp0) (sortC (evs0 cf.lps))) (by kernel_rfl) (by decide) (by decide) (fun D x w' hI=>HEL.out w' hI.below) (fun x=>⟨below_drew (Below.refl _ _),(fun h=>by cases h),(fun h=>by cases h),(fun h=>by cases h),(fun h=>by cases h),(fun h=>by cases h),(fun h=>by cases h)⟩) ?_ ?_
 ·intro c hc;simp only[List.map_cons,List.map_nil,List.mem_cons,List.not_mem_nil,or_false]at hc;rcases hc with rfl|rfl|rfl|rfl|rfl|rfl
  ·refine⟨_,_,rfl,rfl,by simp,fun D x w' hI hD hd a' ha K hK=> ?_⟩;simp only[mkA,List.map_cons,List.map_nil,putAll,Act.put,List.setIfInBounds_toArray,List.set_cons_zero,List.set_cons_succ]at ha;subst ha;refine Kd.R_make_step kH (w0:=w') w'.heap.size THd (by rfl) rfl 31 (.tmp 18) (.tmp 18) rfl (cn:Int) rfl rfl Tryz.underlying31 (.slice none 0 0) 24 infoEvs rfl (by decide) (by omega) SH.nil (ok:=fun _=>True) (okp:=fun _=>True) rfl (fun _ hk=>hk) trivial (by omega) (by omega) (Below.refl _ _) (Nat.le_refl _) ?_;intro v1 w1 hr hb hg hnew
   obtain⟨g,c1,rfl,hg1,hg2,_⟩:=Kd.R_form hr (by rw[List.length_replicate];omega);rw[List.length_replicate,Int.toNat_natCast]at hr ⊢;refine hK _ _ (hI.add (by omega) hb (fun _=>⟨⟨some ⟨g,0,none⟩,cn,c1⟩,rfl,evss_nils hr fun hm=>by have:=hI.lt HMS.out g hm;omega⟩) (fun h=>by omega) (fun h=>by omega) (fun h=>by omega) (fun h=>by omega))
  ·refine⟨_,_,rfl,rfl,by simp,fun D x w' hI hD hd a' ha K hK=> ?_⟩;simp only[mkA,List.map_cons,List.map_nil,putAll,Act.put,List.setIfInBounds_toArray,List.set_cons_zero,List.set_cons_succ]at ha;subst ha;refine goes_ Tryz.func50 (by kernel_rfl) rfl #[.agg #[.slice cA cn cc,.slice pA pn pc,.int .i64 la,.int .i64 en,.int .i64 cp]] (by rfl) rfl rfl (by simp only[List.map_toArray,List.map_cons,List.map_nil];rfl) ?_;refine(HST.out _ w' (hI.lt HMS.out) (HCS.out.fresh (Keep.of_below hI.below) hI.old)).mono ?_;rintro e w3 ⟨h3,rfl,hl3,hb3⟩
   exact⟨_,rfl,hK _ _ (hI.add (by omega) hb3 (fun h=>by omega) (fun _=>⟨h3,rfl,hl3⟩) (fun h=>by omega) (fun h=>by omega) (fun h=>by omega))⟩
  ·refine⟨_,_,rfl,rfl,by simp,fun D x w' hI hD hd a' ha K hK=> ?_⟩;simp only[mkA,List.map_cons,List.map_nil,putAll,Act.put,List.setIfInBounds_toArray,List.set_cons_zero,List.set_cons_succ]at ha;subst ha;refine goes_ Tryz.func52 (by kernel_rfl) rfl #[.agg #[.slice cA cn cc,.slice pA pn pc,.int .i64 la,.int .i64 en,.int .i64 cp]] (by rfl) rfl rfl (by simp only[List.map_toArray,List.map_cons,List.map_nil];rfl) ?_;refine(HIN.out _ w' (hI.lt HMS.out) (HCS.out.fresh (Keep.of_below hI.below) hI.old)).mono ?_;rintro e w3 ⟨h3,rfl,hl3,hb3⟩
   exact⟨_,rfl,hK _ _ (hI.add (by omega) hb3 (fun h=>by omega) (fun h=>by omega) (fun _=>⟨h3,rfl,hl3⟩) (fun h=>by omega) (fun h=>by omega))⟩
  ·refine⟨_,_,rfl,rfl,by simp,fun D x w' hI hD hd a' ha K hK=> ?_⟩;simp only[mkA,List.map_cons,List.map_nil,putAll,Act.put,List.setIfInBounds_toArray,List.set_cons_zero,List.set_cons_succ]at ha;subst ha;obtain⟨h2,hx2,hl2⟩:=hI.i (hd 10 (by simp));refine goes_ Tryz.func51 (by kernel_rfl) rfl #[.int .i64 cn,x 10] (by rfl) rfl rfl (by simp only[List.map_toArray,List.map_cons,List.map_nil];rfl) ?_;have hbo:=HBO.out _ w' h2 (hI.lt HMS.out) hl2;rw[←hx2]at hbo;refine hbo.mono ?_;rintro e w3 ⟨h3,rfl,hl3,hb3⟩
   exact⟨_,rfl,hK _ _ (hI.add (by omega) hb3 (fun h=>by omega) (fun h=>by omega) (fun h=>by omega) (fun _=>⟨h3,rfl,hl3⟩) (fun h=>by omega))⟩
  ·refine⟨_,_,rfl,rfl,by simp,fun D x w' hI hD hd a' ha K hK=> ?_⟩;simp only[mkA,List.map_cons,List.map_nil,putAll,Act.put,List.setIfInBounds_toArray,List.set_cons_zero,List.set_cons_succ]at ha;subst ha;obtain⟨t2,hx3,ht2⟩:=hI.m (hd 3 (by simp));obtain⟨l2,hx5,hl2⟩:=hI.s (hd 5 (by simp));obtain⟨b2,hx11,hb2⟩:=hI.b (hd 11 (by simp));refine value_ (w1:=w') (v:= .agg #[x 3,x 5,x 11,.bool false,.slice none 0 0,.slice none 0 0]) (by rfl) rfl ?_ ?_
   ·go_simp
   ·exact hK _ _ (hI.add (by omega) (Below.refl _ _) (fun h=>by omega) (fun h=>by omega) (fun h=>by omega) (fun h=>by omega) (fun _=>⟨t2,l2,b2,by rw[hx3,hx5,hx11],ht2,hl2,hb2⟩))
  ·refine⟨_,_,rfl,rfl,by simp,fun D x w' hI hD hd a' ha K hK=> ?_⟩;simp only[mkA,List.map_cons,List.map_nil,putAll,Act.put,List.setIfInBounds_toArray,List.set_cons_zero,List.set_cons_succ]at ha;subst ha;refine value_ (w1:=w'.alloc (.cells z6 TSt)) (v:= .pointer (some ⟨w'.heap.size,0,none⟩)) (by rfl) rfl ?_ ?_
   ·go_simp
   ·exact hK _ _ (hI.blk hD)
 intro x w2 hI;have hHeld:=HEL.out w2 hI.below;refine norm_ (a':= ?_) ?_ ?_;rotate_left
 ·simp only[mkA,List.map_cons,List.map_nil,putAll,Act.put,List.setIfInBounds_toArray,List.set_cons_zero,List.set_cons_succ];rfl
 refine last_ (i:=14) (N:=none) (bv 15 32767) rfl rfl (by kernel_rfl) (by decide) (fun K hK=> ?_);obtain⟨q,hq1,hq2,hq3⟩:=hI.a (by decide);obtain⟨t0,l0,b0,hz,ht0,hl0,hb0⟩:=hI.z (by decide);obtain⟨w3,hst,hg3,hp3⟩:=st_store hq3 rfl t0 l0 b0 .nil .nil false;refine skip_store (by rfl) rfl rfl hq1 hz hst ?_;refine hK.out _ _ ?_;clear hK K;refine done_ (by kernel_rfl) ?_;have hmz:∀k,k<w2.heap.size→Mq M q k→Mz M ([(3,19),(5,21),(10,26),(11,27),(12,28),(13,10)].map Prod.fst).contains x k:=fun k _ hk=>by
  rcases hk with hk|rfl
  ·exact .inl hk
  ·exact .inr ⟨by decide,hq1⟩
 have hkq:Keep (Mq M q) w2 w3:=Keep.grown hg3 fun k hk=>by
  cases hk;exact .inr rfl
 have hbi:=hI.below;have hp0:cf.p0=⟨List.replicate cn [],cf.lps.map lp0,dlv (List.replicate cn []) (sortC (evs0 cf.lps)),false,[],0⟩:=by
  unfold Cf.p0;rw[HOK.out.n]
 have HP0:=am (show PsAt (Mq M q) w3 ⟨t0,l0,b0,false,.nil,.nil⟩ cf.p0 from by
  rw[hp0];exact⟨(ht0.fresh (Keep.refl _ _) hmz).keep hkq,(hl0.fresh (Keep.refl _ _) hmz).keep hkq,(hb0.fresh (Keep.refl _ _) hmz).keep hkq,rfl,Rd.nil _ _ _,⟨[],Rd.nil _ _ _,rfl⟩⟩)
 have hqq:ws.heap.size≤q:=hq2;have hlt1:=blk_lt HBC.out;have hlt2:=blk_lt HBE.out;have hB3:Below w.heap.size w w3:=below_grown (HB1.out.trans (hbi.mono HB1.out.size)) hg3 (Nat.le_trans HB1.out.size hqq);have HW0:=am (show PrW M w q qc (qc+1) c cf cn P lim (lim.toNat+1) w3 cf.p0 ⟨t0,l0,b0,false,.nil,.nil⟩from by
  refine⟨hp3,HP0.out,HOK.out.head,rfl,by omega,by omega,?_,?_,hB3⟩
  ·rw[HCV.out];exact(hg3.block qc (Nat.lt_of_lt_of_le hlt1 hbi.size) (fun e=>by cases e;omega)).trans (box_more hbi HBC.out)
  ·exact(hg3.block (qc+1) (Nat.lt_of_lt_of_le hlt2 hbi.size) (fun e=>by cases e;omega)).trans (box_more hbi HBE.out))
 have HQQ:=am hqq;rw[hq1]at*;clear hmz hkq hbi hp0 hqq hlt1 hlt2 hB3 hst hg3 hp3 ht0 hl0 hb0 hz hI hq1 hq2 hq3
 go_wp2_with (fail)
 go_step3
 go_wp2_with (fail)
 go_loopg [11] (lim.toNat+1) (fun g e wr=>e= .int .i64 0∧∃(p:Ps) (s:SPs),Aside0 (PrW M w q qc (qc+1) c cf cn P lim g wr p s))
 case atStart=>exact⟨rfl,_,_,HW0⟩
 case round=>
  obtain⟨rfl,p,s,HW⟩:=hrel;obtain⟨g,hg⟩:∃g,gk=g+1:=⟨gk-1,by have:=HW.out.one;omega⟩;obtain⟨hblk,hps,hhd,hgo,hfu,hone,hbox,hres,hbel⟩:=HW.out;rw[HCV.out]at hbox;obtain⟨C,hpi⟩:=hhd.ex;have hnb:p.bx.length≤1000000:=by have:=hpi.nb;omega
  have hnt:p.tr.length≤1000000:=by have:=hpi.nt;omega
  have hlb:p.bx.flatten.length≤1000000:=by have:=hhd.bn;omega
  have hlt:p.tr.flatten.length≤1000000:=by have:=hhd.cnt;omega
  have HMQ:=am (show∀k,Mq M q k→k<wr.heap.size from fun k hk=>by
   have h5:=blk_lt hblk;rcases hk with hk|rfl
   ·have:=HMS.out k hk;have:=HQQ.out;omega
   ·exact h5)
  obtain⟨fl,hfl⟩:∃fl,lmin (firsts p.bx)=fl:=⟨_,rfl⟩;obtain⟨em,hem⟩:∃em,(firsts p.bx).isEmpty=em:=⟨_,rfl⟩;obtain⟨nb,hnbe⟩:∃nb,p.bx.flatten.length=nb:=⟨_,rfl⟩;obtain⟨nt,hnte⟩:∃nt,p.tr.flatten.length=nt:=⟨_,rfl⟩;have hgo2:cf.par lim=if cp<(nb:Int)then(p,10)else if em=true∨en≤fl then(p,if s.ov then 11 else 0)else if lim≤(nt:Int)then(p,10)else Ps.go cf.pgs cf.la cf.en cf.cp lim g (p.next cf.pgs cf.la cf.en fl):=by
   rw[hgo,hg,Ps.go,hnbe,hfl,hem,hnte,HCP.out,HEN.out,hps.ov]
  have HGO:=am hgo2;have HFLR:=am (show Calls Tryz.prog 53 #[.slice s.bx.A s.bx.n s.bx.c] wr (fun e w'=>e= .returned (.tuple #[.int .i64 fl,.bool (!em)])∧Below wr.heap.size wr w')from by
   have:=floor_calls hps.bx hnb;rw[hfl,hem]at this;exact this)
  have HCB:=am (show∀W,Below wr.heap.size wr W→Calls Tryz.prog 54 #[.slice s.bx.A s.bx.n s.bx.c] W (fun e w'=>e= .returned (.int .i64 nb)∧Below W.heap.size W w')from fun W hb=>hnbe▸count_calls (hps.bx.keep (Keep.of_below hb)) (fun k hk=>Nat.lt_of_lt_of_le (HMQ.out k hk) hb.size) hnb hlb);have HCT:=am (show∀W,Below wr.heap.size wr W→Calls Tryz.prog 54 #[.slice s.tr.A s.tr.n s.tr.c] W (fun e w'=>e= .returned (.int .i64 nt)∧Below W.heap.size W w')from fun W hb=>hnte▸count_calls (hps.tr.keep (Keep.of_below hb)) (fun k hk=>Nat.lt_of_lt_of_le (HMQ.out k hk) hb.size) hnt hlt)
  have HG:=am hg;have HFE:=am hfl;have HEE:=am hem;have HNB:=am hnbe;have HNT:=am hnte;have x2:wr.cell? ⟨q,2,none⟩=some (.slice s.bx.A s.bx.n s.bx.c):=by simp[World.cell?,hblk]
  clear hblk hps hhd hgo hfu hone hbox hres hbel hpi hnb hnt hlb hlt hfl hem hnbe hnte hgo2 hg;go_upto_region 4 with (first|(go_at_call 53;go_must (with_reducible refine HFLR.out.mono ?_);go_must (rintro e w1 ⟨rfl,hb1⟩);have HB1':=am hb1;go_must (have hw1:=HW.out.more hb1);go_must (have hx1:=hw1.box);go_must (rw[HCV.out]at hx1);go_must (have hk1:=hw1.blk);have HW1:=am hw1;clear hb1 hw1))
  have HEL1:=am (show∀w',Below w1.heap.size w1 w'→w'.cell? ⟨q,2,none⟩=some (.slice s.bx.A s.bx.n s.bx.c)∧w'.cell? ⟨qc,4,none⟩=some (.int .i64 cp)from fun w' hb=>by
   have h1:=box_more hb hk1;have h2:=box_more hb hx1;exact⟨by simp[World.cell?,h1],by simp[World.cell?,h2]⟩)
  clear hx1 hk1 x2;refine sz_ 7 (S:=fun w'=>w'.cell? ⟨q,2,none⟩=some (.slice s.bx.A s.bx.n s.bx.c)∧w'.cell? ⟨qc,4,none⟩=some (.int .i64 cp)) (ds:=[]) ⟨(HEL1.out _ (below_drew (Below.refl w1.heap.size w1))).1,(HEL1.out _ (below_drew (Below.refl w1.heap.size w1))).2⟩ (fun hHeld=> ?_);refine pz_ 0 36 7 1 ?_;refine pz_ 3 39 7 9 ?_;refine tz_ 1 37 7 11 hHeld ?_;refine tz_ 4 40 7 27 hHeld ?_;refine one_ (i:=2) (N:=some 38) (bv 7 31) rfl rfl (by kernel_rfl) (by decide) (fun K hK=> ?_)
  refine goes_ Tryz.func54 (by kernel_rfl) rfl #[.slice s.bx.A s.bx.n s.bx.c] (by rfl) rfl rfl (by simp only[List.map_toArray,List.map_cons,List.map_nil];rfl) ?_;with_reducible refine(HCB.out _ (HB1'.out.trans ((below_drew (Below.refl w1.heap.size w1)).mono HB1'.out.size))).mono ?_
  rintro e w2 ⟨rfl,hb2⟩;refine⟨_,rfl,?_⟩;have hb12:=(below_drew (Below.refl w1.heap.size w1)).trans hb2;refine hK.out _ _ ⟨(HEL1.out _ hb12).1,(HEL1.out _ hb12).2⟩ (fun hHeld=> ?_);clear hK K;refine norm_ (a':= ?_) ?_ ?_;rotate_left
  ·show Act.put _ (some 38) _=_;simp only[Act.put,List.setIfInBounds_toArray,List.set_cons_zero,List.set_cons_succ,i64_w,i32_w];rfl
  refine pz_ 5 41 7 63 ?_;refine pz_ 6 35 7 127 ?_;refine done_ (by kernel_rfl) ?_;have HW2:=am (HW1.out.more hb12);have hx2:=HW2.out.box;have hk2:=HW2.out.blk;rw[HCV.out]at hx2;have x3:w2.cell? ⟨qc,3,none⟩=some (.int .i64 en):=by simp[World.cell?,hx2]
  have x4:w2.cell? ⟨q,3,none⟩=some (.bool s.ov):=by simp[World.cell?,hk2]
  have x5:w2.cell? ⟨q,0,none⟩=some (.slice s.tr.A s.tr.n s.tr.c):=by simp[World.cell?,hk2]
  have HB2':=am (HB1'.out.trans (hb12.mono HB1'.out.size));clear hb12 hb2 hx2 hk2;by_cases hfull:cp<(nb:Int)
  ·have HRES:=am (show cf.par lim=(p,10)from by rw[HGO.out,if_pos hfull]);have d1:decide (cp<(nb:Int))=true:=decide_eq_true hfull;go_upto_region 13 with (fail)
   obtain⟨hld,wz,hst,hlz,hpz,hbz⟩:=HW2.out.fin HMX.out (HQC.out▸HMR.out) HQC.out;have HLD:=am hld;have HSTR:=am hst;have HLZ:=am hlz;have HPZ:=am hpz;have HBZ:=am hbz;clear hld hst hlz hpz hbz
   go_wp2_with (first|((with_reducible refine gate_dst (N:=73) rfl ?_);go_must (refine wpList_load_var 73 rfl rfl TSt (.tmp 10) rfl rfl HLD.out ?_))|((with_reducible refine gate_store (t:=TSt) (p:=8) rfl ?_);go_must (refine wpList_store_var rfl rfl TSt (.tmp 8) (.tmp 73) rfl rfl rfl HSTR.out ?_)))
   try rw[Exit.noGoto_ret]
   exact bodyPost_ret (results_cell2 Tryz.results28 rfl rfl HLZ.out) rfl ⟨s,by rw[HRES.out];rfl,by rw[HRES.out];exact HPZ.out,HBZ.out⟩
  ·have HGO1:=am (show cf.par lim=if em=true∨en≤fl then(p,if s.ov then 11 else 0)else if lim≤(nt:Int)then(p,10)else Ps.go cf.pgs cf.la cf.en cf.cp lim g (p.next cf.pgs cf.la cf.en fl)from by rw[HGO.out,if_neg hfull]);have d1:decide (cp<(nb:Int))=false:=decide_eq_false hfull;cases em with
   |true=>
    have HGO2:=am (show cf.par lim=(p,if s.ov then 11 else 0)from by rw[HGO1.out,if_pos (.inl rfl)]);cases hsv:s.ov with
    |true=>
     have HRES:=am (show cf.par lim=(p,11)from by rw[HGO2.out,hsv];rfl);rw[hsv]at x4;have HSV:=am hsv;clear hsv;go_upto_region 13 with (fail)
     obtain⟨hld,wz,hst,hlz,hpz,hbz⟩:=HW2.out.fin HMX.out (HQC.out▸HMR.out) HQC.out;have HLD:=am hld;have HSTR:=am hst;have HLZ:=am hlz;have HPZ:=am hpz;have HBZ:=am hbz;clear hld hst hlz hpz hbz
     go_wp2_with (first|((with_reducible refine gate_dst (N:=73) rfl ?_);go_must (refine wpList_load_var 73 rfl rfl TSt (.tmp 10) rfl rfl HLD.out ?_))|((with_reducible refine gate_store (t:=TSt) (p:=8) rfl ?_);go_must (refine wpList_store_var rfl rfl TSt (.tmp 8) (.tmp 73) rfl rfl rfl HSTR.out ?_)))
     try rw[Exit.noGoto_ret]
     exact bodyPost_ret (results_cell2 Tryz.results28 rfl rfl HLZ.out) rfl ⟨s,by rw[HRES.out];rfl,by rw[HRES.out];exact HPZ.out,HBZ.out⟩
    |false=>
     have HRES:=am (show cf.par lim=(p,0)from by rw[HGO2.out,hsv];rfl);rw[hsv]at x4;have HSV:=am hsv;clear hsv;go_upto_region 13 with (fail)
     obtain⟨hld,wz,hst,hlz,hpz,hbz⟩:=HW2.out.fin HMX.out (HQC.out▸HMR.out) HQC.out;have HLD:=am hld;have HSTR:=am hst;have HLZ:=am hlz;have HPZ:=am hpz;have HBZ:=am hbz;clear hld hst hlz hpz hbz
     go_wp2_with (first|((with_reducible refine gate_dst (N:=73) rfl ?_);go_must (refine wpList_load_var 73 rfl rfl TSt (.tmp 10) rfl rfl HLD.out ?_))|((with_reducible refine gate_store (t:=TSt) (p:=8) rfl ?_);go_must (refine wpList_store_var rfl rfl TSt (.tmp 8) (.tmp 73) rfl rfl rfl HSTR.out ?_)))
     try rw[Exit.noGoto_ret]
     exact bodyPost_ret (results_cell2 Tryz.results28 rfl rfl HLZ.out) rfl ⟨s,by rw[HRES.out];rfl,by rw[HRES.out];exact HPZ.out,HBZ.out⟩
   |false=>
    by_cases hen:en≤fl
    ·have HGO2:=am (show cf.par lim=(p,if s.ov then 11 else 0)from by rw[HGO1.out,if_pos (.inr hen)]);have d2:decide (en≤fl)=true:=decide_eq_true hen;cases hsv:s.ov with
     |true=>
      have HRES:=am (show cf.par lim=(p,11)from by rw[HGO2.out,hsv];rfl);rw[hsv]at x4;have HSV:=am hsv;clear hsv;go_upto_region 13 with (fail)
      obtain⟨hld,wz,hst,hlz,hpz,hbz⟩:=HW2.out.fin HMX.out (HQC.out▸HMR.out) HQC.out;have HLD:=am hld;have HSTR:=am hst;have HLZ:=am hlz;have HPZ:=am hpz;have HBZ:=am hbz;clear hld hst hlz hpz hbz
      go_wp2_with (first|((with_reducible refine gate_dst (N:=73) rfl ?_);go_must (refine wpList_load_var 73 rfl rfl TSt (.tmp 10) rfl rfl HLD.out ?_))|((with_reducible refine gate_store (t:=TSt) (p:=8) rfl ?_);go_must (refine wpList_store_var rfl rfl TSt (.tmp 8) (.tmp 73) rfl rfl rfl HSTR.out ?_)))
      try rw[Exit.noGoto_ret]
      exact bodyPost_ret (results_cell2 Tryz.results28 rfl rfl HLZ.out) rfl ⟨s,by rw[HRES.out];rfl,by rw[HRES.out];exact HPZ.out,HBZ.out⟩
     |false=>
      have HRES:=am (show cf.par lim=(p,0)from by rw[HGO2.out,hsv];rfl);rw[hsv]at x4;have HSV:=am hsv;clear hsv;go_upto_region 13 with (fail)
      obtain⟨hld,wz,hst,hlz,hpz,hbz⟩:=HW2.out.fin HMX.out (HQC.out▸HMR.out) HQC.out;have HLD:=am hld;have HSTR:=am hst;have HLZ:=am hlz;have HPZ:=am hpz;have HBZ:=am hbz;clear hld hst hlz hpz hbz
      go_wp2_with (first|((with_reducible refine gate_dst (N:=73) rfl ?_);go_must (refine wpList_load_var 73 rfl rfl TSt (.tmp 10) rfl rfl HLD.out ?_))|((with_reducible refine gate_store (t:=TSt) (p:=8) rfl ?_);go_must (refine wpList_store_var rfl rfl TSt (.tmp 8) (.tmp 73) rfl rfl rfl HSTR.out ?_)))
      try rw[Exit.noGoto_ret]
      exact bodyPost_ret (results_cell2 Tryz.results28 rfl rfl HLZ.out) rfl ⟨s,by rw[HRES.out];rfl,by rw[HRES.out];exact HPZ.out,HBZ.out⟩
    ·have HEF:=am (show¬(false=true∨en≤fl)by simp only[Bool.false_eq_true,false_or];exact hen);have d2:decide (en≤fl)=false:=decide_eq_false hen;by_cases hlim:lim≤(nt:Int)
     ·have HRES:=am (show cf.par lim=(p,10)from by rw[HGO1.out,if_neg HEF.out,if_pos hlim]);have d3:decide (lim≤(nt:Int))=true:=decide_eq_true hlim;go_upto_region 13 with (first|(go_at_call 54;go_must (with_reducible refine(HCT.out _ HB2'.out).mono ?_);go_must (rintro e w3 ⟨rfl,hb3⟩);have HW3:=am (HW2.out.more hb3);have HB23:=am hb3;clear hb3))
      obtain⟨hld,wz,hst,hlz,hpz,hbz⟩:=HW3.out.fin HMX.out (HQC.out▸HMR.out) HQC.out;have HLD:=am hld;have HSTR:=am hst;have HLZ:=am hlz;have HPZ:=am hpz;have HBZ:=am hbz;clear hld hst hlz hpz hbz
      go_wp2_with (first|((with_reducible refine gate_dst (N:=73) rfl ?_);go_must (refine wpList_load_var 73 rfl rfl TSt (.tmp 10) rfl rfl HLD.out ?_))|((with_reducible refine gate_store (t:=TSt) (p:=8) rfl ?_);go_must (refine wpList_store_var rfl rfl TSt (.tmp 8) (.tmp 73) rfl rfl rfl HSTR.out ?_)))
      try rw[Exit.noGoto_ret]
      exact bodyPost_ret (results_cell2 Tryz.results28 rfl rfl HLZ.out) rfl ⟨s,by rw[HRES.out];rfl,by rw[HRES.out];exact HPZ.out,HBZ.out⟩
     ·have HGO3:=am (show cf.par lim=Ps.go cf.pgs cf.la cf.en cf.cp lim g (p.next cf.pgs cf.la cf.en fl)from by rw[HGO1.out,if_neg HEF.out,if_neg hlim]);have h1':¬cf.cp<(p.bx.flatten.length:Int):=by rw[HNB.out,←HCP.out];exact hfull
      have h2':¬((firsts p.bx).isEmpty=true∨cf.en≤lmin (firsts p.bx)):=by rw[HEE.out,HFE.out,←HEN.out];exact HEF.out
      have h3':¬lim≤(p.tr.flatten.length:Int):=by rw[HNT.out];exact hlim
      have hpre:=nextPre_of HOK.out HW2.out.head h50 h1' h2' h3' HPRS.out;have hhn:=Head.next HOK.out.p HOK.out.op HOK.out.n8 HOK.out.la.1 HOK.out.cp.2 h50 HW2.out.head h1' h2' h3';rw[HFE.out,←HLA.out,←HEN.out]at hpre hhn;have HPRE:=am hpre;have HHN:=am hhn;have HLT:=am (show(nt:Int)<lim from by omega);clear h1' h2' h3' hpre hhn;have d3:decide (lim≤(nt:Int))=false:=decide_eq_false hlim
      go_upto_region 11 with (first|(go_at_call 54;go_must (with_reducible refine(HCT.out _ HB2'.out).mono ?_);go_must (rintro e w3 ⟨rfl,hb3⟩);have HW3:=am (HW2.out.more hb3);have HB23:=am hb3;clear hb3))
      have hx3:=HW3.out.box;rw[HCV.out]at hx3;have y0:w3.cell? ⟨qc,0,none⟩=some (.slice cA cn cc):=by simp[World.cell?,hx3]
      clear hx3 x3 x4 x5;go_upto_region 12 with (first|(go_at_call 16;go_must (with_reducible refine(HFIN.out phA phc w3 (HPK.out.below HW3.out.bel).here).mono ?_);go_must (rintro e w4 ⟨⟨vA,vn,vc⟩,rfl,hprd,hb4⟩);have HW4:=am (HW3.out.more hb4);have HPRD:=am hprd;have HB4:=am hb4;clear hprd hb4))
      have hx4:=HW4.out.box;rw[HCV.out]at hx4;have y1:w4.cell? ⟨qc,0,none⟩=some (.slice cA cn cc):=by simp[World.cell?,hx4]
      have y2:w4.cell? ⟨qc,1,none⟩=some (.slice pA pn pc):=by simp[World.cell?,hx4]
      have y3:w4.cell? ⟨qc,2,none⟩=some (.int .i64 la):=by simp[World.cell?,hx4]
      have y4:w4.cell? ⟨qc,3,none⟩=some (.int .i64 en):=by simp[World.cell?,hx4]
      have y5:w4.cell? ⟨qc,4,none⟩=some (.int .i64 cp):=by simp[World.cell?,hx4]
      have hqw:w.heap.size≤q:=Nat.le_trans HB1.out.size HQQ.out;have hnx:=next_calls (Mx:=Mq M q) (w:=w4) (fun k hk=>Nat.lt_of_lt_of_le (HMQ.out k hk) (Nat.le_trans HB2'.out.size (Nat.le_trans HB23.out.size HB4.out.size))) ⟨⟨cA,cn,cc⟩,⟨pA,pn,pc⟩,la,en,cp⟩ s fl ⟨vA,vn,vc⟩ (progs:=cf.pgs) (prs:=prs) HW4.out.at_ (by
       have:=(HCF.out.fresh (Mt':=Mq M q) (Keep.of_below HW4.out.bel) (fun k hk hm=>hm.resolve_right (by omega))).pgs;rw[HCV.out]at this;exact this) (Rd.of_R rfl HPRD.out (fun k hk hm=>by
        have h1:=Kd.R_base HPRD.out k hk;have h2:=HMQ.out k hm;have h3:=HB2'.out.size;have h4:=HB23.out.size;omega)) HPRE.out.1 HPRE.out.2.1 HPRE.out.2.2
      simp only[SPs.v,SCf.v]at hnx;have HNX:=am hnx;have HLS:=am (st_load HW4.out.blk).1;clear hx4 hqw y0 hnx
      go_wp2_with (first
       |((with_reducible refine gate_dst (N:=68) rfl ?_);go_must (refine wpList_load_var 68 rfl rfl TSt (.tmp 10) rfl rfl HLS.out ?_))
       |(go_at_call 55;go_must (with_reducible refine HNX.out.mono ?_);go_must (rintro e w5 ⟨s',rfl,hps5,hb5⟩);go_must (have hw5:=HW4.out.more hb5);go_must (obtain⟨w6,hst6,hg6,hz6⟩:=st_store hw5.blk rfl s'.tr s'.lps s'.bx s'.fl s'.pr s'.ov);have HS6:=am hst6;have HG6:=am hg6;have HZ6:=am hz6;have HW5:=am hw5;have HP5:=am hps5;clear hps5 hb5 hw5 hst6 hg6 hz6)
       |((with_reducible refine gate_store (t:=TSt) (p:=10) rfl ?_);go_must (refine wpList_store_var rfl rfl TSt (.tmp 10) (.tmp 72) rfl rfl rfl HS6.out ?_)))
      have hnq:∀k,qc≤k→k≤qc+1→some k≠some q:=fun k h1 h2 e=>by
       cases e;have:=blk_lt HBE.out;have:=HQQ.out;omega
      have HW6:=am (show PrW M w q qc (qc+1) c cf cn P lim g w6 (p.next cf.pgs cf.la cf.en fl) s' from by
       have h5:=HW5.out;have h7:=HHN.out;rw[HLA.out,HEN.out]at h7;have hfu:=h5.fuel;have hgg:=HG.out;have hl:=HLT.out;have hn:=HNT.out;refine⟨HZ6.out,(show PsAt (Mq M q) w5 s' (p.next cf.pgs cf.la cf.en fl)by have h8:=HP5.out;rw[HLA.out,HEN.out]at h8;exact h8).keep (Keep.grown HG6.out fun k hk=>by cases hk;exact .inr rfl),h7.1,HGO3.out,by omega,by omega,(HG6.out.block qc (blk_lt h5.box) (hnq _ (Nat.le_refl _) (by omega))).trans h5.box,(HG6.out.block (qc+1) (blk_lt h5.res) (hnq _ (by omega) (Nat.le_refl _))).trans h5.res,below_grown h5.bel HG6.out (Nat.le_trans HB1.out.size HQQ.out)⟩)
      clear hnq
      go_roundg g
      case measure=>have:=HG.out;omega
      case rel=>exact⟨rfl,_,_,HW6⟩
end
section
abbrev TSim:TypeId:=72
def simCells (c:SCf) (n g cg gl cl:Nat) (ph:SH) (m:Int) (ov:Bool):Array Value:= #[.slice c.lps.A c.lps.n c.lps.c,.slice c.pgs.A c.pgs.n c.pgs.c,.int .i64 c.la,.int .i64 c.en,.int .i64 c.cp,.slice (some ⟨g,0,none⟩) n cg,.slice (some ⟨gl,0,none⟩) n cl,.slice ph.A ph.n ph.c,.int .i64 m,.bool ov]
def Ms (Mt:Nat→Prop) (b gl k:Nat):Prop:=Mt k∨k=b∨k=gl
structure SimAt (Mt:Nat→Prop) (B:Nat) (w:World) (b n g cg gl cl:Nat) (c:SCf) (hs:List SH) (ss:List SLp) (ph:SH) (s:Sq):Prop where
 blk:w.heap[b]?=some (.cells (simCells c n g cg gl cl ph s.n s.ov) TSim (0,0))
 tab:TabAt (Ms Mt b gl) B w g n cg hs s.tr
 row:LRow w B gl n cl ss
 lps:All2 (LpAt (Mtab (Ms Mt b gl) g hs) w) ss s.lps
 pend:EvsAt (Mtab (Ms Mt b gl) g hs) w ph s.pend
 hb:B≤b
def My (M:Nat→Prop) (D:Nat→Bool) (x:Nat→Value) (k:Nat):Prop:=M k∨(D 4=true∧(x 4).ownBlock=some k)∨(D 6=true∧(x 6).ownBlock=some k)
structure StartI (M:Nat→Prop) (W:World) (n:Nat) (L:List Lp) (E:List Ev) (D:Nat→Bool) (x:Nat→Value) (w:World):Prop where
 below:Below W.heap.size W w
 m:D 4=true→∃g c,x 4= .slice (some ⟨g,0,none⟩) n c∧HRow w W.heap.size g n c (List.replicate n SH.nil)
 s:D 6=true→∃g c ss,x 6= .slice (some ⟨g,0,none⟩) n c∧LRow w W.heap.size g n c ss∧All2 (LpAt (My M D x) w) ss L
 i:D 8=true→∃h:SH,x 8= .slice h.A h.n h.c∧EvsAt (My M D x) w h E
section
variable {M:Nat→Prop} {W:World} {n:Nat} {L:List Lp} {E:List Ev} {D:Nat→Bool} {x:Nat→Value} {w w':World}
theorem StartI.own (h:StartI M W n L E D x w) (k:Nat) (hk:My M D x k):M k∨(W.heap.size≤k∧k<w.heap.size):=by
 rcases hk with hk|⟨h1,h2⟩|⟨h1,h2⟩
 ·exact .inl hk
 ·obtain⟨g,c,e,hr⟩:=h.m h1;rw[e]at h2;cases h2;exact .inr ⟨hr.typed.2.1,hr.typed.2.2⟩
 ·obtain⟨g,c,ss,e,hr,_⟩:=h.s h1;rw[e]at h2;cases h2;exact .inr ⟨hr.typed.2.1,hr.typed.2.2⟩
theorem StartI.lt (h:StartI M W n L E D x w) (hM:∀k,M k→k<W.heap.size) (k:Nat) (hk:My M D x k):k<w.heap.size:=by
 rcases h.own k hk with hk|hk
 ·exact Nat.lt_of_lt_of_le (hM k hk) h.below.size
 ·exact hk.2
theorem StartI.old (h:StartI M W n L E D x w) (k:Nat) (hk:k<W.heap.size) (hm:My M D x k):M k:=by
 rcases h.own k hm with h1|h1
 ·exact h1
 ·omega
theorem StartI.add (h:StartI M W n L E D x w) {c:Nat} {v:Value} (hD:D c=false) (hb:Below w.heap.size w w') (hv:∀k,v.ownBlock=some k→c=8∨w.heap.size≤k)
  (m:c=4→∃g d,v= .slice (some ⟨g,0,none⟩) n d∧HRow w' W.heap.size g n d (List.replicate n SH.nil))
  (s:c=6→∃g d ss,v= .slice (some ⟨g,0,none⟩) n d∧LRow w' W.heap.size g n d ss∧All2 (LpAt (Mg (My M D x) g) w') ss L)
  (i:c=8→∃h:SH,v= .slice h.A h.n h.c∧EvsAt (My M D x) w' h E):StartI M W n L E (fun i=>i==c||D i) (upd x c v) w':=by
 have k:=Keep.of_below (Mt:=My M D x) hb;have hd:∀j,j≠c→((j==c||D j)=true↔D j=true):=fun j hj=>by simp[hj]
 have hx:∀j,j≠c→upd x c v j=x j:=fun j hj=>by simp[upd,hj]
 have hm:∀k,k<w.heap.size→My M (fun i=>i==c||D i) (upd x c v) k→My M D x k:=fun k hk hm=>by
  rcases hm with hm|⟨h1,h2⟩|⟨h1,h2⟩
  ·exact .inl hm
  ·by_cases e:4=c
   ·subst e;have h3:v.ownBlock=some k:=by simpa [upd]using h2
    rcases hv k h3 with h4|h4<;>omega
   ·rw[hx 4 e]at h2;exact .inr (.inl ⟨(hd 4 e).1 h1,h2⟩)
  ·by_cases e:6=c
   ·subst e;have h3:v.ownBlock=some k:=by simpa [upd]using h2
    rcases hv k h3 with h4|h4<;>omega
   ·rw[hx 6 e]at h2;exact .inr (.inr ⟨(hd 6 e).1 h1,h2⟩)
 refine⟨h.below.trans (hb.mono h.below.size),fun h1=> ?_,fun h1=> ?_,fun h1=> ?_⟩
 ·by_cases e:4=c
  ·subst e
   simpa [upd]using m rfl
  ·obtain⟨g,d,e1,e2⟩:=h.m ((hd _ e).1 h1);exact⟨g,d,by rw[hx _ e];exact e1,e2.stay (hb.block g e2.typed.2.2)⟩
 ·by_cases e:6=c
  ·subst e;obtain⟨g,d,ss,e1,e2,e3⟩:=s rfl;refine⟨g,d,ss,by simpa [upd]using e1,e2,e3.imp fun _ _ h=>h.fresh (Keep.refl _ _) fun k hk hm2=> ?_⟩;rcases hm2 with hm2|⟨h3,h4⟩|⟨h3,h4⟩
   ·exact .inl (.inl hm2)
   ·exact .inl (.inr (.inl ⟨(hd 4 (by omega)).1 h3,by rw[←hx 4 (by omega)];exact h4⟩))
   ·refine .inr ?_;have h5:v.ownBlock=some k:=by simpa [upd]using h4
    rw[e1]at h5;cases h5;rfl
  ·obtain⟨g,d,ss,e1,e2,e3⟩:=h.s ((hd _ e).1 h1);exact⟨g,d,ss,by rw[hx _ e];exact e1,e2.stay (hb.block g e2.typed.2.2),e3.imp fun _ _ h=>h.fresh k hm⟩
 ·by_cases e:8=c
  ·subst e;obtain⟨h3,e1,e2⟩:=i rfl;refine⟨h3,by simpa [upd]using e1,e2.fresh (Keep.refl _ _) fun k hk hm2=> ?_⟩;rcases hm2 with hm2|⟨h3,h4⟩|⟨h3,h4⟩
   ·exact .inl hm2
   ·exact .inr (.inl ⟨(hd 4 (by omega)).1 h3,by rw[←hx 4 (by omega)];exact h4⟩)
   ·exact .inr (.inr ⟨(hd 6 (by omega)).1 h3,by rw[←hx 6 (by omega)];exact h4⟩)
  ·obtain⟨q,e1,e2⟩:=h.i ((hd _ e).1 h1);exact⟨q,by rw[hx _ e];exact e1,e2.fresh k hm⟩
end
theorem simStart_calls {Mt:Nat→Prop} {w:World} (hM:∀k,Mt k→k<w.heap.size) (c:SCf) {cf:Cf} {N P:Nat} (hok:CfOk cf N P) (hc:CfAt Mt w c cf):
  Calls Tryz.prog 30 #[c.v] w fun r w'=>∃(b g cg gl cl:Nat) (ss:List SLp) (ph:SH),r= .returned (.pointer (some ⟨b,0,none⟩))∧SimAt Mt w.heap.size w' b N g cg gl cl c (List.replicate N .nil) ss ph cf.s0∧Below w.heap.size w w':=by
 obtain⟨⟨cA,cn,cc⟩,⟨pA,pn,pc⟩,la,en,cp⟩:=c;have hcn:cn=N:=by
  obtain⟨ss,p1,p2⟩:=hc.lps;have h1:=p1.len;have h2:=p2.len;have h3:=hok.n;simp only at h1;omega
 subst hcn;have hN8:=hok.n8;have hN1:=hok.n1;have HST:=am (show∀(M':Nat→Prop) (W:World),(∀k,M' k→k<W.heap.size)→CfAt M' W ⟨⟨cA,cn,cc⟩,⟨pA,pn,pc⟩,la,en,cp⟩ cf→Calls Tryz.prog 50 #[.agg #[.slice cA cn cc,.slice pA pn pc,.int .i64 la,.int .i64 en,.int .i64 cp]] W (fun e w'=>∃(g c:Nat) (ss:List SLp),e= .returned (.slice (some ⟨g,0,none⟩) cn c)∧LRow w' W.heap.size g cn c ss∧All2 (LpAt (Mg M' g) w') ss (cf.lps.map lp0)∧Below W.heap.size W w')from fun M' W hM' hcf=>by
  have h1:=states_calls hM' ⟨⟨cA,cn,cc⟩,⟨pA,pn,pc⟩,la,en,cp⟩ hcf (by rw[hok.n];exact hN1) (by rw[hok.n];exact hN8) hok.row;rw[hok.n]at h1;simp only[SCf.v]at h1;exact h1)
 have HIN:=am (show∀(M':Nat→Prop) (W:World),(∀k,M' k→k<W.heap.size)→CfAt M' W ⟨⟨cA,cn,cc⟩,⟨pA,pn,pc⟩,la,en,cp⟩ cf→Calls Tryz.prog 52 #[.agg #[.slice cA cn cc,.slice pA pn pc,.int .i64 la,.int .i64 en,.int .i64 cp]] W (fun e w'=>∃h:SH,e= .returned (.slice h.A h.n h.c)∧EvsAt M' w' h (sortC (evs0 cf.lps))∧Below W.heap.size W w')from fun M' W hM' hcf=>by
  have h1:=initial_calls hM' ⟨⟨cA,cn,cc⟩,⟨pA,pn,pc⟩,la,en,cp⟩ hcf (by rw[hok.n];exact hN8) hok.row;simp only[SCf.v]at h1;exact h1)
 have HCF:=am hc;have HM:=am hM;have HNK:=am hok.n;clear hM hc hok;simp only[SCf.v];go_enter Tryz.func30,Tryz.ntmps30;go_upto_region 1 with (fail)
 obtain⟨qc,hqc⟩:∃qc,w.heap.size=qc:=⟨_,rfl⟩;obtain⟨ws,hws⟩:∃ws,w.alloc (.cells #[.slice cA cn cc,.slice pA pn pc,.int .i64 la,.int .i64 en,.int .i64 cp] 25)=ws:=⟨_,rfl⟩;have hb1:Below w.heap.size w ws:=hws▸below_alloc (Below.refl _ _) _;have hbc:ws.heap[qc]?=some (.cells #[.slice cA cn cc,.slice pA pn pc,.int .i64 la,.int .i64 en,.int .i64 cp] 25 (0,0)):=by rw[←hws,←hqc];exact World.alloc_heap_new _ _
 rw[hqc,hws];have HB1:=am hb1;have HMS:=am (show∀k,Mt k→k<ws.heap.size from fun k hk=>Nat.lt_of_lt_of_le (HM.out k hk) hb1.size);have HCS:=am (HCF.out.keep (Keep.of_below hb1));have HEL:=am (show∀w',Below ws.heap.size ws w'→w'.cell? ⟨qc,0,none⟩=some (.slice cA cn cc)∧w'.cell? ⟨qc,1,none⟩=some (.slice pA pn pc)∧w'.cell? ⟨qc,2,none⟩=some (.int .i64 la)∧w'.cell? ⟨qc,3,none⟩=some (.int .i64 en)∧w'.cell? ⟨qc,4,none⟩=some (.int .i64 cp)from fun w' hb=>by
  have h9:=box_more hb hbc;refine⟨?_,?_,?_,?_,?_⟩<;>simp[World.cell?,h9])
 clear hb1 hbc hqc hws;refine sz_ 12 (S:=fun w'=>w'.cell? ⟨qc,0,none⟩=some (.slice cA cn cc)∧w'.cell? ⟨qc,1,none⟩=some (.slice pA pn pc)∧w'.cell? ⟨qc,2,none⟩=some (.int .i64 la)∧w'.cell? ⟨qc,3,none⟩=some (.int .i64 en)∧w'.cell? ⟨qc,4,none⟩=some (.int .i64 cp)) (ds:=[]) ⟨(HEL.out _ (below_drew (Below.refl ws.heap.size ws))).1,(HEL.out _ (below_drew (Below.refl ws.heap.size ws))).2.1,(HEL.out _ (below_drew (Below.refl ws.heap.size ws))).2.2.1,(HEL.out _ (below_drew (Below.refl ws.heap.size ws))).2.2.2.1,(HEL.out _ (below_drew (Below.refl ws.heap.size ws))).2.2.2.2⟩ (fun hHeld=> ?_)
 refine pz_ 1 4 12 2 ?_;refine tz_ 0 3 12 3 hHeld ?_;refine tz_ 2 5 12 7 hHeld ?_;refine pz_ 3 6 12 15 ?_;refine tz_ 5 8 12 47 hHeld ?_;refine tz_ 7 10 12 175 hHeld ?_;refine compA_ (fuel:=3) (bv 12 511) [(4,7),(6,9),(8,11)] (fun c=>[]) (StartI Mt ws cn (cf.lps.map lp0) (sortC (evs0 cf.lps))) (by kernel_rfl) (by decide) (by decide) (fun D x w' hI=>HEL.out w' hI.below) (fun x=>⟨below_drew (Below.refl _ _),(fun h=>by cases h),(fun h=>by cases h),(fun h=>by cases h)⟩) ?_ ?_
 ·intro c hc;simp only[List.map_cons,List.map_nil,List.mem_cons,List.not_mem_nil,or_false]at hc;rcases hc with rfl|rfl|rfl
  ·refine⟨_,_,rfl,rfl,by simp,fun D x w' hI hD hd a' ha K hK=> ?_⟩;simp only[mkA,List.map_cons,List.map_nil,putAll,Act.put,List.setIfInBounds_toArray,List.set_cons_zero,List.set_cons_succ]at ha;subst ha;refine Kd.R_make_step kH (w0:=w') w'.heap.size THd (by rfl) rfl 31 (.tmp 6) (.tmp 6) rfl (cn:Int) rfl rfl Tryz.underlying31 (.slice none 0 0) 24 infoEvs rfl (by decide) (by omega) SH.nil (ok:=fun _=>True) (okp:=fun _=>True) rfl (fun _ hk=>hk) trivial (by omega) (by omega) (Below.refl _ _) (Nat.le_refl _) ?_;intro v1 w1 hr hb hg hnew
   obtain⟨g,c1,rfl,hg1,hg2,_⟩:=Kd.R_form hr (by rw[List.length_replicate];omega);rw[List.length_replicate,Int.toNat_natCast]at hr ⊢;refine hK _ _ (hI.add hD hb (fun k hk=>by cases hk;exact .inr hg1) (fun _=>⟨g,c1,rfl,Kd.R_lower hr hI.below.size⟩) (fun h=>by omega) (fun h=>by omega))
  ·refine⟨_,_,rfl,rfl,by simp,fun D x w' hI hD hd a' ha K hK=> ?_⟩;simp only[mkA,List.map_cons,List.map_nil,putAll,Act.put,List.setIfInBounds_toArray,List.set_cons_zero,List.set_cons_succ]at ha;subst ha;refine goes_ Tryz.func50 (by kernel_rfl) rfl #[.agg #[.slice cA cn cc,.slice pA pn pc,.int .i64 la,.int .i64 en,.int .i64 cp]] (by rfl) rfl rfl (by simp only[List.map_toArray,List.map_cons,List.map_nil];rfl) ?_;refine(HST.out _ w' (hI.lt HMS.out) (HCS.out.fresh (Keep.of_below hI.below) hI.old)).mono ?_;rintro e w3 ⟨g,c1,ss,rfl,hrow,hal,hb3⟩
   exact⟨_,rfl,hK _ _ (hI.add hD hb3 (fun k hk=>by cases hk;exact .inr hrow.typed.2.1) (fun h=>by omega) (fun _=>⟨g,c1,ss,rfl,Kd.R_lower hrow hI.below.size,hal⟩) (fun h=>by omega))⟩
  ·refine⟨_,_,rfl,rfl,by simp,fun D x w' hI hD hd a' ha K hK=> ?_⟩;simp only[mkA,List.map_cons,List.map_nil,putAll,Act.put,List.setIfInBounds_toArray,List.set_cons_zero,List.set_cons_succ]at ha;subst ha;refine goes_ Tryz.func52 (by kernel_rfl) rfl #[.agg #[.slice cA cn cc,.slice pA pn pc,.int .i64 la,.int .i64 en,.int .i64 cp]] (by rfl) rfl rfl (by simp only[List.map_toArray,List.map_cons,List.map_nil];rfl) ?_;refine(HIN.out _ w' (hI.lt HMS.out) (HCS.out.fresh (Keep.of_below hI.below) hI.old)).mono ?_;rintro e w3 ⟨h3,rfl,hl3,hb3⟩
   exact⟨_,rfl,hK _ _ (hI.add hD hb3 (fun k hk=> .inl rfl) (fun h=>by omega) (fun h=>by omega) (fun _=>⟨h3,rfl,hl3⟩))⟩
 intro x w2 hI;have hHeld:=HEL.out w2 hI.below;obtain⟨g,cg,hx4,hrg⟩:=hI.m (by decide);obtain⟨gl,cl,ss,hx6,hrl,hal⟩:=hI.s (by decide);obtain⟨ph,hx8,hpe⟩:=hI.i (by decide);refine norm_ (a':= ?_) ?_ ?_;rotate_left
 ·simp only[mkA,List.map_cons,List.map_nil,putAll,Act.put,List.setIfInBounds_toArray,List.set_cons_zero,List.set_cons_succ];rfl
 refine pz_ 9 12 12 1023 ?_;refine one_ (i:=10) (N:=some 13) (bv 12 2047) rfl rfl (by kernel_rfl) (by decide) (fun K hK=> ?_);refine value_ (w1:= ?_) (v:= ?_) (by rfl) rfl ?_ ?_;rotate_left 2
 ·go_simp;constructor
  ·rfl
  ·rfl
 refine hK.out _ _ ⟨(HEL.out _ (below_alloc hI.below _)).1,(HEL.out _ (below_alloc hI.below _)).2.1,(HEL.out _ (below_alloc hI.below _)).2.2.1,(HEL.out _ (below_alloc hI.below _)).2.2.2.1,(HEL.out _ (below_alloc hI.below _)).2.2.2.2⟩ (fun hHeld=> ?_);clear hK K;refine norm_ (a':= ?_) ?_ ?_;rotate_left
 ·show Act.put _ (some 13) _=_;simp only[Act.put,List.setIfInBounds_toArray,List.set_cons_zero,List.set_cons_succ,i64_w,i32_w];rfl
 refine pz_ 11 2 12 4095 ?_;refine done_ (by kernel_rfl) ?_;obtain⟨w3,hw3⟩:∃w3,w2.alloc (.cells #[.slice cA cn cc,.slice pA pn pc,.int .i64 la,.int .i64 en,.int .i64 cp,.slice (some ⟨g,0,none⟩) cn cg,.slice (some ⟨gl,0,none⟩) cn cl,.slice ph.A ph.n ph.c,.int .i64 0,.bool false] TSim)=w3:=⟨_,rfl⟩;have hb3:Below w2.heap.size w2 w3:=hw3▸below_alloc (Below.refl _ _) _
 have hk3:w3.heap[w2.heap.size]?=some (.cells #[.slice cA cn cc,.slice pA pn pc,.int .i64 la,.int .i64 en,.int .i64 cp,.slice (some ⟨g,0,none⟩) cn cg,.slice (some ⟨gl,0,none⟩) cn cl,.slice ph.A ph.n ph.c,.int .i64 0,.bool false] TSim (0,0)):=by rw[←hw3];exact World.alloc_heap_new _ _
 have hbw:Below w.heap.size w w3:=(HB1.out.trans (hI.below.mono HB1.out.size)).trans (hb3.mono (Nat.le_trans HB1.out.size hI.below.size));have hfin:SimAt Mt w.heap.size w3 w2.heap.size cn g cg gl cl ⟨⟨cA,cn,cc⟩,⟨pA,pn,pc⟩,la,en,cp⟩ (List.replicate cn .nil) ss ph cf.s0:=by
  have hmy:∀k,k<w2.heap.size→Mtab (Ms Mt w2.heap.size gl) g (List.replicate cn .nil) k→My Mt ([(4,7),(6,9),(8,11)].map Prod.fst).contains x k:=fun k hk hm=>by
   rcases hm with (hm|hm|hm)|hm|⟨y,hy,hm⟩
   ·exact .inl hm
   ·omega
   ·exact .inr (.inr ⟨by decide,by rw[hx6,hm];rfl⟩)
   ·exact .inr (.inl ⟨by decide,by rw[hx4,hm];rfl⟩)
   ·rw[(List.mem_replicate.1 hy).2]at hm;cases hm
  have hkp:=Keep.of_below (Mt:=My Mt ([(4,7),(6,9),(8,11)].map Prod.fst).contains x) hb3;have hsz:=HB1.out.size;refine⟨hk3,⟨HRow.stay (Kd.R_lower hrg hsz) (hb3.block g hrg.typed.2.2),by simp only[Cf.s0,List.length_replicate];exact HNK.out.symm,fun i h es h1 h2=> ?_,fun i j h h' _ h1 _ k hk=> ?_⟩,LRow.stay (Kd.R_lower hrl hsz) (hb3.block gl hrl.typed.2.2),hal.imp fun _ _ h=>h.fresh hkp hmy,hpe.fresh hkp hmy,Nat.le_trans hsz hI.below.size⟩
  ·rw[(List.mem_replicate.1 (List.mem_of_getElem? h1)).2];rw[(List.mem_replicate.1 (List.mem_of_getElem? h2)).2];exact⟨[],Kd.R_nil _ _ _ _ _,.nil⟩
  ·rw[(List.mem_replicate.1 (List.mem_of_getElem? h1)).2]at hk;cases hk
 have HFIN:=am hfin;have HBW:=am hbw;rw[hw3];clear hfin hbw hk3 hb3 hw3 hrg hrl hal hpe hI hx4 hx6 hx8
 go_wp2_with (fail)
 go_ret;exact⟨_,g,cg,gl,cl,ss,ph,rfl,HFIN.out,HBW.out⟩
end
theorem SimAt.cells {Mt:Nat→Prop} {B:Nat} {w w':World} {b n g cg gl cl:Nat} {c:SCf} {hs:List SH} {ss:List SLp} {ph:SH} {s:Sq} (h:SimAt Mt B w b n g cg gl cl c hs ss ph s) (hb:Below w.heap.size w w'):∀j u,(simCells c n g cg gl cl ph s.n s.ov)[j]?=some u→w'.cell? ⟨b,j,none⟩=some u:=fun j u hu=>by
 have h1:=box_more hb h.blk;simp only[World.cell?,h1];exact hu
theorem SimAt.more {Mt:Nat→Prop} {B:Nat} {w w':World} {b n g cg gl cl:Nat} {c:SCf} {hs:List SH} {ss:List SLp} {ph:SH} {s:Sq} (h:SimAt Mt B w b n g cg gl cl c hs ss ph s) (hb:Below w.heap.size w w'):SimAt Mt B w' b n g cg gl cl c hs ss ph s:=
 ⟨box_more hb h.blk,h.tab.more hb (fun _ _ h=>h),h.row.stay (hb.block gl h.row.typed.2.2),h.lps.imp fun _ _ h=>h.keep (Keep.of_below hb),h.pend.keep (Keep.of_below hb),h.hb⟩
theorem ready_calls {Mt:Nat→Prop} {B:Nat} {w:World} {b n g cg gl cl:Nat} {c:SCf} {hs:List SH} {ss:List SLp} {ph:SH} {s:Sq} (h:SimAt Mt B w b n g cg gl cl c hs ss ph s):
  Calls Tryz.prog 32 #[.pointer (some ⟨b,0,none⟩)] w fun r w'=>r= .returned (.bool (s.ready c.en))∧Below w.heap.size w w':=by
 obtain⟨pA,pn,pc⟩:=ph;have q7:w.cell? ⟨b,7,none⟩=some (.slice pA pn pc):=h.cells (Below.refl _ _) 7 _ rfl;have q3:w.cell? ⟨b,3,none⟩=some (.int .i64 c.en):=h.cells (Below.refl _ _) 3 _ rfl;obtain⟨es,r1,r2⟩:=h.pend;have hpn:pn=es.length:=r1.len;subst hpn;obtain⟨en,hen⟩:∃en,c.en=en:=⟨_,rfl⟩;rw[hen]at q3 ⊢;unfold Sq.ready;cases hsp:s.pend with
 |nil=>
  rw[hsp]at r2;cases r2;clear r1 h q3 hsp hen;go_enter Tryz.func32,Tryz.ntmps32;go_upto_region 1 with (fail)
  simp only[List.length_nil]at q7;refine sz_ 22 (S:=fun w'=>w'.cell? ⟨b,7,none⟩=some (.slice pA 0 pc)) (ds:=[]) (q7) (fun hHeld=> ?_);refine pz_ 0 3 22 1 ?_;refine pz_ 1 4 22 3 ?_;refine pz_ 2 5 22 7 ?_;refine tz_ 3 6 22 15 hHeld ?_;refine pz_ 4 7 22 31 ?_;refine pz_ 5 8 22 63 ?_;refine pz_ 6 9 22 127 ?_;refine uz_ 7 10 22 255 ?_;refine uz_ 8 11 22 511 ?_;refine uz_ 9 12 22 1023 ?_;refine uz_ 10 13 22 2047 ?_;refine uz_ 11 14 22 4095 ?_;refine uz_ 12 15 22 8191 ?_;refine uz_ 13 16 22 16383 ?_;refine uz_ 14 17 22 32767 ?_;refine uz_ 15 18 22 65535 ?_;refine uz_ 16 19 22 131071 ?_
  refine uz_ 17 20 22 262143 ?_;refine uz_ 18 21 22 524287 ?_;refine uz_ 19 22 22 1048575 ?_;refine pz_ 20 23 22 2097151 ?_;refine pz_ 21 2 22 4194303 ?_;refine done_ (by kernel_rfl) ?_
  go_wp2_with (fail)
  go_ret;exact⟨rfl,below_drew (Below.refl _ _)⟩
 |cons e p=>
  rw[hsp]at r2;cases r2 with
  |cons h1 h2=>
   rename_i x xs;obtain⟨ad,e0,hab,hcl⟩:=ev_head r1.here;simp only at e0;subst e0;have p0:=(hcl w (fun _ _=>rfl)).1;rw[h1.t]at p0;obtain⟨m,hm⟩:∃m,(x::xs).length=m:=⟨_,rfl⟩;have hn1:(0:Int)<(m:Int):=by rw[←hm];simp
   have hn2:decide ((0:Int)<(m:Int))=true:=decide_eq_true hn1;have hn3:0<m:=by omega
   have hn4:decide (0<m)=true:=decide_eq_true hn3;rw[hm]at q7;obtain⟨t,ht⟩:∃t,e.t=t:=⟨_,rfl⟩;rw[ht]at p0;simp only[ht];clear r1 h1 h2 h hsp hen hab hcl hm ht;go_enter Tryz.func32,Tryz.ntmps32;go_upto_region 1 with (fail)
   refine sz_ 22 (S:=fun w'=>w'.cell? ⟨b,7,none⟩=some (.slice (some ad) m pc)∧w'.cell? ad=some (.int .i64 t)∧w'.cell? ⟨b,3,none⟩=some (.int .i64 en)) (ds:=[]) ⟨q7,p0,q3⟩ (fun hHeld=> ?_);refine pz_ 0 3 22 1 ?_;refine pz_ 1 4 22 3 ?_;refine pz_ 2 5 22 7 ?_;refine tz_ 3 6 22 15 hHeld ?_;refine pz_ 4 7 22 31 ?_;refine pz_ 5 8 22 63 ?_;refine pz_ 6 9 22 127 ?_;refine pz_ 7 10 22 255 ?_;refine pz_ 8 11 22 511 ?_;refine pz_ 9 12 22 1023 ?_;refine pz_ 14 17 22 17407 ?_;refine pz_ 15 18 22 50175 ?_;refine pz_ 16 19 22 115711 ?_;refine pz_ 17 20 22 246783 ?_;refine tz_ 10 13 22 247807 hHeld ?_
   refine pz_ 11 14 22 249855 ?_;refine pz_ 12 15 22 253951 ?_;refine tz_ 13 16 22 262143 hHeld ?_;refine tz_ 18 21 22 524287 hHeld ?_;refine pz_ 19 22 22 1048575 ?_;refine pz_ 20 23 22 2097151 ?_;refine pz_ 21 2 22 4194303 ?_;refine done_ (by kernel_rfl) ?_
   go_wp2_with (fail)
   go_ret;exact⟨rfl,below_drew (Below.refl _ _)⟩
theorem gone_calls {M:Nat→Prop} {w W1:World} {base:Nat} {h:SH} {sl:List SE} {es:List Ev} {q:Nat} {xh:SH} {ca:List (List Int)} {t:TypeId} (hb:Below w.heap.size w W1) (hbase:w.heap.size≤base) (hr:Kd.R kE 49 W1 base (fun _=>True) (.slice h.A h.n h.c) sl) (hes:All2 (EvAt M w) sl es) (hM:∀k,M k→k<w.heap.size)
  (hq:w.heap[q]?=some (.cells #[.slice xh.A xh.n xh.c] t (0,0))) (hks:KeysAt M w xh ca) (b1:∀e∈es,e.k.length≤1000000) (b2:ca.length≤1000000) (b3:∀k∈ca,k.length≤1000000) (hl:es.length≤1000000):
  Calls Tryz.prog 89 #[.slice h.A h.n h.c,.func (.func 85) #[] #[.pointer (some ⟨q,0,none⟩)]] W1 fun e w'=>∃h':SH,e= .returned (.slice h'.A h'.n h'.c)∧EvsAt M w' h' (es.filter fun e=> !ca.contains e.k)∧Below w.heap.size W1 w':=by
 obtain⟨f,hf⟩:=ev_of M w;have hmap:es=sl.map f:=hes.map_is hf;have hlen:=hes.len;have hp:∀W',Keep (fun k=>w.heap.size≤k) W1 W'→∀x∈sl,Calls Tryz.prog 85 #[x.v,.pointer (some ⟨q,0,none⟩)] W' fun e w'=>e= .returned (.bool (decide ((f x).k∈ca)))∧Below W'.heap.size W' w':=fun W' hk x hx=>by
  obtain⟨e,he,hx2⟩:=hes.mem hx;have hk2:Keep (fun _=>False) w W':=⟨Nat.le_trans hb.size hk.size,fun k h1 _=>(hk.block k (Nat.lt_of_lt_of_le h1 hb.size) (by omega)).trans (hb.block k h1)⟩;have hk3:Keep M w W':=hk2.mono fun _ _ h=>h.elim;rw[←hf x e hx2];exact goneF_calls (Mt:=M) x e.k (hx2.k.keep hk3) q xh ca (hks.keep hk3) (by simp[World.cell?,hk2.block q (blk_lt hq) (fun h=>h),hq]) (b1 e he) b2 b3
 have hfil:es.filter (fun e=> !ca.contains e.k)=(sl.filter fun x=> !decide ((f x).k∈ca)).map f:=by
  rw[hmap,List.filter_map]
  congr 1
  refine List.filter_congr fun x _=> ?_;simp[Function.comp]
 have hall:∀w',Below w.heap.size w w'→All2 (EvAt M w') (sl.filter fun x=> !decide ((f x).k∈ca)) (es.filter fun e=> !ca.contains e.k):=fun w' hw=>by
  rw[hfil];refine All2.map_of f fun x hx=> ?_;obtain⟨e,he,hx2⟩:=hes.mem (List.mem_filter.1 hx).1;rw[←hf x e hx2];exact hx2.keep (Keep.of_below hw)
 obtain⟨A,n,c⟩:=h;simp only at hr ⊢;have hn:=(Kd.R_reads' hr).1;have hform:(A=none∧sl=[]∧n=0∧c=0)∨∃g,A=some ⟨g,0,none⟩:=by
  obtain⟨_,inner,ho,_⟩:=hr;rcases ho.2 with ⟨e1,_⟩|⟨g,cap,cur,e1,_⟩
  ·injection e1 with e1 e2 e3
   exact .inl ⟨e1,List.length_eq_zero_iff.1 (by omega),e2,e3⟩
  ·injection e1 with e1
   exact .inr ⟨g,e1⟩
 rcases hform with ⟨rfl,rfl,rfl,rfl⟩|⟨g,rfl⟩
 ·have hz:es=[]:=by rw[hmap];rfl
  subst hz;have HI:=am (index_gone none 0 0 q [] (fun x=>decide ((f x).k∈ca)) (Kd.R_reads' hr).2.2 (by omega) (fun W' _ x hx=>by cases hx));have HBB:=am hb;rw[show fidx (fun x=>decide ((f x).k∈ca)) []= -1 from rfl]at HI;clear hr hes hmap hlen hp hfil hall hn hb;go_enter Tryz.func89,Tryz.ntmps89
  go_wp2_with (first|(go_at_call 111;(with_reducible refine HI.out.mono ?_);rintro e wx ⟨rfl,hx⟩;have HX:=am hx;clear hx))
  go_ret;exact⟨⟨none,0,0⟩,rfl,⟨[],Rd.nil _ _ _,.nil⟩,HX.out.mono HBB.out.size⟩
 ·have hgb:=Kd.R_base hr g (by simp[Value.ownBlock]);refine(delete_calls hr q (fun x=>decide ((f x).k∈ca)) (by omega) (fun W' hk x hx=>hp W' (hk.mono fun k _ e=>by omega) x hx)).mono ?_;rintro e w' ⟨n',rfl,hto⟩;have hbw:Below w.heap.size W1 w':=hto.below.mono hbase;exact⟨⟨some ⟨g,0,none⟩,n',c⟩,rfl,⟨_,Rd.of_R rfl hto.row (fun k hk hm=>by have:=Kd.R_base hto.row k hk;have:=hM k hm;omega),hall w' (hb.trans hbw)⟩,hbw⟩
end Go.Proofs.YtfnimdhghglanaaGreat.Hand
end
section
namespace Go.Proofs.YtfnimdhghglanaaGreat.Hand
open Go Go.Proofs.YtfnimdhghglanaaGreatW.PrintLast
section
theorem put_far (a:Act) (t:Tmp) (v:Value) (h:a.tmps.size≤t):a.put (some t) v=a:=by
 show({a with tmps:=a.tmps.setIfInBounds t v}:Act)=a;rw[Array.setIfInBounds_eq_of_size_le h]
theorem mkA_far {c:Nat} {N:Tmp} (x:Nat→Value) (v:Value):∀(sl:List (Nat×Tmp)) (a:Act),(sl.map Prod.fst).Nodup→(c,N)∈sl→a.tmps.size≤N→mkA a sl x=mkA a sl (upd x c v)
 | [],_,_,h,_=>by cases h
 |(d,t)::sl,a,h1,h,hN=>by
  obtain⟨n1,h1⟩:=List.nodup_cons.1 h1;rcases List.mem_cons.1 h with e|h
  ·cases e;have hu:sl.map (fun p=>(p.2,upd x c v p.1))=sl.map (fun p=>(p.2,x p.1)):=List.map_congr_left fun p hp=>by
    have:p.1≠c:=fun e=>n1 (List.mem_map.2 ⟨p,hp,e⟩);simp[upd,this]
   show putAll (a.put (some N) (x c)) (sl.map fun p=>(p.2,x p.1))=putAll (a.put (some N) (upd x c v c)) (sl.map fun p=>(p.2,upd x c v p.1));rw[put_far a N _ hN,put_far a N _ hN,hu]
  ·have hd:d≠c:=fun e=>n1 (List.mem_map.2 ⟨(c,N),h,e.symm⟩);show mkA (a.put (some t) (x d)) sl x=mkA (a.put (some t) (upd x c v d)) sl (upd x c v);rw[show upd x c v d=x d by simp[upd,hd]];exact mkA_far x v sl _ h1 h (by show(a.tmps.setIfInBounds t (x d)).size≤N;simpa using hN)
section
variable {P:Program} {ops:Array Oper} {Q:Exit→Act→World→Prop} {md:Region.Mode} {S:World→Prop} {ds:List Nat}
def CompStepM (P:Program) (ops:Array Oper) (Q:Exit→Act→World→Prop) (deps:Nat→List Nat) (mk:(Nat→Value)→Act) (I:(Nat→Bool)→(Nat→Value)→World→Prop) (c:Nat):Prop:=
 ∃oi N,ops[c]?=some oi∧oi.dst=N∧(∀x v,(mk x).put N v=mk (upd x c v))∧∀D x w,I D x w→D c=false→(∀d∈deps c,D d=true)→∀K:Act→World→Prop,(∀v w',I (fun i=>i==c||D i) (upd x c v) w'→K ((mk x).put N v) w')→
  if Region.wanted oi (yielded ops (mk x).tmps)=true then Oper.wp P oi (mk x) w K Q else K ((mk x).put N undef) w
theorem compM_ {fuel:Nat} {l:Array Bool} {a:Act} {w:World} (l':Array Bool) (Cs:List Nat) (deps:Nat→List Nat) (mk:(Nat→Value)→Act) (x0:Nat→Value) (I:(Nat→Bool)→(Nat→Value)→World→Prop)
  (hc:compB md ops ds l l' Cs deps=true) (hn':Cs.Nodup) (ha:a=mk x0) (hB:∀D x w,I D x w→S w) (hw:I (fun _=>false) x0 w) (hs:∀c∈Cs,CompStepM P ops Q deps mk I c)
  (hk:∀x w',I Cs.contains x w'→wpAnyLast P md ops Q S ds fuel l' (mk x) w'):wpAnyLast P md ops Q S ds (fuel+Cs.length) l a w:=by
 simp only[compB,Bool.and_eq_true,beq_iff_eq]at hc;obtain⟨⟨⟨h1,h2⟩,h3⟩,h4⟩:=hc;have key:∀(k:Nat) (D:Nat→Bool) (x:Nat→Value) (w:World),(Cs.filter fun c=> !D c).length=k→(∀c,D c=true→c∈Cs∧∀d∈deps c,D d=true)→I D x w→wpAnyLast P md ops Q S ds (fuel+k) (mark l D) (mk x) w:=by
  intro k
  induction k with
  |zero=>
   intro D x w hn hD hBw;have hall:∀c∈Cs,D c=true:=fun c hc=>by
    by_cases h:D c=true
    ·exact h
    ·have h5:c∈Cs.filter fun c=> !D c:=List.mem_filter.2 ⟨hc,by simpa using h⟩;rw[List.eq_nil_of_length_eq_zero hn]at h5;cases h5
   have hDe:D=Cs.contains:=by
    funext i
    rw[Bool.eq_iff_iff,List.contains_iff_mem];exact⟨fun h=>(hD i h).1,fun h=>hall i h⟩
   rw[hDe]at hBw ⊢;rw[h3];exact hk x w hBw
  |succ k ih=>
   intro D x w hn hD hBw;have hDe:(fun i=>(Cs.filter D).contains i)=D:=by
    funext i
    rw[Bool.eq_iff_iff,List.contains_iff_mem,List.mem_filter];exact⟨fun h=>h.2,fun h=>⟨(hD i h).1,h⟩⟩
   have h5:=List.all_eq_true.1 h1 _ (subs_filter D Cs);have h6:((Cs.filter D).all fun c=>(deps c).all (Cs.filter D).contains)=true:=List.all_eq_true.2 fun c hc=>List.all_eq_true.2 fun d hd=>by
    rw[show(Cs.filter D).contains d=D d from congrFun hDe d];exact(hD c (List.mem_filter.1 hc).2).2 d hd
   rw[h6]at h5;have hmk:mark l (Cs.filter D).contains=mark l D:=congrArg (mark l) hDe;simp only[Bool.not_true,Bool.false_or,Bool.and_eq_true,Bool.or_eq_true,hmk]at h5;have h9:(Cs.filter D).length+(Cs.filter fun c=> !D c).length=Cs.length:=by
    have:=(filter_split D Cs).length_eq;rw[List.length_append]at this;exact this
   obtain⟨h7,h8⟩:=h5.resolve_left fun h10=>by
    have h11:(Cs.filter D).length=Cs.length:=by simpa using h10
    omega
   have hne:Region.ready md ops (mark l D)≠[]:=fun h10=>by
    rw[h10]at h8;cases h8
   refine⟨fun h=>absurd h hne,fun i hi=> ?_⟩;have h9:=List.all_eq_true.1 h7 i hi;simp only[Bool.and_eq_true]at h9;obtain⟨⟨hiC,hiD⟩,hid⟩:=h9;rw[show(Cs.filter D).contains i=D i from congrFun hDe i]at hiD;have hiC':i∈Cs:=List.contains_iff_mem.1 hiC;have hiD':D i=false:=by simpa using hiD
   have hdd:∀d∈deps i,D d=true:=fun d hd=>by
    have:=List.all_eq_true.1 hid d hd
    rwa [show(Cs.filter D).contains d=D d from congrFun hDe d]at this
   obtain⟨oi,N,ho,hdst,hput,hstep⟩:=hs i hiC';refine wpOp_step ho fun K' hK'=> ?_;rw[hdst];refine hstep D x w hBw hiD' hdd K' fun v w' hB'=>hK' _ _ ⟨fun _ _=>hB _ _ w' hB',?_⟩;rw[hput,mark_set];refine ih _ _ _ ?_ (fun c hc=> ?_) hB'
   ·have:=filter_less hiD' hn' hiC';omega
   ·simp only[Bool.or_eq_true,beq_iff_eq]at hc ⊢;rcases hc with rfl|hc
    ·exact⟨hiC',fun d hd=> .inr (hdd d hd)⟩
    ·exact⟨(hD c hc).1,fun d hd=> .inr ((hD c hc).2 d hd)⟩
 have h0:=key Cs.length (fun _=>false) x0 w (by simp) (fun c hc=>by cases hc) hw;rw[h4]at h0;exact ha▸h0
def CompStepN (P:Program) (ops:Array Oper) (Q:Exit→Act→World→Prop) (deps:Nat→List Nat) (a:Act) (sl:List (Nat×Tmp)) (I:(Nat→Bool)→(Nat→Value)→World→Prop) (c:Nat):Prop:=
 ∃oi N t,ops[c]?=some oi∧oi.dst=N∧(c,t)∈sl∧(N=some t∨N=none∧a.tmps.size≤t)∧∀D x w,I D x w→D c=false→(∀d∈deps c,D d=true)→∀a',a'=mkA a sl x→∀K:Act→World→Prop,(∀v w',I (fun i=>i==c||D i) (upd x c v) w'→K (a'.put N v) w')→
  if Region.wanted oi (yielded ops a'.tmps)=true then Oper.wp P oi a' w K Q else K (a'.put N undef) w
theorem compN_ {fuel:Nat} {l:Array Bool} {a:Act} {w:World} (l':Array Bool) (sl:List (Nat×Tmp)) (deps:Nat→List Nat) (I:(Nat→Bool)→(Nat→Value)→World→Prop)
  (hc:compB md ops ds l l' (sl.map Prod.fst) deps=true) (h1:(sl.map Prod.fst).Nodup) (h2:(sl.map Prod.snd).Nodup) (hB:∀D x w,I D x w→S w) (hw:∀x,I (fun _=>false) x w) (hs:∀c∈sl.map Prod.fst,CompStepN P ops Q deps a sl I c)
  (hk:∀x w',I (sl.map Prod.fst).contains x w'→wpAnyLast P md ops Q S ds fuel l' (mkA a sl x) w'):wpAnyLast P md ops Q S ds (fuel+sl.length) l a w:=by
 have h0:=compM_ (P:=P) (Q:=Q) (fuel:=fuel) (a:=a) (w:=w) l' (sl.map Prod.fst) deps (mkA a sl) (fun c=>match sl.find? fun p=>p.1==c with|some p=>a.tmps.getD p.2 undef|none=>undef) I hc h1 ?_ hB (hw _) (fun c hc=> ?_) hk
 ·rwa [List.length_map]at h0
 ·refine(putAll_self a _ fun q hq=> ?_).symm;obtain⟨p,hp,rfl⟩:=List.mem_map.1 hq;have:sl.find? (fun q=>q.1==p.1)=some p:=by
   clear hq hs hk hc h2
   induction sl with
   |nil=>cases hp
   |cons q sl ih=>
    obtain⟨n1,h1'⟩:=List.nodup_cons.1 h1;rcases List.mem_cons.1 hp with rfl|hp
    ·simp
    ·have hne:(q.1==p.1)=false:=by
      rw[beq_eq_false_iff_ne];exact fun e=>n1 (List.mem_map.2 ⟨p,hp,e.symm⟩)
     rw[List.find?_cons,hne];exact ih h1' hp
  simp only[this]
 ·obtain⟨oi,N,t,e1,e2,e3,e5,e4⟩:=hs c hc;refine⟨oi,N,e1,e2,fun x v=> ?_,fun D x w hI hD hd=>e4 D x w hI hD hd _ rfl⟩;rcases e5 with rfl|⟨rfl,e5⟩
  ·exact mkA_put x v sl a h1 h2 e3
  ·exact mkA_far x v sl a h1 e3 e5
end
end
end Go.Proofs.YtfnimdhghglanaaGreat.Hand
end
