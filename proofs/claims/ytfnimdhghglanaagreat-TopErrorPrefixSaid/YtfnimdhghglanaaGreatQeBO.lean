/- TopErrorPrefix holds: with any capacity and any limit, the trace of each logical process is a prefix of its trace in a longer sequential run, and both simulators reject an invalid configuration with the same error before any event. No condition. (Last part of 41.) -/
import Derived.Test.YtfnimdhghglanaaGreatQeBI
import Derived.Test.YtfnimdhghglanaaGreatQeBL
import Derived.Test.YtfnimdhghglanaaGreatQeBN
import Derived.Test.YtfnimdhghglanaaGreatRows
import Derived.WalkKit
import Derived.ProofKit
import Derived.OpenShut
import Derived.ShutString
import Derived.ChangeOld
import Derived.Below
import Derived.SizedLaws
import Derived.WideShapes
set_option maxRecDepth 100000
set_option maxHeartbeats 8000000
set_option linter.unusedVariables false
set_option linter.unusedSimpArgs false
section
namespace Go.Proofs.YtfnimdhghglanaaGreat.Hand
open Go
theorem fst1_zero {α:Type} {f:α→Int}:∀{l:List α},fst1 f l=0→∀x∈l,f x=0
 | [],_,x,hx=>by cases hx
 |y::l,h,x,hx=>by
  unfold fst1 at h
  split at h
  ·rename_i h0;rcases List.mem_cons.1 hx with rfl|hx
   ·exact h0
   ·exact fst1_zero h x hx
  ·rename_i h0;exact absurd h h0
theorem vd_true {b:Bool} {e:Int} (he:e≠0) (h:vd b e=0):b=true:=by
 cases b
 ·exact absurd h he
 ·rfl
theorem wi_true {n a b:Int} (h:wi n a b=true):a≤n∧n≤b:=by simpa [wi]using h
theorem opV_of {n P N la:Int} {N' P':Nat} (hN:N=N') (hP:P=P') {o:OpC} (h1:opC o=0) (h2:opO n P o=0) (h3:opT N o=0) (h4:opE la o=0):OpV N' P' la o:=by
 have g1:=wi_true (vd_true (by decide) h1);have g2:=vd_true (by decide) h2;have g3:=vd_true (by decide) h3;have g4:=vd_true (by decide) h4;simp only[Bool.not_eq_true',Bool.and_eq_false_iff,decide_eq_false_iff_not]at g3 g4;subst hN hP;refine⟨⟨g1.1,g1.2,fun hc=> ?_,fun hc=> ?_⟩,fun hc=> ?_,fun hc=> ?_,fun hc=> ?_,fun hc=> ?_⟩
 ·rcases hc with hc|hc
  ·simp only[hc]at g2;simp[wi]at g2;omega
  ·simp only[hc]at g2;simp[wi]at g2;omega
 ·simp only[hc]at g2;simp[wi]at g2;omega
 ·simp only[hc]at g2;simp[wi]at g2;omega
 ·simp only[hc]at g2;simp[wi]at g2;omega
 ·simp only[hc]at g2;simp[wi]at g2;omega
 ·simp only[hc]at g2;simp[wi]at g2;omega
theorem cfOk_of {cf:Cf} (h:chk cf=0) (h8:cf.la≤8):CfOk cf cf.lps.length cf.pgs.length∧CfSm cf:=by
 rw[chk_eq]at h
 split at h
 ·rename_i hs
  split at h
  ·rename_i hla
   split at h
   ·rename_i hp;simp only[szs,Bool.and_eq_true,decide_eq_true_eq,List.all_eq_true]at hs;obtain⟨s1,s2,s3,s4,s5⟩:=hs;have s1:=wi_true s1;have s3:=wi_true s3;have s4:=wi_true s4;have hst:=fst1_zero h;have hpg:=fst1_zero hp;have hop:∀p∈cf.pgs,wi p.length 1 16=true∧fst1 opC p=0∧fst1 (opO p.length cf.pgs.length) p=0∧fst1 (opT cf.lps.length) p=0∧fst1 (opE cf.la) p=0:=fun p hp=>by
     have h1:=hpg p hp;unfold pck at h1
     split at h1
     ·rename_i h2;have h3:=fst1_zero h1;exact⟨h2,h3 _ (by simp),h3 _ (by simp),h3 _ (by simp),h3 _ (by simp)⟩
     ·exact absurd h1 (by decide)
    refine⟨⟨rfl,by omega,by omega,rfl,by omega,fun l hl=>by have:=s5 l hl;omega,fun l hl s hsl=> ?_,fun p hp=>by have:=wi_true (hop p hp).1;omega,fun p hp o ho=> ?_,⟨hla,h8⟩,s4,s3⟩,⟨by omega,by omega,fun l hl=>by have:=s5 l hl;omega,fun p hp=>by have:=wi_true (hop p hp).1;omega⟩⟩
    ·have h1:=fst1_zero (hst l hl) s hsl;unfold stc at h1
     split at h1
     ·rename_i h2;have h3:=wi_true h2;have h4:=wi_true (vd_true (by decide) h1);omega
     ·exact absurd h1 (by decide)
    ·obtain⟨_,q1,q2,q3,q4⟩:=hop p hp;exact opV_of rfl rfl (fst1_zero q1 o ho) (fst1_zero q2 o ho) (fst1_zero q3 o ho) (fst1_zero q4 o ho)
   ·rename_i hp;exact absurd h hp
  ·exact absurd h (by decide)
 ·exact absurd h (by decide)
end Go.Proofs.YtfnimdhghglanaaGreat.Hand
end
section
namespace Go.Proofs.YtfnimdhghglanaaGreat.Hand
open Go.RowKit Go.Shelf Go.Proofs.YtfnimdhghglanaaGreatW.PrintWords Go.Proofs.YtfnimdhghglanaaGreatW.PrintLast Go.Proofs.YtfnimdhghglanaaGreatW.PrintMore
attribute [local go_sem] max2_int min2_int max_two min_two max_three min_three max_four min_four
theorem seqRun_err {Mt:Nat→Prop} {w:World} (c:SCf) {cf:Cf} (hc:CfAt Mt w c cf) (hs:CfSm cf) (h0:chk cf≠0) (lim:Int):
  Calls Tryz.prog 13 #[c.v,.int .i64 lim] w fun r w'=>r= .returned (.tuple #[.slice none 0 0,.slice none 0 0,.int .i64 (chk cf)])∧Below w.heap.size w w':=by
 obtain⟨w1,hw1⟩:∃w1,w.alloc (.cells #[.slice c.lps.A c.lps.n c.lps.c,.slice c.pgs.A c.pgs.n c.pgs.c,.int .i64 c.la,.int .i64 c.en,.int .i64 c.cp] TCf)=w1:=⟨_,rfl⟩;have hb1:Below w.heap.size w w1:=hw1▸below_alloc (Below.refl _ _) _;have hk1:w1.heap[w.heap.size]?=some (.cells (cf5 c) TCf (0,0)):=by rw[←hw1];exact World.alloc_heap_new _ _
 obtain⟨a0,a1,a2,a3,a4⟩:=cfbox_at hk1 (Below.refl _ _);have HB1:=am hb1;have HK1:=am hk1;obtain⟨e0,he0⟩:∃e0,chk cf=e0:=⟨_,rfl⟩;rw[he0]at h0 ⊢;have HCK:=am (he0▸check_calls c (hc.keep (Keep.of_below hb1)) hs);have hz:(e0 != 0)=true:=bne_iff_ne.2 h0;clear hb1 hk1 hc hs he0;simp only[SCf.v]at HCK ⊢;go_enter Tryz.func13,Tryz.ntmps13;go_upto_region 1 with (fail)
 clear hw1
 go_wp2_with (first|(go_at_call 27;go_must (with_reducible refine HCK.out.mono ?_);go_must (rintro e w2 ⟨rfl,hb2⟩);go_must (obtain⟨b0,b1,b2,b3,b4⟩:=cfbox_at HK1.out hb2);have HB2:=am (HB1.out.trans (hb2.mono HB1.out.size));clear hb2))
 go_returns
 exact⟨rfl,HB2.out⟩
theorem parRun_err {Mt:Nat→Prop} {w:World} (c:SCf) {cf:Cf} (hc:CfAt Mt w c cf) (hs:CfSm cf) (h0:chk cf≠0) (wk lim:Int) (ph:SH):
  Calls Tryz.prog 10 #[c.v,.int .i64 wk,.slice ph.A ph.n ph.c,.int .i64 lim] w fun r w'=>r= .returned (.tuple #[.slice none 0 0,.slice none 0 0,.int .i64 (chk cf)])∧Below w.heap.size w w':=by
 obtain⟨w1,hw1⟩:∃w1,w.alloc (.cells #[.slice c.lps.A c.lps.n c.lps.c,.slice c.pgs.A c.pgs.n c.pgs.c,.int .i64 c.la,.int .i64 c.en,.int .i64 c.cp] TCf)=w1:=⟨_,rfl⟩;have hb1:Below w.heap.size w w1:=hw1▸below_alloc (Below.refl _ _) _;have hk1:w1.heap[w.heap.size]?=some (.cells (cf5 c) TCf (0,0)):=by rw[←hw1];exact World.alloc_heap_new _ _
 obtain⟨a0,a1,a2,a3,a4⟩:=cfbox_at hk1 (Below.refl _ _);have HB1:=am hb1;have HK1:=am hk1;obtain⟨e0,he0⟩:∃e0,chk cf=e0:=⟨_,rfl⟩;rw[he0]at h0 ⊢;have HCK:=am (he0▸check_calls c (hc.keep (Keep.of_below hb1)) hs);have hz:(e0 != 0)=true:=bne_iff_ne.2 h0;clear hb1 hk1 hc hs he0;simp only[SCf.v]at HCK ⊢;go_enter Tryz.func10,Tryz.ntmps10;go_upto_region 1 with (fail)
 clear hw1
 go_wp2_with (first|(go_at_call 27;go_must (with_reducible refine HCK.out.mono ?_);go_must (rintro e w2 ⟨rfl,hb2⟩);go_must (obtain⟨b0,b1,b2,b3,b4⟩:=cfbox_at HK1.out hb2);have HB2:=am (HB1.out.trans (hb2.mono HB1.out.size));clear hb2))
 go_returns
 exact⟨rfl,HB2.out⟩
theorem parRun_calls {Mt:Nat→Prop} {w:World} (hM:∀k,Mt k→k<w.heap.size) (c:SCf) {cf:Cf} {N P:Nat} (hok:CfOk cf N P) (hc:CfAt Mt w c cf) (hs:CfSm cf) (h0:chk cf=0) (wk:Nat) (hw0:1≤wk) (hw:wk≤64) (ph:SH) (l:List Int) (hl:l.length≤1000) (hr:∀p∈l,0≤p∧p<wk) (hpk:Rd (Kd.int .i64) Mt w ph l) (lim:Int) (hl0:0≤lim) (hl50:lim≤50):
  Calls Tryz.prog 10 #[c.v,.int .i64 wk,.slice ph.A ph.n ph.c,.int .i64 lim] w fun r w'=>∃th lh:SH,r= .returned (.tuple #[.slice th.A th.n th.c,.slice lh.A lh.n lh.c,.int .i64 (cf.par lim).2])∧EvssAt Mt w' th (cf.par lim).1.tr∧LpsAt Mt w' lh (cf.par lim).1.lps∧Below w.heap.size w w':=by
 obtain⟨w1,hw1⟩:∃w1,w.alloc (.cells #[.slice c.lps.A c.lps.n c.lps.c,.slice c.pgs.A c.pgs.n c.pgs.c,.int .i64 c.la,.int .i64 c.en,.int .i64 c.cp] TCf)=w1:=⟨_,rfl⟩;have hb1:Below w.heap.size w w1:=hw1▸below_alloc (Below.refl _ _) _;have hk1:w1.heap[w.heap.size]?=some (.cells (cf5 c) TCf (0,0)):=by rw[←hw1];exact World.alloc_heap_new _ _
 obtain⟨a0,a1,a2,a3,a4⟩:=cfbox_at hk1 (Below.refl _ _);have HB1:=am hb1;have HK1:=am hk1;have HM:=am hM;have HCK:=am (h0▸check_calls c (hc.keep (Keep.of_below hb1)) hs);have HRUN:=am (show∀W,Below w.heap.size w W→Calls Tryz.prog 28 #[c.v,.int .i64 wk,.slice ph.A ph.n ph.c,.int .i64 lim] W (fun r w'=>∃s:SPs,r= .returned (.tuple #[s.v,.int .i64 (cf.par lim).2])∧PsAt Mt w' s (cf.par lim).1∧Below W.heap.size W w')from
  fun W hb=>prun_calls (fun k hk=>Nat.lt_of_lt_of_le (hM k hk) hb.size) c hok (hc.keep (Keep.of_below hb)) wk hw0 hw ph l hl hr (hpk.below hb) lim hl0 hl50)
 clear hb1 hk1 hM hc hs h0 hok hl hr hpk hl0 hl50 hw0 hw;simp only[SCf.v]at HCK HRUN ⊢;go_enter Tryz.func10,Tryz.ntmps10;go_upto_region 1 with (fail)
 clear hw1;go_upto_region 4 with (first|(go_at_call 27;go_must (with_reducible refine HCK.out.mono ?_);go_must (rintro e w2 ⟨rfl,hb2⟩);go_must (obtain⟨b0,b1,b2,b3,b4⟩:=cfbox_at HK1.out hb2);have HB2:=am (HB1.out.trans (hb2.mono HB1.out.size));clear hb2))
 have HRN:=am (HRUN.out _ HB2.out);clear a0 a1 a2 a3 a4;simp only[SPs.v]at HRN;go_upto_region 5 with (first|(go_at_call 28;go_must (with_reducible refine HRN.out.mono ?_);go_must (rintro e w3 ⟨s,rfl,hps,hb3⟩);have HPS:=am hps;have HB3:=am (HB2.out.trans (hb3.mono HB2.out.size));clear hps hb3))
 obtain⟨w4,hw4⟩:∃w4,w3.alloc (.cells #[.slice s.tr.A s.tr.n s.tr.c,.slice s.lps.A s.lps.n s.lps.c,.slice s.bx.A s.bx.n s.bx.c,.bool s.ov,.slice s.fl.A s.fl.n s.fl.c,.slice s.pr.A s.pr.n s.pr.c] TSt)=w4:=⟨_,rfl⟩;have hb4:Below w3.heap.size w3 w4:=hw4▸below_alloc (Below.refl _ _) _;have hk4:w4.heap[w3.heap.size]?=some (.cells (st6 s) TSt (0,0)):=by rw[←hw4];exact World.alloc_heap_new _ _
 have HB4:=am (HB3.out.trans (hb4.mono HB3.out.size));have HP4:=am (HPS.out.keep (Keep.of_below hb4));have z0:w4.cell? ⟨w3.heap.size,0,none⟩=some (.slice s.tr.A s.tr.n s.tr.c):=by simp[World.cell?,hk4]
 have z1:w4.cell? ⟨w3.heap.size,1,none⟩=some (.slice s.lps.A s.lps.n s.lps.c):=by simp[World.cell?,hk4]
 have z4:w4.cell? ⟨w3.heap.size,4,none⟩=some (.slice s.fl.A s.fl.n s.fl.c):=by simp[World.cell?,hk4]
 have z5:w4.cell? ⟨w3.heap.size,5,none⟩=some (.slice s.pr.A s.pr.n s.pr.c):=by simp[World.cell?,hk4]
 rw[hw4];clear hw4 hb4 hk4
 go_region
 go_wp2_with (fail)
 go_returns
 exact⟨s.tr,s.lps,rfl,HP4.out.tr.keep (Keep.of_below (below_drew (Below.refl _ _))),HP4.out.lps.keep (Keep.of_below (below_drew (Below.refl _ _))),HB4.out.trans ((below_drew (Below.refl _ _)).mono HB4.out.size)⟩
def rr30:List Int:=[0,1,0,1,0,1,0,1,0,1,0,1,0,1,0,1,0,1,0,1,0,1,0,1,0,1,0,1,0,1]
theorem rr_eval:rrobin.f 40 0 2 30=some rr30:=by kernel_rfl
theorem MZ_lt (w:World) (k:Nat) (h:MZ k):k<w.heap.size:=h.elim
theorem rr_calls (w:World):Calls Tryz.prog 23 #[.int .i64 0,.int .i64 2,.int .i64 30] w fun e w'=>∃h:SH,e= .returned (.slice h.A h.n h.c)∧Rd (Kd.int .i64) MZ w' h rr30∧Below w.heap.size w w':=by
 refine(rrobin.calls 40 0 2 30 rr30 w rr_eval).mono ?_;rintro e w' ⟨v,rfl,hR,hB⟩;obtain⟨A2,n2,c2,hn2,rfl⟩:=R_slice3 hR;exact⟨⟨A2,n2,c2⟩,rfl,Rd.of_R rfl hR (fun k hk hm=>hm),hB⟩
theorem head25_calls (w:World):Calls Tryz.prog 6 #[] w fun e w'=>e= .returned (.bool true)∧Below w.heap.size w w':=by
 obtain⟨hok,hsm⟩:=cfOk_of base_chk (by decide);have HBA:=am (fun W=>base_calls W);have HRR:=am (fun W=>rr_calls W);have HPR:=am (show∀(W:World) (c:SCf) (ph:SH),CfAt MZ W c cfB→Rd (Kd.int .i64) MZ W ph rr30→Calls Tryz.prog 10 #[c.v,.int .i64 2,.slice ph.A ph.n ph.c,.int .i64 50] W (fun r w'=>∃th lh:SH,r= .returned (.tuple #[.slice th.A th.n th.c,.slice lh.A lh.n lh.c,.int .i64 0])∧EvssAt MZ w' th (cfB.par 50).1.tr∧LpsAt MZ w' lh (cfB.par 50).1.lps∧Below W.heap.size W w')from fun W c ph hc hp=>by
  have h1:=parRun_calls (MZ_lt W) c hok hc hsm base_chk 2 (by decide) (by decide) ph rr30 (by decide) (by decide) hp 50 (by decide) (by decide);rw[show(cfB.par 50).2=0 from congrArg Prod.fst base_par]at h1;exact h1)
 have HSR:=am (show∀(W:World) (c:SCf),CfAt MZ W c cfB→Calls Tryz.prog 13 #[c.v,.int .i64 50] W (fun r w'=>∃th lh:SH,r= .returned (.tuple #[.slice th.A th.n th.c,.slice lh.A lh.n lh.c,.int .i64 0])∧EvssAt MZ w' th (cfB.par 50).1.tr∧LpsAt MZ w' lh (cfB.seq 50).lps∧Below W.heap.size W w')from fun W c hc=>by
  have h1:=seqRun_calls (MZ_lt W) c hok hc hsm base_chk 50 (by decide);rw[base_seq,base_same]at h1;exact h1)
 have HLEN:=am (show(cfB.par 50).1.tr.length≤1000000∧(cfB.par 50).1.tr.flatten.length=10 from⟨by(have h2:(cfB.par 50).1.tr.length=2:=by kernel_rfl);omega,congrArg Prod.snd base_par⟩);clear hok hsm;go_enter Tryz.func6,Tryz.ntmps6;go_upto_region 1 with (fail)
 have H0:=am (HBA.out w);go_upto_region 2 with (first
  |(go_at_call 22;go_must (with_reducible refine H0.out.mono ?_);go_must (rintro e w1 ⟨c,rfl,hc,hb⟩);have HC1:=am hc;have HB1:=am hb;have H1:=am (HRR.out w1);clear hc hb)
  |(go_at_call 23;go_must (with_reducible refine H1.out.mono ?_);go_must (rintro e w2 ⟨ph,rfl,hp,hb⟩);go_must (have h2:=HPR.out w2 c ph (HC1.out.keep (Keep.of_below hb)) hp);have HB2:=am (HB1.out.trans (hb.mono HB1.out.size));have H2:=am h2;clear hp hb h2)
  |(go_at_call 10;go_must (with_reducible refine H2.out.mono ?_);go_must (rintro e w3 ⟨ta,la,rfl,ht,_,hb⟩);have HT3:=am ht;have HB3:=am (HB2.out.trans (hb.mono HB2.out.size));clear ht hb))
 have H3:=am (HBA.out w3);go_upto_region 3 with (first
  |(go_at_call 22;go_must (with_reducible refine H3.out.mono ?_);go_must (rintro e w4 ⟨c2,rfl,hc,hb⟩);go_must (have h4:=HSR.out w4 c2 hc);have HB34:=am hb;have HB4:=am (HB3.out.trans (hb.mono HB3.out.size));have H4:=am h4;clear hc hb h4)
  |(go_at_call 13;go_must (with_reducible refine H4.out.mono ?_);go_must (rintro e w5 ⟨tb,lb,rfl,ht,_,hb⟩);have HT5:=am ht;have HB35:=am (HB34.out.trans (hb.mono HB34.out.size));have HB5:=am (HB4.out.trans (hb.mono HB4.out.size));clear ht hb))
 have HTA:=am (HT3.out.keep (Keep.of_below HB35.out));have h5:=commits_calls HTA.out (MZ_lt w5) HLEN.out.1 (by have:=HLEN.out.2;omega);rw[HLEN.out.2]at h5;have H5:=am h5;clear h5
 go_wp2_with (first
  |(go_at_call 12;go_must (with_reducible refine H5.out.mono ?_);go_must (rintro e w6 ⟨rfl,hb⟩);go_must (have h6:=trseq_calls (HTA.out.keep (Keep.of_below hb)) (HT5.out.keep (Keep.of_below hb)));have H6:=am h6;have HB6:=am (HB5.out.trans (hb.mono HB5.out.size));clear hb h6)
  |(go_at_call 20;go_must (with_reducible refine H6.out.mono ?_);go_must (rintro e w7 ⟨rfl,hb⟩);have HB7:=am (HB6.out.trans (hb.mono HB6.out.size));clear hb))
 go_ret;exact⟨rfl,HB7.out⟩
structure QCut (df:Cf) (w4:World) (v:Value) (wx:World):Prop where
 ex:∃b,v= .bool (!b)∧(b=true→QuickOk df)
 below:Below w4.heap.size w4 wx
theorem CfOk.small {cf:Cf} {N P:Nat} (h:CfOk cf N P) {lim:Int} (hl:lim≤50):(cf.par lim).1.tr.length≤1000000∧(cf.par lim).1.tr.flatten.length≤1000000:=by
 have hh:=h.go hl (lim.toNat+1) cf.p0 h.head;obtain⟨C,hpi⟩:=hh.ex;have h1:=hpi.nt;have h2:=hh.cnt;have h3:=h.n8;unfold Cf.par;omega
theorem nil_evss (w:World):EvssAt MZ w .nil []:=⟨[],Rd.nil _ _ _,.nil⟩
theorem errorPrefix_calls (c:SCf) {cf:Cf} (a1 a2 a4:Int) (h1:0≤a1∧a1≤255) (h2:0≤a2∧a2≤255) (h4:0≤a4∧a4≤255) {A:Option Addr} {n cc:Nat} {l:List Int} (w:World) (hc:CfAt MZ w c cf) (hr:Rd (Kd.int .u8) MZ w ⟨A,n,cc⟩ l) (hb:∀x∈l,0≤x∧x≤255):
  Calls Tryz.prog 3 #[c.v,.int .u8 a1,.int .u8 a2,.slice A n cc,.int .u8 a4] w fun e w'=>e= .returned (.bool true)∧Below w.heap.size w w':=by
 obtain⟨w1,hw1⟩:∃w1,w.alloc (.cells #[.slice c.lps.A c.lps.n c.lps.c,.slice c.pgs.A c.pgs.n c.pgs.c,.int .i64 c.la,.int .i64 c.en,.int .i64 c.cp] TCf)=w1:=⟨_,rfl⟩;have hb1:Below w.heap.size w w1:=hw1▸below_alloc (Below.refl _ _) _;have hk1:w1.heap[w.heap.size]?=some (.cells (cf5 c) TCf (0,0)):=by rw[←hw1];exact World.alloc_heap_new _ _
 have HB1:=am hb1;have HK1:=am hk1;have HCF:=am (show∀W,Below w.heap.size w W→CfAt MZ W c cf from fun W hb=>hc.keep (Keep.of_below hb));have HR:=am hr;have HBY:=am hb;have HHD:=am (head25_calls w1);obtain⟨G,hG⟩:∃G,gre cf=G:=⟨_,rfl⟩;have HG:=am hG;have HGR:=am (show∀W,Below w.heap.size w W→Calls Tryz.prog 7 #[c.v] W (fun e w'=>e= .returned (.bool G)∧Below W.heap.size W w')from fun W hb=>hG▸great_calls c (hc.keep (Keep.of_below hb)));clear hb1 hk1 hc hr hb hG;simp only[SCf.v]at*;cases G
 ·go_enter Tryz.func3,Tryz.ntmps3;go_upto_region 1 with (fail)
  clear hw1;go_upto_region 2 with (first|(go_at_call 6;go_must (with_reducible refine HHD.out.mono ?_);go_must (rintro e w2 ⟨rfl,hb2⟩);go_must (obtain⟨b0,b1,b2,b3,b4⟩:=cfbox_at HK1.out hb2);have HB12:=am hb2;have HB2:=am (HB1.out.trans (hb2.mono HB1.out.size));clear hb2))
  by_cases hn:200<n
  ·have d1:decide (200<(n:Int))=true:=decide_eq_true (by omega);have d1':decide (200<n)=true:=decide_eq_true hn
   go_wp2_with (first|(go_at_call 7;go_must (with_reducible refine(HGR.out w2 HB2.out).mono ?_);go_must (rintro e w3 ⟨rfl,hb3⟩);have HB3:=am (HB2.out.trans (hb3.mono HB2.out.size));clear hb3))
   go_ret;exact⟨rfl,HB3.out⟩
  ·have d1:decide (200<(n:Int))=false:=decide_eq_false (by omega);have d1':decide (200<n)=false:=decide_eq_false hn;go_upto_region 5 with (first|(go_at_call 7;go_must (with_reducible refine(HGR.out w2 HB2.out).mono ?_);go_must (rintro e w3 ⟨rfl,hb3⟩);go_must (obtain⟨c0,c1,c2,c3,c4⟩:=cfbox_at HK1.out (HB12.out.trans (hb3.mono HB12.out.size)));have HB3:=am (HB2.out.trans (hb3.mono HB2.out.size));clear hb3))
   obtain⟨cpv,hcpv⟩:∃v,a1%70-2=v:=⟨_,rfl⟩;obtain⟨w4,hw4⟩:∃w4,w3.alloc (.cells #[.slice c.lps.A c.lps.n c.lps.c,.slice c.pgs.A c.pgs.n c.pgs.c,.int .i64 c.la,.int .i64 c.en,.int .i64 cpv] TCf)=w4:=⟨_,rfl⟩;obtain⟨d,hd⟩:∃d:SCf,d=⟨c.lps,c.pgs,c.la,c.en,cpv⟩:=⟨_,rfl⟩;obtain⟨df,hdf⟩:∃df:Cf,df=⟨cf.lps,cf.pgs,cf.la,cf.en,cpv⟩:=⟨_,rfl⟩;have hb34:Below w3.heap.size w3 w4:=hw4▸below_alloc (Below.refl _ _) _;have hk4:w4.heap[w3.heap.size]?=some (.cells (cf5 d) TCf (0,0)):=by rw[←hw4,hd];exact World.alloc_heap_new _ _
   obtain⟨e0,e1,e2,e3,e4⟩:=cfbox_at hk4 (Below.refl _ _);have HK4:=am hk4;have HB4:=am (HB3.out.trans (hb34.mono HB3.out.size));have HCD:=am (show∀W,Below w.heap.size w W→CfAt MZ W d df from fun W hb=>by
    obtain⟨p1,p2,p3,p4,_⟩:=HCF.out W hb;rw[hd,hdf];exact⟨p1,p2,p3,p4,rfl⟩)
   have HSM:=am (show CfSm df from by
    obtain⟨p1,p2,p3,p4⟩:=gre_sm HG.out;rw[hdf];exact⟨p1,p2,p3,p4⟩)
   obtain⟨v,hv⟩:∃v,chk df=v:=⟨_,rfl⟩;have HV:=am hv;have HCK:=am (show∀W,Below w.heap.size w W→Calls Tryz.prog 8 #[d.v] W (fun e w'=>e= .returned (.int .i64 v)∧Below W.heap.size W w')from fun W hb=>hv▸rcheck_calls d (HCD.out W hb) HSM.out);have HQU:=am (show∀W,Below w.heap.size w W→Calls Tryz.prog 9 #[d.v] W (fun e w'=>QRes df W w' e)from fun W hb=>quick_calls d (HCD.out W hb));obtain⟨wk,hwk⟩:∃wk:Nat,a2%8+1=(wk:Int):=⟨(a2%8+1).toNat,by omega⟩;obtain⟨lim,hlim⟩:∃lim,(IntKind.i64.wrap a4).tmod 25=lim:=⟨_,rfl⟩
   have hlim2:lim=a4%25:=by rw[←hlim,IntWalk.i64_in _ (by omega),Int.tmod_eq_emod_of_nonneg h4.1]
   have HWK:=am (show 1≤wk∧wk≤8 by omega);have HLIM:=am (show 0≤lim∧lim≤24 by omega);clear hlim2;subst hlim;have HPK:=am (show∀W,Below w.heap.size w W→Calls Tryz.prog 11 #[.slice A n cc,.int .i64 wk] W (fun e w'=>∃h:SH,e= .returned (.slice h.A h.n h.c)∧Rd (Kd.int .i64) MZ w' h (l.map fun x=>x%(wk:Int))∧Below W.heap.size W w')from
    fun W hb=>picks_calls (MZ_lt W) (HR.out.below hb) HBY.out (by omega) wk (by have:=HWK.out;omega))
   have HPL:=am (show(l.map fun x=>x%(wk:Int)).length≤1000∧∀p∈l.map fun x=>x%(wk:Int),0≤p∧p<wk from by
    refine⟨by rw[List.length_map];have h9:n=l.length:=HR.out.len;omega,fun p hp=> ?_⟩;obtain⟨x,hx,rfl⟩:=List.mem_map.1 hp;have:=HWK.out;exact⟨Int.emod_nonneg _ (by omega),Int.emod_lt_of_pos _ (by omega)⟩)
   have HW4:=am hw4;have HCPV:=am hcpv;have HDD:=am hd;have HDL:=am (show d.lps=c.lps∧d.pgs=c.pgs∧d.la=c.la∧d.en=c.en∧d.cp=cpv by subst hd;exact⟨rfl,rfl,rfl,rfl,rfl⟩);clear hb34 hk4 hw4 hcpv hd hdf hv;go_upto_region 7 with (fail)
   rw[HCPV.out,HW4.out];clear c0 c1 c2 c3 c4;simp only[SCf.v]at HCK HQU;rw[hwk];clear hwk;by_cases hv0:v=0
   ·subst hv0
    go_cut [47] (fun v wx=>Aside0 (QCut df w4 v wx))
    case first=>
     go_wp2_with (first
      |(go_at_call 8;go_must (with_reducible refine(HCK.out w4 HB4.out).mono ?_);go_must (rintro e w5 ⟨rfl,hbb⟩);go_must (have hbc:=hbb);go_must (obtain⟨f0,f1,f2,f3,f4⟩:=cfbox_at HK4.out hbc);have HX5:=am hbc;have HB5:=am (HB4.out.trans (hbb.mono HB4.out.size));clear hbb hbc)
      |(go_at_call 9;go_must (with_reducible refine(HQU.out w5 HB5.out).mono ?_);go_must (rintro e w6 ⟨⟨b,rfl,hq⟩,hbb⟩);have HQ6:=am hq;have HX6:=am (HX5.out.trans (hbb.mono HX5.out.size));clear hbb hq))
     go_meet;exact⟨⟨b,rfl,HQ6.out⟩,HX6.out⟩
    case rest=>
    obtain⟨⟨b,rfl,hq⟩,hbx⟩:=hcut.out;have HXC:=am hbx;have HBC:=am (HB4.out.trans (hbx.mono HB4.out.size));cases b
    ·clear hq hbx
     go_wp2_with (fail)
     go_ret;exact⟨rfl,HBC.out⟩
    ·obtain⟨_,q2,q3⟩:=hq rfl;obtain⟨hok,_⟩:=cfOk_of q2 q3;obtain⟨f0,f1,f2,f3,f4⟩:=cfbox_at HK4.out hbx;clear hq hbx q3
     have HPR:=am (show∀(W:World) (ph:SH),Below w.heap.size w W→Rd (Kd.int .i64) MZ W ph (l.map fun x=>x%(wk:Int))→Calls Tryz.prog 10 #[d.v,.int .i64 wk,.slice ph.A ph.n ph.c,.int .i64 ((IntKind.i64.wrap a4).tmod 25)] W (fun r w'=>∃th lh:SH,r= .returned (.tuple #[.slice th.A th.n th.c,.slice lh.A lh.n lh.c,.int .i64 (df.par ((IntKind.i64.wrap a4).tmod 25)).2])∧EvssAt MZ w' th (df.par ((IntKind.i64.wrap a4).tmod 25)).1.tr∧LpsAt MZ w' lh (df.par ((IntKind.i64.wrap a4).tmod 25)).1.lps∧Below W.heap.size W w')from fun W ph hb hp=>
      parRun_calls (MZ_lt W) d hok (HCD.out W hb) HSM.out q2 wk HWK.out.1 (by have:=HWK.out.2;omega) ph _ HPL.out.1 HPL.out.2 hp ((IntKind.i64.wrap a4).tmod 25) HLIM.out.1 (by have:=HLIM.out.2;omega))
     have HOK:=am hok;have HSEQ:=am (show∀(W:World) (m:Nat),m≤2000→Below w.heap.size w W→Calls Tryz.prog 13 #[d.v,.int .i64 m] W (fun r w'=>∃th lh:SH,r= .returned (.tuple #[.slice th.A th.n th.c,.slice lh.A lh.n lh.c,.int .i64 (df.seqErr m)])∧EvssAt MZ w' th (df.seq m).tr∧LpsAt MZ w' lh (df.seq m).lps∧Below W.heap.size W w')from fun W m hm hb=>
      seqRun_calls (MZ_lt W) d hok (HCD.out W hb) HSM.out q2 m hm)
     simp only[SCf.v]at HPR HSEQ;clear hok q2 e0 e1 e2 e3 e4;go_upto_region 9 with (fail)
     go_region_held3 (fun w'=>w'.cell? ⟨w3.heap.size,0,none⟩=some (.slice d.lps.A d.lps.n d.lps.c)∧w'.cell? ⟨w3.heap.size,1,none⟩=some (.slice d.pgs.A d.pgs.n d.pgs.c)∧w'.cell? ⟨w3.heap.size,2,none⟩=some (.int .i64 d.la)∧w'.cell? ⟨w3.heap.size,3,none⟩=some (.int .i64 d.en)∧w'.cell? ⟨w3.heap.size,4,none⟩=some (.int .i64 d.cp)) (exact⟨by assumption,by assumption,by assumption,by assumption,by assumption⟩)
      (first
       |(go_at_call 11;(with_reducible refine(HPK.out wc.drew (HBC.out.trans ((below_drew (Below.refl _ _)).mono HBC.out.size))).mono ?_);rintro e w7 ⟨ph,rfl,hp,hb7⟩;have hbz:=(below_drew (Below.refl wc.heap.size wc)).trans hb7;obtain⟨g0,g1,g2,g3,g4⟩:=cfbox_at HK4.out (HXC.out.trans (hbz.mono HXC.out.size));have HB7:=am (HBC.out.trans (hbz.mono HBC.out.size));have HX7:=am (HXC.out.trans (hbz.mono HXC.out.size));have HP7:=am hp;clear hb7 hp hbz)
       |(go_at_call 10;(with_reducible refine(HPR.out w7 ph HB7.out HP7.out).mono ?_);rintro e w8 ⟨ta,lp,rfl,hta,hlp,hb8⟩;obtain⟨k0,k1,k2,k3,k4⟩:=cfbox_at HK4.out (HX7.out.trans (hb8.mono HX7.out.size));have HB8:=am (HB7.out.trans (hb8.mono HB7.out.size));have HX8:=am (HX7.out.trans (hb8.mono HX7.out.size));have HT8:=am hta;clear hb8 hta hlp))
     have hsm:=HOK.out.small (lim:=((IntKind.i64.wrap a4).tmod 25)) (by have:=HLIM.out.2;omega);obtain⟨m,hm⟩:∃m,(df.par ((IntKind.i64.wrap a4).tmod 25)).1.tr.flatten.length=m:=⟨_,rfl⟩;have HM:=am hm;have HCM:=am (hm▸commits_calls HT8.out (MZ_lt w8) hsm.1 hsm.2);have hm6:m≤1000000:=by have:=hsm.2;omega
     clear hsm hm f0 f1 f2 f3 f4;go_upto_region 11 with (first|(go_at_call 12;go_must (with_reducible refine HCM.out.mono ?_);go_must (rintro e w9 ⟨rfl,hbb⟩);go_must (have hbc:=HX8.out.trans (hbb.mono HX8.out.size));go_must (obtain⟨n0,n1,n2,n3,n4⟩:=cfbox_at HK4.out hbc);have HX9:=am hbc;have HB9:=am (HB8.out.trans (hbb.mono HB8.out.size));have HT9:=am (HT8.out.keep (Keep.of_below hbb));clear hbb hbc))
     have r0:decide ((m:Int)<0)=false:=decide_eq_false (by omega);have r1:decide (0≤(m:Int))=true:=decide_eq_true (by omega);by_cases hbig:2000<m+10
     ·have r2:decide (2000<(m:Int)+10)=true:=decide_eq_true (by omega);have r2':decide (2000<m+10)=true:=decide_eq_true hbig
      go_wp2_with (fail)
      go_ret;exact⟨rfl,HB9.out⟩
     ·have r2:decide (2000<(m:Int)+10)=false:=decide_eq_false (by omega);have r2':decide (2000<m+10)=false:=decide_eq_false hbig;have HSQ:=am (show Calls Tryz.prog 13 #[.agg #[.slice d.lps.A d.lps.n d.lps.c,.slice d.pgs.A d.pgs.n d.pgs.c,.int .i64 d.la,.int .i64 d.en,.int .i64 d.cp],.int .i64 ((m:Int)+10)] w9 (fun r w'=>∃th lh:SH,r= .returned (.tuple #[.slice th.A th.n th.c,.slice lh.A lh.n lh.c,.int .i64 (df.seqErr (m+10))])∧EvssAt MZ w' th (df.seq (m+10)).tr∧LpsAt MZ w' lh (df.seq (m+10)).lps∧Below w9.heap.size w9 w')from HSEQ.out w9 (m+10) (by omega) HB9.out)
      have HPX:=am (show Pre (df.par ((IntKind.i64.wrap a4).tmod 25)).1.tr (df.seq (m+10)).tr from by
       have h5:=(HOK.out.same (lim:=((IntKind.i64.wrap a4).tmod 25)) (by have:=HLIM.out.2;omega) (by rw[HM.out];omega)).2.2 10;rw[HM.out]at h5;exact h5)
      go_wp2_with (first
       |(go_at_call 13;go_must (with_reducible refine HSQ.out.mono ?_);go_must (rintro e w10 ⟨tb,lb,rfl,htb,_,hbb⟩);go_must (have hbc:=HX9.out.trans (hbb.mono HX9.out.size));go_must (obtain⟨y0,y1,y2,y3,y4⟩:=cfbox_at HK4.out hbc);have HX10:=am hbc;have HB10:=am (HB9.out.trans (hbb.mono HB9.out.size));have HTA:=am (HT9.out.keep (Keep.of_below hbb));have HTB:=am htb;clear hbb hbc htb)
       |(go_at_call 8;go_must (with_reducible refine(HCK.out w10 HB10.out).mono ?_);go_must (rintro e w11 ⟨rfl,hbb⟩);go_must (have hbc:=HX10.out.trans (hbb.mono HX10.out.size));go_must (obtain⟨z0,z1,z2,z3,z4⟩:=cfbox_at HK4.out hbc);have HX11:=am hbc;have HB11:=am (HB10.out.trans (hbb.mono HB10.out.size));have HTA2:=am (HTA.out.keep (Keep.of_below hbb));have HTB2:=am (HTB.out.keep (Keep.of_below hbb));clear hbb hbc)
       |(go_at_call 14;go_must (with_reducible refine(prefix_calls HTA2.out HTB2.out HPX.out).mono ?_);go_must (rintro e w12 ⟨rfl,hbb⟩);have HB12':=am (HB11.out.trans (hbb.mono HB11.out.size));clear hbb))
      go_ret;exact⟨rfl,HB12'.out⟩
   ·have hz:(v != 0)=true:=bne_iff_ne.2 hv0;have hz2:(v==0)=false:=beq_eq_false_iff_ne.2 hv0;have HPR:=am (show∀(W:World) (ph:SH),Below w.heap.size w W→Calls Tryz.prog 10 #[d.v,.int .i64 wk,.slice ph.A ph.n ph.c,.int .i64 ((IntKind.i64.wrap a4).tmod 25)] W (fun r w'=>r= .returned (.tuple #[.slice none 0 0,.slice none 0 0,.int .i64 v])∧Below W.heap.size W w')from fun W ph hb=>HV.out▸parRun_err d (HCD.out W hb) HSM.out (by rw[HV.out];exact hv0) wk _ ph)
    have HSEQ:=am (show∀(W:World),Below w.heap.size w W→Calls Tryz.prog 13 #[d.v,.int .i64 10] W (fun r w'=>r= .returned (.tuple #[.slice none 0 0,.slice none 0 0,.int .i64 v])∧Below W.heap.size W w')from fun W hb=>HV.out▸seqRun_err d (HCD.out W hb) HSM.out (by rw[HV.out];exact hv0) 10);have HCM:=am (show∀(W:World),Calls Tryz.prog 12 #[.slice none 0 0] W (fun r w'=>r= .returned (.int .i64 0)∧Below W.heap.size W w')from fun W=>commits_calls (nil_evss W) (MZ_lt W) (by simp) (by simp));simp only[SCf.v]at HPR HSEQ;go_upto_region 9 with (first
      |(go_at_call 8;go_must (with_reducible refine(HCK.out w4 HB4.out).mono ?_);go_must (rintro e w5 ⟨rfl,hbb⟩);go_must (have hbc:=hbb);go_must (obtain⟨f0,f1,f2,f3,f4⟩:=cfbox_at HK4.out hbc);have HX5:=am hbc;have HB5:=am (HB4.out.trans (hbb.mono HB4.out.size));clear hbb hbc))
    clear e0 e1 e2 e3 e4
    go_region_held3 (fun w'=>w'.cell? ⟨w3.heap.size,0,none⟩=some (.slice d.lps.A d.lps.n d.lps.c)∧w'.cell? ⟨w3.heap.size,1,none⟩=some (.slice d.pgs.A d.pgs.n d.pgs.c)∧w'.cell? ⟨w3.heap.size,2,none⟩=some (.int .i64 d.la)∧w'.cell? ⟨w3.heap.size,3,none⟩=some (.int .i64 d.en)∧w'.cell? ⟨w3.heap.size,4,none⟩=some (.int .i64 d.cp)) (exact⟨by assumption,by assumption,by assumption,by assumption,by assumption⟩)
     (first
      |(go_at_call 11;(with_reducible refine(HPK.out w5.drew (HB5.out.trans ((below_drew (Below.refl _ _)).mono HB5.out.size))).mono ?_);rintro e w7 ⟨ph,rfl,hp,hb7⟩;have hbz:=(below_drew (Below.refl w5.heap.size w5)).trans hb7;obtain⟨g0,g1,g2,g3,g4⟩:=cfbox_at HK4.out (HX5.out.trans (hbz.mono HX5.out.size));have HB7:=am (HB5.out.trans (hbz.mono HB5.out.size));have HX7:=am (HX5.out.trans (hbz.mono HX5.out.size));clear hb7 hp hbz)
      |(go_at_call 10;(with_reducible refine(HPR.out w7 ph HB7.out).mono ?_);rintro e w8 ⟨rfl,hb8⟩;obtain⟨k0,k1,k2,k3,k4⟩:=cfbox_at HK4.out (HX7.out.trans (hb8.mono HX7.out.size));have HB8:=am (HB7.out.trans (hb8.mono HB7.out.size));have HX8:=am (HX7.out.trans (hb8.mono HX7.out.size));clear hb8))
    clear f0 f1 f2 f3 f4
    go_wp2_with (first
     |(go_at_call 12;go_must (with_reducible refine(HCM.out w8).mono ?_);go_must (rintro e w9 ⟨rfl,hbb⟩);go_must (have hbc:=HX8.out.trans (hbb.mono HX8.out.size));go_must (obtain⟨n0,n1,n2,n3,n4⟩:=cfbox_at HK4.out hbc);have HX9:=am hbc;have HB9:=am (HB8.out.trans (hbb.mono HB8.out.size));clear hbb hbc)
     |(go_at_call 13;go_must (with_reducible refine(HSEQ.out w9 HB9.out).mono ?_);go_must (rintro e w10 ⟨rfl,hbb⟩);go_must (have hbc:=HX9.out.trans (hbb.mono HX9.out.size));go_must (obtain⟨y0,y1,y2,y3,y4⟩:=cfbox_at HK4.out hbc);have HX10:=am hbc;have HB10:=am (HB9.out.trans (hbb.mono HB9.out.size));clear hbb hbc)
     |(go_at_call 8;first
      |((with_reducible refine(HCK.out w10 HB10.out).mono ?_);go_must (rintro e w11 ⟨rfl,hbb⟩);go_must (have hbc:=HX10.out.trans (hbb.mono HX10.out.size));go_must (obtain⟨z0,z1,z2,z3,z4⟩:=cfbox_at HK4.out hbc);have HX11:=am hbc;have HB11:=am (HB10.out.trans (hbb.mono HB10.out.size));clear hbb hbc)
      |((with_reducible refine(HCK.out w11 HB11.out).mono ?_);go_must (rintro e w12 ⟨rfl,hbb⟩);go_must (have hbc:=HX11.out.trans (hbb.mono HX11.out.size));go_must (obtain⟨j0,j1,j2,j3,j4⟩:=cfbox_at HK4.out hbc);have HX12:=am hbc;have HB12:=am (HB11.out.trans (hbb.mono HB11.out.size));clear hbb hbc)))
    go_ret;exact⟨rfl,HB12.out⟩
 ·go_enter Tryz.func3,Tryz.ntmps3;go_upto_region 1 with (fail)
  clear hw1
  go_wp2_with (first
   |(go_at_call 6;go_must (with_reducible refine HHD.out.mono ?_);go_must (rintro e w2 ⟨rfl,hb2⟩);go_must (obtain⟨b0,b1,b2,b3,b4⟩:=cfbox_at HK1.out hb2);have HB2:=am (HB1.out.trans (hb2.mono HB1.out.size));clear hb2)
   |(go_at_call 7;go_must (with_reducible refine(HGR.out w2 HB2.out).mono ?_);go_must (rintro e w3 ⟨rfl,hb3⟩);have HB3:=am (HB2.out.trans (hb3.mono HB2.out.size));clear hb3))
  go_ret;exact⟨rfl,HB3.out⟩
end Go.Proofs.YtfnimdhghglanaaGreat.Hand
end
section
namespace Go.Proofs.YtfnimdhghglanaaGreat.topErrorPrefix
open Go.ChangeShapes Go.WideShapes Go.ChangeAt Go.RowKit
open Go.ChangeMaps (open_string shut_string)
open Go.Proofs.YtfnimdhghglanaaGreatW.PrintWords Go.Proofs.YtfnimdhghglanaaGreatW.PrintLast
theorem own:ownKnob Tryz.prog.godebug=none:=by kernel_rfl
theorem laidOut:laidOutB Tryz.prog=true:=by kernel_rfl
theorem rng_u8 {n:Int} (h:(Lit.int .u8 n).wf=true):0≤n∧n≤255:=by
 simp[Lit.wf,IntKind.min,IntKind.max,IntKind.signed,IntKind.bits]at h;constructor<;>omega
theorem open_u8 {H:Type} {enc:TypeId×Value→H} {W:World} {base:Nat} {spare:Nat→Bool} {held:Bool} {fuel:Nat} {cs:List Value} {x:DataW H×List MemPlace} (hl:cs.length=1) (h:DataW.trod enc Tryz.prog W base spare held fuel 5 cs=some x):∃n:Int,(0≤n∧n≤255)∧cs=(fun n:Int=>[Value.int .u8 n]) n:=by
 obtain⟨n0,e0,_,w0⟩:=DataW.trod_int Tryz.underlying5 h;exact⟨n0,rng_u8 w0,e0⟩
theorem lifted (os:Os) (started:os.Started) (H:Type) (enc:TypeId×Value→H):
  ReturnsInHanded {} Tryz.checked os 3 .any (Rows.topErrorPrefixSpec.pre6 enc Tryz.prog Tryz.f3 Rows.topErrorPrefixRow.domain false) (Rows.topErrorPrefixSpec.post enc Tryz.prog Tryz.f3 false true false false):=by
 refine returnsInHanded_of_change_sized (C:=Tryz.checked) own started (by kernel_rfl) Tryz.func3
  (ChangeSpec.witness6 (enc:=enc) (C:=Tryz.checked) false ⟨#[], #[.agg #[.slice none 0 0,.slice none 0 0,.int .i64 0,.int .i64 0,.int .i64 0],.int .u8 0,.int .u8 0,.slice none 0 0,.int .u8 0],[]⟩ 8 (by kernel_rfl) (by kernel_rfl) (by kernel_rfl) (by kernel_rfl)) ?_
 intro W base args ds gs before hval0 hW hcnd hsz0 _;have hval:∀(j:Nat) t v,Tryz.f3.params[j]?=some t→args[j]?=some v→Value.okWide Tryz.prog W .any base t v:=hval0;have hW':=hW;obtain⟨p,q,hA0,hV,rfl,hfz,hnd⟩:=hW;have hA:DataW.TrodAll enc Tryz.prog W 0 (fun _=>true) true Tryz.f3.params.toList args.toList ds p:=hA0;rw[Tryz.params3]at hA hval;obtain⟨v0,vs0,d0,ds0,p0,q0,hargs,rfl,rfl,h0,r0⟩:=trodAll_cons hA;obtain⟨v1,vs1,d1,ds1,p1,q1,rfl,rfl,rfl,h1,r1⟩:=trodAll_cons r0;obtain⟨v2,vs2,d2,ds2,p2,q2,rfl,rfl,rfl,h2,r2⟩:=trodAll_cons r1;obtain⟨v3,vs3,d3,ds3,p3,q3,rfl,rfl,rfl,h3,r3⟩:=trodAll_cons r2
 obtain⟨v4,vs4,d4,ds4,p4,q4,rfl,rfl,rfl,h4,r4⟩:=trodAll_cons r3;obtain⟨rfl,rfl,rfl⟩:=trodAll_nil r4;obtain rfl:args= #[v0,v1,v2,v3,v4]:=by cases args;simp_all
 obtain⟨rfl,rfl⟩:=trodVars_none hV;obtain⟨cs,rfl,hcs⟩:=okWide_struct Tryz.underlying25 (hval 0 25 v0 rfl rfl);have k0:=h0;have lt0:∀x∈p0,x.block<W.heap.size:=by obtain⟨m,hm⟩:=k0;exact DataW.trod_lt m _ _ _ hm
 obtain⟨c,cf,hcc,hcf⟩:∃(c:Hand.SCf) (cf:Hand.Cf),Value.agg cs=c.v∧Hand.CfAt Hand.MZ W c cf:=by
  obtain⟨fuel,hf⟩:=h0;have h5:cs.toList.length=5:=by
   rw[Array.length_toList,hcs];kernel_rfl
  obtain⟨c,cf,e,h⟩:=Hand.open_cfg (fuel:=fuel) (cs:=cs.toList) h5 hf;refine⟨c,cf,?_,h⟩;unfold Hand.SCf.v;rw[←e]
 obtain⟨a1,rfl,rfl,rfl,w1⟩:=open_int Tryz.underlying5 (hval 1 5 v1 rfl rfl) h1;obtain⟨a2,rfl,rfl,rfl,w2⟩:=open_int Tryz.underlying5 (hval 2 5 v2 rfl rfl) h2;obtain⟨a4,rfl,rfl,rfl,w4⟩:=open_int Tryz.underlying5 (hval 4 5 v4 rfl rfl) h4;obtain⟨a3,len3,cap3,rfl⟩:=okWide_slice Tryz.underlying26 (hval 3 26 v3 rfl rfl);have k3:=h3;have lt3:∀x∈p3,x.block<W.heap.size:=by obtain⟨m,hm⟩:=k3;exact DataW.trod_lt m _ _ _ hm
 obtain⟨l,hrd,hby⟩:∃l:List Int,Hand.Rd (Kd.int .u8) Hand.MZ W ⟨a3,len3,cap3⟩ l∧∀x∈l,0≤x∧x≤255:=by
  obtain⟨fuel,hf⟩:=h3;obtain⟨s,l,e,hr,hb⟩:=Hand.open_row (sz:=1) (en:=fun n:Int=>[Value.int .u8 n]) (hl:=fun _=>rfl) (h1:=fun _ u hu=>by simp at hu;subst hu;rfl) (P:=fun n:Int=>0≤n∧n≤255) Tryz.underlying26 (by kernel_rfl) open_u8 hf;simp[Value.cells]at e;obtain⟨rfl,rfl,rfl⟩:=e;exact⟨l,hr,hb⟩
 clear hA0 hval0 hsz0;have hcl:=Hand.errorPrefix_calls c a1 a2 a4 (rng_u8 w1) (rng_u8 w2) (rng_u8 w4) W hcf hrd hby;rw[←hcc]at hcl;refine hcl.mono fun e W' ⟨he,bel⟩=> ?_;subst he
 exact⟨_,rfl,_,_,_,[],_,[],hW',trodAll_mk1 (shut_bool Tryz.underlying4 _),(trodAll_cons_mk (Below.trod laidOut (by kernel_rfl) (of_decide_eq_true (by kernel_rfl)) k0 bel lt0) (trodAll_cons_mk (shut_int Tryz.underlying5 w1) (trodAll_cons_mk (shut_int Tryz.underlying5 w2) (trodAll_cons_mk (Below.trod laidOut (by kernel_rfl) (of_decide_eq_true (by kernel_rfl)) k3 bel lt3) (trodAll_cons_mk (shut_int Tryz.underlying5 w4) trodAll_mk0))))),rfl,bel.frame _,fun h=>by cases h⟩
theorem over:Rows.topErrorPrefixRow.holds Tryz.pinned (OpenSpec.ofChange Rows.topErrorPrefixSpec):=
 OpenClaim.holds_of_wide 3 Tryz.f3 rfl rfl rfl rfl rfl rfl rfl ⟨rfl,rfl,rfl,rfl,rfl⟩ rfl rfl rfl rfl rfl (by kernel_rfl) Tryz.func3 (by kernel_rfl)
  (of_decide_eq_true (by kernel_rfl)) (by unfold Func.isWrapper;first|(rw[if_pos (by decide+kernel)];kernel_rfl)|(rw[if_neg (by decide+kernel)];exact⟨rfl,rfl⟩))
  (fun os started H enc _=>lifted os started H enc)
theorem proved:Rows.TopErrorPrefixSaid:=over
#print axioms proved
end Go.Proofs.YtfnimdhghglanaaGreat.topErrorPrefix
namespace Go.Proofs.YtfnimdhghglanaaGreat
theorem topErrorPrefix_holds:Rows.TopErrorPrefixSaid:=topErrorPrefix.proved
end Go.Proofs.YtfnimdhghglanaaGreat
end
