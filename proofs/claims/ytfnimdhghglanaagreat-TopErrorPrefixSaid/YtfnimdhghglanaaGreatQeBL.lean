/- TopErrorPrefix, part 38 of 41; no condition. (Printed from the session's own texts: what is not used left out, spaces spared.) -/
import Derived.Test.YtfnimdhghglanaaGreatQeAZ
import Derived.Test.YtfnimdhghglanaaGreatQeBC
import Derived.Test.YtfnimdhghglanaaGreatQeBD
import Derived.Test.YtfnimdhghglanaaGreatQeBK
set_option maxRecDepth 100000
set_option maxHeartbeats 8000000
set_option linter.unusedVariables false
set_option linter.unusedSimpArgs false
section
namespace Go.Proofs.YtfnimdhghglanaaGreat.Hand
open Go.RowKit Go.Shelf Go.Proofs.YtfnimdhghglanaaGreatW.PrintWords Go.Proofs.YtfnimdhghglanaaGreatW.PrintLast Go.Proofs.YtfnimdhghglanaaGreatW.PrintMore
attribute [local go_sem] max2_int min2_int max_two min_two max_three min_three max_four min_four
structure SqI (N P:Nat) (C:List (List Int)) (s:Sq):Prop where
 k:KInv N P C s.lps s.pend
 nt:s.tr.length=N
 cn:C.length=s.n
 tl:∀t∈s.tr,t.length≤s.n
 pl:s.pend.length≤64+16*s.n
theorem SqI.step {N P:Nat} {la:Int} {pgs:List (List OpC)} {C:List (List Int)} {s:Sq} {e:Ev} {p:List Ev} (h:SqI N P C s) (hP:pgs.length=P) (hP8:P≤8) (hp:∀p∈pgs,∀o∈p,OpV N P la o) (hpl:∀p∈pgs,p.length≤16) (he:s.pend=e::p) (hn:s.n≤2000):
  ∃lp,CmPre pgs N s e p lp∧SqI N P (e.k::C) (s.commit pgs)∧(s.commit pgs).n=s.n+1:=by
 have heQ:e∈s.pend:=he▸List.mem_cons_self;have hr:=h.k.rng e heQ;have hnl:=h.k.nl;have hcn:=h.cn;have hlt:e.lp.toNat<s.lps.length:=by omega
 obtain⟨lp,hlp⟩:∃lp,s.lps[e.lp.toNat]?=some lp:=⟨_,List.getElem?_eq_getElem hlt⟩;have hlm:lp∈s.lps:=List.mem_of_getElem? hlp;have st:=h.k.step (la:=la) (R:=p) (he▸List.Perm.refl _) hP hp hlp (by omega);have hek:=h.k.len e heQ;have htm:∀k∈lp.tms,k.length≤C.length+2:=fun k hk=>by
  rcases h.k.tm lp hlm k hk with h1|⟨_,_,h1⟩
  ·rw[h1];simp
  ·exact h1
 have hpl2:=h.pl;rw[he,List.length_cons]at hpl2;have hfew:=st.ex.few;have hg:s.lps.getD e.lp.toNat Lp.zero=lp:=by rw[List.getD_eq_getElem?_getD,hlp];rfl
 have hcm:s.commit pgs={tr:=s.tr.set e.lp.toNat (s.tr.getD e.lp.toNat []++[e]),lps:=s.lps.set e.lp.toNat (exec pgs lp e).1,pend:=sortC ((p++(exec pgs lp e).2.1).filter (fun f=> !(exec pgs lp e).2.2.1.contains f.k)),n:=s.n+1,ov:=s.ov||(exec pgs lp e).2.2.2}:=by
  unfold Sq.commit;rw[he];simp only[hg]
 refine⟨lp,⟨he,hlp,hr,h.nt,hnl,⟨hP▸h.k.lps lp hlm,by omega,h.k.ar e heQ,fun q hq=>by have:=htm _ (List.mem_map_of_mem hq);omega⟩,⟨by omega,fun l hl=>⟨by have:=hpl l hl;omega,fun x hx=>(hp l hl x hx).ok⟩⟩,⟨hfew.1,fun f hf=> ?_,hfew.2,fun k hk=> ?_⟩,by omega,fun t ht=>by have:=h.tl t ht;omega,fun f hf=> ?_,st.nd,by omega⟩,?_,?_⟩
 ·obtain⟨j,hj⟩:=st.ex.cr f hf;rw[hj];simp only[List.length_append,List.length_cons,List.length_nil];omega
 ·rcases st.ex.tm k (List.mem_append.2 (.inr hk))with h1|h1|⟨j,h1⟩
  ·rw[h1];simp
  ·have:=htm k h1;omega
  ·rw[h1];simp only[List.length_append,List.length_cons,List.length_nil];omega
 ·have:=h.k.len f (he▸List.mem_cons_of_mem _ hf);omega
 ·rw[hcm];refine⟨st.inv.perm (sortC_perm _).symm (.refl _),by simp only[List.length_set];exact h.nt,by simp only[List.length_cons];omega,fun t ht=> ?_,?_⟩
  ·simp only at ht ⊢;rcases List.mem_or_eq_of_mem_set ht with h1|rfl
   ·have:=h.tl t h1;omega
   ·have h2:e.lp.toNat<s.tr.length:=by have:=h.nt;omega
    have h3:=h.tl _ (List.getElem_mem h2);rw[List.getD_eq_getElem?_getD,List.getElem?_eq_getElem h2];simp only[Option.getD_some,List.length_append,List.length_cons,List.length_nil];omega
  ·simp only;rw[(sortC_perm _).length_eq];refine Nat.le_trans (List.length_filter_le _ _) ?_;rw[List.length_append];omega
 ·rw[hcm]
theorem CfOk.sqi {c:Cf} {N P:Nat} (h:CfOk c N P):SqI N P [] c.s0:=by
 refine⟨h.kinv.perm (sortC_perm _).symm (.refl _),by simp only[Cf.s0,List.length_replicate];exact h.n,rfl,fun t ht=> ?_,?_⟩
 ·simp only[Cf.s0]at ht;rw[(List.mem_replicate.1 ht).2];simp
 ·simp only[Cf.s0];rw[(sortC_perm _).length_eq];have:=evs0_len h;omega
structure SeqW (Mt:Nat→Prop) (B:Nat) (w:World) (b n g cg gl cl P:Nat) (c:SCf) (cf:Cf) (s:Sq) (lim:Nat) (k:Nat) (wr:World) (s':Sq):Prop where
 at_:∃(hs:List SH) (ss:List SLp) (ph:SH),SimAt Mt B wr b n g cg gl cl c hs ss ph s'
 inv:∃C,SqI n P C s'
 go:Sq.run cf.pgs cf.en lim s=Sq.run cf.pgs cf.en (k-1) s'
 fuel:s'.n+k=lim+1
 one:1≤k
 bel:Below B w wr
theorem run_ready {pgs:List (List OpC)} {en:Int} {k:Nat} {s:Sq} (h:s.ready en=true):Sq.run pgs en (k+1) s=Sq.run pgs en k (s.commit pgs):=by
 conv=>lhs;unfold Sq.run
 rw[if_pos h]
theorem run_stop {pgs:List (List OpC)} {en:Int} {k:Nat} {s:Sq} (h:s.ready en=false):Sq.run pgs en k s=s:=by
 cases k with
 |zero=>rfl
 |succ k=>
  unfold Sq.run;rw[if_neg (by rw[h];decide)]
theorem ready_pend {en:Int} {s:Sq} (h:s.ready en=true):∃e p,s.pend=e::p:=by
 unfold Sq.ready at h
 split at h
 ·cases h
 ·exact⟨_,_,by assumption⟩
theorem simRun_calls {Mt:Nat→Prop} {B:Nat} {W w:World} {b n g cg gl cl P:Nat} {c:SCf} {cf:Cf} {hs:List SH} {ss:List SLp} {ph:SH} {s:Sq} {C:List (List Int)} (hok:CfOk cf n P) (h:SimAt Mt B w b n g cg gl cl c hs ss ph s) (hM:∀k,Mt k→k<B) (hW:W.heap.size=B) (hbW:Below B W w) (hpg:PgsAt Mt W c.pgs cf.pgs) (hen:c.en=cf.en) (hi:SqI n P C s) (h0:s.n=0) (lim:Nat) (hl:lim≤2000):
  Calls Tryz.prog 31 #[.pointer (some ⟨b,0,none⟩),.int .i64 lim] w fun r w'=>(∃v,r= .returned v)∧(∃(hs':List SH) (ss':List SLp) (ph':SH),SimAt Mt B w' b n g cg gl cl c hs' ss' ph' (Sq.run cf.pgs cf.en lim s))∧Below B w w':=by
 have HW0:=am (show SeqW Mt B w b n g cg gl cl P c cf s lim (lim+1) w s from⟨⟨_,_,_,h⟩,⟨_,hi⟩,rfl,by omega,by omega,Below.refl _ _⟩);have HOK:=am hok;have HM:=am hM;have HWB:=am hW;have HBW:=am hbW;have HPG:=am hpg;have HEN:=am hen;have HL:=am hl;clear hok h hM hW hbW hpg hen hi h0 hl;go_enter Tryz.func31,Tryz.ntmps31
 go_wp2_with (fail)
 go_loopg [4] (lim+1) (fun k e wr=>∃s':Sq,Aside0 (SeqW Mt B w b n g cg gl cl P c cf s lim k wr s'))
 case atStart=>exact⟨_,HW0⟩
 case round=>
  obtain⟨s',HS⟩:=hrel;obtain⟨k,hk⟩:∃k,gk=k+1:=⟨gk-1,by have:=HS.out.one;omega⟩;obtain⟨⟨hs',ss',ph',hat⟩,⟨C',hinv⟩,hgo,hfu,hone,hbel⟩:=HS.out;have x8:wr.cell? ⟨b,8,none⟩=some (.int .i64 (s'.n:Int)):=hat.cells (Below.refl _ _) 8 _ rfl;obtain⟨m,hm⟩:∃m,s'.n=m:=⟨_,rfl⟩;rw[hm]at x8 hfu;have HK:=am hk;have HAT:=am hat;have HINV:=am hinv;have HGO:=am hgo;have HMN:=am hm;have HFU:=am (show m+k=lim by omega);have HBEL:=am hbel;clear hat hinv hgo hfu hone hbel hm hk;by_cases hlt:m<lim
  ·have d1:decide ((m:Int)<(lim:Int))=true:=decide_eq_true (by omega);have d1':decide (m<lim)=true:=decide_eq_true hlt;obtain⟨k2,hk2⟩:∃k2,k=k2+1:=⟨k-1,by have:=HFU.out;omega⟩;have HK2:=am hk2;clear hk2 hlt;obtain⟨rd,hrd⟩:∃rd,s'.ready c.en=rd:=⟨_,rfl⟩;have HRD:=am (hrd▸ready_calls HAT.out);cases rd with
   |true=>
    have hrd2:s'.ready cf.en=true:=by rw[←HEN.out];exact hrd
    obtain⟨e,p,hep⟩:=ready_pend hrd2;obtain⟨lp,hcp,hinv2,hn2⟩:=HINV.out.step HOK.out.p HOK.out.p8 HOK.out.op HOK.out.pl hep (by rw[HMN.out];have:=HFU.out;have:=HL.out;omega);have HCP:=am hcp;have HI2:=am hinv2;have HN2:=am hn2;have HGO2:=am (show Sq.run cf.pgs cf.en lim s=Sq.run cf.pgs cf.en k2 (s'.commit cf.pgs)by rw[HGO.out,HK.out,Nat.add_sub_cancel,HK2.out,run_ready hrd2]);clear hcp hinv2 hn2 hrd hrd2 hep
    go_wp2_with (first
     |(go_at_call 32;go_must (with_reducible refine HRD.out.mono ?_);go_must (rintro e1 w1 ⟨rfl,hb1⟩);go_must (have HB1:=am hb1;clear hb1);go_must (have HCM:=am (commit_calls (HAT.out.more HB1.out) HM.out HWB.out (HBW.out.trans (HBEL.out.trans (HB1.out.mono (Nat.le_trans HAT.out.hb (Nat.le_of_lt (blk_lt HAT.out.blk)))))) HPG.out HCP.out)))
     |(go_at_call 57;go_must (with_reducible refine HCM.out.mono ?_);go_must (rintro e1 w2 ⟨⟨v,rfl⟩,hs2,hb2⟩);go_must (have HS2:=am hs2;have HB2:=am hb2;clear hs2 hb2)))
    go_roundg k
    ·refine⟨_,⟨⟨HS2.out,⟨_,HI2.out⟩,?_,?_,?_,?_⟩⟩⟩
     ·rw[HGO2.out,HK2.out,Nat.add_sub_cancel]
     ·rw[HN2.out,HMN.out];have:=HFU.out;omega
     ·have:=HK2.out;omega
     ·exact HBEL.out.trans ((HB1.out.mono (Nat.le_trans HAT.out.hb (Nat.le_of_lt (blk_lt HAT.out.blk)))).trans HB2.out)
    ·have:=HK.out;omega
   |false=>
    have HGO2:=am (show Sq.run cf.pgs cf.en lim s=s' by rw[HGO.out,run_stop (by rw[←HEN.out];exact hrd)]);clear hrd
    go_wp2_with (first
     |(go_at_call 32;go_must (with_reducible refine HRD.out.mono ?_);go_must (rintro e1 w1 ⟨rfl,hb1⟩);go_must (have HB1:=am hb1;clear hb1)))
    go_end0
    exact⟨⟨_,rfl⟩,⟨_,_,_,HGO2.out▸HAT.out.more HB1.out⟩,HBEL.out.trans (HB1.out.mono (Nat.le_trans HAT.out.hb (Nat.le_of_lt (blk_lt HAT.out.blk))))⟩
  ·have d1:decide ((m:Int)<(lim:Int))=false:=decide_eq_false (by omega);have d1':decide (m<lim)=false:=decide_eq_false hlt;have hk0:k=0:=by have:=HFU.out;omega
   have HGO2:=am (show Sq.run cf.pgs cf.en lim s=s' by rw[HGO.out,HK.out,hk0];rfl);clear hlt hk0
   go_wp2_with (fail)
   go_end0
   exact⟨⟨_,rfl⟩,⟨_,_,_,HGO2.out▸HAT.out⟩,HBEL.out⟩
theorem SimAt.out {Mt:Nat→Prop} {B:Nat} {w:World} {b n g cg gl cl:Nat} {c:SCf} {hs:List SH} {ss:List SLp} {ph:SH} {s:Sq} (h:SimAt Mt B w b n g cg gl cl c hs ss ph s) (hM:∀k,Mt k→k<B):EvssAt Mt w ⟨some ⟨g,0,none⟩,n,cg⟩ s.tr∧LpsAt Mt w ⟨some ⟨gl,0,none⟩,n,cl⟩ s.lps:=by
 refine⟨⟨hs,h.tab.read (fun k _ hm=> .inl (.inl hm)) (fun hm=> ?_) (fun x hx k hk hm=> ?_)⟩,⟨ss,Rd.of_R rfl h.row (fun k hk hm=> ?_),h.lps.imp fun _ _ h=>h.fresh (Keep.refl _ _) (fun k _ hm=> .inl (.inl hm))⟩⟩
 ·have:=hM g hm;have:=h.tab.row.typed.2.1;omega
 ·have:=hM k hm;have:=(h.tab.own x hx k hk).2.1;omega
 ·cases hk;have:=hM gl hm;have:=h.row.typed.2.1;omega
abbrev TCf:TypeId:=25
theorem cfbox_at {w w':World} {q:Nat} {c:SCf} (h:w.heap[q]?=some (.cells (cf5 c) TCf (0,0))) (hb:Below w.heap.size w w'):w'.cell? ⟨q,0,none⟩=some (.slice c.lps.A c.lps.n c.lps.c)∧w'.cell? ⟨q,1,none⟩=some (.slice c.pgs.A c.pgs.n c.pgs.c)∧w'.cell? ⟨q,2,none⟩=some (.int .i64 c.la)∧w'.cell? ⟨q,3,none⟩=some (.int .i64 c.en)∧w'.cell? ⟨q,4,none⟩=some (.int .i64 c.cp):=by
 have h1:=box_more hb h;refine⟨?_,?_,?_,?_,?_⟩<;>simp[World.cell?,h1]
def Cf.seqErr (cf:Cf) (lim:Nat):Int:=if (cf.seq lim).ready cf.en then 10 else if (cf.seq lim).ov then 11 else 0
theorem seqRun_calls {Mt:Nat→Prop} {w:World} (hM:∀k,Mt k→k<w.heap.size) (c:SCf) {cf:Cf} {N P:Nat} (hok:CfOk cf N P) (hc:CfAt Mt w c cf) (hs:CfSm cf) (h0:chk cf=0) (lim:Nat) (hl:lim≤2000):
  Calls Tryz.prog 13 #[c.v,.int .i64 lim] w fun r w'=>∃th lh:SH,r= .returned (.tuple #[.slice th.A th.n th.c,.slice lh.A lh.n lh.c,.int .i64 (cf.seqErr lim)])∧EvssAt Mt w' th (cf.seq lim).tr∧LpsAt Mt w' lh (cf.seq lim).lps∧Below w.heap.size w w':=by
 obtain⟨w1,hw1⟩:∃w1,w.alloc (.cells #[.slice c.lps.A c.lps.n c.lps.c,.slice c.pgs.A c.pgs.n c.pgs.c,.int .i64 c.la,.int .i64 c.en,.int .i64 c.cp] TCf)=w1:=⟨_,rfl⟩;have hb1:Below w.heap.size w w1:=hw1▸below_alloc (Below.refl _ _) _;have hk1:w1.heap[w.heap.size]?=some (.cells (cf5 c) TCf (0,0)):=by rw[←hw1];exact World.alloc_heap_new _ _
 obtain⟨a0,a1,a2,a3,a4⟩:=cfbox_at hk1 (Below.refl _ _);have HB1:=am hb1;have HK1:=am hk1;have HM:=am hM;have HCF:=am (show∀W,Below w.heap.size w W→CfAt Mt W c cf from fun W hb=>hc.keep (Keep.of_below hb));have HCK:=am (h0▸check_calls c (hc.keep (Keep.of_below hb1)) hs);have HOK:=am hok;have HL:=am hl;have HEN:=am hc.en;clear hb1 hk1 hM hc hs h0 hok hl;simp only[SCf.v]at HCK ⊢;go_enter Tryz.func13,Tryz.ntmps13;go_upto_region 1 with (fail)
 clear hw1;go_upto_region 4 with (first|(go_at_call 27;go_must (with_reducible refine HCK.out.mono ?_);go_must (rintro e w2 ⟨rfl,hb2⟩);go_must (obtain⟨b0,b1,b2,b3,b4⟩:=cfbox_at HK1.out hb2);have HB12:=am hb2;have HB2:=am (HB1.out.trans (hb2.mono HB1.out.size));clear hb2))
 have hst:=simStart_calls (w:=w2) (fun k hk=>Nat.lt_of_lt_of_le (HM.out k hk) HB2.out.size) c HOK.out (HCF.out w2 HB2.out);simp only[SCf.v]at hst;have HST:=am hst;clear hst a0 a1 a2 a3 a4;go_upto_region 5 with (first|(go_at_call 30;go_must (with_reducible refine HST.out.mono ?_);go_must (rintro e w3 ⟨b,g,cg,gl,cl,ss,ph,rfl,hs3,hb3⟩);have HS3:=am hs3;have HB3:=am hb3;clear hs3 hb3))
 have HRN:=am (simRun_calls (W:=w2) HOK.out HS3.out (fun k hk=>Nat.lt_of_lt_of_le (HM.out k hk) HB2.out.size) rfl HB3.out (HCF.out w2 HB2.out).pgs HEN.out HOK.out.sqi rfl lim HL.out);clear b0 b1 b2 b3 b4;go_upto_region 6 with (first|(go_at_call 31;go_must (with_reducible refine HRN.out.mono ?_);go_must (rintro e w4 ⟨⟨v4,rfl⟩,⟨hs4,ss4,ph4,hs⟩,hb4⟩);have HS4:=am hs;have HB4:=am (HB3.out.trans hb4);clear hs hb4))
 obtain⟨rd,hrd⟩:∃rd,(Sq.run cf.pgs cf.en lim cf.s0).ready c.en=rd:=⟨_,rfl⟩;have HRD:=am (hrd▸ready_calls HS4.out);have HER:=am (show cf.seqErr lim=if rd=true then 10 else if (Sq.run cf.pgs cf.en lim cf.s0).ov=true then 11 else 0 by rw[←hrd,HEN.out];rfl);clear hrd;have HMB:=am (show∀k,Mt k→k<w2.heap.size from fun k hk=>Nat.lt_of_lt_of_le (HM.out k hk) HB2.out.size);obtain⟨ov,hov⟩:∃ov,(Sq.run cf.pgs cf.en lim cf.s0).ov=ov:=⟨_,rfl⟩;rw[hov]at HER;have HOV:=am hov;clear hov;cases rd
 ·cases ov
  ·go_upto_region 10 with (first|(go_at_call 32;go_must (with_reducible refine HRD.out.mono ?_);go_must (rintro e w5 ⟨rfl,hb5⟩);go_must (have x5:w5.cell? ⟨b,5,none⟩=some (.slice (some ⟨g,0,none⟩) N cg):=HS4.out.cells hb5 5 _ rfl);go_must (have x6:w5.cell? ⟨b,6,none⟩=some (.slice (some ⟨gl,0,none⟩) N cl):=HS4.out.cells hb5 6 _ rfl);go_must (have x9:w5.cell? ⟨b,9,none⟩=some (.bool false):=HOV.out▸HS4.out.cells hb5 9 _ rfl);have HS5:=am ((HS4.out.more hb5).more (below_drew (Below.refl _ _)));have HB5:=am (HB4.out.trans (hb5.mono HB4.out.size));clear hb5))
   go_region
   go_wp2_with (fail)
   go_returns
   exact⟨⟨some ⟨g,0,none⟩,N,cg⟩,⟨some ⟨gl,0,none⟩,N,cl⟩,by rw[HER.out];rfl,(HS5.out.out HMB.out).1,(HS5.out.out HMB.out).2,(HB2.out.trans (HB5.out.mono HB2.out.size)).trans (below_drew (Below.refl _ _))⟩
  ·go_upto_region 9 with (first|(go_at_call 32;go_must (with_reducible refine HRD.out.mono ?_);go_must (rintro e w5 ⟨rfl,hb5⟩);go_must (have x5:w5.cell? ⟨b,5,none⟩=some (.slice (some ⟨g,0,none⟩) N cg):=HS4.out.cells hb5 5 _ rfl);go_must (have x6:w5.cell? ⟨b,6,none⟩=some (.slice (some ⟨gl,0,none⟩) N cl):=HS4.out.cells hb5 6 _ rfl);go_must (have x9:w5.cell? ⟨b,9,none⟩=some (.bool true):=HOV.out▸HS4.out.cells hb5 9 _ rfl);have HS5:=am ((HS4.out.more hb5).more (below_drew (Below.refl _ _)));have HB5:=am (HB4.out.trans (hb5.mono HB4.out.size));clear hb5))
   go_region
   go_wp2_with (fail)
   go_returns
   exact⟨⟨some ⟨g,0,none⟩,N,cg⟩,⟨some ⟨gl,0,none⟩,N,cl⟩,by rw[HER.out];rfl,(HS5.out.out HMB.out).1,(HS5.out.out HMB.out).2,(HB2.out.trans (HB5.out.mono HB2.out.size)).trans (below_drew (Below.refl _ _))⟩
 ·go_upto_region 7 with (first|(go_at_call 32;go_must (with_reducible refine HRD.out.mono ?_);go_must (rintro e w5 ⟨rfl,hb5⟩);go_must (have x5:w5.cell? ⟨b,5,none⟩=some (.slice (some ⟨g,0,none⟩) N cg):=HS4.out.cells hb5 5 _ rfl);go_must (have x6:w5.cell? ⟨b,6,none⟩=some (.slice (some ⟨gl,0,none⟩) N cl):=HS4.out.cells hb5 6 _ rfl);go_must (have x9:w5.cell? ⟨b,9,none⟩=some (.bool ov):=HOV.out▸HS4.out.cells hb5 9 _ rfl);have HS5:=am ((HS4.out.more hb5).more (below_drew (Below.refl _ _)));have HB5:=am (HB4.out.trans (hb5.mono HB4.out.size));clear hb5))
  go_region
  go_wp2_with (fail)
  go_returns
  exact⟨⟨some ⟨g,0,none⟩,N,cg⟩,⟨some ⟨gl,0,none⟩,N,cl⟩,by rw[HER.out];rfl,(HS5.out.out HMB.out).1,(HS5.out.out HMB.out).2,(HB2.out.trans (HB5.out.mono HB2.out.size)).trans (below_drew (Below.refl _ _))⟩
theorem any_take_succ {α:Type} (f:α→Bool) (l:List α) (k:Nat) (h:k<l.length):(l.take (k+1)).any f=((l.take k).any f||f l[k]):=by
 rw[List.take_succ_eq_append_getElem h,List.any_append];simp
theorem any_at {α:Type} {f:α→Bool} {l:List α} {k:Nat} (h:k<l.length) (hf:f l[k]=true):l.any f=true:=List.any_eq_true.2 ⟨_,List.getElem_mem h,hf⟩
def gre (cf:Cf):Bool:=decide (12<cf.lps.length)||(decide (12<cf.pgs.length)||((cf.lps.any fun l=>decide (12<l.length))||cf.pgs.any fun p=>decide (30<p.length)))
theorem gre_sm {cf:Cf} (h:gre cf=false):CfSm cf:=by
 simp only[gre,Bool.or_eq_false_iff,decide_eq_false_iff_not,List.any_eq_false,decide_eq_true_eq]at h;obtain⟨h1,h2,h3,h4⟩:=h;exact⟨by omega,by omega,fun l hl=>by have:=h3 l hl;omega,fun p hp=>by have:=h4 p hp;omega⟩
structure CfBox (Mt:Nat→Prop) (w1:World) (q:Nat) (c:SCf) (cf:Cf):Prop where
 at_:CfAt Mt w1 c cf
 box:w1.heap[q]?=some (.cells (cf5 c) TCf (0,0))
theorem CfBox.lp {Mt:Nat→Prop} {w1 w:World} {q:Nat} {c:SCf} {cf:Cf} (h:CfBox Mt w1 q c cf) (hb:Below w1.heap.size w1 w) (k:Nat) (hk:k<cf.lps.length):∃ad s,c.lps.A=some ad∧w.cell? (ad.add k)=some (.slice s.A s.n s.c)∧s.n=(cf.lps[k]).length∧Rd kSt Mt w s cf.lps[k]:=by
 obtain⟨ss,p1,p2⟩:=h.at_.lps;have h1:=p1.len;have h2:=p2.len;obtain⟨ad,x,e,⟨h3,hx⟩,p0⟩:=hd_cells ((p1.below hb).here) k (by omega);have h4:Rd kSt Mt w1 ss[k] cf.lps[k]:=p2.get k h3 hk;rw[hx]at h4;exact⟨ad,x,e,p0,h4.len,h4.below hb⟩
theorem CfBox.pg {Mt:Nat→Prop} {w1 w:World} {q:Nat} {c:SCf} {cf:Cf} (h:CfBox Mt w1 q c cf) (hb:Below w1.heap.size w1 w) (k:Nat) (hk:k<cf.pgs.length):∃ad s,c.pgs.A=some ad∧w.cell? (ad.add k)=some (.slice s.A s.n s.c)∧s.n=(cf.pgs[k]).length∧Rd kOp Mt w s cf.pgs[k]:=by
 obtain⟨ss,p1,p2⟩:=h.at_.pgs;have h1:=p1.len;have h2:=p2.len;obtain⟨ad,x,e,⟨h3,hx⟩,p0⟩:=hd_cells ((p1.below hb).here) k (by omega);have h4:Rd kOp Mt w1 ss[k] cf.pgs[k]:=p2.get k h3 hk;rw[hx]at h4;exact⟨ad,x,e,p0,h4.len,h4.below hb⟩
theorem great_calls {Mt:Nat→Prop} {w:World} (c:SCf) {cf:Cf} (hc:CfAt Mt w c cf):Calls Tryz.prog 7 #[c.v] w fun e w'=>e= .returned (.bool (gre cf))∧Below w.heap.size w w':=by
 obtain⟨w1,hw1⟩:∃w1,w.alloc (.cells #[.slice c.lps.A c.lps.n c.lps.c,.slice c.pgs.A c.pgs.n c.pgs.c,.int .i64 c.la,.int .i64 c.en,.int .i64 c.cp] TCf)=w1:=⟨_,rfl⟩;have hb1:Below w.heap.size w w1:=hw1▸below_alloc (Below.refl _ _) _;have hk1:w1.heap[w.heap.size]?=some (.cells (cf5 c) TCf (0,0)):=by rw[←hw1];exact World.alloc_heap_new _ _
 obtain⟨a0,a1,a2,a3,a4⟩:=cfbox_at hk1 (Below.refl _ _);obtain⟨hln,hpn⟩:=hc.lens;have HBX:=am (show CfBox Mt w1 w.heap.size c cf from⟨hc.keep (Keep.of_below hb1),hk1⟩);have HB1:=am hb1;obtain⟨G,hG⟩:∃G,gre cf=G:=⟨_,rfl⟩;rw[hG];have HG:=am (show gre cf=G from hG);have HLN:=am hln;have HPN:=am hpn;clear hb1 hk1 hc hG hln hpn;obtain⟨⟨lA,ln,lc⟩,⟨pA,pn,pc⟩,la,en,cp⟩:=c;simp only[SCf.v]at*;by_cases g1:12<ln
 ·have d1:decide (12<(ln:Int))=true:=decide_eq_true (by omega);have d1':decide (12<ln)=true:=decide_eq_true g1;have HZ:=am (show G=true by rw[←HG.out];unfold gre;rw[←HLN.out,d1'];rfl);go_enter Tryz.func7,Tryz.ntmps7;go_upto_region 1 with (fail)
  clear hw1
  go_wp2_with (fail)
  go_ret;exact⟨by rw[HZ.out];rfl,HB1.out⟩
 ·have d1:decide (12<(ln:Int))=false:=decide_eq_false (by omega);have d1':decide (12<ln)=false:=decide_eq_false g1;by_cases g2:12<pn
  ·have d2:decide (12<(pn:Int))=true:=decide_eq_true (by omega);have d2':decide (12<pn)=true:=decide_eq_true g2;have HZ:=am (show G=true by rw[←HG.out];unfold gre;rw[←HPN.out,d2'];simp);go_enter Tryz.func7,Tryz.ntmps7;go_upto_region 1 with (fail)
   clear hw1
   go_wp2_with (fail)
   go_ret;exact⟨by rw[HZ.out];rfl,HB1.out⟩
  ·have d2:decide (12<(pn:Int))=false:=decide_eq_false (by omega);have d2':decide (12<pn)=false:=decide_eq_false g2;have HG2:=am (show G=((cf.lps.any fun l=>decide (12<l.length))||cf.pgs.any fun p=>decide (30<p.length))by rw[←HG.out];unfold gre;rw[←HLN.out,←HPN.out,d1',d2'];rfl);go_enter Tryz.func7,Tryz.ntmps7;go_upto_region 1 with (fail)
   clear hw1
   go_wp2_with (fail)
   clear a0 a1 a2 a3 a4
   go_loopw [3] (fun i wr=>∃k:Nat,k≤ln∧i= .int .i64 k∧Aside0 ((cf.lps.take k).any (fun l=>decide (12<l.length))=false)∧Aside0 (Below w1.heap.size w1 wr)) (fun i _=>ln-(intOf i).toNat)
   case atStart=>exact⟨0,Nat.zero_le _,rfl,⟨by simp⟩,⟨Below.refl _ _⟩⟩
   case round=>
    obtain⟨k,hk,rfl,HD,HB⟩:=hrel;obtain⟨a0,a1,a2,a3,a4⟩:=cfbox_at HBX.out.box HB.out;by_cases hlt:k<ln
    ·have e3:decide ((k:Int)<(ln:Int))=true:=decide_eq_true (by omega);have e3':decide (k<ln)=true:=decide_eq_true hlt;have h3:k<cf.lps.length:=by have:=HLN.out;omega
     obtain⟨ad,s,e4,p0,hsn,hrd⟩:=HBX.out.lp HB.out k h3;simp only at e4;subst e4;have m0:(0:Int)≤(k:Int):=by omega
     have m1:(k:Int)<(ln:Nat):=by omega
     obtain⟨sA,sn,sc⟩:=s;simp only at p0 hsn;have HSN:=am hsn;clear hsn hrd;by_cases g3:12<sn
     ·have d3:decide (12<(sn:Int))=true:=decide_eq_true (by omega);have d3':decide (12<sn)=true:=decide_eq_true g3;have HZ:=am (show G=true by rw[HG2.out,any_at (f:=fun l=>decide (12<l.length)) h3 (by rw[←HSN.out];exact d3')];rfl)
      go_wp2_with (fail)
      go_ret;exact⟨by rw[HZ.out];rfl,HB1.out.trans (HB.out.mono HB1.out.size)⟩
     ·have d3:decide (12<(sn:Int))=false:=decide_eq_false (by omega);have d3':decide (12<sn)=false:=decide_eq_false g3;have HZ:=am (show(cf.lps.take (k+1)).any (fun l=>decide (12<l.length))=false by rw[any_take_succ _ _ k h3,HD.out,←HSN.out,d3'];rfl);clear HSN h3
      go_wp2_with (fail)
      go_roundw
      ·exact⟨k+1,by omega,by go_num,HZ,HB⟩
      ·simp[intOf];omega
    ·obtain rfl:k=ln:=by omega
     have e3:decide ((k:Int)<(k:Int))=false:=decide_eq_false (by omega);have HG3:=am (show G=(cf.pgs.any fun p=>decide (30<p.length))by
      have h5:=HD.out;rw[List.take_of_length_le (by rw[HLN.out];exact Nat.le_refl _)]at h5;rw[HG2.out,h5,Bool.false_or])
     go_wp2_with (fail)
     clear a0 a1 a2 a3 a4 e3
     go_loopw [4] (fun i wr=>∃j:Nat,j≤pn∧i= .int .i64 j∧Aside0 ((cf.pgs.take j).any (fun p=>decide (30<p.length))=false)∧Aside0 (Below w1.heap.size w1 wr)) (fun i _=>pn-(intOf i).toNat)
     case atStart=>exact⟨0,Nat.zero_le _,rfl,⟨by simp⟩,HB⟩
     case round=>
      obtain⟨j,hj,rfl,HDJ,HBJ⟩:=hrel;obtain⟨a0,a1,a2,a3,a4⟩:=cfbox_at HBX.out.box HBJ.out;by_cases hlj:j<pn
      ·have e3:decide ((j:Int)<(pn:Int))=true:=decide_eq_true (by omega);have e3':decide (j<pn)=true:=decide_eq_true hlj;have h3:j<cf.pgs.length:=by have:=HPN.out;omega
       obtain⟨ad,s,e4,p0,hsn,hrd⟩:=HBX.out.pg HBJ.out j h3;simp only at e4;subst e4;have m0:(0:Int)≤(j:Int):=by omega
       have m1:(j:Int)<(pn:Nat):=by omega
       obtain⟨sA,sn,sc⟩:=s;simp only at p0 hsn;have HSN:=am hsn;clear hsn hrd;by_cases g3:30<sn
       ·have d3:decide (30<(sn:Int))=true:=decide_eq_true (by omega);have d3':decide (30<sn)=true:=decide_eq_true g3;have HZ:=am (show G=true by rw[HG3.out,any_at (f:=fun p=>decide (30<p.length)) h3 (by rw[←HSN.out];exact d3')])
        go_wp2_with (fail)
        go_ret;exact⟨by rw[HZ.out];rfl,HB1.out.trans (HBJ.out.mono HB1.out.size)⟩
       ·have d3:decide (30<(sn:Int))=false:=decide_eq_false (by omega);have d3':decide (30<sn)=false:=decide_eq_false g3;have HZ:=am (show(cf.pgs.take (j+1)).any (fun p=>decide (30<p.length))=false by rw[any_take_succ _ _ j h3,HDJ.out,←HSN.out,d3'];rfl);clear HSN h3
        go_wp2_with (fail)
        go_roundw
        ·exact⟨j+1,by omega,by go_num,HZ,HBJ⟩
        ·simp[intOf];omega
      ·obtain rfl:j=pn:=by omega
       have e3:decide ((j:Int)<(j:Int))=false:=decide_eq_false (by omega);have HZ:=am (show G=false by
        have h5:=HDJ.out;rw[List.take_of_length_le (by rw[HPN.out];exact Nat.le_refl _)]at h5;rw[HG3.out,h5])
       go_wp2_with (fail)
       go_ret;exact⟨by rw[HZ.out];rfl,HB1.out.trans (HBJ.out.mono HB1.out.size)⟩
theorem rsizes_calls {Mt:Nat→Prop} {w:World} (c:SCf) {cf:Cf} (hc:CfAt Mt w c cf):Calls Tryz.prog 24 #[c.v] w fun e w'=>e= .returned (.bool (szs cf))∧Below w.heap.size w w':=by
 obtain⟨w1,hw1⟩:∃w1,w.alloc (.cells #[.slice c.lps.A c.lps.n c.lps.c,.slice c.pgs.A c.pgs.n c.pgs.c,.int .i64 c.la,.int .i64 c.en,.int .i64 c.cp] TCf)=w1:=⟨_,rfl⟩;have hb1:Below w.heap.size w w1:=hw1▸below_alloc (Below.refl _ _) _;have hk1:w1.heap[w.heap.size]?=some (.cells (cf5 c) TCf (0,0)):=by rw[←hw1];exact World.alloc_heap_new _ _
 obtain⟨a0,a1,a2,a3,a4⟩:=cfbox_at hk1 (Below.refl _ _);obtain⟨hln,hpn⟩:=hc.lens;have HBX:=am (show CfBox Mt w1 w.heap.size c cf from⟨hc.keep (Keep.of_below hb1),hk1⟩);have HB1:=am hb1;obtain⟨G,hG⟩:∃G,szs cf=G:=⟨_,rfl⟩;rw[hG];have hG2:G=(wi c.lps.n 1 8&&(decide ((c.pgs.n:Int)≤8)&&(wi c.cp 1 64&&(wi c.en 0 1152921504606846976&&cf.lps.all fun l=>decide ((l.length:Int)≤8))))):=by rw[←hG,hln,hpn,hc.cp,hc.en];rfl
 have HG:=am hG2;have HLN:=am hln;have HPN:=am hpn;clear hb1 hk1 hc hG hG2 hln hpn;obtain⟨⟨lA,ln,lc⟩,⟨pA,pn,pc⟩,la,en,cp⟩:=c;simp only[SCf.v]at*;have hcase:(ln<1∨8<ln∨8<pn)∨(1≤ln∧ln≤8∧pn≤8):=by omega
 rcases hcase with hbad|⟨g1,g2,g3⟩
 ·have HZ:=am (show G=false by
   rw[HG.out];rcases hbad with h|h|h
   ·rw[show wi (ln:Int) 1 8=false by simp[wi];omega];rfl
   ·rw[show wi (ln:Int) 1 8=false by simp[wi];omega];rfl
   ·rw[show decide ((pn:Int)≤8)=false from decide_eq_false (by omega)];simp)
  rcases hbad with h|h|h
  ·have d1:decide ((ln:Int)<1)=true:=decide_eq_true (by omega);have d1':decide (ln<1)=true:=decide_eq_true h;go_enter Tryz.func24,Tryz.ntmps24;go_upto_region 1 with (fail)
   clear hw1
   go_wp2_with (fail)
   go_ret;exact⟨by rw[HZ.out];rfl,HB1.out⟩
  ·have d1:decide ((ln:Int)<1)=false:=decide_eq_false (by omega);have d1':decide (ln<1)=false:=decide_eq_false (by omega);have d2:decide (8<(ln:Int))=true:=decide_eq_true (by omega);have d2':decide (8<ln)=true:=decide_eq_true h;go_enter Tryz.func24,Tryz.ntmps24;go_upto_region 1 with (fail)
   clear hw1
   go_wp2_with (fail)
   go_ret;exact⟨by rw[HZ.out];rfl,HB1.out⟩
  ·have d3:decide (8<(pn:Int))=true:=decide_eq_true (by omega);have d3':decide (8<pn)=true:=decide_eq_true h;go_enter Tryz.func24,Tryz.ntmps24;go_upto_region 1 with (fail)
   clear hw1
   go_wp2_with (fail)
   all_goals go_ret
   all_goals exact⟨by rw[HZ.out];rfl,HB1.out⟩
 ·have d1:decide ((ln:Int)<1)=false:=decide_eq_false (by omega);have d1':decide (ln<1)=false:=decide_eq_false (by omega);have d2:decide (8<(ln:Int))=false:=decide_eq_false (by omega);have d2':decide (8<ln)=false:=decide_eq_false (by omega);have d3:decide (8<(pn:Int))=false:=decide_eq_false (by omega);have d3':decide (8<pn)=false:=decide_eq_false (by omega);have HG2:=am (show G=((wi cp 1 64&&wi en 0 1152921504606846976)&&cf.lps.all fun l=>decide ((l.length:Int)≤8))by
   rw[HG.out,show wi (ln:Int) 1 8=true by simp[wi];omega,show decide ((pn:Int)≤8)=true from decide_eq_true (by omega),Bool.true_and,Bool.true_and,Bool.and_assoc])
  go_enter Tryz.func24,Tryz.ntmps24;go_upto_region 1 with (fail)
  clear hw1
  go_wp2_with (fail)
  clear a0 a1 a2 a3 a4
  go_loopw [3] (fun i wr=>∃k:Nat,k≤ln∧i= .int .i64 k∧Aside0 ((cf.lps.take k).all (fun l=>decide ((l.length:Int)≤8))=true)∧Aside0 (Below w1.heap.size w1 wr)) (fun i _=>ln-(intOf i).toNat)
  case atStart=>exact⟨0,Nat.zero_le _,rfl,⟨by simp⟩,⟨Below.refl _ _⟩⟩
  case round=>
   obtain⟨k,hk,rfl,HD,HB⟩:=hrel;obtain⟨a0,a1,a2,a3,a4⟩:=cfbox_at HBX.out.box HB.out;by_cases hlt:k<ln
   ·have e3:decide ((k:Int)<(ln:Int))=true:=decide_eq_true (by omega);have e3':decide (k<ln)=true:=decide_eq_true hlt;have h3:k<cf.lps.length:=by have:=HLN.out;omega
    obtain⟨ad,s,e4,p0,hsn,hrd⟩:=HBX.out.lp HB.out k h3;simp only at e4;subst e4;have m0:(0:Int)≤(k:Int):=by omega
    have m1:(k:Int)<(ln:Nat):=by omega
    obtain⟨sA,sn,sc⟩:=s;simp only at p0 hsn;have HSN:=am hsn;clear hsn hrd;by_cases g3:8<sn
    ·have d3:decide (8<(sn:Int))=true:=decide_eq_true (by omega);have d3':decide (8<sn)=true:=decide_eq_true g3;have HZ:=am (show G=false by
      have h5:(cf.lps.all fun l=>decide ((l.length:Int)≤8))=false:=by
       rw[List.all_eq_false];exact⟨_,List.getElem_mem h3,by rw[←HSN.out];simp;omega⟩
      rw[HG2.out,h5,Bool.and_false])
     go_wp2_with (fail)
     go_ret;exact⟨by rw[HZ.out];rfl,HB1.out.trans (HB.out.mono HB1.out.size)⟩
    ·have d3:decide (8<(sn:Int))=false:=decide_eq_false (by omega);have d3':decide (8<sn)=false:=decide_eq_false g3;have HZ:=am (show(cf.lps.take (k+1)).all (fun l=>decide ((l.length:Int)≤8))=true by rw[all_take_succ _ _ k h3,HD.out,←HSN.out];simp;omega);clear HSN h3
     go_wp2_with (fail)
     go_roundw
     ·exact⟨k+1,by omega,by go_num,HZ,HB⟩
     ·simp[intOf];omega
   ·obtain rfl:k=ln:=by omega
    have e3:decide ((k:Int)<(k:Int))=false:=decide_eq_false (by omega);have HG3:=am (show G=(wi cp 1 64&&wi en 0 1152921504606846976)by
     have h5:=HD.out;rw[List.take_of_length_le (by rw[HLN.out];exact Nat.le_refl _)]at h5;rw[HG2.out,h5,Bool.and_true])
    go_wp2_with (fail)
    all_goals go_ret
    all_goals exact⟨by rw[HG3.out];show Ending.returned (Value.bool _)=Ending.returned (Value.bool _);first|rfl|(congr 2;done)|(congr 2;rw[Bool.eq_iff_iff];simp[wi];done)|(congr 2;rw[Bool.eq_iff_iff];simp[wi];omega),HB1.out.trans (HB.out.mono HB1.out.size)⟩
end Go.Proofs.YtfnimdhghglanaaGreat.Hand
end
