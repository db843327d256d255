/- TopScheduleIndependent, part 25 of 27; no condition.  -/
import Derived.Test.YtfnimdhghglanaaGreatQsAX
set_option maxRecDepth 100000
set_option maxHeartbeats 8000000
set_option linter.unusedVariables false
set_option linter.unusedSimpArgs false
section
namespace Go.Proofs.YtfnimdhghglanaaGreat.Hand
open Go.RowKit Go.Shelf Go.Proofs.YtfnimdhghglanaaGreatW PrintWords PrintLast PrintMore
attribute [local go_sem] max2_int min2_int max_two min_two max_three min_three max_four min_four
theorem SimAt.out {Mt:Nat→Prop} {B:Nat} {w:World} {b n g cg gl cl:Nat} {c:SCf} {hs:List SH} {ss:List SLp} {ph:SH} {s:Sq} (h:SimAt Mt B w b n g cg gl cl c hs ss ph s) (hM:∀k,Mt k→k<B):EvssAt Mt w ⟨some ⟨g,0,none⟩,n,cg⟩ s.tr∧LpsAt Mt w ⟨some ⟨gl,0,none⟩,n,cl⟩ s.lps:=by
 refine⟨⟨hs,h.tab.read (fun k _ hm=> .inl (.inl hm)) (fun hm=> ?_) (fun x hx k hk hm=> ?_)⟩,⟨ss,Rd.of_R rfl h.row (fun k hk hm=> ?_),h.lps.imp fun _ _ h=>h.fresh (Keep.refl _ _) (fun k _ hm=> .inl (.inl hm))⟩⟩
 ·have:=hM g hm;have:=h.tab.row.typed.2.1;omega
 ·have:=hM k hm;have:=(h.tab.own x hx k hk).2.1;omega
 ·cases hk;have:=hM gl hm;have:=h.row.typed.2.1;omega
abbrev TCf:TypeId:=25
theorem cfbox_at {w w':World} {q:Nat} {c:SCf} (h:w.heap[q]?=some (.cells (cf5 c) TCf (0,0))) (hb:Below w.heap.size w w'):w'.cell? ⟨q,0,none⟩=some (.slice c.lps.A c.lps.n c.lps.c)∧w'.cell? ⟨q,1,none⟩=some (.slice c.pgs.A c.pgs.n c.pgs.c)∧w'.cell? ⟨q,2,none⟩=some (.int .i64 c.la)∧w'.cell? ⟨q,3,none⟩=some (.int .i64 c.en)∧w'.cell? ⟨q,4,none⟩=some (.int .i64 c.cp):=by
 have h1:=box_more hb h;refine⟨?_,?_,?_,?_,?_⟩<;>simp[World.cell?,h1]
def Cf.seqErr (cf:Cf) (lim:Nat):Int:=if (cf.seq lim).ready cf.en then 10 else if (cf.seq lim).ov then 11 else 0
theorem seqRun_calls {Mt:Nat→Prop} {w:World} (hM:∀k,Mt k→k<w.heap.size) (c:SCf) {cf:Cf} {N P:Nat} (hok:CfOk cf N P) (hc:CfAt Mt w c cf) (hs:CfSm cf) (h0:chk cf=0) (lim:Nat) (hl:lim≤2000):
  Calls Tryz.prog 13 #[c.v,.int .i64 lim] w fun r w'=>∃th lh:SH,r= .returned (.tuple #[.slice th.A th.n th.c,.slice lh.A lh.n lh.c,.int .i64 (cf.seqErr lim)])∧EvssAt Mt w' th (cf.seq lim).tr∧LpsAt Mt w' lh (cf.seq lim).lps∧Below w.heap.size w w':=by
 obtain⟨w1,hw1⟩:∃w1,w.alloc (.cells #[.slice c.lps.A c.lps.n c.lps.c,.slice c.pgs.A c.pgs.n c.pgs.c,.int .i64 c.la,.int .i64 c.en,.int .i64 c.cp] TCf)=w1:=⟨_,rfl⟩;have hb1:Below w.heap.size w w1:=hw1▸below_alloc (Below.refl _ _) _;have hk1:w1.heap[w.heap.size]?=some (.cells (cf5 c) TCf (0,0)):=by rw[←hw1];exact World.alloc_heap_new _ _
 obtain⟨a0,a1,a2,a3,a4⟩:=cfbox_at hk1 (Below.refl _ _);have HB1:=am hb1;have HK1:=am hk1;have HM:=am hM;have HCF:=am (show∀W,Below w.heap.size w W→CfAt Mt W c cf from fun W hb=>hc.keep (Keep.of_below hb));have HCK:=am (h0▸check_calls c (hc.keep (Keep.of_below hb1)) hs);have HOK:=am hok;have HL:=am hl;have HEN:=am hc.en;clear hb1 hk1 hM hc hs h0 hok hl;simp only[SCf.v]at HCK ⊢;go_enter Tryz.func13,Tryz.ntmps13;go_upto_region 1 with (fail)
 clear hw1;go_upto_region 4 with (first|(go_at_call 27;go_must (with_reducible refine HCK.out.mono ?_);go_must (rintro e w2 ⟨rfl,hb2⟩);go_must (obtain⟨b0,b1,b2,b3,b4⟩:=cfbox_at HK1.out hb2);have HB12:=am hb2;have HB2:=HB1.go hb2;clear hb2))
 have hst:=simStart_calls (w:=w2) (fun k hk=>Nat.lt_of_lt_of_le (HM.out k hk) HB2.out.size) c HOK.out (HCF.out w2 HB2.out);simp only[SCf.v]at hst;have HST:=am hst;clear hst a0 a1 a2 a3 a4;go_upto_region 5 with (first|(go_at_call 30;go_must (with_reducible refine HST.out.mono ?_);go_must (rintro e w3 ⟨b,g,cg,gl,cl,ss,ph,rfl,hs3,hb3⟩);have HS3:=am hs3;have HB3:=am hb3;clear hs3 hb3))
 have HRN:=am (simRun_calls (W:=w2) HOK.out HS3.out (fun k hk=>Nat.lt_of_lt_of_le (HM.out k hk) HB2.out.size) rfl HB3.out (HCF.out w2 HB2.out).pgs HEN.out HOK.out.sqi rfl lim HL.out);clear b0 b1 b2 b3 b4;go_upto_region 6 with (first|(go_at_call 31;go_must (with_reducible refine HRN.out.mono ?_);go_must (rintro e w4 ⟨⟨v4,rfl⟩,⟨hs4,ss4,ph4,hs⟩,hb4⟩);have HS4:=am hs;have HB4:=am (HB3.out.trans hb4);clear hs hb4))
 obtain⟨rd,hrd⟩:∃rd,(Sq.run cf.pgs cf.en lim cf.s0).ready c.en=rd:=⟨_,rfl⟩;have HRD:=am (hrd▸ready_calls HS4.out);have HER:=am (show cf.seqErr lim=if rd=true then 10 else if (Sq.run cf.pgs cf.en lim cf.s0).ov=true then 11 else 0 by rw[←hrd,HEN.out];rfl);clear hrd;have HMB:=am (show∀k,Mt k→k<w2.heap.size from fun k hk=>Nat.lt_of_lt_of_le (HM.out k hk) HB2.out.size);obtain⟨ov,hov⟩:∃ov,(Sq.run cf.pgs cf.en lim cf.s0).ov=ov:=⟨_,rfl⟩;rw[hov]at HER;have HOV:=am hov;clear hov;cases rd
 ·cases ov
  ·go_upto_region 10 with (first|(go_at_call 32;go_must (with_reducible refine HRD.out.mono ?_);go_must (rintro e w5 ⟨rfl,hb5⟩);go_must (have x5:w5.cell? ⟨b,5,none⟩=some (.slice (some ⟨g,0,none⟩) N cg):=HS4.out.cells hb5 5 _ rfl);go_must (have x6:w5.cell? ⟨b,6,none⟩=some (.slice (some ⟨gl,0,none⟩) N cl):=HS4.out.cells hb5 6 _ rfl);go_must (have x9:w5.cell? ⟨b,9,none⟩=some (.bool false):=HOV.out▸HS4.out.cells hb5 9 _ rfl);have HS5:=am ((HS4.out.more hb5).more (below_drew (Below.refl _ _)));have HB5:=HB4.go hb5;clear hb5))
   go_region
   go_wp2_with (fail)
   go_returns
   exact⟨⟨some ⟨g,0,none⟩,N,cg⟩,⟨some ⟨gl,0,none⟩,N,cl⟩,by rw[HER.out];rfl,(HS5.out.out HMB.out).1,(HS5.out.out HMB.out).2,(HB2.out.trans (HB5.out.mono HB2.out.size)).trans (below_drew (Below.refl _ _))⟩
  ·go_upto_region 9 with (first|(go_at_call 32;go_must (with_reducible refine HRD.out.mono ?_);go_must (rintro e w5 ⟨rfl,hb5⟩);go_must (have x5:w5.cell? ⟨b,5,none⟩=some (.slice (some ⟨g,0,none⟩) N cg):=HS4.out.cells hb5 5 _ rfl);go_must (have x6:w5.cell? ⟨b,6,none⟩=some (.slice (some ⟨gl,0,none⟩) N cl):=HS4.out.cells hb5 6 _ rfl);go_must (have x9:w5.cell? ⟨b,9,none⟩=some (.bool true):=HOV.out▸HS4.out.cells hb5 9 _ rfl);have HS5:=am ((HS4.out.more hb5).more (below_drew (Below.refl _ _)));have HB5:=HB4.go hb5;clear hb5))
   go_region
   go_wp2_with (fail)
   go_returns
   exact⟨⟨some ⟨g,0,none⟩,N,cg⟩,⟨some ⟨gl,0,none⟩,N,cl⟩,by rw[HER.out];rfl,(HS5.out.out HMB.out).1,(HS5.out.out HMB.out).2,(HB2.out.trans (HB5.out.mono HB2.out.size)).trans (below_drew (Below.refl _ _))⟩
 ·go_upto_region 7 with (first|(go_at_call 32;go_must (with_reducible refine HRD.out.mono ?_);go_must (rintro e w5 ⟨rfl,hb5⟩);go_must (have x5:w5.cell? ⟨b,5,none⟩=some (.slice (some ⟨g,0,none⟩) N cg):=HS4.out.cells hb5 5 _ rfl);go_must (have x6:w5.cell? ⟨b,6,none⟩=some (.slice (some ⟨gl,0,none⟩) N cl):=HS4.out.cells hb5 6 _ rfl);go_must (have x9:w5.cell? ⟨b,9,none⟩=some (.bool ov):=HOV.out▸HS4.out.cells hb5 9 _ rfl);have HS5:=am ((HS4.out.more hb5).more (below_drew (Below.refl _ _)));have HB5:=HB4.go hb5;clear hb5))
  go_region
  go_wp2_with (fail)
  go_returns
  exact⟨⟨some ⟨g,0,none⟩,N,cg⟩,⟨some ⟨gl,0,none⟩,N,cl⟩,by rw[HER.out];rfl,(HS5.out.out HMB.out).1,(HS5.out.out HMB.out).2,(HB2.out.trans (HB5.out.mono HB2.out.size)).trans (below_drew (Below.refl _ _))⟩
theorem any_take_succ {α:Type} (f:α→Bool) (l:List α) (k:Nat) (h:k<l.length):(l.take (k+1)).any f=((l.take k).any f||f l[k]):=by
 rw[List.take_succ_eq_append_getElem h,List.any_append];simp
theorem any_at {α:Type} {f:α→Bool} {l:List α} {k:Nat} (h:k<l.length) (hf:f l[k]=true):l.any f=true:=List.any_eq_true.2 ⟨_,List.getElem_mem h,hf⟩
def gre (cf:Cf):Bool:=decide (12<cf.lps.length)||(decide (12<cf.pgs.length)||((cf.lps.any fun l=>decide (12<l.length))||cf.pgs.any fun p=>decide (30<p.length)))
theorem gre_sm {cf:Cf} (h:gre cf=false):CfSm cf:=by
 simp only[gre,Bool.or_eq_false_iff,decide_eq_false_iff_not,List.any_eq_false,decide_eq_true_eq]at h;obtain⟨h1,h2,h3,h4⟩:=h;exact⟨by omega,by omega,fun l hl=>by have:=h3 l hl;omega,fun p hp=>by have:=h4 p hp;omega⟩
structure CfBox (Mt:Nat→Prop) (w1:World) (q:Nat) (c:SCf) (cf:Cf):Prop where
 at_:CfAt Mt w1 c cf
 box:w1.heap[q]?=some (.cells (cf5 c) TCf (0,0))
theorem CfBox.lp {Mt:Nat→Prop} {w1 w:World} {q:Nat} {c:SCf} {cf:Cf} (h:CfBox Mt w1 q c cf) (hb:Below w1.heap.size w1 w) (k:Nat) (hk:k<cf.lps.length):∃ad s,c.lps.A=some ad∧w.cell? (ad.add k)=some (.slice s.A s.n s.c)∧s.n=(cf.lps[k]).length∧Rd kSt Mt w s cf.lps[k]:=by
 obtain⟨ss,p1,p2⟩:=h.at_.lps;have h1:=p1.len;have h2:=p2.len;obtain⟨ad,x,e,⟨h3,hx⟩,p0⟩:=hd_cells ((p1.below hb).here) k (by omega);have h4:Rd kSt Mt w1 ss[k] cf.lps[k]:=p2.get k h3 hk;rw[hx]at h4;exact⟨ad,x,e,p0,h4.len,h4.below hb⟩
theorem CfBox.pg {Mt:Nat→Prop} {w1 w:World} {q:Nat} {c:SCf} {cf:Cf} (h:CfBox Mt w1 q c cf) (hb:Below w1.heap.size w1 w) (k:Nat) (hk:k<cf.pgs.length):∃ad s,c.pgs.A=some ad∧w.cell? (ad.add k)=some (.slice s.A s.n s.c)∧s.n=(cf.pgs[k]).length∧Rd kOp Mt w s cf.pgs[k]:=by
 obtain⟨ss,p1,p2⟩:=h.at_.pgs;have h1:=p1.len;have h2:=p2.len;obtain⟨ad,x,e,⟨h3,hx⟩,p0⟩:=hd_cells ((p1.below hb).here) k (by omega);have h4:Rd kOp Mt w1 ss[k] cf.pgs[k]:=p2.get k h3 hk;rw[hx]at h4;exact⟨ad,x,e,p0,h4.len,h4.below hb⟩
theorem great_calls {Mt:Nat→Prop} {w:World} (c:SCf) {cf:Cf} (hc:CfAt Mt w c cf):Calls Tryz.prog 7 #[c.v] w fun e w'=>e= .returned (.bool (gre cf))∧Below w.heap.size w w':=by
 obtain⟨w1,hw1⟩:∃w1,w.alloc (.cells #[.slice c.lps.A c.lps.n c.lps.c,.slice c.pgs.A c.pgs.n c.pgs.c,.int .i64 c.la,.int .i64 c.en,.int .i64 c.cp] TCf)=w1:=⟨_,rfl⟩;have hb1:Below w.heap.size w w1:=hw1▸below_alloc (Below.refl _ _) _;have hk1:w1.heap[w.heap.size]?=some (.cells (cf5 c) TCf (0,0)):=by rw[←hw1];exact World.alloc_heap_new _ _
 obtain⟨a0,a1,a2,a3,a4⟩:=cfbox_at hk1 (Below.refl _ _);obtain⟨hln,hpn⟩:=hc.lens;have HBX:=am (show CfBox Mt w1 w.heap.size c cf from⟨hc.keep (Keep.of_below hb1),hk1⟩);have HB1:=am hb1;obtain⟨G,hG⟩:∃G,gre cf=G:=⟨_,rfl⟩;rw[hG];have HG:=am (show gre cf=G from hG);have HLN:=am hln;have HPN:=am hpn;clear hb1 hk1 hc hG hln hpn;obtain⟨⟨lA,ln,lc⟩,⟨pA,pn,pc⟩,la,en,cp⟩:=c;simp only[SCf.v]at*;by_cases g1:12<ln
 ·have d1:decide (12<(ln:Int))=true:=dt (by omega);have d1':decide (12<ln)=true:=decide_eq_true g1;have HZ:=am (show G=true by rw[←HG.out];unfold gre;rw[←HLN.out,d1'];rfl);go_enter Tryz.func7,Tryz.ntmps7;go_upto_region 1 with (fail)
  clear hw1
  go_wp2_with (fail)
  go_ret;exact⟨by rw[HZ.out];rfl,HB1.out⟩
 ·have d1:decide (12<(ln:Int))=false:=df (by omega);have d1':decide (12<ln)=false:=decide_eq_false g1;by_cases g2:12<pn
  ·have d2:decide (12<(pn:Int))=true:=dt (by omega);have d2':decide (12<pn)=true:=decide_eq_true g2;have HZ:=am (show G=true by rw[←HG.out];unfold gre;rw[←HPN.out,d2'];simp);go_enter Tryz.func7,Tryz.ntmps7;go_upto_region 1 with (fail)
   clear hw1
   go_wp2_with (fail)
   go_ret;exact⟨by rw[HZ.out];rfl,HB1.out⟩
  ·have d2:decide (12<(pn:Int))=false:=df (by omega);have d2':decide (12<pn)=false:=decide_eq_false g2;have HG2:=am (show G=((cf.lps.any fun l=>decide (12<l.length))||cf.pgs.any fun p=>decide (30<p.length))by rw[←HG.out];unfold gre;rw[←HLN.out,←HPN.out,d1',d2'];rfl);go_enter Tryz.func7,Tryz.ntmps7;go_upto_region 1 with (fail)
   clear hw1
   go_wp2_with (fail)
   clear a0 a1 a2 a3 a4
   go_loopw [3] (fun i wr=>∃k:Nat,k≤ln∧i= .int .i64 k∧Aside0 ((cf.lps.take k).any (fun l=>decide (12<l.length))=false)∧Aside0 (Below w1.heap.size w1 wr)) (fun i _=>ln-(intOf i).toNat)
   case atStart=>exact⟨0,Nat.zero_le _,rfl,⟨by simp⟩,⟨Below.refl _ _⟩⟩
   case round=>
    obtain⟨k,hk,rfl,HD,HB⟩:=hrel;obtain⟨a0,a1,a2,a3,a4⟩:=cfbox_at HBX.out.box HB.out;by_cases hlt:k<ln
    ·have e3:decide ((k:Int)<(ln:Int))=true:=dt (by omega);have e3':decide (k<ln)=true:=decide_eq_true hlt;have h3:k<cf.lps.length:=by have:=HLN.out;omega
     obtain⟨ad,s,e4,p0,hsn,hrd⟩:=HBX.out.lp HB.out k h3;simp only at e4;subst e4;have m0:(0:Int)≤(k:Int):=by omega
     have m1:(k:Int)<(ln:Nat):=by omega
     obtain⟨sA,sn,sc⟩:=s;simp only at p0 hsn;have HSN:=am hsn;clear hsn hrd;by_cases g3:12<sn
     ·have d3:decide (12<(sn:Int))=true:=dt (by omega);have d3':decide (12<sn)=true:=decide_eq_true g3;have HZ:=am (show G=true by rw[HG2.out,any_at (f:=fun l=>decide (12<l.length)) h3 (by rw[←HSN.out];exact d3')];rfl)
      go_wp2_with (fail)
      go_ret;exact⟨by rw[HZ.out];rfl,HB1.out.trans (HB.out.mono HB1.out.size)⟩
     ·have d3:decide (12<(sn:Int))=false:=df (by omega);have d3':decide (12<sn)=false:=decide_eq_false g3;have HZ:=am (show(cf.lps.take (k+1)).any (fun l=>decide (12<l.length))=false by rw[any_take_succ _ _ k h3,HD.out,←HSN.out,d3'];rfl);clear HSN h3
      go_wp2_with (fail)
      go_roundw
      ·exact⟨k+1,by omega,by go_num,HZ,HB⟩
      ·simp[intOf];omega
    ·obtain rfl:k=ln:=by omega
     have e3:decide ((k:Int)<(k:Int))=false:=df (by omega);have HG3:=am (show G=(cf.pgs.any fun p=>decide (30<p.length))by
      have h5:=HD.out;rw[List.take_of_length_le (by rw[HLN.out];exact Nat.le_refl _)]at h5;rw[HG2.out,h5,Bool.false_or])
     go_wp2_with (fail)
     clear a0 a1 a2 a3 a4 e3
     go_loopw [4] (fun i wr=>∃j:Nat,j≤pn∧i= .int .i64 j∧Aside0 ((cf.pgs.take j).any (fun p=>decide (30<p.length))=false)∧Aside0 (Below w1.heap.size w1 wr)) (fun i _=>pn-(intOf i).toNat)
     case atStart=>exact⟨0,Nat.zero_le _,rfl,⟨by simp⟩,HB⟩
     case round=>
      obtain⟨j,hj,rfl,HDJ,HBJ⟩:=hrel;obtain⟨a0,a1,a2,a3,a4⟩:=cfbox_at HBX.out.box HBJ.out;by_cases hlj:j<pn
      ·have e3:decide ((j:Int)<(pn:Int))=true:=dt (by omega);have e3':decide (j<pn)=true:=decide_eq_true hlj;have h3:j<cf.pgs.length:=by have:=HPN.out;omega
       obtain⟨ad,s,e4,p0,hsn,hrd⟩:=HBX.out.pg HBJ.out j h3;simp only at e4;subst e4;have m0:(0:Int)≤(j:Int):=by omega
       have m1:(j:Int)<(pn:Nat):=by omega
       obtain⟨sA,sn,sc⟩:=s;simp only at p0 hsn;have HSN:=am hsn;clear hsn hrd;by_cases g3:30<sn
       ·have d3:decide (30<(sn:Int))=true:=dt (by omega);have d3':decide (30<sn)=true:=decide_eq_true g3;have HZ:=am (show G=true by rw[HG3.out,any_at (f:=fun p=>decide (30<p.length)) h3 (by rw[←HSN.out];exact d3')])
        go_wp2_with (fail)
        go_ret;exact⟨by rw[HZ.out];rfl,HB1.out.trans (HBJ.out.mono HB1.out.size)⟩
       ·have d3:decide (30<(sn:Int))=false:=df (by omega);have d3':decide (30<sn)=false:=decide_eq_false g3;have HZ:=am (show(cf.pgs.take (j+1)).any (fun p=>decide (30<p.length))=false by rw[any_take_succ _ _ j h3,HDJ.out,←HSN.out,d3'];rfl);clear HSN h3
        go_wp2_with (fail)
        go_roundw
        ·exact⟨j+1,by omega,by go_num,HZ,HBJ⟩
        ·simp[intOf];omega
      ·obtain rfl:j=pn:=by omega
       have e3:decide ((j:Int)<(j:Int))=false:=df (by omega);have HZ:=am (show G=false by
        have h5:=HDJ.out;rw[List.take_of_length_le (by rw[HPN.out];exact Nat.le_refl _)]at h5;rw[HG3.out,h5])
       go_wp2_with (fail)
       go_ret;exact⟨by rw[HZ.out];rfl,HB1.out.trans (HBJ.out.mono HB1.out.size)⟩
theorem rsizes_calls {Mt:Nat→Prop} {w:World} (c:SCf) {cf:Cf} (hc:CfAt Mt w c cf):Calls Tryz.prog 24 #[c.v] w fun e w'=>e= .returned (.bool (szs cf))∧Below w.heap.size w w':=by
 obtain⟨w1,hw1⟩:∃w1,w.alloc (.cells #[.slice c.lps.A c.lps.n c.lps.c,.slice c.pgs.A c.pgs.n c.pgs.c,.int .i64 c.la,.int .i64 c.en,.int .i64 c.cp] TCf)=w1:=⟨_,rfl⟩;have hb1:Below w.heap.size w w1:=hw1▸below_alloc (Below.refl _ _) _;have hk1:w1.heap[w.heap.size]?=some (.cells (cf5 c) TCf (0,0)):=by rw[←hw1];exact World.alloc_heap_new _ _
 obtain⟨a0,a1,a2,a3,a4⟩:=cfbox_at hk1 (Below.refl _ _);obtain⟨hln,hpn⟩:=hc.lens;have HBX:=am (show CfBox Mt w1 w.heap.size c cf from⟨hc.keep (Keep.of_below hb1),hk1⟩);have HB1:=am hb1;obtain⟨G,hG⟩:∃G,szs cf=G:=⟨_,rfl⟩;rw[hG];have hG2:G=(wi c.lps.n 1 8&&(decide ((c.pgs.n:Int)≤8)&&(wi c.cp 1 64&&(wi c.en 0 1152921504606846976&&cf.lps.all fun l=>decide ((l.length:Int)≤8))))):=by rw[←hG,hln,hpn,hc.cp,hc.en];rfl
 have HG:=am hG2;have HLN:=am hln;have HPN:=am hpn;clear hb1 hk1 hc hG hG2 hln hpn;obtain⟨⟨lA,ln,lc⟩,⟨pA,pn,pc⟩,la,en,cp⟩:=c;simp only[SCf.v]at*;have hcase:(ln<1∨8<ln∨8<pn)∨(1≤ln∧ln≤8∧pn≤8):=by omega
 rcases hcase with hbad|⟨g1,g2,g3⟩
 ·have HZ:=am (show G=false by
   rw[HG.out];rcases hbad with h|h|h
   ·rw[show wi (ln:Int) 1 8=false by simp[wi];omega];rfl
   ·rw[show wi (ln:Int) 1 8=false by simp[wi];omega];rfl
   ·rw[show decide ((pn:Int)≤8)=false from df (by omega)];simp)
  rcases hbad with h|h|h
  ·have d1:decide ((ln:Int)<1)=true:=dt (by omega);have d1':decide (ln<1)=true:=decide_eq_true h;go_enter Tryz.func24,Tryz.ntmps24;go_upto_region 1 with (fail)
   clear hw1
   go_wp2_with (fail)
   go_ret;exact⟨by rw[HZ.out];rfl,HB1.out⟩
  ·have d1:decide ((ln:Int)<1)=false:=df (by omega);have d1':decide (ln<1)=false:=df (by omega);have d2:decide (8<(ln:Int))=true:=dt (by omega);have d2':decide (8<ln)=true:=decide_eq_true h;go_enter Tryz.func24,Tryz.ntmps24;go_upto_region 1 with (fail)
   clear hw1
   go_wp2_with (fail)
   go_ret;exact⟨by rw[HZ.out];rfl,HB1.out⟩
  ·have d3:decide (8<(pn:Int))=true:=dt (by omega);have d3':decide (8<pn)=true:=decide_eq_true h;go_enter Tryz.func24,Tryz.ntmps24;go_upto_region 1 with (fail)
   clear hw1
   go_wp2_with (fail)
   all_goals go_ret
   all_goals exact⟨by rw[HZ.out];rfl,HB1.out⟩
 ·have d1:decide ((ln:Int)<1)=false:=df (by omega);have d1':decide (ln<1)=false:=df (by omega);have d2:decide (8<(ln:Int))=false:=df (by omega);have d2':decide (8<ln)=false:=df (by omega);have d3:decide (8<(pn:Int))=false:=df (by omega);have d3':decide (8<pn)=false:=df (by omega);have HG2:=am (show G=((wi cp 1 64&&wi en 0 1152921504606846976)&&cf.lps.all fun l=>decide ((l.length:Int)≤8))by
   rw[HG.out,show wi (ln:Int) 1 8=true by simp[wi];omega,show decide ((pn:Int)≤8)=true from dt (by omega),Bool.true_and,Bool.true_and,Bool.and_assoc])
  go_enter Tryz.func24,Tryz.ntmps24;go_upto_region 1 with (fail)
  clear hw1
  go_wp2_with (fail)
  clear a0 a1 a2 a3 a4
  go_loopw [3] (fun i wr=>∃k:Nat,k≤ln∧i= .int .i64 k∧Aside0 ((cf.lps.take k).all (fun l=>decide ((l.length:Int)≤8))=true)∧Aside0 (Below w1.heap.size w1 wr)) (fun i _=>ln-(intOf i).toNat)
  case atStart=>exact⟨0,Nat.zero_le _,rfl,⟨by simp⟩,⟨Below.refl _ _⟩⟩
  case round=>
   obtain⟨k,hk,rfl,HD,HB⟩:=hrel;obtain⟨a0,a1,a2,a3,a4⟩:=cfbox_at HBX.out.box HB.out;by_cases hlt:k<ln
   ·have e3:decide ((k:Int)<(ln:Int))=true:=dt (by omega);have e3':decide (k<ln)=true:=decide_eq_true hlt;have h3:k<cf.lps.length:=by have:=HLN.out;omega
    obtain⟨ad,s,e4,p0,hsn,hrd⟩:=HBX.out.lp HB.out k h3;simp only at e4;subst e4;have m0:(0:Int)≤(k:Int):=by omega
    have m1:(k:Int)<(ln:Nat):=by omega
    obtain⟨sA,sn,sc⟩:=s;simp only at p0 hsn;have HSN:=am hsn;clear hsn hrd;by_cases g3:8<sn
    ·have d3:decide (8<(sn:Int))=true:=dt (by omega);have d3':decide (8<sn)=true:=decide_eq_true g3;have HZ:=am (show G=false by
      have h5:(cf.lps.all fun l=>decide ((l.length:Int)≤8))=false:=by
       rw[List.all_eq_false];exact⟨_,List.getElem_mem h3,by rw[←HSN.out];simp;omega⟩
      rw[HG2.out,h5,Bool.and_false])
     go_wp2_with (fail)
     go_ret;exact⟨by rw[HZ.out];rfl,HB1.out.trans (HB.out.mono HB1.out.size)⟩
    ·have d3:decide (8<(sn:Int))=false:=df (by omega);have d3':decide (8<sn)=false:=decide_eq_false g3;have HZ:=am (show(cf.lps.take (k+1)).all (fun l=>decide ((l.length:Int)≤8))=true by rw[all_take_succ _ _ k h3,HD.out,←HSN.out];simp;omega);clear HSN h3
     go_wp2_with (fail)
     go_roundw
     ·exact⟨k+1,by omega,by go_num,HZ,HB⟩
     ·simp[intOf];omega
   ·obtain rfl:k=ln:=by omega
    have e3:decide ((k:Int)<(k:Int))=false:=df (by omega);have HG3:=am (show G=(wi cp 1 64&&wi en 0 1152921504606846976)by
     have h5:=HD.out;rw[List.take_of_length_le (by rw[HLN.out];exact Nat.le_refl _)]at h5;rw[HG2.out,h5,Bool.and_true])
    go_wp2_with (fail)
    all_goals go_ret
    all_goals exact⟨by rw[HG3.out];show Ending.returned (Value.bool _)=Ending.returned (Value.bool _);first|rfl|(congr 2;done)|(congr 2;rw[Bool.eq_iff_iff];simp[wi];done)|(congr 2;rw[Bool.eq_iff_iff];simp[wi];omega),HB1.out.trans (HB.out.mono HB1.out.size)⟩
theorem chk_eq (cf:Cf):chk cf=if szs cf=true then(if 1≤cf.la then(if fst1 (pck cf.pgs.length cf.lps.length cf.la) cf.pgs=0 then fst1 (fst1 (stc cf.pgs.length)) cf.lps else fst1 (pck cf.pgs.length cf.lps.length cf.la) cf.pgs)else 20)else 1:=by
 unfold chk;cases hs:szs cf
 ·rfl
 ·by_cases hl:1≤cf.la
  ·simp only[fst1,vd,if_true,decide_eq_true hl,if_pos hl]
   split
   ·split
    ·rename_i h;exact h.symm
    ·rfl
   ·rfl
  ·simp[fst1,vd,hl]
theorem rcheck_calls {Mt:Nat→Prop} {w:World} (c:SCf) {cf:Cf} (hc:CfAt Mt w c cf) (hs:CfSm cf):Calls Tryz.prog 8 #[c.v] w fun e w'=>e= .returned (.int .i64 (chk cf))∧Below w.heap.size w w':=by
 obtain⟨w1,hw1⟩:∃w1,w.alloc (.cells #[.slice c.lps.A c.lps.n c.lps.c,.slice c.pgs.A c.pgs.n c.pgs.c,.int .i64 c.la,.int .i64 c.en,.int .i64 c.cp] TCf)=w1:=⟨_,rfl⟩;have hb1:Below w.heap.size w w1:=hw1▸below_alloc (Below.refl _ _) _;have hk1:w1.heap[w.heap.size]?=some (.cells (cf5 c) TCf (0,0)):=by rw[←hw1];exact World.alloc_heap_new _ _
 obtain⟨a0,a1,a2,a3,a4⟩:=cfbox_at hk1 (Below.refl _ _);obtain⟨hln,hpn⟩:=hc.lens;have HBX:=am (show CfBox Mt w1 w.heap.size c cf from⟨hc.keep (Keep.of_below hb1),hk1⟩);have HB1:=am hb1;obtain⟨G,hG⟩:∃G,chk cf=G:=⟨_,rfl⟩;rw[hG];rw[chk_eq]at hG;obtain⟨bs,hbs⟩:∃b,szs cf=b:=⟨_,rfl⟩;have HSZ:=am (hbs▸rsizes_calls c (hc.keep (Keep.of_below hb1)));rw[hbs,←hc.la,←hln,←hpn]at hG;have HG:=am hG;have HLN:=am hln;have HPN:=am hpn;have HS:=am hs;clear hb1 hk1 hc hG hln hpn hbs hs;obtain⟨⟨lA,ln,lc⟩,⟨pA,pn,pc⟩,la,en,cp⟩:=c;simp only[SCf.v]at*;cases bs
 ·go_enter Tryz.func8,Tryz.ntmps8;go_upto_region 1 with (fail)
  clear hw1
  go_wp2_with (first|(go_at_call 24;go_must (with_reducible refine HSZ.out.mono ?_);go_must (rintro e w2 ⟨rfl,hb2⟩);have HB2:=HB1.go hb2;clear hb2))
  go_ret;exact⟨by rw[←HG.out];rfl,HB2.out⟩
 ·go_enter Tryz.func8,Tryz.ntmps8;go_upto_region 1 with (fail)
  clear hw1;go_upto_region 3 with (first|(go_at_call 24;go_must (with_reducible refine HSZ.out.mono ?_);go_must (rintro e w2 ⟨rfl,hb2⟩);have HB2:=am hb2;clear hb2))
  clear a0 a1 a2 a3 a4;obtain⟨a0,a1,a2,a3,a4⟩:=cfbox_at HBX.out.box HB2.out;simp only at a0 a1 a2 a3 a4;by_cases hla:la<1
  ·have d1:decide (la<1)=true:=decide_eq_true hla;have HZ:=am (show G=20 by rw[←HG.out,if_pos trivial,if_neg (by omega)])
   go_wp2_with (fail)
   go_ret;exact⟨by rw[HZ.out];rfl,HB1.out.trans (HB2.out.mono HB1.out.size)⟩
  ·have d1:decide (la<1)=false:=decide_eq_false hla;have hpb:pn≤1000:=by have:=HS.out.p;have:=HPN.out;omega
   have hlb:ln≤1000:=by have:=HS.out.l;have:=HLN.out;omega
   obtain⟨PG,hPG⟩:∃f,pck pn ln la=f:=⟨_,rfl⟩;have HPG:=am hPG;have HG2:=am (show G=if fst1 PG cf.pgs=0 then fst1 (fst1 (stc pn)) cf.lps else fst1 PG cf.pgs by rw[←HG.out,if_pos trivial,if_pos (by omega),hPG]);clear hPG
   go_wp2_with (fail)
   clear a0 a1 a2 a3 a4
   go_loopw [3] (fun i wr=>∃k:Nat,k≤pn∧i= .int .i64 k∧Aside0 (fst1 PG (cf.pgs.drop k)=fst1 PG cf.pgs)∧Aside0 (Below w1.heap.size w1 wr)) (fun i _=>pn-(intOf i).toNat)
   case atStart=>exact⟨0,Nat.zero_le _,rfl,⟨by rw[List.drop_zero]⟩,HB2⟩
   case round=>
    obtain⟨k,hk,rfl,HD,HB⟩:=hrel;obtain⟨a0,a1,a2,a3,a4⟩:=cfbox_at HBX.out.box HB.out;simp only at a0 a1 a2 a3 a4;by_cases hlt:k<pn
    ·have e3:decide ((k:Int)<(pn:Int))=true:=dt (by omega);have e3':decide (k<pn)=true:=decide_eq_true hlt;have h3:k<cf.pgs.length:=by have:=HPN.out;omega
     obtain⟨ad,s,e4,p0,hsn,hrd⟩:=HBX.out.pg HB.out k h3;simp only at e4;subst e4;have m0:(0:Int)≤(k:Int):=by omega
     have m1:(k:Int)<(pn:Nat):=by omega
     have hfd:=fst1_drop PG (List.getElem?_eq_getElem h3);rw[HD.out]at hfd;obtain⟨v,hv⟩:∃v,PG cf.pgs[k]=v:=⟨_,rfl⟩;rw[hv]at hfd;have HFD:=am hfd;have HC:=am (show∀W,Below wr.heap.size wr W→Calls Tryz.prog 25 #[.slice s.A s.n s.c,.int .i64 pn,.int .i64 ln,.int .i64 la] W (fun e w'=>e= .returned (.int .i64 v)∧Below W.heap.size W w')from fun W hb=>by
      have h5:=rpcheck_calls (hrd.below hb) (by have:=HS.out.pl _ (List.getElem_mem h3);omega) pn ln la;rw[HPG.out,hv]at h5;exact h5)
     obtain⟨sA,sn,sc⟩:=s;simp only at p0 HC;clear hsn hrd hfd hv h3;have HEL:=am (show∀w',Below wr.heap.size wr w'→w'.cell? ⟨w.heap.size,1,none⟩=some (.slice (some ad) pn pc)∧w'.cell? ⟨w.heap.size,0,none⟩=some (.slice lA ln lc)∧w'.cell? ⟨w.heap.size,2,none⟩=some (.int .i64 la)∧w'.cell? (ad.add k)=some (.slice sA sn sc)from fun w' hb=>by
      obtain⟨b0,b1,b2,b3,b4⟩:=cfbox_at HBX.out.box (HB.out.trans (hb.mono HB.out.size));exact⟨b1,b0,b2,(hb.cell (World.block_lt_of_cell? _ _ p0)).trans p0⟩)
     go_upto_region 8 with (fail)
     go_region_held3 (fun w'=>w'.cell? ⟨w.heap.size,1,none⟩=some (.slice (some ad) pn pc)∧w'.cell? ⟨w.heap.size,0,none⟩=some (.slice lA ln lc)∧w'.cell? ⟨w.heap.size,2,none⟩=some (.int .i64 la)∧w'.cell? (ad.add k)=some (.slice sA sn sc)) (exact⟨by assumption,by assumption,by assumption,by assumption⟩)
      (first|(go_at_call 25;(with_reducible refine(HC.out wr.drew (below_drew (Below.refl _ _))).mono ?_);rintro e w3 ⟨rfl,hb3⟩;obtain⟨y0,y1,y2,y3⟩:=HEL.out w3 ((below_drew (Below.refl _ _)).trans hb3);have HB3:=am (HB.out.trans (((below_drew (Below.refl wr.heap.size wr)).trans hb3).mono HB.out.size));clear hb3))
     by_cases hv0:v=0
     ·subst hv0;have HZ:=am (show fst1 PG (cf.pgs.drop (k+1))=fst1 PG cf.pgs by have:=HFD.out;rw[if_pos rfl]at this;exact this.symm)
      go_wp2_with (fail)
      go_roundw
      ·exact⟨k+1,by omega,by go_num,HZ,HB3⟩
      ·simp[intOf];omega
     ·have hz:(v != 0)=true:=bne_iff_ne.2 hv0;have HZ:=am (show G=v by
       have h5:=HFD.out;rw[if_neg hv0]at h5;rw[HG2.out,h5,if_neg hv0])
      go_wp2_with (fail)
      go_ret;exact⟨by rw[HZ.out];rfl,HB1.out.trans (HB3.out.mono HB1.out.size)⟩
    ·obtain rfl:k=pn:=by omega
     have e3:decide ((k:Int)<(k:Int))=false:=df (by omega);have HG3:=am (show G=fst1 (fst1 (stc k)) cf.lps by
      have h5:fst1 PG cf.pgs=0:=by rw[←HD.out,List.drop_eq_nil_of_le (by rw[HPN.out];exact Nat.le_refl _)];rfl
      rw[HG2.out,if_pos h5])
     go_wp2_with (fail)
     clear a0 a1 a2 a3 a4 e3
     go_loopw [5] (fun i wr=>∃j:Nat,j≤ln∧i= .int .i64 j∧Aside0 (fst1 (fst1 (stc k)) (cf.lps.drop j)=G)∧Aside0 (Below w1.heap.size w1 wr)) (fun i _=>ln-(intOf i).toNat)
     case atStart=>exact⟨0,Nat.zero_le _,rfl,⟨by rw[List.drop_zero];exact HG3.out.symm⟩,HB⟩
     case round=>
      obtain⟨j,hj,rfl,HDJ,HBJ⟩:=hrel;obtain⟨a0,a1,a2,a3,a4⟩:=cfbox_at HBX.out.box HBJ.out;simp only at a0 a1 a2 a3 a4;by_cases hlj:j<ln
      ·have e3:decide ((j:Int)<(ln:Int))=true:=dt (by omega);have e3':decide (j<ln)=true:=decide_eq_true hlj;have h3:j<cf.lps.length:=by have:=HLN.out;omega
       obtain⟨ad,s,e4,p0,hsn,hrd⟩:=HBX.out.lp HBJ.out j h3;simp only at e4;subst e4;have m0:(0:Int)≤(j:Int):=by omega
       have m1:(j:Int)<(ln:Nat):=by omega
       obtain⟨row,hrow⟩:∃row,cf.lps[j]=row:=⟨_,rfl⟩;have hfd:=fst1_drop (fst1 (stc k)) (List.getElem?_eq_getElem h3);rw[HDJ.out,hrow]at hfd;rw[hrow]at hsn hrd;have HFD:=am hfd;have HRD:=am hrd;have HSN:=am hsn;have hsb:s.n≤1000:=by have:=HS.out.ll _ (List.getElem_mem h3);rw[hrow]at this;omega
       obtain⟨sA,sn,sc⟩:=s;simp only at p0 HSN hsb;clear hsn hrd hfd hrow h3;have HEL:=am (show∀w',Below wr.heap.size wr w'→w'.cell? ⟨w.heap.size,1,none⟩=some (.slice pA k pc)∧w'.cell? ⟨w.heap.size,0,none⟩=some (.slice (some ad) ln lc)∧w'.cell? (ad.add j)=some (.slice sA sn sc)from fun w' hb=>by
        obtain⟨b0,b1,b2,b3,b4⟩:=cfbox_at HBX.out.box (HBJ.out.trans (hb.mono HBJ.out.size));exact⟨b1,b0,(hb.cell (World.block_lt_of_cell? _ _ p0)).trans p0⟩)
       go_upto_region 15 with (fail)
       clear a0 a1 a2 a3 a4 p0
       go_loopw [6] (fun i wi=>∃l:Nat,l≤sn∧i= .int .i64 l∧Aside0 (fst1 (stc k) (row.drop l)=fst1 (stc k) row)∧Aside0 (Below wr.heap.size wr wi)) (fun i _=>sn-(intOf i).toNat)
       case atStart=>exact⟨0,Nat.zero_le _,rfl,⟨by rw[List.drop_zero]⟩,⟨Below.refl _ _⟩⟩
       case round=>
        obtain⟨l,hl,rfl,HDL,HBL⟩:=hrel;obtain⟨y1,y0,y3⟩:=HEL.out wr HBL.out;have HBW:=am (HBJ.out.trans (HBL.out.mono HBJ.out.size));by_cases hll:l<sn
        ·have e5:decide ((l:Int)<(sn:Int))=true:=dt (by omega);have e5':decide (l<sn)=true:=decide_eq_true hll;obtain⟨ad2,x,rfl,⟨h2,hx⟩,q0,q1⟩:=st_cells ((HRD.out.below HBL.out).here) l hll;have hfd:=fst1_drop (stc k) (show row[l]?=some x by rw[List.getElem?_eq_getElem h2,hx]);rw[HDL.out]at hfd;obtain⟨xp,xt⟩:=x;have HFL:=am hfd;have n0:(0:Int)≤(l:Int):=by omega
         have n1:(l:Int)<(sn:Nat):=by omega
         simp only at q0 q1;clear hx hfd h2;obtain⟨w4,hw4⟩:∃w4,wr.alloc (.cells #[.int .i64 xp,.int .i64 xt] TSt2)=w4:=⟨_,rfl⟩;have hb4:Below wr.heap.size wr w4:=hw4▸below_alloc (Below.refl _ _) _;have hq4:w4.heap[wr.heap.size]?=some (.cells #[.int .i64 xp,.int .i64 xt] TSt2 (0,0)):=by rw[←hw4];exact World.alloc_heap_new _ _
         have z0:w4.cell? ⟨wr.heap.size,0,none⟩=some (.int .i64 xp):=by simp[World.cell?,hq4]
         have z1:w4.cell? ⟨wr.heap.size,1,none⟩=some (.int .i64 xt):=by simp[World.cell?,hq4]
         have HB4:=HBL.go hb4;have HW4:=am hw4;obtain⟨v1,v0,v3⟩:=HEL.out w4 HB4.out;clear hw4 hb4 hq4;go_upto_region 18 with (fail)
         rw[HW4.out];clear y1 y0 y3 q0 q1;have HE:=am (HB1.out.trans ((HBJ.out.trans (HB4.out.mono HBJ.out.size)).mono HB1.out.size));by_cases g1:xp<0∨(k:Int)≤xp
         ·have HZ:=am (show G=22 by
           have h5:stc k ⟨xp,xt⟩=22:=by
            unfold stc;rw[show wi xp 0 ((k:Int)-1)=false by simp[wi];omega];rfl
           have h6:=HFL.out;rw[h5,if_neg (by decide)]at h6;rw[HFD.out,h6];rfl)
          by_cases g2:xp<0
          ·have d2:decide (xp<0)=true:=decide_eq_true g2
           go_wp2_with (fail)
           go_ret;exact⟨by rw[HZ.out];rfl,HE.out⟩
          ·have d2:decide (xp<0)=false:=decide_eq_false g2;have d3:decide ((k:Int)≤xp)=true:=dt (by omega)
           go_wp2_with (fail)
           go_ret;exact⟨by rw[HZ.out];rfl,HE.out⟩
         ·have d2:decide (xp<0)=false:=df (by omega);have d3:decide ((k:Int)≤xp)=false:=df (by omega);have HV:=am (show stc k ⟨xp,xt⟩=vd (wi xt 0 1152921504606846976) 11 by
           unfold stc;rw[show wi xp 0 ((k:Int)-1)=true by simp[wi];omega];rfl)
          clear g1;by_cases g3:xt<0∨1152921504606846976<xt
          ·have HZ:=am (show G=11 by
            have h5:stc k ⟨xp,xt⟩=11:=by
             rw[HV.out,show wi xt 0 1152921504606846976=false by simp[wi];omega];rfl
            have h6:=HFL.out;rw[h5,if_neg (by decide)]at h6;rw[HFD.out,h6];rfl)
           by_cases g2:xt<0
           ·have d4:decide (xt<0)=true:=decide_eq_true g2
            go_wp2_with (fail)
            go_ret;exact⟨by rw[HZ.out];rfl,HE.out⟩
           ·have d4:decide (xt<0)=false:=decide_eq_false g2;have d5:decide (1152921504606846976<xt)=true:=dt (by omega)
            go_wp2_with (fail)
            go_ret;exact⟨by rw[HZ.out];rfl,HE.out⟩
          ·have d4:decide (xt<0)=false:=df (by omega);have d5:decide (1152921504606846976<xt)=false:=df (by omega);have HZ:=am (show fst1 (stc k) (row.drop (l+1))=fst1 (stc k) row by
            have h5:stc k ⟨xp,xt⟩=0:=by
             rw[HV.out,show wi xt 0 1152921504606846976=true by simp[wi];omega];rfl
            have h6:=HFL.out;rw[h5,if_pos rfl]at h6;exact h6.symm)
           clear g3
           go_wp2_with (fail)
           go_roundw
           ·exact⟨l+1,by omega,by go_num,HZ,HB4⟩
           ·simp[intOf];omega
        ·obtain rfl:l=sn:=by omega
         have e5:decide ((l:Int)<(l:Int))=false:=df (by omega);have HZ:=am (show fst1 (fst1 (stc k)) (cf.lps.drop (j+1))=G by
          have h5:fst1 (stc k) row=0:=by rw[←HDL.out,List.drop_eq_nil_of_le (by rw[HSN.out];exact Nat.le_refl _)];rfl
          have h6:=HFD.out;rw[h5,if_pos rfl]at h6;exact h6.symm)
         go_wp2_with (fail)
         go_roundw
         ·exact⟨j+1,by omega,by go_num,HZ,HBW⟩
         ·simp[intOf];omega
      ·obtain rfl:j=ln:=by omega
       have e3:decide ((j:Int)<(j:Int))=false:=df (by omega);have HZ:=am (show G=0 by rw[←HDJ.out,List.drop_eq_nil_of_le (by rw[HLN.out];exact Nat.le_refl _)];rfl)
       go_wp2_with (fail)
       go_ret;exact⟨by rw[HZ.out];rfl,HB1.out.trans (HBJ.out.mono HB1.out.size)⟩
def QuickOk (cf:Cf):Prop:=gre cf=false∧chk cf=0∧cf.la≤8
structure QRes (cf:Cf) (w w':World) (e:Ending):Prop where
 ex:∃b,e= .returned (.bool b)∧(b=true→QuickOk cf)
 below:Below w.heap.size w w'
theorem Quick_calls {Mt:Nat→Prop} {w:World} (c:SCf) {cf:Cf} (hc:CfAt Mt w c cf):Calls Tryz.prog 26 #[c.v] w fun e w'=>QRes cf w w' e:=by
 obtain⟨w1,hw1⟩:∃w1,w.alloc (.cells #[.slice c.lps.A c.lps.n c.lps.c,.slice c.pgs.A c.pgs.n c.pgs.c,.int .i64 c.la,.int .i64 c.en,.int .i64 c.cp] TCf)=w1:=⟨_,rfl⟩;have hb1:Below w.heap.size w w1:=hw1▸below_alloc (Below.refl _ _) _;have hk1:w1.heap[w.heap.size]?=some (.cells (cf5 c) TCf (0,0)):=by rw[←hw1];exact World.alloc_heap_new _ _
 obtain⟨a0,a1,a2,a3,a4⟩:=cfbox_at hk1 (Below.refl _ _);obtain⟨hln,hpn⟩:=hc.lens;have HBX:=am (show CfBox Mt w1 w.heap.size c cf from⟨hc.keep (Keep.of_below hb1),hk1⟩);have HB1:=am hb1;obtain⟨g,hg⟩:∃g,gre cf=g:=⟨_,rfl⟩;have HGR:=am (hg▸great_calls c (hc.keep (Keep.of_below hb1)));have HLN:=am hln;have HPN:=am hpn;cases g
 ·obtain⟨v,hv⟩:∃v,chk cf=v:=⟨_,rfl⟩;have HCK:=am (show∀W,Below w1.heap.size w1 W→Calls Tryz.prog 8 #[c.v] W (fun e w'=>e= .returned (.int .i64 v)∧Below W.heap.size W w')from fun W hb=>hv▸rcheck_calls c ((hc.keep (Keep.of_below hb1)).keep (Keep.of_below hb)) (gre_sm hg));have HS:=am (gre_sm hg);have HV:=am hv;have HGE:=am hg;have HLA:=am hc.la;clear hb1 hk1 hc hln hpn hv hg;obtain⟨⟨lA,ln,lc⟩,⟨pA,pn,pc⟩,la,en,cp⟩:=c;simp only[SCf.v]at*;have ARM:True:=trivial;by_cases hv0:v=0
  ·subst hv0;by_cases g1:8<la∨4<ln
   ·have hgo:True:=trivial;by_cases g2:8<la
    ·have d1:decide (8<la)=true:=decide_eq_true g2;go_enter Tryz.func26,Tryz.ntmps26;go_upto_region 1 with (fail)
     clear hw1
     go_wp2_with (first
      |(go_at_call 7;go_must (with_reducible refine HGR.out.mono ?_);go_must (rintro e w2 ⟨rfl,hb2⟩);go_must (obtain⟨b0,b1,b2,b3,b4⟩:=cfbox_at HBX.out.box hb2;simp only at b0 b1 b2 b3 b4);have HB2:=am hb2;clear hb2)
      |(go_at_call 8;go_must (with_reducible refine(HCK.out w2 HB2.out).mono ?_);go_must (rintro e w3 ⟨rfl,hb3⟩);go_must (have hb4:=HB2.out.trans (hb3.mono HB2.out.size);obtain⟨e0,e1,e2,e3,e4⟩:=cfbox_at HBX.out.box hb4;simp only at e0 e1 e2 e3 e4);have HB3:=am hb4;clear hb3 hb4))
     go_ret;exact⟨⟨false,rfl,fun h=>by cases h⟩,HB1.out.trans (HB3.out.mono HB1.out.size)⟩
    ·have d1:decide (8<la)=false:=decide_eq_false g2;have d2:decide (4<(ln:Int))=true:=dt (by omega);have d2':decide (4<ln)=true:=dt (by omega);go_enter Tryz.func26,Tryz.ntmps26;go_upto_region 1 with (fail)
     clear hw1
     go_wp2_with (first
      |(go_at_call 7;go_must (with_reducible refine HGR.out.mono ?_);go_must (rintro e w2 ⟨rfl,hb2⟩);go_must (obtain⟨b0,b1,b2,b3,b4⟩:=cfbox_at HBX.out.box hb2;simp only at b0 b1 b2 b3 b4);have HB2:=am hb2;clear hb2)
      |(go_at_call 8;go_must (with_reducible refine(HCK.out w2 HB2.out).mono ?_);go_must (rintro e w3 ⟨rfl,hb3⟩);go_must (have hb4:=HB2.out.trans (hb3.mono HB2.out.size);obtain⟨e0,e1,e2,e3,e4⟩:=cfbox_at HBX.out.box hb4;simp only at e0 e1 e2 e3 e4);have HB3:=am hb4;clear hb3 hb4))
     go_ret;exact⟨⟨false,rfl,fun h=>by cases h⟩,HB1.out.trans (HB3.out.mono HB1.out.size)⟩
   ·have d1:decide (8<la)=false:=df (by omega);have d2:decide (4<(ln:Int))=false:=df (by omega);have d2':decide (4<ln)=false:=df (by omega);have HQ:=am (show QuickOk cf from⟨HGE.out,HV.out,by rw[←HLA.out];omega⟩);have hpb:pn≤1000:=by have:=HS.out.p;have:=HPN.out;omega
    have hlb:ln≤1000:=by omega
    clear g1;go_enter Tryz.func26,Tryz.ntmps26;go_upto_region 1 with (fail)
    clear hw1
    go_wp2_with (first
     |(go_at_call 7;go_must (with_reducible refine HGR.out.mono ?_);go_must (rintro e w2 ⟨rfl,hb2⟩);go_must (obtain⟨b0,b1,b2,b3,b4⟩:=cfbox_at HBX.out.box hb2;simp only at b0 b1 b2 b3 b4);have HB2:=am hb2;clear hb2)
     |(go_at_call 8;go_must (with_reducible refine(HCK.out w2 HB2.out).mono ?_);go_must (rintro e w3 ⟨rfl,hb3⟩);go_must (have hb4:=HB2.out.trans (hb3.mono HB2.out.size);obtain⟨e0,e1,e2,e3,e4⟩:=cfbox_at HBX.out.box hb4;simp only at e0 e1 e2 e3 e4);have HB3:=am hb4;clear hb3 hb4))
    clear a0 a1 a2 a3 a4 b0 b1 b2 b3 b4 e0 e1 e2 e3 e4
    go_loopw [3,5] (fun v i wr=>∃(k:Nat) (a:Int),k≤ln∧v= .int .i64 a∧i= .int .i64 k∧Aside0 (Below w1.heap.size w1 wr)) (fun _ i _=>ln-(intOf i).toNat)
    case atStart=>exact⟨0,0,Nat.zero_le _,rfl,rfl,HB3⟩
    case round=>
     obtain⟨k,a,hk,rfl,rfl,HB⟩:=hrel;obtain⟨a0,a1,a2,a3,a4⟩:=cfbox_at HBX.out.box HB.out;simp only at a0 a1 a2 a3 a4;by_cases hlt:k<ln
     ·have e3:decide ((k:Int)<(ln:Int))=true:=dt (by omega);have e3':decide (k<ln)=true:=decide_eq_true hlt;have h3:k<cf.lps.length:=by have:=HLN.out;omega
      obtain⟨ad,s,e4,p0,hsn,hrd⟩:=HBX.out.lp HB.out k h3;simp only at e4;subst e4;have m0:(0:Int)≤(k:Int):=by omega
      have m1:(k:Int)<(ln:Nat):=by omega
      obtain⟨sA,sn,sc⟩:=s;simp only at p0;clear hsn hrd h3
      go_wp2_with (fail)
      go_roundw
      ·exact⟨k+1,_,by omega,rfl,by go_num,HB⟩
      ·simp[intOf];omega
     ·obtain rfl:k=ln:=by omega
      have e3:decide ((k:Int)<(k:Int))=false:=df (by omega)
      go_wp2_with (fail)
      clear a0 a1 a2 a3 a4 e3
      go_loopw [4,6] (fun v i wr=>∃(j:Nat) (b:Int),j≤pn∧v= .int .i64 b∧i= .int .i64 j∧Aside0 (Below w1.heap.size w1 wr)) (fun _ i _=>pn-(intOf i).toNat)
      case atStart=>exact⟨0,0,Nat.zero_le _,rfl,rfl,HB⟩
      case round=>
       obtain⟨j,b,hj,rfl,rfl,HBJ⟩:=hrel;obtain⟨a0,a1,a2,a3,a4⟩:=cfbox_at HBX.out.box HBJ.out;simp only at a0 a1 a2 a3 a4;by_cases hlj:j<pn
       ·have e3:decide ((j:Int)<(pn:Int))=true:=dt (by omega);have e3':decide (j<pn)=true:=decide_eq_true hlj;have h3:j<cf.pgs.length:=by have:=HPN.out;omega
        obtain⟨ad,s,e4,p0,hsn,hrd⟩:=HBX.out.pg HBJ.out j h3;simp only at e4;subst e4;have m0:(0:Int)≤(j:Int):=by omega
        have m1:(j:Int)<(pn:Nat):=by omega
        have hsb:s.n≤1000:=by have:=HS.out.pl _ (List.getElem_mem h3);omega
        have HRD:=am hrd;obtain⟨sA,sn,sc⟩:=s;simp only at p0 hsb;clear hsn hrd;have HEL:=am (show∀w',Below wr.heap.size wr w'→w'.cell? ⟨w.heap.size,1,none⟩=some (.slice (some ad) pn pc)∧w'.cell? (ad.add j)=some (.slice sA sn sc)from fun w' hb=>by
         obtain⟨b0,b1,b2,b3,b4⟩:=cfbox_at HBX.out.box (HBJ.out.trans (hb.mono HBJ.out.size));exact⟨b1,(hb.cell (World.block_lt_of_cell? _ _ p0)).trans p0⟩)
        go_upto_region 13 with (fail)
        clear a0 a1 a2 a3 a4 p0
        go_loopw [4,7] (fun v i wi=>∃(l:Nat) (b:Int),l≤sn∧v= .int .i64 b∧i= .int .i64 l∧Aside0 (Below wr.heap.size wr wi)) (fun _ i _=>sn-(intOf i).toNat)
        case atStart=>exact⟨0,b,Nat.zero_le _,rfl,rfl,⟨Below.refl _ _⟩⟩
        case round=>
         obtain⟨l,b2,hl,rfl,rfl,HBL⟩:=hrel;obtain⟨y1,y3⟩:=HEL.out wr HBL.out;by_cases hll:l<sn
         ·have e5:decide ((l:Int)<(sn:Int))=true:=dt (by omega);have e5':decide (l<sn)=true:=decide_eq_true hll;obtain⟨ad2,o,rfl,⟨h2,hx⟩,q0,q1,q2,q3⟩:=op_cells ((HRD.out.below HBL.out).here) l hll;obtain⟨oc,oa,ob,od⟩:=o;have n0:(0:Int)≤(l:Int):=by omega
          have n1:(l:Int)<(sn:Nat):=by omega
          simp only at q0;clear hx h2 q1 q2 q3;by_cases g3:oc=2
          ·have k1:(oc==2)=true:=beq_iff_eq.2 g3
           go_wp2_with (fail)
           go_roundw
           ·exact⟨l+1,_,by omega,rfl,by go_num,HBL⟩
           ·simp[intOf];omega
          ·have k1:(oc==2)=false:=beq_eq_false_iff_ne.2 g3
           go_wp2_with (fail)
           go_roundw
           ·exact⟨l+1,_,by omega,rfl,by go_num,HBL⟩
           ·simp[intOf];omega
         ·obtain rfl:l=sn:=by omega
          have e5:decide ((l:Int)<(l:Int))=false:=df (by omega)
          go_wp2_with (fail)
          go_roundw
          ·exact⟨j+1,_,by omega,rfl,by go_num,⟨HBJ.out.trans (HBL.out.mono HBJ.out.size)⟩⟩
          ·simp[intOf];omega
       ·obtain rfl:j=pn:=by omega
        have e3:decide ((j:Int)<(j:Int))=false:=df (by omega)
        go_wp2_with (fail)
        all_goals go_ret
        all_goals exact⟨⟨_,rfl,fun _=>HQ.out⟩,HB1.out.trans (HBJ.out.mono HB1.out.size)⟩
  ·have hz:(v != 0)=true:=bne_iff_ne.2 hv0;go_enter Tryz.func26,Tryz.ntmps26;go_upto_region 1 with (fail)
   clear hw1
   go_wp2_with (first
    |(go_at_call 7;go_must (with_reducible refine HGR.out.mono ?_);go_must (rintro e w2 ⟨rfl,hb2⟩);go_must (obtain⟨b0,b1,b2,b3,b4⟩:=cfbox_at HBX.out.box hb2;simp only at b0 b1 b2 b3 b4);have HB2:=am hb2;clear hb2)
    |(go_at_call 8;go_must (with_reducible refine(HCK.out w2 HB2.out).mono ?_);go_must (rintro e w3 ⟨rfl,hb3⟩);go_must (have hb4:=HB2.out.trans (hb3.mono HB2.out.size));have HB3:=am hb4;clear hb3 hb4))
   go_ret;exact⟨⟨false,rfl,fun h=>by cases h⟩,HB1.out.trans (HB3.out.mono HB1.out.size)⟩
 ·clear hb1 hk1 hc hln hpn;obtain⟨⟨lA,ln,lc⟩,⟨pA,pn,pc⟩,la,en,cp⟩:=c;simp only[SCf.v]at*;go_enter Tryz.func26,Tryz.ntmps26;go_upto_region 1 with (fail)
  clear hw1
  go_wp2_with (first
   |(go_at_call 7;go_must (with_reducible refine HGR.out.mono ?_);go_must (rintro e w2 ⟨rfl,hb2⟩);have HB2:=am hb2;clear hb2))
  go_ret;exact⟨⟨false,rfl,fun h=>by cases h⟩,HB1.out.trans (HB2.out.mono HB1.out.size)⟩
theorem quick_calls {Mt:Nat→Prop} {w:World} (c:SCf) {cf:Cf} (hc:CfAt Mt w c cf):Calls Tryz.prog 9 #[c.v] w fun e w'=>QRes cf w w' e:=by
 obtain⟨w1,hw1⟩:∃w1,w.alloc (.cells #[.slice c.lps.A c.lps.n c.lps.c,.slice c.pgs.A c.pgs.n c.pgs.c,.int .i64 c.la,.int .i64 c.en,.int .i64 c.cp] TCf)=w1:=⟨_,rfl⟩;have hb1:Below w.heap.size w w1:=hw1▸below_alloc (Below.refl _ _) _;have hk1:w1.heap[w.heap.size]?=some (.cells (cf5 c) TCf (0,0)):=by rw[←hw1];exact World.alloc_heap_new _ _
 obtain⟨a0,a1,a2,a3,a4⟩:=cfbox_at hk1 (Below.refl _ _);have HQ:=am (Quick_calls c (hc.keep (Keep.of_below hb1)));have HB1:=am hb1;clear hb1 hk1 hc;simp only[SCf.v]at*;go_enter Tryz.func9,Tryz.ntmps9;go_upto_region 1 with (fail)
 clear hw1
 go_wp2_with (first|(go_at_call 26;go_must (with_reducible refine HQ.out.mono ?_);go_must (rintro e w2 ⟨⟨b,rfl,hq⟩,hb2⟩);have HQ2:=am hq;have HB2:=HB1.go hb2;clear hb2 hq))
 go_ret;exact⟨⟨b,rfl,HQ2.out⟩,HB2.out⟩
section
theorem Rd.max {α:Type} {d:Kd α} {Mt:Nat→Prop} {w:World} {h:SH} {xs:List α} (r:Rd d Mt w h xs):h.n≤9223372036854775807:=r.here.2.1
theorem cmp0_calls (x:Int) (w:World):Calls Tryz.prog 116 #[.int .i64 x,.int .i64 x] w fun e w'=>e= .returned (.int .i64 0)∧Below w.heap.size w w':=by
 go_enter Tryz.func116,Tryz.ntmps116
 go_wp2_with (fail)
 go_ret;exact⟨rfl,Below.refl _ _⟩
theorem ckeq_calls {Mt:Nat→Prop} {w:World} {A B:Option Addr} {n m c d:Nat} {k:List Int} (ha:Rd (Kd.int .i64) Mt w ⟨A,n,c⟩ k) (hb:Rd (Kd.int .i64) Mt w ⟨B,m,d⟩ k):
  Calls Tryz.prog 94 #[.slice A n c,.slice B m d] w fun e w'=>e= .returned (.int .i64 0)∧Below w.heap.size w w':=by
 have h1:n=k.length:=ha.len;have h2:m=k.length:=hb.len;have hmax:n≤9223372036854775807:=ha.max;obtain rfl:m=n:=by omega
 have HA:=am ha;have HB:=am hb;have HL:=am h1;clear ha hb h1 h2;go_enter Tryz.func94,Tryz.ntmps94
 go_wp2_with (fail)
 go_loopw [5] (fun i wr=>∃j:Nat,j≤m∧i= .int .i64 j∧Aside0 (Below w.heap.size w wr)) (fun i _=>m-(intOf i).toNat)
 case atStart=>exact⟨0,Nat.zero_le _,rfl,⟨Below.refl _ _⟩⟩
 case round=>
  obtain⟨j,hj,rfl,HBW⟩:=hrel;by_cases hlt:j<m
  ·have e1:decide ((j:Int)<(m:Int))=true:=dt (by omega);have e1':decide (j<m)=true:=decide_eq_true hlt;obtain⟨ad,x,rfl,p0,h2,hx⟩:=at_int ((HA.out.below HBW.out).here) j hlt;obtain⟨ad2,y,rfl,q0,h3,hy⟩:=at_int ((HB.out.below HBW.out).here) j hlt;obtain rfl:x=y:=hx.symm.trans hy;have m0:(0:Int)≤(j:Int):=by omega
   have m1:(j:Int)<(m:Nat):=by omega
   clear hx hy h2 h3;go_upto_region 4 with (fail)
   go_region_held3 (fun w'=>w'.cell? (ad.add j)=some (.int .i64 x)∧w'.cell? (ad2.add j)=some (.int .i64 x)) (exact⟨by assumption,by assumption⟩) (fail)
   go_wp2_with (fail)
   go_roundw
   ·exact⟨j+1,by omega,by go_num,⟨HBW.out.trans ((below_drew (Below.refl _ _)).mono HBW.out.size)⟩⟩
   ·simp[intOf];omega
  ·obtain rfl:j=m:=by omega
   have e1:decide ((j:Int)<(j:Int))=false:=df (by omega);have HC:=am (cmp0_calls j wr)
   go_wp2_with (first|(go_at_call 116;go_must (with_reducible refine HC.out.mono ?_);go_must (rintro e w2 ⟨rfl,hb2⟩);have HB2:=HBW.go hb2;clear hb2))
   go_ret;exact⟨rfl,HB2.out⟩
theorem skeq_calls {Mt:Nat→Prop} {w:World} {A B:Option Addr} {n m c d:Nat} {k:List Int} (ha:Rd (Kd.int .i64) Mt w ⟨A,n,c⟩ k) (hb:Rd (Kd.int .i64) Mt w ⟨B,m,d⟩ k):
  Calls Tryz.prog 62 #[.slice A n c,.slice B m d] w fun e w'=>e= .returned (.bool true)∧Below w.heap.size w w':=by
 have HC:=am (ckeq_calls ha hb);clear ha hb;go_enter Tryz.func62,Tryz.ntmps62
 go_wp2_with (first|(go_at_call 94;go_must (with_reducible refine HC.out.mono ?_);go_must (rintro e w2 ⟨rfl,hb2⟩);have HB2:=am hb2;clear hb2))
 go_ret;exact⟨rfl,HB2.out⟩
abbrev TEv:TypeId:=49
theorem ev_box {w:World} {q:Nat} {x:SE} (h:w.heap[q]?=some (.cells #[.int .i64 x.t,.slice x.k.A x.k.n x.k.c,.int .i64 x.lp,.int .i64 x.kd,.int .i64 x.pr,.int .i64 x.ar] TEv (0,0))):w.cell? ⟨q,0,none⟩=some (.int .i64 x.t)∧w.cell? ⟨q,1,none⟩=some (.slice x.k.A x.k.n x.k.c)∧w.cell? ⟨q,2,none⟩=some (.int .i64 x.lp)∧w.cell? ⟨q,3,none⟩=some (.int .i64 x.kd)∧w.cell? ⟨q,4,none⟩=some (.int .i64 x.pr)∧w.cell? ⟨q,5,none⟩=some (.int .i64 x.ar):=by
 refine⟨?_,?_,?_,?_,?_,?_⟩<;>simp[World.cell?,h]
theorem seeq_calls {Mt:Nat→Prop} {w:World} {x y:SE} {e:Ev} (hx:EvAt Mt w x e) (hy:EvAt Mt w y e):Calls Tryz.prog 58 #[x.v,y.v] w fun r w'=>r= .returned (.bool true)∧Below w.heap.size w w':=by
 obtain⟨w1,hw1⟩:∃w1,(w.alloc (.cells #[.int .i64 x.t,.slice x.k.A x.k.n x.k.c,.int .i64 x.lp,.int .i64 x.kd,.int .i64 x.pr,.int .i64 x.ar] TEv)).alloc (.cells #[.int .i64 y.t,.slice y.k.A y.k.n y.k.c,.int .i64 y.lp,.int .i64 y.kd,.int .i64 y.pr,.int .i64 y.ar] TEv)=w1:=⟨_,rfl⟩;obtain⟨hb1,hq1,hq2⟩:=box2 hw1;have HC:=am (skeq_calls (hx.k.below hb1) (hy.k.below hb1));obtain⟨xt,⟨xA,xn,xc⟩,xl,xd,xp,xa⟩:=x;obtain⟨yt,⟨yA,yn,yc⟩,yl,yd,yp,ya⟩:=y;obtain rfl:xt=yt:=hx.t.trans hy.t.symm;obtain rfl:xl=yl:=hx.lp.trans hy.lp.symm;obtain rfl:xd=yd:=hx.kd.trans hy.kd.symm
 obtain rfl:xp=yp:=hx.pr.trans hy.pr.symm;obtain rfl:xa=ya:=hx.ar.trans hy.ar.symm;have HB1:=am hb1;have HQ:=am (show∀w',Below w1.heap.size w1 w'→_ from fun w' hb=>And.intro (ev_box (x:=⟨xt,⟨xA,xn,xc⟩,xl,xd,xp,xa⟩) (box_more hb hq1)) (ev_box (x:=⟨xt,⟨yA,yn,yc⟩,xl,xd,xp,xa⟩) (box_more hb hq2)));obtain⟨⟨a0,a1,a2,a3,a4,a5⟩,b0,b1,b2,b3,b4,b5⟩:=HQ.out w1 (Below.refl _ _);simp only[SE.v]at*;clear hx hy hb1 hq1 hq2;go_enter Tryz.func58,Tryz.ntmps58;go_upto_region 1 with (fail)
 clear hw1
 go_wp2_with (first|(go_at_call 62;go_must (with_reducible refine HC.out.mono ?_);go_must (rintro e w2 ⟨rfl,hb2⟩);go_must (obtain⟨⟨c0,c1,c2,c3,c4,c5⟩,d0,d1,d2,d3,d4,d5⟩:=HQ.out w2 hb2);have HB2:=HB1.go hb2;clear hb2))
 go_ret;exact⟨rfl,HB2.out⟩
theorem evseq_calls {Mt:Nat→Prop} {w:World} {A B:Option Addr} {n m c d:Nat} {es:List Ev} (ha:EvsAt Mt w ⟨A,n,c⟩ es) (hb:EvsAt Mt w ⟨B,m,d⟩ es):
  Calls Tryz.prog 33 #[.slice A n c,.slice B m d] w fun e w'=>e= .returned (.bool true)∧Below w.heap.size w w':=by
 obtain⟨sa,ra,ea⟩:=ha;obtain⟨sb,rb,eb⟩:=hb;have h1:n=sa.length:=ra.len;have h2:m=sb.length:=rb.len;have h3:=ea.len;have h4:=eb.len;have hmax:n≤9223372036854775807:=ra.max;obtain rfl:m=n:=by omega
 have HA:=am ra;have HB:=am rb;have HEA:=am ea;have HEB:=am eb;have HL:=am (show m=es.length by omega);clear ra rb ea eb h1 h2 h3 h4;go_enter Tryz.func33,Tryz.ntmps33
 go_wp2_with (fail)
 go_loopw [5] (fun i wr=>∃j:Nat,j≤m∧i= .int .i64 j∧Aside0 (Below w.heap.size w wr)) (fun i _=>m-(intOf i).toNat)
 case atStart=>exact⟨0,Nat.zero_le _,rfl,⟨Below.refl _ _⟩⟩
 case round=>
  obtain⟨j,hj,rfl,HBW⟩:=hrel;by_cases hlt:j<m
  ·have e1:decide ((j:Int)<(m:Int))=true:=dt (by omega);have e1':decide (j<m)=true:=decide_eq_true hlt;obtain⟨ad,x,rfl,⟨h2,hx⟩,p0,p1,p2,p3,p4,p5⟩:=ev_cells ((HA.out.below HBW.out).here) j hlt;obtain⟨ad2,y,rfl,⟨h3,hy⟩,q0,q1,q2,q3,q4,q5⟩:=ev_cells ((HB.out.below HBW.out).here) j hlt;have h5:j<es.length:=by have:=HL.out;omega
   have hex:=HEA.out.get j h2 h5;have hey:=HEB.out.get j h3 h5;rw[hx]at hex;rw[hy]at hey;have m0:(0:Int)≤(j:Int):=by omega
   have m1:(j:Int)<(m:Nat):=by omega
   have HC:=am (show∀W,Below wr.heap.size wr W→Calls Tryz.prog 58 #[x.v,y.v] W (fun e w'=>e= .returned (.bool true)∧Below W.heap.size W w')from fun W hb=>seeq_calls (hex.keep (Keep.of_below (HBW.out.trans (hb.mono HBW.out.size)))) (hey.keep (Keep.of_below (HBW.out.trans (hb.mono HBW.out.size)))));obtain⟨xt,⟨xA,xn,xc⟩,xl,xd,xp,xa⟩:=x;obtain⟨yt,⟨yA,yn,yc⟩,yl,yd,yp,ya⟩:=y;simp only[SE.v]at p0 p1 p2 p3 p4 p5 q0 q1 q2 q3 q4 q5 HC;clear hx hy h2 h3 h5 hex hey
   have HEL:=am (show∀w',Below wr.heap.size wr w'→w'.cell? (ad.add (j*6))=some (.int .i64 xt)∧w'.cell? ⟨(ad.add (j*6)).block,(ad.add (j*6)).off+1,none⟩=some (.slice xA xn xc)∧w'.cell? ⟨(ad.add (j*6)).block,(ad.add (j*6)).off+2,none⟩=some (.int .i64 xl)∧w'.cell? ⟨(ad.add (j*6)).block,(ad.add (j*6)).off+3,none⟩=some (.int .i64 xd)∧w'.cell? ⟨(ad.add (j*6)).block,(ad.add (j*6)).off+4,none⟩=some (.int .i64 xp)∧w'.cell? ⟨(ad.add (j*6)).block,(ad.add (j*6)).off+5,none⟩=some (.int .i64 xa)∧w'.cell? (ad2.add (j*6))=some (.int .i64 yt)∧w'.cell? ⟨(ad2.add (j*6)).block,(ad2.add (j*6)).off+1,none⟩=some (.slice yA yn yc)∧w'.cell? ⟨(ad2.add (j*6)).block,(ad2.add (j*6)).off+2,none⟩=some (.int .i64 yl)∧w'.cell? ⟨(ad2.add (j*6)).block,(ad2.add (j*6)).off+3,none⟩=some (.int .i64 yd)∧w'.cell? ⟨(ad2.add (j*6)).block,(ad2.add (j*6)).off+4,none⟩=some (.int .i64 yp)∧w'.cell? ⟨(ad2.add (j*6)).block,(ad2.add (j*6)).off+5,none⟩=some (.int .i64 ya)from fun w' hb=>⟨(hb.cell (World.block_lt_of_cell? _ _ p0)).trans p0,(hb.cell (World.block_lt_of_cell? _ _ p1)).trans p1,(hb.cell (World.block_lt_of_cell? _ _ p2)).trans p2,(hb.cell (World.block_lt_of_cell? _ _ p3)).trans p3,(hb.cell (World.block_lt_of_cell? _ _ p4)).trans p4,(hb.cell (World.block_lt_of_cell? _ _ p5)).trans p5,(hb.cell (World.block_lt_of_cell? _ _ q0)).trans q0,(hb.cell (World.block_lt_of_cell? _ _ q1)).trans q1,(hb.cell (World.block_lt_of_cell? _ _ q2)).trans q2,(hb.cell (World.block_lt_of_cell? _ _ q3)).trans q3,(hb.cell (World.block_lt_of_cell? _ _ q4)).trans q4,(hb.cell (World.block_lt_of_cell? _ _ q5)).trans q5⟩)
   go_upto_region 6 with (fail)
   go_region_held3 (fun w'=>w'.cell? (ad.add (j*6))=some (.int .i64 xt)∧w'.cell? ⟨(ad.add (j*6)).block,(ad.add (j*6)).off+1,none⟩=some (.slice xA xn xc)∧w'.cell? ⟨(ad.add (j*6)).block,(ad.add (j*6)).off+2,none⟩=some (.int .i64 xl)∧w'.cell? ⟨(ad.add (j*6)).block,(ad.add (j*6)).off+3,none⟩=some (.int .i64 xd)∧w'.cell? ⟨(ad.add (j*6)).block,(ad.add (j*6)).off+4,none⟩=some (.int .i64 xp)∧w'.cell? ⟨(ad.add (j*6)).block,(ad.add (j*6)).off+5,none⟩=some (.int .i64 xa)∧w'.cell? (ad2.add (j*6))=some (.int .i64 yt)∧w'.cell? ⟨(ad2.add (j*6)).block,(ad2.add (j*6)).off+1,none⟩=some (.slice yA yn yc)∧w'.cell? ⟨(ad2.add (j*6)).block,(ad2.add (j*6)).off+2,none⟩=some (.int .i64 yl)∧w'.cell? ⟨(ad2.add (j*6)).block,(ad2.add (j*6)).off+3,none⟩=some (.int .i64 yd)∧w'.cell? ⟨(ad2.add (j*6)).block,(ad2.add (j*6)).off+4,none⟩=some (.int .i64 yp)∧w'.cell? ⟨(ad2.add (j*6)).block,(ad2.add (j*6)).off+5,none⟩=some (.int .i64 ya)) (exact⟨by assumption,by assumption,by assumption,by assumption,by assumption,by assumption,by assumption,by assumption,by assumption,by assumption,by assumption,by assumption⟩)
    (first|(go_at_call 58;(with_reducible refine(HC.out wr.drew (below_drew (Below.refl _ _))).mono ?_);rintro e w3 ⟨rfl,hb3⟩;obtain⟨y0,y1,y2,y3,y4,y5,y6,y7,y8,y9,y10,y11⟩:=HEL.out w3 ((below_drew (Below.refl _ _)).trans hb3);have HB3:=am (HBW.out.trans (((below_drew (Below.refl wr.heap.size wr)).trans hb3).mono HBW.out.size));clear hb3))
   go_wp2_with (fail)
   go_roundw
   ·exact⟨j+1,by omega,by go_num,HB3⟩
   ·simp[intOf];omega
  ·obtain rfl:j=m:=by omega
   have e1:decide ((j:Int)<(j:Int))=false:=df (by omega)
   go_wp2_with (fail)
   go_ret;exact⟨rfl,HBW.out⟩
theorem trseq_calls {Mt:Nat→Prop} {w:World} {A B:Option Addr} {n m c d:Nat} {ess:List (List Ev)} (ha:EvssAt Mt w ⟨A,n,c⟩ ess) (hb:EvssAt Mt w ⟨B,m,d⟩ ess):
  Calls Tryz.prog 20 #[.slice A n c,.slice B m d] w fun e w'=>e= .returned (.bool true)∧Below w.heap.size w w':=by
 obtain⟨sa,ra,ea⟩:=ha;obtain⟨sb,rb,eb⟩:=hb;have h1:n=sa.length:=ra.len;have h2:m=sb.length:=rb.len;have h3:=ea.len;have h4:=eb.len;have hmax:n≤9223372036854775807:=ra.max;obtain rfl:m=n:=by omega
 have HA:=am ra;have HB:=am rb;have HEA:=am ea;have HEB:=am eb;have HL:=am (show m=ess.length by omega);clear ra rb ea eb h1 h2 h3 h4;go_enter Tryz.func20,Tryz.ntmps20
 go_wp2_with (fail)
 go_loopw [5] (fun i wr=>∃j:Nat,j≤m∧i= .int .i64 j∧Aside0 (Below w.heap.size w wr)) (fun i _=>m-(intOf i).toNat)
 case atStart=>exact⟨0,Nat.zero_le _,rfl,⟨Below.refl _ _⟩⟩
 case round=>
  obtain⟨j,hj,rfl,HBW⟩:=hrel;by_cases hlt:j<m
  ·have e1:decide ((j:Int)<(m:Int))=true:=dt (by omega);have e1':decide (j<m)=true:=decide_eq_true hlt;obtain⟨ad,x,rfl,⟨h2,hx⟩,p0⟩:=hd_cells ((HA.out.below HBW.out).here) j hlt;obtain⟨ad2,y,rfl,⟨h3,hy⟩,q0⟩:=hd_cells ((HB.out.below HBW.out).here) j hlt;have h5:j<ess.length:=by have:=HL.out;omega
   have hex:=HEA.out.get j h2 h5;have hey:=HEB.out.get j h3 h5;rw[hx]at hex;rw[hy]at hey;have m0:(0:Int)≤(j:Int):=by omega
   have m1:(j:Int)<(m:Nat):=by omega
   have HC:=am (show∀W,Below wr.heap.size wr W→Calls Tryz.prog 33 #[.slice x.A x.n x.c,.slice y.A y.n y.c] W (fun e w'=>e= .returned (.bool true)∧Below W.heap.size W w')from fun W hb=>evseq_calls (hex.keep (Keep.of_below (HBW.out.trans (hb.mono HBW.out.size)))) (hey.keep (Keep.of_below (HBW.out.trans (hb.mono HBW.out.size)))));obtain⟨xA,xn,xc⟩:=x;obtain⟨yA,yn,yc⟩:=y;simp only at p0 q0 HC;clear hx hy h2 h3 h5 hex hey
   have HEL:=am (show∀w',Below wr.heap.size wr w'→w'.cell? (ad.add j)=some (.slice xA xn xc)∧w'.cell? (ad2.add j)=some (.slice yA yn yc)from fun w' hb=>⟨(hb.cell (World.block_lt_of_cell? _ _ p0)).trans p0,(hb.cell (World.block_lt_of_cell? _ _ q0)).trans q0⟩);go_upto_region 6 with (fail)
   go_region_held3 (fun w'=>w'.cell? (ad.add j)=some (.slice xA xn xc)∧w'.cell? (ad2.add j)=some (.slice yA yn yc)) (exact⟨by assumption,by assumption⟩)
    (first|(go_at_call 33;(with_reducible refine(HC.out wr.drew (below_drew (Below.refl _ _))).mono ?_);rintro e w3 ⟨rfl,hb3⟩;obtain⟨y0,y1⟩:=HEL.out w3 ((below_drew (Below.refl _ _)).trans hb3);have HB3:=am (HBW.out.trans (((below_drew (Below.refl wr.heap.size wr)).trans hb3).mono HBW.out.size));clear hb3))
   go_wp2_with (fail)
   go_roundw
   ·exact⟨j+1,by omega,by go_num,HB3⟩
   ·simp[intOf];omega
  ·obtain rfl:j=m:=by omega
   have e1:decide ((j:Int)<(j:Int))=false:=df (by omega)
   go_wp2_with (fail)
   go_ret;exact⟨rfl,HBW.out⟩
theorem pr_cells {w:World} {A:Option Addr} {n:Nat} {l:List SP} (h:Kd.C kPr w A n l) (k:Nat) (hk:k<n):∃ad x,A=some ad∧(∃h2:k<l.length,l[k]=x)∧
  w.cell? (ad.add (k*4))=some (.int .i64 x.pg)∧w.cell? ⟨(ad.add (k*4)).block,(ad.add (k*4)).off+1,none⟩=some (.int .i64 x.pc)∧w.cell? ⟨(ad.add (k*4)).block,(ad.add (k*4)).off+2,none⟩=some (.bool x.al)∧w.cell? ⟨(ad.add (k*4)).block,(ad.add (k*4)).off+3,none⟩=some (.slice x.tm.A x.tm.n x.tm.c):=by
 obtain⟨ad,x,e,h2,h3,q⟩:=flat_cells h k hk;exact⟨ad,x,e,h2,h3 _ rfl,q 1 _ (by decide) rfl,q 2 _ (by decide) rfl,q 3 _ (by decide) rfl⟩
theorem eqArr (a b:Int) (w:World):(Op.equalIn 10000 88 (.agg #[.int .i64 a,.int .i64 b]) (.agg #[.int .i64 a,.int .i64 b])).run Tryz.prog w= .ok true w:=by
 have u3:=Tryz.underlying3;have a3:=Tryz.isAgg3;have z3:=Tryz.sizeOf3;rw[show(10000:Nat)=9999+1 from rfl,Op.equalIn];simp only[Sem.run_bind,run_underlying Tryz.underlying88,Result.andThen_ok];simp only[Std.Legacy.Range.forIn_eq_forIn_range',Std.Legacy.Range.size,Nat.sub_zero,Nat.add_sub_cancel,Nat.div_one,List.range'_succ,List.range'_zero,List.forIn_cons,List.forIn_nil];go_simp
attribute [local go_sem] eqArr
abbrev TLp2:TypeId:=91
abbrev TPr:TypeId:=114
theorem four {w:World} {q:Nat} {t:TypeId} {a b c d:Value} (h:w.heap[q]?=some (.cells #[a,b,c,d] t (0,0))):w.cell? ⟨q,0,none⟩=some a∧w.cell? ⟨q,1,none⟩=some b∧w.cell? ⟨q,2,none⟩=some c∧w.cell? ⟨q,3,none⟩=some d:=by
 refine⟨?_,?_,?_,?_⟩<;>simp[World.cell?,h]
theorem lpeq_calls {Mt:Nat→Prop} {w:World} {x y:SLp} {l:Lp} (hx:LpAt Mt w x l) (hy:LpAt Mt w y l):Calls Tryz.prog 41 #[x.v,y.v] w fun r w'=>r= .returned (.bool true)∧Below w.heap.size w w':=by
 obtain⟨w1,hw1⟩:∃w1,(w.alloc (.cells #[.int .i64 x.r0,.int .i64 x.r1,.slice x.ps.A x.ps.n x.ps.c,.int .i64 x.sum] TLp2)).alloc (.cells #[.int .i64 y.r0,.int .i64 y.r1,.slice y.ps.A y.ps.n y.ps.c,.int .i64 y.sum] TLp2)=w1:=⟨_,rfl⟩;obtain⟨hb1,hq1,hq2⟩:=box2 hw1;obtain⟨sa,ra,ea⟩:=hx.ps;obtain⟨sb,rb,eb⟩:=hy.ps;obtain⟨xr,xs,⟨xA,xn,xc⟩,xu⟩:=x;obtain⟨yr,ys,⟨yA,yn,yc⟩,yu⟩:=y;obtain rfl:xr=yr:=hx.r0.trans hy.r0.symm;obtain rfl:xs=ys:=hx.r1.trans hy.r1.symm;obtain rfl:xu=yu:=hx.sum.trans hy.sum.symm;have h1:xn=sa.length:=ra.len;have h2:yn=sb.length:=rb.len;have h3:=ea.len;have h4:=eb.len
 have hmax:xn≤9223372036854775807:=ra.max;obtain rfl:yn=xn:=by omega
 have HA:=am ra;have HB:=am rb;have HEA:=am ea;have HEB:=am eb;have HL:=am (show yn=l.ps.length by omega);have HB1:=am hb1;have HQ:=am (show∀w',Below w1.heap.size w1 w'→_ from fun w' hb=>And.intro (four (box_more hb hq1)) (four (box_more hb hq2)));obtain⟨⟨a0,a1,a2,a3⟩,b0,b1,b2,b3⟩:=HQ.out w1 (Below.refl _ _);simp only[SLp.v]at*;clear hx hy hb1 hq1 hq2 ra rb ea eb h1 h2 h3 h4;go_enter Tryz.func41,Tryz.ntmps41;go_upto_region 1 with (fail)
 clear hw1
 go_wp2_with (fail)
 clear a0 a1 a2 a3 b0 b1 b2 b3
 go_loopw [5] (fun i wr=>∃j:Nat,j≤yn∧i= .int .i64 j∧Aside0 (Below w1.heap.size w1 wr)) (fun i _=>yn-(intOf i).toNat)
 case atStart=>exact⟨0,Nat.zero_le _,rfl,⟨Below.refl _ _⟩⟩
 case round=>
  obtain⟨j,hj,rfl,HBW⟩:=hrel;obtain⟨⟨a0,a1,a2,a3⟩,b0,b1,b2,b3⟩:=HQ.out wr HBW.out;have HBV:=am (HB1.out.trans (HBW.out.mono HB1.out.size));by_cases hlt:j<yn
  ·have e1:decide ((j:Int)<(yn:Int))=true:=dt (by omega);have e1':decide (j<yn)=true:=decide_eq_true hlt;obtain⟨ad,x,rfl,⟨h2,hx⟩,p0,p1,p2,p3⟩:=pr_cells ((HA.out.below HBV.out).here) j hlt;obtain⟨ad2,y,rfl,⟨h3,hy⟩,q0,q1,q2,q3⟩:=pr_cells ((HB.out.below HBV.out).here) j hlt;have h5:j<l.ps.length:=by have:=HL.out;omega
   have hex:PcAt Mt w sa[j] l.ps[j]:=HEA.out.get j h2 h5;have hey:PcAt Mt w sb[j] l.ps[j]:=HEB.out.get j h3 h5;rw[hx]at hex;rw[hy]at hey;obtain⟨xg,xk,xl,⟨xA,xm,xc⟩⟩:=x;obtain⟨yg,yk,yl,⟨yA,ym,yc⟩⟩:=y;obtain rfl:xg=yg:=hex.pg.trans hey.pg.symm;obtain rfl:xk=yk:=hex.pc.trans hey.pc.symm;obtain rfl:xl=yl:=hex.al.trans hey.al.symm;simp only at p0 p1 p2 p3 q0 q1 q2 q3;obtain⟨w2,hw2⟩:∃w2,(wr.alloc (.cells #[.int .i64 xg,.int .i64 xk,.bool xl,.slice xA xm xc] TPr)).alloc (.cells #[.int .i64 xg,.int .i64 xk,.bool xl,.slice yA ym yc] TPr)=w2:=⟨_,rfl⟩;obtain⟨hb2,hr1,hr2⟩:=box2 hw2
   obtain⟨c0,c1,c2,c3⟩:=four hr1;obtain⟨d0,d1,d2,d3⟩:=four hr2;have HB2:=HBW.go hb2;have HC:=am (skeq_calls (hex.tm.below (HBV.out.trans (hb2.mono HBV.out.size))) (hey.tm.below (HBV.out.trans (hb2.mono HBV.out.size))));obtain⟨w15,hw15⟩:∃v,wr.alloc (.cells #[.int .i64 xg,.int .i64 xk,.bool xl,.slice xA xm xc] TPr)=v:=⟨_,rfl⟩;have hb15:Below wr.heap.size wr w15:=hw15▸below_alloc (Below.refl _ _) _;have g0:=(hb15.cell (World.block_lt_of_cell? _ _ q0)).trans q0;have g1:=(hb15.cell (World.block_lt_of_cell? _ _ q1)).trans q1
   have g2:=(hb15.cell (World.block_lt_of_cell? _ _ q2)).trans q2;have g3:=(hb15.cell (World.block_lt_of_cell? _ _ q3)).trans q3;obtain⟨⟨_,_,_,_⟩,_,_,f2,_⟩:=HQ.out w15 (HBW.out.trans (hb15.mono HBW.out.size));have hsz:w15.heap.size=wr.heap.size+1:=by rw[←hw15];exact World.size_alloc _ _
   rw[hw15]at hw2;have HW15:=am hw15;have HW2:=am hw2;have HSZ:=am hsz;have m0:(0:Int)≤(j:Int):=by omega
   have m1:(j:Int)<(yn:Nat):=by omega
   clear hx hy hex hey h2 h3 h5 hb2 hr1 hr2 hw2 hw15 hb15 hsz;go_upto_region 7 with (fail)
   rw[HW15.out];clear p0 p1 p2 p3 q0 q1 q2 q3 a0 a1 a2 a3 b0 b1 b2 b3;go_upto_region 8 with (fail)
   rw[HW2.out,HSZ.out]
   go_wp2_with (first|(go_at_call 62;go_must (with_reducible refine HC.out.mono ?_);go_must (rintro e w3 ⟨rfl,hb3⟩);have HB3:=HB2.go hb3;clear hb3))
   go_roundw
   ·exact⟨j+1,by omega,by go_num,HB3⟩
   ·simp[intOf];omega
  ·obtain rfl:j=yn:=by omega
   have e1:decide ((j:Int)<(j:Int))=false:=df (by omega)
   go_wp2_with (fail)
   go_ret;exact⟨rfl,HBV.out⟩
theorem lpseq_calls {Mt:Nat→Prop} {w:World} {A B:Option Addr} {n m c d:Nat} {ls:List Lp} (ha:LpsAt Mt w ⟨A,n,c⟩ ls) (hb:LpsAt Mt w ⟨B,m,d⟩ ls):
  Calls Tryz.prog 21 #[.slice A n c,.slice B m d] w fun e w'=>e= .returned (.bool true)∧Below w.heap.size w w':=by
 obtain⟨sa,ra,ea⟩:=ha;obtain⟨sb,rb,eb⟩:=hb;have h1:n=sa.length:=ra.len;have h2:m=sb.length:=rb.len;have h3:=ea.len;have h4:=eb.len;have hmax:n≤9223372036854775807:=ra.max;obtain rfl:m=n:=by omega
 have HA:=am ra;have HB:=am rb;have HEA:=am ea;have HEB:=am eb;have HL:=am (show m=ls.length by omega);clear ra rb ea eb h1 h2 h3 h4;go_enter Tryz.func21,Tryz.ntmps21
 go_wp2_with (fail)
 go_loopw [5] (fun i wr=>∃j:Nat,j≤m∧i= .int .i64 j∧Aside0 (Below w.heap.size w wr)) (fun i _=>m-(intOf i).toNat)
 case atStart=>exact⟨0,Nat.zero_le _,rfl,⟨Below.refl _ _⟩⟩
 case round=>
  obtain⟨j,hj,rfl,HBW⟩:=hrel;by_cases hlt:j<m
  ·have e1:decide ((j:Int)<(m:Int))=true:=dt (by omega);have e1':decide (j<m)=true:=decide_eq_true hlt;obtain⟨ad,x,rfl,⟨h2,hx⟩,p0,p1,p2,p3⟩:=lp_cells ((HA.out.below HBW.out).here) j hlt;obtain⟨ad2,y,rfl,⟨h3,hy⟩,q0,q1,q2,q3⟩:=lp_cells ((HB.out.below HBW.out).here) j hlt;have h5:j<ls.length:=by have:=HL.out;omega
   have hex:=HEA.out.get j h2 h5;have hey:=HEB.out.get j h3 h5;rw[hx]at hex;rw[hy]at hey;have m0:(0:Int)≤(j:Int):=by omega
   have m1:(j:Int)<(m:Nat):=by omega
   have HC:=am (show∀W,Below wr.heap.size wr W→Calls Tryz.prog 41 #[x.v,y.v] W (fun e w'=>e= .returned (.bool true)∧Below W.heap.size W w')from fun W hb=>lpeq_calls (hex.keep (Keep.of_below (HBW.out.trans (hb.mono HBW.out.size)))) (hey.keep (Keep.of_below (HBW.out.trans (hb.mono HBW.out.size)))));obtain⟨xr,xs,⟨xA,xn,xc⟩,xu⟩:=x;obtain⟨yr,ys,⟨yA,yn,yc⟩,yu⟩:=y;simp only[SLp.v]at p0 p1 p2 p3 q0 q1 q2 q3 HC;clear hx hy h2 h3 h5 hex hey
   have HEL:=am (show∀w',Below wr.heap.size wr w'→w'.cell? (ad.add (j*4))=some (.int .i64 xr)∧w'.cell? ⟨(ad.add (j*4)).block,(ad.add (j*4)).off+1,none⟩=some (.int .i64 xs)∧w'.cell? ⟨(ad.add (j*4)).block,(ad.add (j*4)).off+2,none⟩=some (.slice xA xn xc)∧w'.cell? ⟨(ad.add (j*4)).block,(ad.add (j*4)).off+3,none⟩=some (.int .i64 xu)∧w'.cell? (ad2.add (j*4))=some (.int .i64 yr)∧w'.cell? ⟨(ad2.add (j*4)).block,(ad2.add (j*4)).off+1,none⟩=some (.int .i64 ys)∧w'.cell? ⟨(ad2.add (j*4)).block,(ad2.add (j*4)).off+2,none⟩=some (.slice yA yn yc)∧w'.cell? ⟨(ad2.add (j*4)).block,(ad2.add (j*4)).off+3,none⟩=some (.int .i64 yu)from fun w' hb=>⟨(hb.cell (World.block_lt_of_cell? _ _ p0)).trans p0,(hb.cell (World.block_lt_of_cell? _ _ p1)).trans p1,(hb.cell (World.block_lt_of_cell? _ _ p2)).trans p2,(hb.cell (World.block_lt_of_cell? _ _ p3)).trans p3,(hb.cell (World.block_lt_of_cell? _ _ q0)).trans q0,(hb.cell (World.block_lt_of_cell? _ _ q1)).trans q1,(hb.cell (World.block_lt_of_cell? _ _ q2)).trans q2,(hb.cell (World.block_lt_of_cell? _ _ q3)).trans q3⟩)
   go_upto_region 6 with (fail)
   go_region_held3 (fun w'=>w'.cell? (ad.add (j*4))=some (.int .i64 xr)∧w'.cell? ⟨(ad.add (j*4)).block,(ad.add (j*4)).off+1,none⟩=some (.int .i64 xs)∧w'.cell? ⟨(ad.add (j*4)).block,(ad.add (j*4)).off+2,none⟩=some (.slice xA xn xc)∧w'.cell? ⟨(ad.add (j*4)).block,(ad.add (j*4)).off+3,none⟩=some (.int .i64 xu)∧w'.cell? (ad2.add (j*4))=some (.int .i64 yr)∧w'.cell? ⟨(ad2.add (j*4)).block,(ad2.add (j*4)).off+1,none⟩=some (.int .i64 ys)∧w'.cell? ⟨(ad2.add (j*4)).block,(ad2.add (j*4)).off+2,none⟩=some (.slice yA yn yc)∧w'.cell? ⟨(ad2.add (j*4)).block,(ad2.add (j*4)).off+3,none⟩=some (.int .i64 yu)) (exact⟨by assumption,by assumption,by assumption,by assumption,by assumption,by assumption,by assumption,by assumption⟩)
    (first|(go_at_call 41;(with_reducible refine(HC.out wr.drew (below_drew (Below.refl _ _))).mono ?_);rintro e w3 ⟨rfl,hb3⟩;obtain⟨y0,y1,y2,y3,y4,y5,y6,y7⟩:=HEL.out w3 ((below_drew (Below.refl _ _)).trans hb3);have HB3:=am (HBW.out.trans (((below_drew (Below.refl wr.heap.size wr)).trans hb3).mono HBW.out.size));clear hb3))
   go_wp2_with (fail)
   go_roundw
   ·exact⟨j+1,by omega,by go_num,HB3⟩
   ·simp[intOf];omega
  ·obtain rfl:j=m:=by omega
   have e1:decide ((j:Int)<(j:Int))=false:=df (by omega)
   go_wp2_with (fail)
   go_ret;exact⟨rfl,HBW.out⟩
end
theorem Rd.take {α:Type} {d:Kd α} {Mt:Nat→Prop} {w:World} {A:Option Addr} {n c:Nat} {xs:List α} (r:Rd d Mt w ⟨A,n,c⟩ xs) (m:Nat) (hm:m≤n):Rd d Mt w ⟨A,m,c⟩ (xs.take m):=by
 obtain⟨h1,h2,h3⟩:=r;simp only at h1 h2 h3;refine⟨by simp only[List.length_take];omega,by simp only;omega,fun w2 hk=> ?_⟩;have h4:Kd.C d w2 A n xs:=h3 w2 hk;show Kd.C d w2 A m (xs.take m);obtain⟨q1,q2,q3⟩:=h4;refine⟨by rw[List.length_take];omega,by omega,fun h0=> ?_⟩;obtain⟨ad,e,hc⟩:=q3 (by omega);refine⟨ad,e,fun j p hj=>hc j p ?_⟩;rw[List.getElem?_take]at hj
 split at hj
 ·exact hj
 ·cases hj
theorem EvsAt.pre {Mt:Nat→Prop} {w:World} {A:Option Addr} {n c:Nat} {es es2:List Ev} (r:EvsAt Mt w ⟨A,n,c⟩ es2) (h:es<+:es2):EvsAt Mt w ⟨A,es.length,c⟩ es:=by
 obtain⟨ss,r1,r2⟩:=r;have h1:n=ss.length:=r1.len;have h2:=r2.len;have h3:=h.length_le;have h4:es=es2.take es.length:=List.prefix_iff_eq_take.1 h;refine⟨ss.take es.length,r1.take _ (by omega),?_⟩;have h5:=r2.take es.length;rw[←h4]at h5;exact h5
end Go.Proofs.YtfnimdhghglanaaGreat.Hand
end
