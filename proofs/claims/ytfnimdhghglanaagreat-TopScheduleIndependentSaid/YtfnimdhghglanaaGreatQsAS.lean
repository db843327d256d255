/- TopScheduleIndependent, part 19 of 27; no condition.  -/
import Derived.Test.YtfnimdhghglanaaGreatQsAR
set_option maxRecDepth 100000
set_option maxHeartbeats 8000000
set_option linter.unusedVariables false
set_option linter.unusedSimpArgs false
section
namespace Go.Proofs.YtfnimdhghglanaaGreat.Hand
open Go.RowKit Go.Shelf Go.Proofs.YtfnimdhghglanaaGreatW PrintWords PrintLast PrintMore
attribute [local go_sem] max2_int min2_int max_two min_two max_three min_three max_four min_four
theorem check1_calls {F:FuncId} {cv:Value} {v:Int} {w:World} (heg:∀(args:Array Value) (w:World),(callFunc F args).run Tryz.prog w= .ok (.enter F args) w) (hc:Calls Tryz.prog F #[cv] w fun e w'=>e= .returned (.int .i64 v)∧Below w.heap.size w w'):
  Calls Tryz.prog 49 #[.func (.func F) #[cv] #[]] w fun e w'=>e= .returned (.int .i64 v)∧Below w.heap.size w w':=by
 have HC:=am hc;clear hc;go_enter Tryz.func49,Tryz.ntmps49
 go_wp2_with (first|((with_reducible refine HC.out.mono ?_);go_must (rintro e w2 ⟨rfl,hb2⟩);have HB2:=am hb2;clear hb2))
 go_ret;exact⟨rfl,HB2.out⟩
abbrev gvs (cv:Value):Array Value:= #[.func (.func 44) #[cv] #[],.func (.func 45) #[cv] #[],.func (.func 46) #[cv] #[],.func (.func 47) #[cv] #[]]
def cks (cf:Cf):List Int:=[vd (szs cf) 1,vd (decide (1≤cf.la)) 20,fst1 (pck cf.pgs.length cf.lps.length cf.la) cf.pgs,fst1 (fst1 (stc cf.pgs.length)) cf.lps]
abbrev TFck:TypeId:=98
theorem check_at {Mt:Nat→Prop} {w:World} (c:SCf) {cf:Cf} (hc:CfAt Mt w c cf) (hs:CfSm cf) (k:Nat) (hk:k<4):∃(F:FuncId) (v:Int),(cks cf)[k]?=some v∧(gvs c.v)[k]?=some (.func (.func F) #[c.v] #[])∧(∀(args:Array Value) (w:World),(callFunc F args).run Tryz.prog w= .ok (.enter F args) w)∧∀(W:World),Below w.heap.size w W→Calls Tryz.prog F #[c.v] W fun e w'=>e= .returned (.int .i64 v)∧Below W.heap.size W w':=by
 have hkp:∀W,Below w.heap.size w W→CfAt Mt W c cf:=fun W hb=>hc.keep (Keep.of_below hb);have h:k=0∨k=1∨k=2∨k=3:=by omega
 rcases h with rfl|rfl|rfl|rfl
 ·exact⟨44,_,rfl,rfl,fun args w=>enters_ Tryz.func44 (by kernel_rfl) (by kernel_rfl) args w,fun W hb=>sizes_calls c (hkp W hb) hs⟩
 ·exact⟨45,_,rfl,rfl,fun args w=>enters_ Tryz.func45 (by kernel_rfl) (by kernel_rfl) args w,fun W hb=>hc.la▸lookahead_calls W c⟩
 ·exact⟨46,_,rfl,rfl,fun args w=>enters_ Tryz.func46 (by kernel_rfl) (by kernel_rfl) args w,fun W hb=>programs_calls c (hkp W hb) hs⟩
 ·exact⟨47,_,rfl,rfl,fun args w=>enters_ Tryz.func47 (by kernel_rfl) (by kernel_rfl) args w,fun W hb=>starts_calls c (hkp W hb) hs.l hs.p hs.ll⟩
theorem firstCk_calls {Mt:Nat→Prop} {w:World} (c:SCf) {cf:Cf} (hc:CfAt Mt w c cf) (hs:CfSm cf) {g:Nat} (hg:w.heap[g]?=some (.cells (gvs c.v) TFck (0,0))):
  Calls Tryz.prog 48 #[.slice (some ⟨g,0,none⟩) 4 4,.func (.func 49) #[] #[]] w fun e w'=>e= .returned (.int .i64 (chk cf))∧Below w.heap.size w w':=by
 have HC:=am hc;have HS:=am hs;have HG:=am hg;obtain⟨R,hR⟩:∃R,chk cf=R:=⟨_,rfl⟩;rw[hR];have HR:=am (show fst1 (fun f=>f) (cks cf)=R from hR);clear hc hs hg hR;go_enter Tryz.func48,Tryz.ntmps48
 go_wp2_with (fail)
 go_loopw [10] (fun i wr=>∃k:Nat,k≤4∧i= .int .i64 k∧Aside0 (fst1 (fun f=>f) ((cks cf).drop k)=R)∧Aside0 (Below w.heap.size w wr)) (fun i _=>4-(intOf i).toNat)
 case atStart=>exact⟨0,Nat.zero_le _,rfl,⟨by rw[List.drop_zero];exact HR.out⟩,⟨Below.refl _ _⟩⟩
 case round=>
  obtain⟨k,hk,rfl,HD,HB⟩:=hrel;by_cases hlt:k<4
  ·have d1:decide ((k:Int)<4)=true:=dt (by omega);have d1':decide (k<4)=true:=decide_eq_true hlt;obtain⟨F,v,hv1,hfv,heg,hcall⟩:=check_at c HC.out HS.out k hlt;have hfd:=fst1_drop (fun f:Int=>f) hv1;rw[HD.out]at hfd;have p0:wr.cell? ⟨g,k,none⟩=some (.func (.func F) #[c.v] #[]):=by simp only[World.cell?,box_more HB.out HG.out];exact hfv
   have HCL:=am (check1_calls heg (hcall wr HB.out));have HFD:=am hfd;have m0:(0:Int)≤(k:Int):=by omega
   have m1:(k:Int)<4:=by omega
   clear hv1 hfv hcall hfd heg;by_cases hv0:v=0
   ·subst hv0
    go_wp2_with (first|(go_at_call 49;go_must (with_reducible refine HCL.out.mono ?_);go_must (rintro e w3 ⟨rfl,hb3⟩);have HB3:=HB.go hb3;clear hb3))
    go_roundw
    ·exact⟨k+1,by omega,by go_num,⟨by have:=HFD.out;rw[if_pos trivial]at this;exact this.symm⟩,HB3⟩
    ·simp[intOf];omega
   ·have hz:(v != 0)=true:=bne_iff_ne.2 hv0
    go_wp2_with (first|(go_at_call 49;go_must (with_reducible refine HCL.out.mono ?_);go_must (rintro e w3 ⟨rfl,hb3⟩);have HB3:=HB.go hb3;clear hb3))
    go_ret;exact⟨by rw[HFD.out,if_neg hv0];rfl,HB3.out⟩
  ·obtain rfl:k=4:=by omega
   have d1:decide (((4:Nat):Int)<4)=false:=by decide
   go_wp2_with (fail)
   go_ret;exact⟨by rw[←HD.out];rfl,HB.out⟩
theorem check_calls {Mt:Nat→Prop} {w:World} (c:SCf) {cf:Cf} (hc:CfAt Mt w c cf) (hs:CfSm cf):
  Calls Tryz.prog 27 #[c.v] w fun e w'=>e= .returned (.int .i64 (chk cf))∧Below w.heap.size w w':=by
 obtain⟨w1,hw1⟩:∃w1,(w.alloc (.cells #[.slice c.lps.A c.lps.n c.lps.c,.slice c.pgs.A c.pgs.n c.pgs.c,.int .i64 c.la,.int .i64 c.en,.int .i64 c.cp] 25)).alloc (.cells #[.slice c.lps.A c.lps.n c.lps.c,.slice c.pgs.A c.pgs.n c.pgs.c,.int .i64 c.la,.int .i64 c.en,.int .i64 c.cp] TCc)=w1:=⟨_,rfl⟩;obtain⟨w2,hw2⟩:∃w2,w1.alloc (.cells (gvs c.v) TFck)=w2:=⟨_,rfl⟩;have hb1:=(box2 hw1).1;have hsz:w1.heap.size=w.heap.size+1+1:=by rw[←hw1,World.size_alloc,World.size_alloc]
 have hb2:Below w1.heap.size w1 w2:=hw2▸below_alloc (Below.refl _ _) _;have hg:w2.heap[w.heap.size+1+1]?=some (.cells (gvs c.v) TFck (0,0)):=by rw[←hw2,←hsz];exact World.alloc_heap_new _ _
 have hbw:=hb1.trans (hb2.mono hb1.size);have HC:=am (firstCk_calls c (hc.keep (Keep.of_below hbw)) hs hg);have HB:=am hbw;have HW1:=am hw1;have HW2:=am hw2;clear hc hs hw1 hw2 hb1 hb2 hsz hg hbw;simp only[SCf.v]at HC HW2 ⊢;go_enter Tryz.func27,Tryz.ntmps27;go_upto_region 3 with (fail)
 rw[HW1.out,HW2.out]
 go_wp2_with (first|(go_at_call 48;go_must (with_reducible refine HC.out.mono ?_);go_must (rintro e w3 ⟨rfl,hb3⟩);have HB3:=HB.go hb3;clear hb3))
 go_ret;exact⟨rfl,HB3.out⟩
theorem delay_calls (n:Int) (w:World):Calls Tryz.prog 63 #[.int .i64 n] w fun e w'=>e= .returned (.bool (wi n 1 1099511627776))∧Below w.heap.size w w':=by
 unfold wi;by_cases h1:1≤n
 ·have d1:decide (1≤n)=true:=decide_eq_true h1;rw[d1,Bool.true_and];go_enter Tryz.func63,Tryz.ntmps63
  go_wp2_with (fail)
  go_ret;exact⟨rfl,Below.refl _ _⟩
 ·have d1:decide (1≤n)=false:=decide_eq_false h1;rw[d1,Bool.false_and];go_enter Tryz.func63,Tryz.ntmps63
  go_wp2_with (fail)
  go_ret;exact⟨rfl,Below.refl _ _⟩
theorem value_calls (n:Int) (w:World):Calls Tryz.prog 64 #[.int .i64 n] w fun e w'=>e= .returned (.bool (wi n (-1073741824) 1073741824))∧Below w.heap.size w w':=by
 unfold wi;by_cases h1:(-1073741824)≤n
 ·have d1:decide ((-1073741824)≤n)=true:=decide_eq_true h1;rw[d1,Bool.true_and];go_enter Tryz.func64,Tryz.ntmps64
  go_wp2_with (fail)
  go_ret;exact⟨rfl,Below.refl _ _⟩
 ·have d1:decide ((-1073741824)≤n)=false:=decide_eq_false h1;rw[d1,Bool.false_and];go_enter Tryz.func64,Tryz.ntmps64
  go_wp2_with (fail)
  go_ret;exact⟨rfl,Below.refl _ _⟩
theorem vd0 (b:Bool):decide (vd b 22=0)=b:=by cases b<;>rfl
theorem roperands_calls (n P:Int) (o:OpC) (w:World):Calls Tryz.prog 43 #[o.v,.int .i64 n,.int .i64 P] w fun r w'=>r= .returned (.bool (decide (opO n P o=0)))∧Below w.heap.size w w':=by
 obtain⟨oc,oa,ob,od⟩:=o;simp only[OpC.v];obtain⟨w1,hw1⟩:∃w1,w.alloc (.cells #[.int .i64 oc,.int .i64 oa,.int .i64 ob,.int .i64 od] TOp)=w1:=⟨_,rfl⟩;have hb1:Below w.heap.size w w1:=hw1▸below_alloc (Below.refl _ _) _;have hq1:w1.heap[w.heap.size]?=some (.cells #[.int .i64 oc,.int .i64 oa,.int .i64 ob,.int .i64 od] TOp (0,0)):=by rw[←hw1];exact World.alloc_heap_new _ _
 have HQ:=am (show∀w',Below w1.heap.size w1 w'→w'.cell? ⟨w.heap.size,0,none⟩=some (.int .i64 oc)∧w'.cell? ⟨w.heap.size,1,none⟩=some (.int .i64 oa)∧w'.cell? ⟨w.heap.size,2,none⟩=some (.int .i64 ob)∧w'.cell? ⟨w.heap.size,3,none⟩=some (.int .i64 od)from fun w' hb=>op2 (box_more hb hq1));obtain⟨z0,z1,z2,z3⟩:=HQ.out w1 (Below.refl _ _);have HB1:=am hb1;obtain⟨R,hR⟩:∃R,opO n P ⟨oc,oa,ob,od⟩=R:=⟨_,rfl⟩;rw[hR];clear hb1 hq1;go_enter Tryz.func43,Tryz.ntmps43;go_upto_region 1 with (fail)
 clear hw1;by_cases c1:oc=1
 ·obtain⟨b1,hb1⟩:∃b,wi oa 1 1099511627776=b:=⟨_,rfl⟩;have HA:=am (fun W=>hb1▸delay_calls oa W);have HR:=am (show R=vd (b1&&(decide (ob=0)&&decide (od=0))) 22 by rw[←hR];simp only[opO,if_pos c1,hb1]);clear hR hb1;subst c1
  all_goals cases b1
  all_goals go_wp2_with (first|(go_at_call 63;(with_reducible refine(HA.out w1).mono ?_);go_must (rintro e w2 ⟨rfl,hb⟩);go_must (obtain⟨y0,y1,y2,y3⟩:=HQ.out w2 (hb));have HB2:=am (hb);clear hb))
  all_goals go_ret
  all_goals exact⟨by rw[HR.out,vd0];show Ending.returned (Value.bool _)=Ending.returned (Value.bool _);first|rfl|(congr 2;done)|(congr 2;rw[Bool.eq_iff_iff];simp[wi];done)|(congr 2;rw[Bool.eq_iff_iff];simp[wi];omega),by first|exact HB1.out.trans (HB3.out.mono HB1.out.size)|exact HB1.out.trans (HB2.out.mono HB1.out.size)|exact HB1.out⟩
 by_cases c2:oc=2
 ·obtain⟨b2,hb2⟩:∃b,wi ob (-1073741824) 1073741824=b:=⟨_,rfl⟩;have HB:=am (fun W=>hb2▸value_calls ob W);obtain⟨b3,hb3⟩:∃b,wi od 1 1099511627776=b:=⟨_,rfl⟩;have HD:=am (fun W=>hb3▸delay_calls od W);have HR:=am (show R=vd (decide (0≤oa)&&(b2&&b3)) 22 by rw[←hR];simp only[opO,if_neg c1,if_pos c2,hb2,hb3]);clear hR hb2 hb3;subst c2
  all_goals cases b2<;>cases b3
  all_goals go_wp2_with (first|(go_at_call 64;(with_reducible refine(HB.out w1).mono ?_);go_must (rintro e w2 ⟨rfl,hb⟩);go_must (obtain⟨y0,y1,y2,y3⟩:=HQ.out w2 (hb));have HB2:=am (hb);clear hb)|(go_at_call 63;(with_reducible refine(HD.out w2).mono ?_);go_must (rintro e w3 ⟨rfl,hb⟩);go_must (obtain⟨y0,y1,y2,y3⟩:=HQ.out w3 (HB2.out.trans (hb.mono HB2.out.size)));have HB3:=HB2.go hb;clear hb))
  all_goals go_ret
  all_goals exact⟨by rw[HR.out,vd0];show Ending.returned (Value.bool _)=Ending.returned (Value.bool _);first|rfl|(congr 2;done)|(congr 2;rw[Bool.eq_iff_iff];simp[wi];done)|(congr 2;rw[Bool.eq_iff_iff];simp[wi];omega),by first|exact HB1.out.trans (HB3.out.mono HB1.out.size)|exact HB1.out.trans (HB2.out.mono HB1.out.size)|exact HB1.out⟩
 by_cases c3:oc=3
 ·obtain⟨b1,hb1⟩:∃b,wi oa 1 1099511627776=b:=⟨_,rfl⟩;have HA:=am (fun W=>hb1▸delay_calls oa W);have HR:=am (show R=vd (b1&&(wi ob 0 (n-1)&&decide (od=0))) 22 by rw[←hR];simp only[opO,if_neg c1,if_neg c2,if_pos c3,hb1]);clear hR hb1;subst c3
  all_goals cases b1
  all_goals go_wp2_with (first|(go_at_call 63;(with_reducible refine(HA.out w1).mono ?_);go_must (rintro e w2 ⟨rfl,hb⟩);go_must (obtain⟨y0,y1,y2,y3⟩:=HQ.out w2 (hb));have HB2:=am (hb);clear hb))
  all_goals go_ret
  all_goals exact⟨by rw[HR.out,vd0];show Ending.returned (Value.bool _)=Ending.returned (Value.bool _);first|rfl|(congr 2;done)|(congr 2;rw[Bool.eq_iff_iff];simp[wi];done)|(congr 2;rw[Bool.eq_iff_iff];simp[wi];omega),by first|exact HB1.out.trans (HB3.out.mono HB1.out.size)|exact HB1.out.trans (HB2.out.mono HB1.out.size)|exact HB1.out⟩
 by_cases c5:oc=5
 ·obtain⟨b2,hb2⟩:∃b,wi ob 1 1099511627776=b:=⟨_,rfl⟩;have HB:=am (fun W=>hb2▸delay_calls ob W);have HR:=am (show R=vd (wi oa 0 (P-1)&&(b2&&decide (od=0))) 22 by rw[←hR];simp only[opO,if_neg c1,if_neg c2,if_neg c3,if_pos c5,hb2]);clear hR hb2;subst c5
  all_goals cases b2
  all_goals go_wp2_with (first|(go_at_call 63;(with_reducible refine(HB.out w1).mono ?_);go_must (rintro e w2 ⟨rfl,hb⟩);go_must (obtain⟨y0,y1,y2,y3⟩:=HQ.out w2 (hb));have HB2:=am (hb);clear hb))
  all_goals go_ret
  all_goals exact⟨by rw[HR.out,vd0];show Ending.returned (Value.bool _)=Ending.returned (Value.bool _);first|rfl|(congr 2;done)|(congr 2;rw[Bool.eq_iff_iff];simp[wi];done)|(congr 2;rw[Bool.eq_iff_iff];simp[wi];omega),by first|exact HB1.out.trans (HB3.out.mono HB1.out.size)|exact HB1.out.trans (HB2.out.mono HB1.out.size)|exact HB1.out⟩
 by_cases c6:oc=6
 ·obtain⟨b2,hb2⟩:∃b,wi ob (-1073741824) 1073741824=b:=⟨_,rfl⟩;have HB:=am (fun W=>hb2▸value_calls ob W);have HR:=am (show R=vd (wi oa 0 1&&(b2&&decide (od=0))) 22 by rw[←hR];simp only[opO,if_neg c1,if_neg c2,if_neg c3,if_neg c5,if_pos c6,hb2]);clear hR hb2;subst c6
  all_goals cases b2
  all_goals go_wp2_with (first|(go_at_call 64;(with_reducible refine(HB.out w1).mono ?_);go_must (rintro e w2 ⟨rfl,hb⟩);go_must (obtain⟨y0,y1,y2,y3⟩:=HQ.out w2 (hb));have HB2:=am (hb);clear hb))
  all_goals go_ret
  all_goals exact⟨by rw[HR.out,vd0];show Ending.returned (Value.bool _)=Ending.returned (Value.bool _);first|rfl|(congr 2;done)|(congr 2;rw[Bool.eq_iff_iff];simp[wi];done)|(congr 2;rw[Bool.eq_iff_iff];simp[wi];omega),by first|exact HB1.out.trans (HB3.out.mono HB1.out.size)|exact HB1.out.trans (HB2.out.mono HB1.out.size)|exact HB1.out⟩
 by_cases c7:oc=7
 ·obtain⟨b2,hb2⟩:∃b,wi ob (-1073741824) 1073741824=b:=⟨_,rfl⟩;have HB:=am (fun W=>hb2▸value_calls ob W);have HR:=am (show R=vd (wi oa 0 1&&(b2&&wi od 0 (n-1))) 22 by rw[←hR];simp only[opO,if_neg c1,if_neg c2,if_neg c3,if_neg c5,if_neg c6,if_pos c7,hb2]);clear hR hb2;subst c7
  all_goals cases b2
  all_goals go_wp2_with (first|(go_at_call 64;(with_reducible refine(HB.out w1).mono ?_);go_must (rintro e w2 ⟨rfl,hb⟩);go_must (obtain⟨y0,y1,y2,y3⟩:=HQ.out w2 (hb));have HB2:=am (hb);clear hb))
  all_goals go_ret
  all_goals exact⟨by rw[HR.out,vd0];show Ending.returned (Value.bool _)=Ending.returned (Value.bool _);first|rfl|(congr 2;done)|(congr 2;rw[Bool.eq_iff_iff];simp[wi];done)|(congr 2;rw[Bool.eq_iff_iff];simp[wi];omega),by first|exact HB1.out.trans (HB3.out.mono HB1.out.size)|exact HB1.out.trans (HB2.out.mono HB1.out.size)|exact HB1.out⟩
 have HR:=am (show R=vd (decide (oa=0)&&(decide (ob=0)&&decide (od=0))) 22 by rw[←hR];simp only[opO,if_neg c1,if_neg c2,if_neg c3,if_neg c5,if_neg c6,if_neg c7]);clear hR;have n1:(oc==1)=false:=beq_eq_false_iff_ne.2 c1;have n2:(oc==2)=false:=beq_eq_false_iff_ne.2 c2;have n3:(oc==3)=false:=beq_eq_false_iff_ne.2 c3;have n5:(oc==5)=false:=beq_eq_false_iff_ne.2 c5;have n6:(oc==6)=false:=beq_eq_false_iff_ne.2 c6;have n7:(oc==7)=false:=beq_eq_false_iff_ne.2 c7;clear c1 c2 c3 c5 c6 c7
 all_goals go_wp2_with (fail)
 all_goals go_ret
 all_goals exact⟨by rw[HR.out,vd0];show Ending.returned (Value.bool _)=Ending.returned (Value.bool _);first|rfl|(congr 2;done)|(congr 2;rw[Bool.eq_iff_iff];simp[wi];done)|(congr 2;rw[Bool.eq_iff_iff];simp[wi];omega),by first|exact HB1.out.trans (HB3.out.mono HB1.out.size)|exact HB1.out.trans (HB2.out.mono HB1.out.size)|exact HB1.out⟩
theorem shape_calls {Mt:Nat→Prop} {w:World} {A:Option Addr} {n c:Nat} {p:List OpC} (hr:Rd kOp Mt w ⟨A,n,c⟩ p) (hn:n≤1000):Calls Tryz.prog 42 #[.slice A n c] w fun e w'=>e= .returned (.bool (wi n 1 16&&decide (fst1 opC p=0)))∧Below w.heap.size w w':=by
 have hl:n=p.length:=hr.len;have HR:=am hr;have HL:=am hl;clear hr hl;unfold wi;by_cases h1:1≤(n:Int)
 ·have d1:decide (1≤(n:Int))=true:=decide_eq_true h1;have d1':decide ((n:Int)<1)=false:=df (by omega);have e1:decide (n<1)=false:=df (by omega);by_cases h2:(n:Int)≤16
  ·have d2:decide ((n:Int)≤16)=true:=decide_eq_true h2;have d2':decide (16<(n:Int))=false:=df (by omega);have e2:decide (16<n)=false:=df (by omega);rw[d1,d2,Bool.true_and,Bool.true_and];clear d1 d2;go_enter Tryz.func42,Tryz.ntmps42
   go_wp2_with (fail)
   go_loopw [3] (fun i wr=>∃k:Nat,k≤n∧i= .int .i64 k∧Aside0 (fst1 opC (p.drop k)=fst1 opC p)∧Aside0 (Below w.heap.size w wr)) (fun i _=>n-(intOf i).toNat)
   case atStart=>exact⟨0,Nat.zero_le _,rfl,⟨by rw[List.drop_zero]⟩,⟨Below.refl _ _⟩⟩
   case round=>
    obtain⟨k,hk,rfl,HD,HB⟩:=hrel;by_cases hlt:k<n
    ·have e3:decide ((k:Int)<(n:Int))=true:=dt (by omega);have e3':decide (k<n)=true:=decide_eq_true hlt;obtain⟨ad,o,rfl,⟨h3,hx⟩,p0,p1,p2,p3⟩:=op_cells ((HR.out.below HB.out).here) k hlt;have hfd:=fst1_drop opC (show p[k]?=some o by rw[List.getElem?_eq_getElem h3,hx]);rw[HD.out]at hfd;obtain⟨oc,oa,ob,od⟩:=o;have HFD:=am hfd;have m0:(0:Int)≤(k:Int):=by omega
     have m1:(k:Int)<(n:Nat):=by omega
     simp only at p0;clear hfd hx p1 p2 p3 h3;by_cases g1:oc<1
     ·have k1:decide (oc<1)=true:=decide_eq_true g1;have HZ:=am (show fst1 opC p=22 by rw[HFD.out];simp[opC,vd,wi];omega)
      go_wp2_with (fail)
      go_ret;exact⟨by rw[HZ.out];rfl,HB.out⟩
     ·have k1:decide (oc<1)=false:=decide_eq_false g1;by_cases g2:8<oc
      ·have k2:decide (8<oc)=true:=decide_eq_true g2;have HZ:=am (show fst1 opC p=22 by rw[HFD.out];simp[opC,vd,wi];omega)
       go_wp2_with (fail)
       go_ret;exact⟨by rw[HZ.out];rfl,HB.out⟩
      ·have k2:decide (8<oc)=false:=decide_eq_false g2;have HZ:=am (show fst1 opC p=fst1 opC (p.drop (k+1))by rw[HFD.out,if_pos (by simp[opC,vd,wi];omega)])
       go_wp2_with (fail)
       go_roundw
       ·exact⟨k+1,by omega,by go_num,⟨HZ.out.symm⟩,HB⟩
       ·simp[intOf];omega
    ·obtain rfl:k=n:=by omega
     have e3:decide ((k:Int)<(k:Int))=false:=df (by omega);have HZ:=am (show fst1 opC p=0 by rw[←HD.out,List.drop_eq_nil_of_le (by have:=HL.out;omega)];rfl)
     go_wp2_with (fail)
     go_ret;exact⟨by rw[HZ.out];rfl,HB.out⟩
  ·have d2:decide ((n:Int)≤16)=false:=decide_eq_false h2;have d2':decide (16<(n:Int))=true:=dt (by omega);have e2:decide (16<n)=true:=dt (by omega);rw[d1,d2];clear d1 d2;go_enter Tryz.func42,Tryz.ntmps42
   go_wp2_with (fail)
   go_ret;exact⟨rfl,Below.refl _ _⟩
 ·have d1:decide (1≤(n:Int))=false:=decide_eq_false h1;have d1':decide ((n:Int)<1)=true:=dt (by omega);have e1:decide (n<1)=true:=dt (by omega);rw[d1];clear d1;go_enter Tryz.func42,Tryz.ntmps42
  go_wp2_with (fail)
  go_ret;exact⟨rfl,Below.refl _ _⟩
theorem opC_cases (o:OpC):opC o=0∨opC o=22:=by unfold opC vd;split<;>simp
theorem fst1_cases {α:Type} {f:α→Int} {e:Int} (h:∀x,f x=0∨f x=e):∀l,fst1 f l=0∨fst1 f l=e
 | []=> .inl rfl
 |x::l=>by
  unfold fst1
  split
  ·exact fst1_cases h l
  ·exact(h x).resolve_left (by assumption)|> .inr
theorem opO_cases (n P:Int) (o:OpC):opO n P o=0∨opO n P o=22:=by
 unfold opO;generalize (if o.code=1 then _ else _:Bool)=b;cases b<;>simp[vd]
theorem rpcheck_calls {Mt:Nat→Prop} {w:World} {A:Option Addr} {n c:Nat} {p:List OpC} (hr:Rd kOp Mt w ⟨A,n,c⟩ p) (hn:n≤1000) (P N la:Int):
  Calls Tryz.prog 25 #[.slice A n c,.int .i64 P,.int .i64 N,.int .i64 la] w fun e w'=>e= .returned (.int .i64 (pck P N la p))∧Below w.heap.size w w':=by
 have hl:n=p.length:=hr.len;obtain⟨R,hR⟩:∃R,pck P N la p=R:=⟨_,rfl⟩;rw[hR];obtain⟨b1,hb1⟩:∃b,(wi n 1 16&&decide (fst1 opC p=0))=b:=⟨_,rfl⟩;have HSH:=am (hb1▸shape_calls hr hn);have HR:=am hr;have HL:=am hl;cases b1
 ·have HZ:=am (show R=22 by
   rw[←hR];unfold pck;rw[←hl];cases hwi:wi n 1 16
   ·rfl
   ·rw[hwi,Bool.true_and,decide_eq_false_iff_not]at hb1;rw[if_pos rfl,fst1,if_neg hb1];exact(fst1_cases opC_cases p).resolve_left hb1)
  clear hr hl hR hb1;go_enter Tryz.func25,Tryz.ntmps25
  go_wp2_with (first|(go_at_call 42;go_must (with_reducible refine HSH.out.mono ?_);go_must (rintro e w2 ⟨rfl,hb2⟩);have HB2:=am hb2;clear hb2))
  go_ret;exact⟨by rw[HZ.out];rfl,HB2.out⟩
 ·rw[Bool.and_eq_true,decide_eq_true_eq]at hb1;have HRV:=am (show R=if fst1 (opO n P) p=0 then(if fst1 (opT N) p=0 then fst1 (opE la) p else fst1 (opT N) p)else fst1 (opO n P) p by
   rw[←hR];unfold pck;rw[←hl,if_pos hb1.1,fst1,if_pos hb1.2];simp only[fst1]
   split
   ·split
    ·split
     ·rename_i h;exact h.symm
     ·rfl
    ·rfl
   ·rfl)
  clear hr hl hR hb1;go_enter Tryz.func25,Tryz.ntmps25
  go_wp2_with (first|(go_at_call 42;go_must (with_reducible refine HSH.out.mono ?_);go_must (rintro e w2 ⟨rfl,hb2⟩);have HB2:=am hb2;clear hb2))
  go_loopw [9] (fun i wr=>∃k:Nat,k≤n∧i= .int .i64 k∧Aside0 (fst1 (opO n P) (p.drop k)=fst1 (opO n P) p)∧Aside0 (Below w.heap.size w wr)) (fun i _=>n-(intOf i).toNat)
  case atStart=>exact⟨0,Nat.zero_le _,rfl,⟨by rw[List.drop_zero]⟩,HB2⟩
  case round=>
   obtain⟨k,hk,rfl,HD,HB⟩:=hrel;by_cases hlt:k<n
   ·have e3:decide ((k:Int)<(n:Int))=true:=dt (by omega);have e3':decide (k<n)=true:=decide_eq_true hlt;obtain⟨ad,o,rfl,⟨h3,hx⟩,p0,p1,p2,p3⟩:=op_cells ((HR.out.below HB.out).here) k hlt;have hfd:=fst1_drop (opO n P) (show p[k]?=some o by rw[List.getElem?_eq_getElem h3,hx]);rw[HD.out]at hfd;obtain⟨b2,hb2⟩:∃b,decide (opO n P o=0)=b:=⟨_,rfl⟩;have HC:=am (hb2▸roperands_calls n P o wr);obtain⟨oc,oa,ob,od⟩:=o;have HFD:=am hfd;have m0:(0:Int)≤(k:Int):=by omega
    have m1:(k:Int)<(n:Nat):=by omega
    simp only[OpC.v]at p0 p1 p2 p3 HC;cases b2
    ·have HZ:=am (show R=22 by
      rw[decide_eq_false_iff_not]at hb2;have h5:=hfd;rw[if_neg hb2,(opO_cases n P _).resolve_left hb2]at h5;rw[HRV.out,h5];rfl)
     clear hfd hx h3 hb2
     go_wp2_with (first|(go_at_call 43;go_must (with_reducible refine HC.out.mono ?_);go_must (rintro e w3 ⟨rfl,hb3⟩);have HB3:=HB.go hb3;clear hb3))
     go_ret;exact⟨by rw[HZ.out];rfl,HB3.out⟩
    ·have HZ:=am (show fst1 (opO n P) p=fst1 (opO n P) (p.drop (k+1))by
      rw[decide_eq_true_eq]at hb2;rw[HFD.out,if_pos hb2])
     clear hfd hx h3 hb2
     go_wp2_with (first|(go_at_call 43;go_must (with_reducible refine HC.out.mono ?_);go_must (rintro e w3 ⟨rfl,hb3⟩);have HB3:=HB.go hb3;clear hb3))
     go_roundw
     ·exact⟨k+1,by omega,by go_num,⟨HZ.out.symm⟩,HB3⟩
     ·simp[intOf];omega
   ·obtain rfl:k=n:=by omega
    have e3:decide ((k:Int)<(k:Int))=false:=df (by omega);have HRV2:=am (show R=if fst1 (opT N) p=0 then fst1 (opE la) p else fst1 (opT N) p by
     have h5:fst1 (opO k P) p=0:=by rw[←HD.out,List.drop_eq_nil_of_le (by have:=HL.out;omega)];rfl
     rw[HRV.out,if_pos h5])
    go_wp2_with (fail)
    clear e3
    go_loopw [10] (fun i wr=>∃j:Nat,j≤k∧i= .int .i64 j∧Aside0 (fst1 (opT N) (p.drop j)=fst1 (opT N) p)∧Aside0 (Below w.heap.size w wr)) (fun i _=>k-(intOf i).toNat)
    case atStart=>exact⟨0,Nat.zero_le _,rfl,⟨by rw[List.drop_zero]⟩,HB⟩
    case round=>
     obtain⟨j,hj,rfl,HDJ,HBJ⟩:=hrel;by_cases hlj:j<k
     ·have e3:decide ((j:Int)<(k:Int))=true:=dt (by omega);have e3':decide (j<k)=true:=decide_eq_true hlj;obtain⟨ad,o,rfl,⟨h3,hx⟩,p0,p1,p2,p3⟩:=op_cells ((HR.out.below HBJ.out).here) j hlj;have hfd:=fst1_drop (opT N) (show p[j]?=some o by rw[List.getElem?_eq_getElem h3,hx]);rw[HDJ.out]at hfd;obtain⟨oc,oa,ob,od⟩:=o;have HFD:=am hfd;have m0:(0:Int)≤(j:Int):=by omega
      have m1:(j:Int)<(k:Nat):=by omega
      simp only at p0 p1;clear hfd hx p2 p3 h3;by_cases g1:oc=2
      ·have k1:(oc==2)=true:=beq_iff_eq.2 g1;by_cases g2:N≤oa
       ·have k2:decide (N≤oa)=true:=decide_eq_true g2;have HZ:=am (show R=23 by
         have h5:opT N ⟨oc,oa,ob,od⟩=23:=by simp[opT,vd,g1,g2]
         have h6:=HFD.out;rw[h5,if_neg (by decide)]at h6;rw[HRV2.out,h6];rfl)
        go_wp2_with (fail)
        go_ret;exact⟨by rw[HZ.out];rfl,HBJ.out⟩
       ·have k2:decide (N≤oa)=false:=decide_eq_false g2;have HZ:=am (show fst1 (opT N) p=fst1 (opT N) (p.drop (j+1))by rw[HFD.out,if_pos (by simp[opT,vd,g1,g2])])
        go_wp2_with (fail)
        go_roundw
        ·exact⟨j+1,by omega,by go_num,⟨HZ.out.symm⟩,HBJ⟩
        ·simp[intOf];omega
      ·have k1:(oc==2)=false:=beq_eq_false_iff_ne.2 g1;have HZ:=am (show fst1 (opT N) p=fst1 (opT N) (p.drop (j+1))by rw[HFD.out,if_pos (by simp[opT,vd,g1])])
       go_wp2_with (fail)
       go_roundw
       ·exact⟨j+1,by omega,by go_num,⟨HZ.out.symm⟩,HBJ⟩
       ·simp[intOf];omega
     ·obtain rfl:j=k:=by omega
      have e3:decide ((j:Int)<(j:Int))=false:=df (by omega);have HRV3:=am (show R=fst1 (opE la) p by
       have h5:fst1 (opT N) p=0:=by rw[←HDJ.out,List.drop_eq_nil_of_le (by have:=HL.out;omega)];rfl
       rw[HRV2.out,if_pos h5])
      go_wp2_with (fail)
      clear e3
      go_loopw [11] (fun i wr=>∃l:Nat,l≤j∧i= .int .i64 l∧Aside0 (fst1 (opE la) (p.drop l)=fst1 (opE la) p)∧Aside0 (Below w.heap.size w wr)) (fun i _=>j-(intOf i).toNat)
      case atStart=>exact⟨0,Nat.zero_le _,rfl,⟨by rw[List.drop_zero]⟩,HBJ⟩
      case round=>
       obtain⟨l,hj2,rfl,HDL,HBL⟩:=hrel;by_cases hll:l<j
       ·have e3:decide ((l:Int)<(j:Int))=true:=dt (by omega);have e3':decide (l<j)=true:=decide_eq_true hll;obtain⟨ad,o,rfl,⟨h3,hx⟩,p0,p1,p2,p3⟩:=op_cells ((HR.out.below HBL.out).here) l hll;have hfd:=fst1_drop (opE la) (show p[l]?=some o by rw[List.getElem?_eq_getElem h3,hx]);rw[HDL.out]at hfd;obtain⟨oc,oa,ob,od⟩:=o;have HFD:=am hfd;have m0:(0:Int)≤(l:Int):=by omega
        have m1:(l:Int)<(j:Nat):=by omega
        simp only at p0 p3;clear hfd hx p2 p1 h3;by_cases g1:oc=2
        ·have k1:(oc==2)=true:=beq_iff_eq.2 g1;by_cases g2:od<la
         ·have k2:decide (od<la)=true:=decide_eq_true g2;have HZ:=am (show R=21 by
           have h5:opE la ⟨oc,oa,ob,od⟩=21:=by simp[opE,vd,g1,g2]
           have h6:=HFD.out;rw[h5,if_neg (by decide)]at h6;rw[HRV3.out,h6])
          go_wp2_with (fail)
          go_ret;exact⟨by rw[HZ.out];rfl,HBL.out⟩
         ·have k2:decide (od<la)=false:=decide_eq_false g2;have HZ:=am (show fst1 (opE la) p=fst1 (opE la) (p.drop (l+1))by rw[HFD.out,if_pos (by simp[opE,vd,g1,g2];try omega)])
          go_wp2_with (fail)
          go_roundw
          ·exact⟨l+1,by omega,by go_num,⟨HZ.out.symm⟩,HBL⟩
          ·simp[intOf];omega
        ·have k1:(oc==2)=false:=beq_eq_false_iff_ne.2 g1;have HZ:=am (show fst1 (opE la) p=fst1 (opE la) (p.drop (l+1))by rw[HFD.out,if_pos (by simp[opE,vd,g1])])
         go_wp2_with (fail)
         go_roundw
         ·exact⟨l+1,by omega,by go_num,⟨HZ.out.symm⟩,HBL⟩
         ·simp[intOf];omega
       ·obtain rfl:l=j:=by omega
        have e3:decide ((l:Int)<(l:Int))=false:=df (by omega);have HZ:=am (show R=0 by rw[HRV3.out,←HDL.out,List.drop_eq_nil_of_le (by have:=HL.out;omega)];rfl)
        go_wp2_with (fail)
        go_ret;exact⟨by rw[HZ.out];rfl,HBL.out⟩
section
theorem LRow.put2 {w:World} {B g n c:Nat} {ss:List SLp} (h:LRow w B g n c ss) (i:Nat) (hi:i<ss.length) {a b s:Int} {q:SH} (hx:ss[i]=⟨a,b,q,s⟩) (p:SH):LRow (w.setCell ⟨g,i*4+2,none⟩ (.slice p.A p.n p.c)) B g n c (ss.set i ⟨a,b,p,s⟩):=by
 have hn:=(Kd.R_reads' h).1;obtain⟨cc,hcl,hM,hcc,hf⟩:=Kd.R_elem h SLp.zero (i:Int) (by omega) (by omega);have e4:ss.getD (i:Int).toNat SLp.zero=ss[i]'hi:=by simp[List.getD_eq_getElem?_getD,List.getElem?_eq_getElem hi]
 rw[e4,hx]at hM;obtain rfl:cc=[.int .i64 a,.int .i64 b,.slice q.A q.n q.c,.int .i64 s]:=hM;have h3:=Kd.R_seg (okp:=fun _=>False) h (i:Int) (by omega) (by omega) (c:=[.int .i64 a,.int .i64 b,.slice q.A q.n q.c,.int .i64 s]) (seg:=[.slice p.A p.n p.c]) (j:=2) (x':=⟨a,b,p,s⟩) hcl hcc (by show 2+1≤4;omega) rfl (fun _ h=>h.elim);rw[Int.toNat_natCast]at h3;exact h3.1
theorem LRow.ps {w:World} {B g n c:Nat} {ss:List SLp} (h:LRow w B g n c ss) (i:Nat) (hi:i<ss.length):w.cell? ⟨g,i*4+2,none⟩=some (.slice (ss[i]).ps.A (ss[i]).ps.n (ss[i]).ps.c)∧w.frozen? ⟨g,i*4+2,none⟩=false:=by
 have hn:=(Kd.R_reads' h).1;obtain⟨cc,hcl,hM,hcc,hf⟩:=Kd.R_elem h SLp.zero (i:Int) (by omega) (by omega);have e4:ss.getD (i:Int).toNat SLp.zero=ss[i]'hi:=by simp[List.getD_eq_getElem?_getD,List.getElem?_eq_getElem hi]
 rw[e4]at hM;obtain rfl:cc=(ss[i]'hi).cells:=hM;rw[Int.toNat_natCast]at hcc;obtain⟨⟨cells,hc⟩,_⟩:=h.typed;exact⟨hcc 2 _ rfl,blk_frozen hc _⟩
abbrev Mg:=Mq
def pr0 (s:StC):SP:=⟨s.pg,0,true,.nil⟩
structure StI (Mt:Nat→Prop) (B:Nat) (w:World) (g n c:Nat) (lps:List (List StC)) (i:Nat) (ss:List SLp):Prop where
 row:LRow w B g n c ss
 len:ss.length=lps.length
 lo:∀(j:Nat) (s:SLp) (l:List StC),j<i→ss[j]?=some s→lps[j]?=some l→LpAt (Mg Mt g) w s (lp0 l)
 hi:∀(j:Nat) (s:SLp),i≤j→ss[j]?=some s→s=SLp.zero
structure StK (Mt:Nat→Prop) (B:Nat) (wi w:World) (g n c:Nat) (lps:List (List StC)) (i:Nat) (rs:List StC) (k:Nat) (ss:List SLp) (p:SH):Prop where
 row:LRow w B g n c ss
 len:ss.length=lps.length
 lo:∀(j:Nat) (s:SLp) (l:List StC),j<i→ss[j]?=some s→lps[j]?=some l→LpAt (Mg Mt g) wi s (lp0 l)
 hi:∀(j:Nat) (s:SLp),i<j→ss[j]?=some s→s=SLp.zero
 at_:ss[i]?=some ⟨0,0,p,0⟩
 ps:Kd.R kPr 114 w wi.heap.size (fun _=>True) (.slice p.A p.n p.c) ((rs.take k).map pr0)
 keep:Keep (Mg Mt g) wi w
section
variable {Mt:Nat→Prop} {B:Nat} {wi w w':World} {g n c:Nat} {lps:List (List StC)} {i:Nat} {rs:List StC} {k:Nat} {ss:List SLp} {p:SH}
theorem StI.start (h:StI Mt B w g n c lps i ss) (hi:i<lps.length) (rs:List StC):StK Mt B w w g n c lps i rs 0 ss .nil:=by
 obtain⟨s,hs⟩:∃s,ss[i]?=some s:=⟨_,List.getElem?_eq_getElem (by rw[h.len];exact hi)⟩;have h0:=h.hi i s (Nat.le_refl _) hs;subst h0;exact⟨h.row,h.len,h.lo,fun j s hj h1=>h.hi j s (Nat.le_of_lt hj) h1,hs,Kd.R_nil _ _ _ _ _,Keep.refl _ _⟩
theorem StK.done (h:StK Mt B wi w g n c lps i rs k ss p) (hr:lps[i]?=some rs) (hk:rs.length≤k) (hM:∀k,Mt k→k<wi.heap.size) (hg:g<wi.heap.size):StI Mt B w g n c lps (i+1) ss:=by
 refine⟨h.row,h.len,fun j s l hj h1 h2=> ?_,fun j s hj h1=>h.hi j s (by omega) h1⟩;by_cases hji:j=i
 ·subst hji;rw[h.at_]at h1;cases h1;rw[hr]at h2;cases h2;have hps:=h.ps;rw[List.take_of_length_le hk]at hps;refine⟨rfl,rfl,⟨_,Rd.of_R rfl hps (fun b hb hm=> ?_),?_⟩,rfl⟩
  ·have h3:=Kd.R_base hps b hb;rcases hm with hm|hm
   ·have:=hM b hm;omega
   ·omega
  ·refine All2.of_get (by simp[lp0]) fun j h3 h4=> ?_;simp only[lp0,List.getElem_map];exact⟨rfl,rfl,rfl,Rd.nil _ _ _⟩
 ·exact(h.lo j s l (by omega) h1 h2).keep h.keep
theorem StK.more (h:StK Mt B wi w g n c lps i rs k ss p) (hb:Below w.heap.size w w'):StK Mt B wi w' g n c lps i rs k ss p:=
 ⟨h.row.stay (hb.block g h.row.typed.2.2),h.len,h.lo,h.hi,h.at_,Kd.R_below h.ps hb,h.keep.trans (Keep.of_below hb)⟩
theorem StK.push (h:StK Mt B wi w g n c lps i rs k ss p) {s:StC} (hs:rs[k]?=some s) {w5:World} {A:Option Addr} {m d:Nat} (hv:Kd.R kPr 114 w5 wi.heap.size (fun _=>True) (.slice A m d) ((rs.take k).map pr0++[pr0 s])) (hg:w.grownBy w5 p.own) (hgw:g<wi.heap.size):
  StK Mt B wi (w5.setCell ⟨g,i*4+2,none⟩ (.slice A m d)) g n c lps i rs (k+1) (ss.set i ⟨0,0,⟨A,m,d⟩,0⟩) ⟨A,m,d⟩:=by
 obtain⟨hil,hie⟩:=List.getElem?_eq_some_iff.1 h.at_;have hne:p.own≠some g:=fun e=>by
  have:=Kd.R_base h.ps g e;omega
 have hg5:w5.heap[g]?=w.heap[g]?:=hg.block g h.row.typed.2.2 (fun e=>hne e.symm);have hk5:Keep (Mg Mt g) wi w5:=⟨Nat.le_trans h.keep.size hg.size,fun b hb hm=>(hg.block b (Nat.lt_of_lt_of_le hb h.keep.size) fun e=>by have:=Kd.R_base h.ps b e.symm;omega).trans (h.keep.block b hb hm)⟩;obtain⟨hkl,hke⟩:=List.getElem?_eq_some_iff.1 hs;refine⟨(h.row.stay hg5).put2 i hil hie ⟨A,m,d⟩,by rw[List.length_set];exact h.len,fun j s l hj h1 h2=> ?_,fun j s hj h1=> ?_,by rw[List.getElem?_set_self hil],?_,hk5.trans (Keep.set (b:=g) (.inr rfl) _)⟩
 ·rw[List.getElem?_set_ne (by omega)]at h1;exact h.lo j s l hj h1 h2
 ·rw[List.getElem?_set_ne (by omega)]at h1;exact h.hi j s hj h1
 ·rw[←List.take_append_getElem hkl,List.map_append,hke];refine R_stay hv rfl fun b hb=>Below.heap_setCell w5 ⟨g,i*4+2,none⟩ _ b fun e=> ?_;have:=Kd.R_base hv b hb;simp only at e;omega
end
theorem states_calls {Mt:Nat→Prop} {w:World} (hM:∀k,Mt k→k<w.heap.size) (c:SCf) {cf:Cf} (hc:CfAt Mt w c cf) (h1:1≤cf.lps.length) (h8:cf.lps.length≤8) (hr8:∀l∈cf.lps,l.length≤8):
  Calls Tryz.prog 50 #[c.v] w fun e w'=>∃(g c:Nat) (ss:List SLp),e= .returned (.slice (some ⟨g,0,none⟩) cf.lps.length c)∧LRow w' w.heap.size g cf.lps.length c ss∧All2 (LpAt (Mg Mt g) w') ss (cf.lps.map lp0)∧Below w.heap.size w w':=by
 obtain⟨⟨cA,cn,cc⟩,⟨pA,pn,pc⟩,la,en,cp⟩:=c;obtain⟨ssl,p1,p2⟩:=hc.lps;have hcn:cn=cf.lps.length:=by have h1:=p1.len;have h2:=p2.len;simp only at h1;omega
 obtain⟨n,hn⟩:∃n,cf.lps.length=n:=⟨_,rfl⟩;rw[hn]at hcn h8 h1;subst hcn;obtain⟨n,rfl⟩:∃n,n=cn:=⟨cn,rfl⟩;have HN:=am hn;have HL:=am p1;have HLL:=am p2;have HR8:=am hr8;have HM:=am hM;clear hc p1 p2 hn hr8 hM;simp only[SCf.v];go_enter Tryz.func50,Tryz.ntmps50;go_upto_region 1 with (fail)
 obtain⟨w0,hw0⟩:∃w0,w.alloc (.cells #[.slice cA n cc,.slice pA pn pc,.int .i64 la,.int .i64 en,.int .i64 cp] 25)=w0:=⟨_,rfl⟩;obtain⟨qc,hqc⟩:∃qc,w.heap.size=qc:=⟨_,rfl⟩;have hbx:w0.heap[qc]?=some (.cells #[.slice cA n cc,.slice pA pn pc,.int .i64 la,.int .i64 en,.int .i64 cp] 25 (0,0)):=by rw[←hw0,←hqc];exact World.alloc_heap_new _ _
 rw[hw0,hqc];have HB0:=am (show Below w.heap.size w w0 from hw0▸below_alloc (Below.refl _ _) _);have HBX:=am hbx;have HQC:=am hqc;have x0:w0.cell? ⟨qc,0,none⟩=some (.slice cA n cc):=by simp[World.cell?,hbx]
 clear hw0 hqc hbx
 go_wp2_with (first
  |((with_reducible refine gate_dst (N:=11) rfl ?_);go_must (refine Kd.R_make kLp (w0:=w0) w0.heap.size TLP rfl (N:=11) rfl 32 _ _ rfl (n:Int) rfl rfl Tryz.underlying32 (.agg #[.int .i64 0,.int .i64 0,.slice none 0 0,.int .i64 0]) 48 infoLP rfl (by decide) (by omega) SLp.zero (ok:=fun _=>True) (okp:=fun _=>True) rfl (fun _ hk=>hk) trivial (by omega) (by omega) (Below.refl _ _) (Nat.le_refl _) ?_);go_must (intro vo w7 ho hb7 hg7 hnew7);go_must (obtain⟨g,c,rfl,hg,hgl,hgt⟩:=Kd.R_form ho (by rw[List.length_replicate];omega));go_must (rw[List.length_replicate,Int.toNat_natCast]at ho ⊢);have HR7:=am ho;have HB7:=am hb7;have HG:=am hg;go_must (have hb7x:=box_more hb7 HBX.out);go_must (have x7:w7.cell? ⟨qc,0,none⟩=some (.slice cA n cc):=by(simp[World.cell?,hb7x]));clear ho hb7 hg7 hnew7 hg hgl hgt hb7x))
 have HI0:=am (show StI Mt w.heap.size w7 g n c cf.lps 0 (List.replicate n SLp.zero)from⟨Kd.R_lower HR7.out HB0.out.size,by rw[List.length_replicate,HN.out],fun j s l hj=>by omega,fun j s _ hs=>(List.mem_replicate.1 (List.mem_of_getElem? hs)).2⟩);have HBW:=am (show Below w.heap.size w w7 from HB0.out.trans (HB7.out.mono HB0.out.size));clear x0 x7 HR7 HB7
 go_loopw [15] (fun j wr=>∃i:Nat,i≤n∧j= .int .i64 i∧∃ss:List SLp,Aside0 (StI Mt w.heap.size wr g n c cf.lps i ss)∧Aside0 (Below w.heap.size w wr)) (fun j _=>n-(intOf j).toNat)
 case atStart=>exact⟨0,Nat.zero_le _,rfl,_,HI0,HBW⟩
 case round=>
  obtain⟨i,hi,rfl,ss,HI,HB⟩:=hrel;by_cases hin:i<n
  ·have d3:decide ((i:Int)<(n:Int))=true:=dt (by omega);have d3':decide (i<n)=true:=decide_eq_true hin;have mi0:(0:Int)≤(i:Int):=by omega
   have mi1:(i:Int)<(n:Nat):=by omega
   obtain⟨ad,⟨lA,ln,lc⟩,e0,⟨hl1,hx1⟩,y0⟩:=hd_cells (HL.out.below HB.out).here i hin;simp only at e0 y0;subst e0;have hil:i<cf.lps.length:=by have:=HN.out;omega
   have hrow:=HLL.out.get i hl1 hil;obtain⟨rs,hre⟩:∃rs,cf.lps[i]'hil=rs:=⟨_,rfl⟩;rw[hx1,hre]at hrow;have HROW:=am hrow;have HIL:=am (show cf.lps[i]?=some rs by rw[List.getElem?_eq_getElem hil,hre]);have hlb:ln≤8:=by have h1:=hrow.len;have h2:=HR8.out _ (List.getElem_mem hil);rw[hre]at h2;simp only at h1;omega
   have HK0:=am (HI.out.start hil rs);clear hl1 hx1 hre hrow hil
   go_wp2_with (fail)
   clear y0;obtain⟨wm,rfl⟩:∃wm,wm=wr:=⟨wr,rfl⟩;have HGM:=am (show g<wm.heap.size from HI.out.row.typed.2.2)
   go_loopw [22] (fun j wr=>∃k:Nat,k≤ln∧j= .int .i64 k∧∃(ss:List SLp) (p:SH),Aside0 (StK Mt w.heap.size wm wr g n c cf.lps i rs k ss p)∧Aside0 (Below w.heap.size w wr)) (fun j _=>ln-(intOf j).toNat)
   case atStart=>exact⟨0,Nat.zero_le _,rfl,ss,.nil,HK0,HB⟩
   case round=>
    obtain⟨k,hk,rfl,ss2,⟨qA,qn,qc2⟩,HK,HB2⟩:=hrel;by_cases hkn:k<ln
    ·have e3:decide ((k:Int)<(ln:Int))=true:=dt (by omega);have e3':decide (k<ln)=true:=decide_eq_true hkn;have mk0:(0:Int)≤(k:Int):=by omega
     have mk1:(k:Int)<(ln:Nat):=by omega
     obtain⟨ad2,⟨spg,stm⟩,e1,⟨hl2,hx2⟩,y1,y2⟩:=st_cells (HROW.out.below HB2.out).here k hkn;simp only at e1 y1 y2;subst e1;have HST:=am (show rs[k]?=some ⟨spg,stm⟩by rw[List.getElem?_eq_getElem hl2,hx2]);clear hl2 hx2;go_upto_region 8 with (fail)
     obtain⟨w8,hw8⟩:∃w8,wr.alloc (.cells #[.int .i64 spg,.int .i64 stm] 62)=w8:=⟨_,rfl⟩;obtain⟨qs,hqs⟩:∃qs,wr.heap.size=qs:=⟨_,rfl⟩;have hb8:Below wr.heap.size wr w8:=hw8▸below_alloc (Below.refl _ _) _;have hbx:w8.heap[qs]?=some (.cells #[.int .i64 spg,.int .i64 stm] 62 (0,0)):=by rw[←hw8,←hqs];exact World.alloc_heap_new _ _
     rw[hw8,hqs];have hK8:=HK.out.more hb8;have hat:=hK8.at_;obtain⟨hil2,hie⟩:=List.getElem?_eq_some_iff.1 hat;have hps:=hK8.row.ps i hil2;rw[hie]at hps;have hgl8:=hK8.row.typed.2.2;have HEL:=am (fun w' (hb:Below w8.heap.size w8 w')=>show w'.cell? ⟨g,i*4+2,none⟩=some (.slice qA qn qc2)∧w'.cell? ⟨qs,0,none⟩=some (.int .i64 spg)by have h9:=box_more hb hbx;exact⟨(hb.cell (p:=⟨g,i*4+2,none⟩) hgl8).trans hps.1,by simp[World.cell?,h9]⟩);have HSL:=am (show((rs.take k).map pr0).length≤1000 by rw[List.length_map,List.length_take];omega)
     have hown:∀b,(Value.slice qA qn qc2).ownBlock=some b→wm.heap.size≤b:=fun b hb=>Kd.R_base hK8.ps b hb;have HOG:=am (show some g≠(Value.slice qA qn qc2).ownBlock from fun e=>by have:=hown g e.symm;have:=HGM.out;omega);have HGC:=am hps;have HGL8:=am hgl8;have HK8:=am hK8;have HPS:=am hK8.ps;have HB8:=HB2.go hb8;have HSZ:=am (show wm.heap.size≤w8.heap.size from hK8.keep.size);clear hw8 hqs hb8 hbx hK8 hat hil2 hie hps hgl8 hown y1 y2
     refine sz_ 15 (S:=fun w'=>w'.cell? ⟨g,i*4+2,none⟩=some (.slice qA qn qc2)∧w'.cell? ⟨qs,0,none⟩=some (.int .i64 spg)) (ds:=[11,14]) ⟨(HEL.out _ (below_drew (Below.refl w8.heap.size w8))).1,(HEL.out _ (below_drew (Below.refl w8.heap.size w8))).2⟩ (fun hHeld=> ?_);refine pz_ 0 26 15 1 ?_;refine pz_ 1 27 15 3 ?_;refine pz_ 2 28 15 7 ?_;refine pz_ 3 29 15 15 ?_;refine pz_ 4 30 15 31 ?_;refine pz_ 5 31 15 63 ?_;refine pz_ 7 33 15 191 ?_;refine tz_ 6 32 15 255 hHeld ?_;refine tz_ 8 34 15 511 hHeld ?_;refine pz_ 9 35 15 1023 ?_
     refine one_ (i:=10) (N:=some 36) (bv 15 2047) rfl rfl (by kernel_rfl) (by decide) (fun K hK=> ?_);refine value_ (w1:= ?_) (v:= ?_) (by rfl) rfl ?_ ?_;rotate_left 2
     ·go_simp;constructor
      ·rfl
      ·rfl
     refine hK.out _ _ ⟨(HEL.out _ (below_alloc (below_drew (Below.refl w8.heap.size w8)) _)).1,(HEL.out _ (below_alloc (below_drew (Below.refl w8.heap.size w8)) _)).2⟩ (fun hHeld=> ?_);clear hK K;refine norm_ (a':= ?_) ?_ ?_;rotate_left
     ·show Act.put _ (some 36) _=_;simp only[Act.put,List.setIfInBounds_toArray,List.set_cons_zero,List.set_cons_succ,i64_w,i32_w];rfl
     refine last_ (i:=11) (N:=some 37) (bv 15 4095) rfl rfl (by kernel_rfl) (by decide) (fun K hK=> ?_);refine Kd.R_append_step kPr (w0:=w8.drew) wm.heap.size (by rfl) (.tmp 32) (.tmp 36) 89 114 (.agg #[.int .i64 0,.int .i64 0,.bool false,.slice none 0 0]) 48 rfl Tryz.underlying89 infoProc rfl (by decide) (by omega) (.slice qA qn qc2) ((rs.take k).map pr0) ⟨spg,0,true,.nil⟩ [.int .i64 spg,.int .i64 0,.bool true,.slice none 0 0] (fun _=>True) (fun _=>False) rfl rfl rfl (fun _ hk=>hk.elim) (fun _ _=>trivial) (Kd.R_drew HPS.out) (Below.refl _ _) HSZ.out (by have:=HSL.out;omega) ?_
     intro v5 w5 hv5 hb5 hg5 hat5;obtain⟨Z5,z5,zc5,hn5,rfl⟩:=R_slice3 hv5;have x5:w5.cell? ⟨g,i*4+2,none⟩=some (.slice qA qn qc2):=by simp only[World.cell?,hg5.block g HGL8.out HOG.out];exact HGC.out.1
     have f5:w5.frozen? ⟨g,i*4+2,none⟩=false:=by simp only[World.frozen?,hg5.block g HGL8.out HOG.out];exact HGC.out.2
     have HV5:=am hv5;have HG5:=am hg5;have HB5':=am hb5;clear hv5 hg5 hb5 hat5 hn5;refine hK.out _ _ ?_;clear hK K;refine norm_ (a':= ?_) ?_ ?_;rotate_left
     ·show Act.put _ (some 37) _=_;simp only[Act.put,List.setIfInBounds_toArray,List.set_cons_zero,List.set_cons_succ,i64_w,i32_w];rfl
     refine pz_ 12 38 15 8191 ?_;refine pz_ 13 39 15 16383 ?_;refine last_ (i:=14) (N:=none) (bv 15 32767) rfl rfl (by kernel_rfl) (by decide) (fun K hK=> ?_);refine skip_ (w1:= ?_) (by rfl) rfl ?_ ?_;rotate_left
     ·go_simp;rfl
     refine hK.out _ _ ?_;clear hK K;refine done_ (by kernel_rfl) ?_;have hb88:Below w8.heap.size w8 w8.drew:=below_drew (Below.refl _ _);have hpush:=(HK8.out.more hb88).push HST.out HV5.out HG5.out HGM.out;have HP:=am hpush;have HB9:=am (show Below w.heap.size w (w5.setCell ⟨g,i*4+2,none⟩ (.slice Z5 z5 zc5))from((HB8.out.trans (hb88.mono HB8.out.size)).trans (HB5'.out.mono HB.out.size)).setCell (p:=⟨g,i*4+2,none⟩) (Nat.le_trans HB0.out.size HG.out) _);clear hb88 hpush
     go_wp2_with (fail)
     go_roundw
     case rel=>exact⟨k+1,Nat.succ_le_of_lt hkn,by go_num,_,⟨Z5,z5,zc5⟩,HP,HB9⟩
     case measure=>simp[intOf];omega
    ·obtain rfl:k=ln:=by omega
     have e3:decide ((k:Int)<(k:Int))=false:=df (by omega);have e3':decide (k<k)=false:=df (by omega);have HD:=am (HK.out.done HIL.out (by have:=HROW.out.len;simp only at this;omega) (fun b hb=>Nat.lt_of_lt_of_le (HM.out b hb) HB.out.size) HGM.out)
     go_wp2_with (fail)
     go_roundw
     case rel=>exact⟨i+1,Nat.succ_le_of_lt hin,by go_num,ss2,HD,HB2⟩
     case measure=>simp[intOf];omega
  ·obtain rfl:i=n:=by omega
   have d3:decide ((i:Int)<(i:Int))=false:=df (by omega);have d3':decide (i<i)=false:=df (by omega)
   go_wp2_with (fail)
   go_ret;have hI:=HI.out;rw[HN.out];refine⟨g,c,ss,rfl,hI.row,All2.of_get (by rw[hI.len,List.length_map]) fun j h3 h4=> ?_,HB.out⟩;rw[List.length_map]at h4;rw[List.getElem_map];exact hI.lo j ss[j] cf.lps[j] (by have:=HN.out;omega) (List.getElem?_eq_getElem h3) (List.getElem?_eq_getElem h4)
end
end Go.Proofs.YtfnimdhghglanaaGreat.Hand
end
