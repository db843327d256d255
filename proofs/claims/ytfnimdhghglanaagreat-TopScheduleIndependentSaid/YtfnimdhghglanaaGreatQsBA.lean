/- TopScheduleIndependent holds: for any number of workers up to 64, any schedule and any limit, the parallel simulator yields the traces of the sequential simulator after as many events, and the final states agree. No condition. (Last part of 27.) -/
import Derived.Test.YtfnimdhghglanaaGreatQsAZ
import Derived.Test.YtfnimdhghglanaaGreatRows
import Derived.WalkKit
import Derived.ProofKit
import Derived.OpenShut
import Derived.ShutString
import Derived.ChangeOld
import Derived.Below
import Derived.SizedLaws
import Derived.WideShapes
set_option maxRecDepth 100000
set_option maxHeartbeats 8000000
set_option linter.unusedVariables false
set_option linter.unusedSimpArgs false
section
namespace Go.Proofs.YtfnimdhghglanaaGreat.Hand
open Go.RowKit Go.Shelf Go.Proofs.YtfnimdhghglanaaGreatW PrintWords PrintLast PrintMore
attribute [local go_sem] max2_int min2_int max_two min_two max_three min_three max_four min_four
theorem CfOk.sizes2 {cf:Cf} {N P:Nat} (h:CfOk cf N P) {lim:Int} (hl:lim≤50):(cf.par lim).1.tr.length≤1000000∧(cf.par lim).1.tr.flatten.length≤1000000:=by
 have hh:=h.go hl (lim.toNat+1) cf.p0 h.head;obtain⟨C,hpi⟩:=hh.ex;have h1:=hpi.nt;have h2:=hh.cnt;have h3:=h.n8;unfold Cf.par;omega
def Pks (wk:Nat) (l:List Int):Prop:=l.length≤1000∧∀p∈l,0≤p∧p<wk
theorem random_calls (s:Int) (hs:0≤s∧s≤4294967295) (wk:Nat) (h1:1≤wk) (h64:wk≤64) (w:World):∃l,Pks wk l∧
  Calls Tryz.prog 18 #[.int .u32 s,.int .i64 wk,.int .i64 150] w fun e w'=>∃h:SH,e= .returned (.slice h.A h.n h.c)∧Rd (Kd.int .i64) MZ w' h l∧Below w.heap.size w w':=by
 have hok:Sch.rndOk s wk 150:=⟨hs.1,by omega,by omega,by omega,by omega,by omega⟩;refine⟨Sch.rndList s wk 150,⟨by rw[Sch.rndList_length];omega,fun p hp=> ?_⟩,?_⟩
 ·obtain⟨k,_,rfl⟩:=List.mem_map.1 hp;unfold Sch.rndAt;exact⟨Int.emod_nonneg _ (by omega),Int.emod_lt_of_pos _ (by omega)⟩
 ·refine(Sch.sched_Random.calls s wk 150 _ w (if_pos hok)).mono ?_;rintro e w' ⟨v,rfl,hR,hB⟩;obtain⟨A2,n2,c2,hn2,rfl⟩:=R_slice3 hR;exact⟨⟨A2,n2,c2⟩,rfl,Rd.of_R rfl hR (fun k hk hm=>hm),hB⟩
theorem repGo_range (d:Int) (wk:Nat) (h1:1≤wk):∀(l ages:List Int),ages.length=wk→(∀p∈l,0≤p∧p<wk)→∀p∈Sch.repGo d ages l,0≤p∧p<(wk:Int)
 | [],_,_,_,p,hp=>by cases hp
 |q::l,ages,ha,hl,p,hp=>by
  have h0:=Sch.pickOf_range (d:=d) (ages:=ages) (p:=q) (fun e=>by rw[e]at ha;simp at ha;omega) (by rw[ha];exact hl q List.mem_cons_self);rw[ha]at h0;unfold Sch.repGo at hp;rcases List.mem_cons.1 hp with rfl|hp
  ·exact h0
  ·exact repGo_range d wk h1 l _ (by rw[Sch.aged_length,ha]) (fun p hp=>hl p (List.mem_cons_of_mem _ hp)) p hp
theorem repair_calls {l:List Int} (wk:Nat) (h1:1≤wk) (h64:wk≤64) (hl:Pks wk l) (win:Int) (hw:0≤win∧win≤100000):∃l2,Pks wk l2∧∀(W:World) (ph:SH),Rd (Kd.int .i64) MZ W ph l→
  Calls Tryz.prog 19 #[.slice ph.A ph.n ph.c,.int .i64 wk,.int .i64 win] W fun e w'=>∃h:SH,e= .returned (.slice h.A h.n h.c)∧Rd (Kd.int .i64) MZ w' h l2∧Below W.heap.size W w':=by
 have hok:Sch.repOk l wk win:=⟨by omega,by omega,by have:=hl.1;omega,hw.1,hw.2,hl.2⟩;refine⟨Sch.repGo (win-wk) (List.replicate (wk:Int).toNat 0) l,⟨by rw[Sch.repGo_length];exact hl.1,repGo_range _ wk h1 _ _ (by simp) hl.2⟩,fun W ph hp=> ?_⟩;have hn:ph.n=l.length:=hp.len;have hh:=hp.here;have hc:=hp.cap;rw[hn]at hh hc ⊢;refine(Sch.sched_Repair.calls ph.A ph.c l wk win _ W hh hc (if_pos hok)).mono ?_;rintro e w' ⟨v,rfl,hR,hB⟩;obtain⟨A2,n2,c2,hn2,rfl⟩:=R_slice3 hR;exact⟨⟨A2,n2,c2⟩,rfl,Rd.of_R rfl hR (fun k hk hm=>hm),hB⟩
structure SCut (cf:Cf) (w2:World) (v:Value) (wx:World):Prop where
 ex:∃b,v= .bool (!b)∧(b=true→QuickOk cf)
 below:Below w2.heap.size w2 wx
theorem sched_calls (c:SCf) {cf:Cf} (a1 a2 a3 a4:Int) (h1:0≤a1∧a1≤255) (h2:0≤a2∧a2≤4294967295) (h3:0≤a3∧a3≤255) (h4:0≤a4∧a4≤255) (w:World) (hc:CfAt MZ w c cf):
  Calls Tryz.prog 5 #[c.v,.int .u8 a1,.int .u32 a2,.int .u8 a3,.int .u8 a4] w fun e w'=>e= .returned (.bool true)∧Below w.heap.size w w':=by
 obtain⟨w1,hw1⟩:∃w1,w.alloc (.cells #[.slice c.lps.A c.lps.n c.lps.c,.slice c.pgs.A c.pgs.n c.pgs.c,.int .i64 c.la,.int .i64 c.en,.int .i64 c.cp] TCf)=w1:=⟨_,rfl⟩;have hb1:Below w.heap.size w w1:=hw1▸below_alloc (Below.refl _ _) _;have hk1:w1.heap[w.heap.size]?=some (.cells (cf5 c) TCf (0,0)):=by rw[←hw1];exact World.alloc_heap_new _ _
 have HB1:=am hb1;have HK1:=am hk1;have HCF:=am (show∀W,Below w.heap.size w W→CfAt MZ W c cf from fun W hb=>hc.keep (Keep.of_below hb));have HHD:=am (head25_calls w1);have HQU:=am (show∀W,Below w.heap.size w W→Calls Tryz.prog 9 #[c.v] W (fun e w'=>QRes cf W w' e)from fun W hb=>quick_calls c (hc.keep (Keep.of_below hb)));clear hb1 hk1 hc;simp only[SCf.v]at*;go_enter Tryz.func5,Tryz.ntmps5;go_upto_region 1 with (fail)
 clear hw1;go_upto_region 2 with (first|(go_at_call 6;go_must (with_reducible refine HHD.out.mono ?_);go_must (rintro e w2 ⟨rfl,hb2⟩);go_must (obtain⟨b0,b1,b2,b3,b4⟩:=cfbox_at HK1.out hb2);have HB12:=am hb2;have HB2:=HB1.go hb2;clear hb2))
 go_cut [29] (fun v wx=>Aside0 (SCut cf w2 v wx))
 case first=>
  go_wp2_with (first|(go_at_call 9;go_must (with_reducible refine(HQU.out w2 HB2.out).mono ?_);go_must (rintro e w3 ⟨⟨b,rfl,hq⟩,hb3⟩);have HB3:=am hb3;have HQ3:=am hq;clear hq hb3))
  go_meet;exact⟨⟨b,rfl,HQ3.out⟩,HB3.out⟩
 case rest=>
 obtain⟨⟨b,rfl,hq⟩,hbx⟩:=hcut.out;have HXC:=HB12.go hbx;have HBC:=HB2.go hbx;clear b0 b1 b2 b3 b4;cases b
 ·clear hq
  go_wp2_with (fail)
  go_ret;exact⟨rfl,HBC.out⟩
 ·obtain⟨_,q2,q3⟩:=hq rfl;obtain⟨hok,hsm⟩:=cfOk_of q2 q3;obtain⟨f0,f1,f2,f3,f4⟩:=cfbox_at HK1.out HXC.out;obtain⟨wk,hwk⟩:∃wk:Nat,a1%64+1=(wk:Int):=⟨(a1%64+1).toNat,by omega⟩;obtain⟨lim,hlim⟩:∃lim,a4%25=lim:=⟨_,rfl⟩;obtain⟨win,hwin⟩:∃win,(wk:Int)+a3=win:=⟨_,rfl⟩;have hw1:1≤wk∧wk≤64:=by omega
  have hl1:0≤lim∧lim≤24:=by omega
  obtain⟨l1,hp1,hc1⟩:=random_calls a2 h2 wk hw1.1 hw1.2 wc;obtain⟨l2,hp2,hc2⟩:=repair_calls wk hw1.1 hw1.2 hp1 win (by omega);obtain⟨r,hpr⟩:∃r,cf.par lim=r:=⟨_,rfl⟩;have hsz:=hok.sizes2 (lim:=lim) (by omega);have HRN:=am hc1;have HRP:=am hc2
  have HPR:=am (show∀(W:World) (ph:SH) (pl:List Int),Pks wk pl→Below w.heap.size w W→Rd (Kd.int .i64) MZ W ph pl→Calls Tryz.prog 10 #[c.v,.int .i64 wk,.slice ph.A ph.n ph.c,.int .i64 lim] W (fun e w'=>∃th lh:SH,e= .returned (.tuple #[.slice th.A th.n th.c,.slice lh.A lh.n lh.c,.int .i64 r.2])∧EvssAt MZ w' th r.1.tr∧LpsAt MZ w' lh r.1.lps∧Below W.heap.size W w')from fun W ph pl hpl hb hp=>
   hpr▸parRun_calls (MZ_lt W) c hok (HCF.out W hb) hsm q2 wk hw1.1 (by omega) ph _ hpl.1 hpl.2 hp lim hl1.1 (by omega))
  have HSEQ:=am (show∀(W:World) (m:Nat),m<2000→r.1.tr.flatten.length=m→Below w.heap.size w W→Calls Tryz.prog 13 #[c.v,.int .i64 m] W (fun e w'=>∃(th lh:SH) (er:Int),e= .returned (.tuple #[.slice th.A th.n th.c,.slice lh.A lh.n lh.c,.int .i64 er])∧EvssAt MZ w' th r.1.tr∧LpsAt MZ w' lh r.1.lps∧Below W.heap.size W w')from fun W m hm hml hb=>by
   have hsame:=hok.same (lim:=lim) (by omega) (by rw[hpr];omega);rw[hpr,hml]at hsame;have h9:=seqRun_calls (MZ_lt W) c hok (HCF.out W hb) hsm q2 m (by omega);rw[hsame.1,hsame.2.1]at h9;refine h9.mono ?_;rintro e w' ⟨th,lh,he,h⟩;exact⟨th,lh,_,he,h⟩)
  rw[hpr]at hsz;have HP1:=am hp1;have HP2:=am hp2;simp only[SCf.v]at HPR HSEQ;clear hq hbx q2 q3 hok hsm hpr hp1 hp2 hc1 hc2;go_upto_region 10 with (first
   |(go_at_call 18;go_must (with_reducible refine HRN.out.mono ?_);go_must (rintro e w3 ⟨ph,rfl,hp,hb3⟩);go_must (obtain⟨g0,g1,g2,g3,g4⟩:=cfbox_at HK1.out (HXC.out.trans (hb3.mono HXC.out.size)));have HX3:=HXC.go hb3;have HB3:=HBC.go hb3;have HR3:=am hp;clear hb3 hp f0 f1 f2 f3 f4)
   |(go_at_call 19;go_must (with_reducible refine(HRP.out w3 ph HR3.out).mono ?_);go_must (rintro e w4 ⟨qh,rfl,hq4,hb4⟩);go_must (obtain⟨k0,k1,k2,k3,k4⟩:=cfbox_at HK1.out (HX3.out.trans (hb4.mono HX3.out.size)));have HX4:=HX3.go hb4;have HB4:=HB3.go hb4;have HR4:=am (HR3.out.keep (Keep.of_below hb4));have HQ4:=am hq4;clear hb4 hq4 g0 g1 g2 g3 g4)
   |(go_at_call 10;first
    |((with_reducible refine(HPR.out w4 ph l1 HP1.out HB4.out HR4.out).mono ?_);go_must (rintro e w5 ⟨ta,la,rfl,ht,hlp,hb5⟩);go_must (obtain⟨f0,f1,f2,f3,f4⟩:=cfbox_at HK1.out (HX4.out.trans (hb5.mono HX4.out.size)));have HX5:=HX4.go hb5;have HB5:=HB4.go hb5;have HQ5:=am (HQ4.out.keep (Keep.of_below hb5));have HTA5:=am ht;have HLA5:=am hlp;clear hb5 ht hlp k0 k1 k2 k3 k4)
    |((with_reducible refine(HPR.out w5 qh l2 HP2.out HB5.out HQ5.out).mono ?_);go_must (rintro e w6 ⟨tb,lb,rfl,ht,hlp,hb6⟩);go_must (obtain⟨g0,g1,g2,g3,g4⟩:=cfbox_at HK1.out (HX5.out.trans (hb6.mono HX5.out.size)));have HX6:=HX5.go hb6;have HB6:=HB5.go hb6;have HTA6:=am (HTA5.out.keep (Keep.of_below hb6));have HLA6:=am (HLA5.out.keep (Keep.of_below hb6));have HTB6:=am ht;have HLB6:=am hlp;clear hb6 ht hlp f0 f1 f2 f3 f4)))
  obtain⟨m,hm⟩:∃m,r.1.tr.flatten.length=m:=⟨_,rfl⟩;have HM:=am hm;have HCM:=am (hm▸commits_calls HTA6.out (MZ_lt w6) hsz.1 hsz.2);have hm6:m≤1000000:=by have:=hsz.2;omega
  clear hm hsz;go_upto_region 11 with (first
   |(go_at_call 12;go_must (with_reducible refine HCM.out.mono ?_);go_must (rintro e w7 ⟨rfl,hb7⟩);go_must (obtain⟨k0,k1,k2,k3,k4⟩:=cfbox_at HK1.out (HX6.out.trans (hb7.mono HX6.out.size)));have HB7:=HB6.go hb7;have HTA7:=am (HTA6.out.keep (Keep.of_below hb7));have HLA7:=am (HLA6.out.keep (Keep.of_below hb7));have HTB7:=am (HTB6.out.keep (Keep.of_below hb7));have HLB7:=am (HLB6.out.keep (Keep.of_below hb7));clear hb7 g0 g1 g2 g3 g4))
  have r0:decide ((m:Int)<0)=false:=df (by omega);have r1:decide (0≤(m:Int))=true:=dt (by omega);by_cases hbig:2000≤m
  ·have r2:decide (2000≤(m:Int))=true:=dt (by omega);have r2':decide (2000≤m)=true:=decide_eq_true hbig
   go_wp2_with (fail)
   go_ret;exact⟨rfl,HB7.out⟩
  ·have r2:decide (2000≤(m:Int))=false:=df (by omega);have r2':decide (2000≤m)=false:=decide_eq_false hbig;have HSQ:=am (HSEQ.out w7 m (by omega) HM.out HB7.out);have re:(r.2==r.2)=true:=beq_self_eq_true _
   go_wp2_with (first
    |(go_at_call 13;go_must (with_reducible refine HSQ.out.mono ?_);go_must (rintro e w8 ⟨tc,lc,er,rfl,ht,hlp,hb8⟩);have HB8:=HB7.go hb8;have HTA8:=am (HTA7.out.keep (Keep.of_below hb8));have HLA8:=am (HLA7.out.keep (Keep.of_below hb8));have HTB8:=am (HTB7.out.keep (Keep.of_below hb8));have HLB8:=am (HLB7.out.keep (Keep.of_below hb8));have HTC8:=am ht;have HLC8:=am hlp;clear hb8 ht hlp)
    |(go_at_call 20;first
     |((with_reducible refine(trseq_calls HTA8.out HTB8.out).mono ?_);go_must (rintro e w9 ⟨rfl,hb9⟩);have HB9:=HB8.go hb9;have HTA9:=am (HTA8.out.keep (Keep.of_below hb9));have HLA9:=am (HLA8.out.keep (Keep.of_below hb9));have HLB9:=am (HLB8.out.keep (Keep.of_below hb9));have HTC9:=am (HTC8.out.keep (Keep.of_below hb9));have HLC9:=am (HLC8.out.keep (Keep.of_below hb9));clear hb9)
     |((with_reducible refine(trseq_calls HTA9.out HTC9.out).mono ?_);go_must (rintro e w10 ⟨rfl,hb10⟩);have HB10:=HB9.go hb10;have HLA10:=am (HLA9.out.keep (Keep.of_below hb10));have HLB10:=am (HLB9.out.keep (Keep.of_below hb10));have HLC10:=am (HLC9.out.keep (Keep.of_below hb10));clear hb10))
    |(go_at_call 21;first
     |((with_reducible refine(lpseq_calls HLA10.out HLB10.out).mono ?_);go_must (rintro e w11 ⟨rfl,hb11⟩);have HB11:=HB10.go hb11;have HLA11:=am (HLA10.out.keep (Keep.of_below hb11));have HLC11:=am (HLC10.out.keep (Keep.of_below hb11));clear hb11)
     |((with_reducible refine(lpseq_calls HLA11.out HLC11.out).mono ?_);go_must (rintro e w12 ⟨rfl,hb12⟩);have HB12':=HB11.go hb12;clear hb12)))
   go_ret;exact⟨rfl,HB12'.out⟩
end Go.Proofs.YtfnimdhghglanaaGreat.Hand
end
section
namespace Go.Proofs.YtfnimdhghglanaaGreat.topScheduleIndependent
open Go.ChangeShapes Go.WideShapes Go.ChangeAt Go.RowKit
open Go.ChangeMaps (open_string shut_string)
open Go.Proofs.YtfnimdhghglanaaGreatW PrintWords PrintLast
theorem own:ownKnob Tryz.prog.godebug=none:=by kernel_rfl
theorem laidOut:laidOutB Tryz.prog=true:=by kernel_rfl
theorem rng_u8 {n:Int} (h:(Lit.int .u8 n).wf=true):0≤n∧n≤255:=by
 simp[Lit.wf,IntKind.min,IntKind.max,IntKind.signed,IntKind.bits]at h;constructor<;>omega
theorem rng_u32 {n:Int} (h:(Lit.int .u32 n).wf=true):0≤n∧n≤4294967295:=by
 simp[Lit.wf,IntKind.min,IntKind.max,IntKind.signed,IntKind.bits]at h;constructor<;>omega
theorem lifted (os:Os) (started:os.Started) (H:Type) (enc:TypeId×Value→H):
  ReturnsInHanded {} Tryz.checked os 5 .any (Rows.topScheduleIndependentSpec.pre6 enc Tryz.prog Tryz.f5 Rows.topScheduleIndependentRow.domain false) (Rows.topScheduleIndependentSpec.post enc Tryz.prog Tryz.f5 false true false false):=by
 refine returnsInHanded_of_change_sized (C:=Tryz.checked) own started (by kernel_rfl) Tryz.func5
  (ChangeSpec.witness6 (enc:=enc) (C:=Tryz.checked) false ⟨#[], #[.agg #[.slice none 0 0,.slice none 0 0,.int .i64 0,.int .i64 0,.int .i64 0],.int .u8 0,.int .u32 0,.int .u8 0,.int .u8 0],[]⟩ 8 (by kernel_rfl) (by kernel_rfl) (by kernel_rfl) (by kernel_rfl)) ?_
 intro W base args ds gs before hval0 hW hcnd hsz0 _;have hval:∀(j:Nat) t v,Tryz.f5.params[j]?=some t→args[j]?=some v→Value.okWide Tryz.prog W .any base t v:=hval0;have hW':=hW;obtain⟨p,q,hA0,hV,rfl,hfz,hnd⟩:=hW;have hA:DataW.TrodAll enc Tryz.prog W 0 (fun _=>true) true Tryz.f5.params.toList args.toList ds p:=hA0;rw[Tryz.params5]at hA hval;obtain⟨v0,vs0,d0,ds0,p0,q0,hargs,rfl,rfl,h0,r0⟩:=trodAll_cons hA;obtain⟨v1,vs1,d1,ds1,p1,q1,rfl,rfl,rfl,h1,r1⟩:=trodAll_cons r0;obtain⟨v2,vs2,d2,ds2,p2,q2,rfl,rfl,rfl,h2,r2⟩:=trodAll_cons r1;obtain⟨v3,vs3,d3,ds3,p3,q3,rfl,rfl,rfl,h3,r3⟩:=trodAll_cons r2
 obtain⟨v4,vs4,d4,ds4,p4,q4,rfl,rfl,rfl,h4,r4⟩:=trodAll_cons r3;obtain⟨rfl,rfl,rfl⟩:=trodAll_nil r4;obtain rfl:args= #[v0,v1,v2,v3,v4]:=by cases args;simp_all
 obtain⟨rfl,rfl⟩:=trodVars_none hV;obtain⟨cs,rfl,hcs⟩:=okWide_struct Tryz.underlying25 (hval 0 25 v0 rfl rfl);have k0:=h0;have lt0:∀x∈p0,x.block<W.heap.size:=by obtain⟨m,hm⟩:=k0;exact DataW.trod_lt m _ _ _ hm
 obtain⟨c,cf,hcc,hcf⟩:∃(c:Hand.SCf) (cf:Hand.Cf),Value.agg cs=c.v∧Hand.CfAt Hand.MZ W c cf:=by
  obtain⟨fuel,hf⟩:=h0;have h5:cs.toList.length=5:=by
   rw[Array.length_toList,hcs];kernel_rfl
  obtain⟨c,cf,e,h⟩:=Hand.open_cfg (fuel:=fuel) (cs:=cs.toList) h5 hf;refine⟨c,cf,?_,h⟩;unfold Hand.SCf.v;rw[←e]
 obtain⟨a1,rfl,rfl,rfl,w1⟩:=open_int Tryz.underlying5 (hval 1 5 v1 rfl rfl) h1;obtain⟨a2,rfl,rfl,rfl,w2⟩:=open_int Tryz.underlying51 (hval 2 51 v2 rfl rfl) h2;obtain⟨a3,rfl,rfl,rfl,w3⟩:=open_int Tryz.underlying5 (hval 3 5 v3 rfl rfl) h3;obtain⟨a4,rfl,rfl,rfl,w4⟩:=open_int Tryz.underlying5 (hval 4 5 v4 rfl rfl) h4;clear hA0 hval0 hsz0;have hcl:=Hand.sched_calls c a1 a2 a3 a4 (rng_u8 w1) (rng_u32 w2) (rng_u8 w3) (rng_u8 w4) W hcf;rw[←hcc]at hcl;refine hcl.mono fun e W' ⟨he,bel⟩=> ?_;subst he
 exact⟨_,rfl,_,_,_,[],_,[],hW',trodAll_mk1 (shut_bool Tryz.underlying4 _),(trodAll_cons_mk (Below.trod laidOut (by kernel_rfl) (of_decide_eq_true (by kernel_rfl)) k0 bel lt0) (trodAll_cons_mk (shut_int Tryz.underlying5 w1) (trodAll_cons_mk (shut_int Tryz.underlying51 w2) (trodAll_cons_mk (shut_int Tryz.underlying5 w3) (trodAll_cons_mk (shut_int Tryz.underlying5 w4) trodAll_mk0))))),rfl,bel.frame _,fun h=>by cases h⟩
theorem over:Rows.topScheduleIndependentRow.holds Tryz.pinned (OpenSpec.ofChange Rows.topScheduleIndependentSpec):=
 OpenClaim.holds_of_wide 5 Tryz.f5 rfl rfl rfl rfl rfl rfl rfl ⟨rfl,rfl,rfl,rfl,rfl⟩ rfl rfl rfl rfl rfl (by kernel_rfl) Tryz.func5 (by kernel_rfl)
  (of_decide_eq_true (by kernel_rfl)) (by unfold Func.isWrapper;first|(rw[if_pos (by decide+kernel)];kernel_rfl)|(rw[if_neg (by decide+kernel)];exact⟨rfl,rfl⟩))
  (fun os started H enc _=>lifted os started H enc)
theorem proved:Rows.TopScheduleIndependentSaid:=over
#print axioms proved
end Go.Proofs.YtfnimdhghglanaaGreat.topScheduleIndependent
namespace Go.Proofs.YtfnimdhghglanaaGreat
theorem topScheduleIndependent_holds:Rows.TopScheduleIndependentSaid:=topScheduleIndependent.proved
end Go.Proofs.YtfnimdhghglanaaGreat
end
