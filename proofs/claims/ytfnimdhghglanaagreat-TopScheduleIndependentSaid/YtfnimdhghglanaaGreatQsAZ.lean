/- TopScheduleIndependent, part 26 of 27; no condition.  -/
import Derived.Test.YtfnimdhghglanaaGreatQsAY
import Derived.Deep.Slices
import Derived.ChangeSame
import Derived.OpenShut
import Derived.WideShapes
import Derived.KernelRfl
import Derived.Test.YtfnimdhghglanaaGreatProg
import Derived.Below
import Derived.Deep.Draws
import Derived.Deep.AppendLies
import Derived.Maps.AppendAt
import Derived.OwnWalk
import Derived.Laws.BytesArg
import Derived.Laws.MakeOwn
import Derived.Laws.OwnMore
import Derived.Deep.OwnRows
import Derived.Tactics
import Derived.Lib.ConvBytes
import Derived.Laws.Slices
import Derived.WalkKit
import Derived.RowKit3
import Derived.Deep.LoopGhost
import Derived.Deep.QuietTactic
import Derived.BigQuiet
import Derived.WideLaws
import Derived.Deep.DeepCutAuto
import Derived.Deep.CutBlock
import Derived.Deep.RegionHeld3
import Derived.Laws.Rows
import Derived.Lib.AppendStr
import Derived.ArgAppend
import Derived.Laws.IdiomCopy
import Derived.OrdersHeld
import Derived.Laws.BitsLemmas
import Derived.RowKit
set_option maxRecDepth 100000
set_option maxHeartbeats 8000000
set_option linter.unusedVariables false
set_option linter.unusedSimpArgs false
section
namespace Go.Proofs.YtfnimdhghglanaaGreat.Hand
open Go.RowKit Go.Proofs.YtfnimdhghglanaaGreatW PrintWords PrintLast PrintMore
attribute [local go_sem] max2_int min2_int max_two min_two max_three min_three max_four min_four
theorem infoI3:(Tryz.prog.info? 3).map (fun i=>(i.zero,i.size,i.bytes))=some (some (.int .i64 0),1,8):=by kernel_rfl
def rrobin.l0:Nat→Int→Int→List Int→Int→Int→Option (List Int)
 |0,_,_,_,_,_=>none
 |k+1,x0,x1,x7,x12,x13=>if x13<x12 then(if x1=0 then(none)else(if 0≤x13 then(if x13<(x7.length:Int)then(rrobin.l0 k x0 x1 (x7.set (x13:Int).toNat (Int.tmod (wrap64 (x0+x13)) x1)) x12 (wrap64 (x13+1)))else(none))else(none)))else(some x7)
def rrobin.f (k:Nat) (a0:Int) (a1:Int) (a2:Int):Option (List Int):=if 0≤a2 then(if (a2:Int).toNat≤35184372088832 then((some (List.replicate (a2:Int).toNat 0:List Int)).bind fun y181=>(rrobin.l0 k a0 a1 y181 (y181.length:Int) 0))else(none))else(none)
theorem rrobin.calls (k:Nat) (a0:Int) (a1:Int) (a2:Int) (r:List Int) (w:World) (h:rrobin.f k a0 a1 a2=some r):
  Calls Tryz.prog 23 #[.int .i64 a0,.int .i64 a1,.int .i64 a2] w fun e w'=>∃v0_:Value,e= .returned (v0_)∧Kd.R (Kd.int .i64) 3 w' w.heap.size (fun _=>True) v0_ r∧Below w.heap.size w w':=by
 have HB:=am (Below.refl w.heap.size w);have H:(if 0≤a2 then(if (a2:Int).toNat≤35184372088832 then((some (List.replicate (a2:Int).toNat 0:List Int)).bind fun y181=>(rrobin.l0 k a0 a1 y181 (y181.length:Int) 0))else(none))else(none))=some r:=h;clear h;by_cases c4:0≤a2
 ·rw[if_pos c4]at H;have c4b0:=eq_true c4;have c4b1:decide (0≤a2)=true:=decide_eq_true c4;clear c4;by_cases c5:(a2:Int).toNat≤35184372088832
  ·rw[if_pos c5]at H;have c5b0:=eq_true c5;have c5b1:decide ((a2:Int).toNat≤35184372088832)=true:=decide_eq_true c5;clear c5;obtain⟨y181,hy181⟩:∃y_:List Int,y_=(List.replicate (a2:Int).toNat 0):=⟨_,rfl⟩
   replace H:(rrobin.l0 k a0 a1 y181 (y181.length:Int) 0)=some r:=by first|(rw[hy181];with_reducible exact H)|(have H2_:=(Option.bind_some _ _).symm.trans H;rw[hy181];with_reducible exact H2_)|(have H2_:=(Option.bind_some _ _).symm.trans H;with_reducible exact H2_)|with_reducible exact H|(rw[hy181];exact H)|exact H
   have Ny181:=am hy181;clear hy181;have H':=am H;clear H;go_enter Tryz.func23,Tryz.ntmps23
   go_wp2_with (first|((with_reducible refine gate_dst (N:=10) rfl ?_);refine Kd.R_make (Kd.int .i64) _ 3 rfl (N:=10) rfl 35 _ _ rfl a2 rfl rfl Tryz.underlying35 (.int .i64 0) 8 infoI3 rfl (by decide) (by omega) 0 (ok:=fun _=>True) (okp:=fun _=>True) rfl (fun _ hk=>hk) trivial (of_decide_eq_true (by first|(with_reducible assumption)|assumption)) (Nat.le_trans (Nat.mul_le_mul_right _ (of_decide_eq_true (by first|(with_reducible assumption)|assumption):a2.toNat≤35184372088832)) (by omega)) (Below.refl _ _) (Nat.le_refl _) ?_;intro v182 w6 ho7 hb hg_ hnew_;clear hg_ hnew_;(first|rw[←Ny181.out]at ho7|(simp only[Int.reduceToNat]at ho7;rw[←Ny181.out]at ho7));have n0_:=am (Kd.R_lower ho7 (below_size (by repeat (first|(with_reducible first|exact HB.out|apply below_alloc|apply pw_below_drewN|apply below_drew1)|exact HB.out))));have n1_:=am (below_step (by repeat (first|(with_reducible first|exact HB.out|apply below_alloc|apply pw_below_drewN|apply below_drew1)|exact HB.out)) hb);clear HB;have HO183:=n0_;have HB:=n1_;clear n0_ n1_;clear hb ho7;obtain⟨Ao8,co8,eo8⟩:=Kd.R_slice HO183.out;subst eo8))
   go_loopg [13] k (fun kq v13 w'=>∃(x7_1:List Int) (x13_1:Int),v13= .int .i64 x13_1∧Aside0 (rrobin.l0 kq a0 a1 x7_1 (y181.length:Int) x13_1=some r)∧Aside0 (kq≤k)∧Aside0 (Kd.R (Kd.int .i64) 3 w' w.heap.size (fun _=>True) (.slice Ao8 y181.length co8) x7_1)∧Aside0 (Below w.heap.size w w'))
   case atStart=>exact⟨(y181),(0),(by first|rfl|(simp;done)|(simp[*];done)),H',⟨Nat.le_refl _⟩,⟨by(with_reducible repeat (first|apply Kd.R_alloc|apply Kd.R_drewN|apply Kd.R_drew));exact HO183.out⟩,⟨by repeat (first|(with_reducible first|exact HB.out|apply below_alloc|apply pw_below_drewN|apply below_drew1)|exact HB.out)⟩⟩
   case round=>
    clear H'
    try clear c2
    try clear p2
    try clear c4
    try clear c4b0
    try clear c4b1
    try clear c5
    try clear c5b0
    try clear c5b1
    obtain⟨x7_1,x13_1,rfl,HA,HK1,HO_7,HB⟩:=hrel;have hl7_1:=(Kd.R_reads' HO_7.out).1;rw[hl7_1]at HO_7
    (try simp only[hl7_1])
    cases gk with
    |zero=>exact absurd HA.out (by simp[rrobin.l0])
    |succ k1=>
     have H:=HA.out;clear HA;simp only[rrobin.l0]at H;by_cases c9:x13_1<(y181.length:Int)
     ·rw[if_pos c9]at H;have c9b0:decide (x13_1<(y181.length:Int))=true:=decide_eq_true c9;clear c9;by_cases c10:a1=0
      ·rw[if_pos c10]at H;exact absurd H (by simp)
      ·rw[if_neg c10]at H;have c10b0:(a1==0)=false:=beq_eq_false_iff_ne.mpr c10;have c10b1:(a1 != 0)=true:=bne_iff_ne.mpr c10;by_cases c11:0≤x13_1
       ·rw[if_pos c11]at H;have c11b0:decide (0≤x13_1)=true:=decide_eq_true c11;clear c11;by_cases c12:x13_1<(x7_1.length:Int)
        ·rw[if_pos c12]at H;have c12b0:decide (x13_1<(x7_1.length:Int))=true:=decide_eq_true c12;clear c12;obtain⟨y184,hy184⟩:∃y_:List Int,y_=(x7_1.set (x13_1:Int).toNat (Int.tmod (wrap64 (a0+x13_1)) a1)):=⟨_,rfl⟩
         replace H:(rrobin.l0 k1 a0 a1 y184 (y181.length:Int) (wrap64 (x13_1+1)))=some r:=by first|(rw[hy184];with_reducible exact H)|(have H2_:=(Option.bind_some _ _).symm.trans H;rw[hy184];with_reducible exact H2_)|(have H2_:=(Option.bind_some _ _).symm.trans H;with_reducible exact H2_)|with_reducible exact H|(rw[hy184];exact H)|exact H
         have Ny184:=am hy184;clear hy184;have H':=am H;clear H;have p13:0≤(x13_1:Int):=of_decide_eq_true (by first|(with_reducible assumption)|assumption);have q13:(x13_1:Int)<((x7_1.length:Int):Int):=of_decide_eq_true (by first|(with_reducible assumption)|assumption);obtain⟨go13,co13,eo13,gb13,gl13,cl13,HG13⟩:=Kd.R_form HO_7.out (by omega)
         (first|cases eo13|(injection eo13 with ea_ en_ ec_;(first|subst ea_|(injection ea_ with ea_;subst ea_));subst ec_;clear en_))
         have GB13:=am gb13;have GG13:=am HG13;clear gb13 gl13 HG13;obtain⟨hx13_0,hf13_0⟩:=Kd.R_celln 0 HO_7.out (x13_1:Int) p13 q13
         replace p13:=eq_true p13
         replace q13:=eq_true q13
         have HP14:=Kd.R_putg HO_7.out (x13_1:Int) (Int.tmod (wrap64 (a0+x13_1)) a1)
         go_wp2_with (first|((with_reducible refine gate_store (t:=3) (p:=23) rfl ?_);refine store_event (t:=3) (p:=23) (v:= ?vo_w15) (w1:=(wr.setCell ⟨go13,(x13_1:Int).toNat,none⟩ (.int .i64 (Int.tmod (wrap64 (a0+x13_1)) a1)))) ?hg ?ho ?hn ?hr ?_;(case ho=>rfl);(case hg=>rfl);(case hn=>rfl);(case hr=>first|(go_simp;done)|(go_simp;rfl));intro w15 hw;have hg:wr.grownBy w15 (some go13):=(by rw[hw];exact HP14.2);have hp_:Kd.R (Kd.int .i64) 3 w15 w.heap.size (fun _=>True) (.slice (some ⟨go13,0,none⟩) x7_1.length co8) y184:=(by rw[hw,Ny184.out];exact HP14.1);clear HP14;have n0_:=am (hp_);have n1_:=am ((by rw[hw];exact below_set (HB.out) GB13.out:Below w.heap.size w w15));clear HO_7;clear HB;have HO_7:=n0_;have HB:=n1_;clear n0_ n1_;clear hg hw hp_))
         (try simp only[←hl7_1])
         go_roundg k1
         case measure=>have:=HK1.out;omega
         case rel=>exact⟨(y184),(wrap64 (x13_1+1)),(by first|rfl|(simp;done)|(simp[*];done)),H',⟨by have:=HK1.out;omega⟩,⟨by(try simp only[hl7_1]);(with_reducible repeat (first|apply Kd.R_alloc|apply Kd.R_drewN|apply Kd.R_drew));exact HO_7.out⟩,⟨by repeat (first|(with_reducible first|exact HB.out|apply below_alloc|apply pw_below_drewN|apply below_drew1)|exact HB.out)⟩⟩
        ·rw[if_neg c12]at H;exact absurd H (by simp)
       ·rw[if_neg c11]at H;exact absurd H (by simp)
     ·rw[if_neg c9]at H;have c9b0:decide (x13_1<(y181.length:Int))=false:=decide_eq_false c9;clear c9;obtain rfl:=Option.some.inj H
      try rw[hl7_1]at c9b0
      go_wp2
      go_ret;exact⟨_,by first|rfl|(simp[errW_none,errW_some]<;>rfl)|(simp[*,errW_none,errW_some]<;>rfl),by(with_reducible repeat (first|apply Kd.R_alloc|apply Kd.R_drewN|apply Kd.R_drew));exact HO_7.out,by repeat (first|(with_reducible first|exact HB.out|apply below_alloc|apply pw_below_drewN|apply below_drew1)|exact HB.out)⟩
  ·rw[if_neg c5]at H;exact absurd H (by simp)
 ·rw[if_neg c4]at H;exact absurd H (by simp)
def lpicks.l0:Nat→List Int→Int→List Int→Int→Option (List Int)
 |0,_,_,_,_=>none
 |k+1,x0,x1,x5,x6=>if x6<(x0.length:Int)then(if 0≤x6 then(if (mx 1 x1)=0 then(none)else(if x5.length<17592186044416 then(lpicks.l0 k x0 x1 (x5++[Int.tmod (wrap64 (rd x0 x6)) (mx 1 x1)]) (wrap64 (x6+1)))else(none)))else(none))else(some x5)
def lpicks.f (k:Nat) (l0:List Int) (a1:Int):Option (List Int):=lpicks.l0 k l0 a1 ([]:List Int) 0
end Go.Proofs.YtfnimdhghglanaaGreat.Hand
end
section
namespace Go.Proofs.YtfnimdhghglanaaGreat.Hand
open Go.ChangeShapes Go.WideShapes Go.Deep
open Go.RowKit Go.Shelf Go.Proofs.YtfnimdhghglanaaGreatW PrintWords PrintLast PrintMore
section
abbrev MZ:Nat→Prop:=fun _=>False
theorem cell_keep {W w2:World} (hk:Keep MZ W w2) {p:Addr} {u:Value} (h:W.cell? p=some u):w2.cell? p=some u:=by
 have hb:=World.block_lt_of_cell? _ _ h;unfold World.cell? at h ⊢;rw[hk.block _ hb (fun h=>h)];exact h
theorem Rd.of_cells {α:Type} {sz:Nat} {enc:α→List Value} {hl:∀x,(enc x).length=sz} {h1:∀x,∀u∈enc x,u.oneCell'=true} {W:World} {A:Option Addr} {n c:Nat} {l:List α} (hn:l.length=n) (hc:n≤c) (hm:n≤9223372036854775807) (hcell:0<n→∃ad,A=some ad∧∀(j:Nat) (p:α),l[j]?=some p→∀i u,(enc p)[i]?=some u→W.cell? (ad.add (j*sz+i))=some u):Rd (Kd.flat sz enc hl h1) MZ W ⟨A,n,c⟩ l:=by
 refine⟨hn.symm,hc,fun w2 hk=>⟨hn,hm,fun h0=> ?_⟩⟩;obtain⟨ad,e,h⟩:=hcell h0;exact⟨ad,e,fun j p hp=>⟨enc p,hl p,rfl,fun i u hu=>cell_keep hk (h j p hp i u hu)⟩⟩
theorem list_of2 {α:Type} {n:Nat} {P:Nat→α→Prop} (h:∀i,i<n→∃x,P i x):∃l:List α,l.length=n∧∀(i:Nat) (x:α),l[i]?=some x→P i x:=by
 induction n with
 |zero=>exact⟨[],rfl,fun i x h=>by simp at h⟩
 |succ n ih=>
  obtain⟨l,h1,h2⟩:=ih fun i hi=>h i (by omega);obtain⟨x,hx⟩:=h n (by omega);refine⟨l++[x],by simp[h1],fun i y hy=> ?_⟩;by_cases hi:i<n
  ·rw[List.getElem?_append_left (by omega)]at hy;exact h2 i y hy
  ·rw[List.getElem?_append_right (by omega)]at hy;have h3:i=n:=by
    have:=(List.getElem?_eq_some_iff.1 hy).1;simp at this;omega
   subst h3;simp[h1]at hy;exact hy▸hx
theorem all2_of2 {α β:Type} {R:α→β→Prop}:∀{l:List α},(∀x∈l,∃y,R x y)→∃m,All2 R l m
 | [],_=>⟨[],.nil⟩
 |x::l,h=>by
  obtain⟨y,hy⟩:=h x List.mem_cons_self;obtain⟨m,hm⟩:=all2_of2 fun z hz=>h z (List.mem_cons_of_mem _ hz);exact⟨y::m,.cons hy hm⟩
section
variable {H:Type} {enc:TypeId×Value→H} {W:World} {base:Nat} {spare:Nat→Bool} {held:Bool}
theorem open_row {α:Type} {sz:Nat} {en:α→List Value} {hl:∀x,(en x).length=sz} {h1:∀x,∀u∈en x,u.oneCell'=true} {P:α→Prop} {t e:TypeId} (ht:Tryz.prog.underlying t=some (.slice e)) (hsz:Tryz.prog.cellsOf e=sz)
  (ho:∀{fuel:Nat} {cs:List Value} {x:DataW H×List MemPlace},cs.length=sz→DataW.trod enc Tryz.prog W base spare held fuel e cs=some x→∃a,P a∧cs=en a)
  {fuel:Nat} {cs:List Value} {x:DataW H×List MemPlace} (h:DataW.trod enc Tryz.prog W base spare held fuel t cs=some x):∃(s:SH) (l:List α),cs=[.slice s.A s.n s.c]∧Rd (Kd.flat sz en hl h1) MZ W s l∧∀a∈l,P a:=by
 rcases open_slice ht h with ⟨hcs,_⟩|⟨ad,len,cap,m,n,D,Pl,hcs,_,hle,hm,hmm,_,hi⟩
 ·exact⟨⟨none,0,0⟩,[],hcs,Rd.of_cells rfl (Nat.le_refl _) (by omega) (fun h=>by omega),fun a h=>by cases h⟩
 ·have hml:len≤m:=by rw[hmm];split<;>omega
  rw[hsz]at hi;obtain⟨l,hll,hP⟩:=list_of2 (n:=len) (P:=fun i (a:α)=>P a∧∀j u,(en a)[j]?=some u→W.cell? (ad.add (i*sz+j))=some u) (fun i hil=>by
   obtain⟨cs',hc,ht'⟩:=hi i (by omega);obtain⟨_,hcl,hat⟩:=World.cells?_some hc;obtain⟨a,ha,rfl⟩:=ho hcl ht';refine⟨a,ha,fun j u hu=> ?_⟩;have hj:j<sz:=by
    have:=(List.getElem?_eq_some_iff.1 hu).1;omega
   rw[←Go.Deep.add_add,hat j hj,hu])
  refine⟨⟨some ad,len,cap⟩,l,hcs,Rd.of_cells hll hle (by simp[maxLen]at hm;omega) (fun _=>⟨ad,rfl,fun j p hp=>(hP j p hp).2⟩),fun a ha=> ?_⟩;obtain⟨i,hi2⟩:=List.mem_iff_getElem?.1 ha;exact(hP i a hi2).1
theorem open_i64 {fuel:Nat} {cs:List Value} {x:DataW H×List MemPlace} (h:DataW.trod enc Tryz.prog W base spare held fuel 3 cs=some x):∃n,cs=[.int .i64 n]:=by
 obtain⟨n0,e0,_,w0⟩:=DataW.trod_int Tryz.underlying3 h;exact⟨n0,e0⟩
theorem open_start {fuel:Nat} {cs:List Value} {x:DataW H×List MemPlace} (hl:cs.length=2) (h:DataW.trod enc Tryz.prog W base spare held fuel 62 cs=some x):∃a:StC,True∧cs=a.cells:=by
 match cs,hl with
 | [c0,c1],_=>
  obtain⟨ys,n,_,_,_,hlen,hg⟩:=DataW.trod_struct Tryz.underlying62 h
  match ys,hlen with
  | [y0,y1],_=>
   have q3:Tryz.prog.cellsOf 3=1:=by kernel_rfl
   have g0:DataW.trod enc Tryz.prog W base spare held n 3 (([c0,c1].drop 0).take (Tryz.prog.cellsOf 3))=some y0:=hg 0 _ rfl;have g1:DataW.trod enc Tryz.prog W base spare held n 3 (([c0,c1].drop 1).take (Tryz.prog.cellsOf 3))=some y1:=hg 1 _ rfl;rw[q3]at g0 g1;obtain⟨n0,e0⟩:=open_i64 g0;obtain⟨n1,e1⟩:=open_i64 g1;have e0':=List.head_eq_of_cons_eq e0;have e1':=List.head_eq_of_cons_eq e1;subst e0' e1';exact⟨⟨n0,n1⟩,trivial,rfl⟩
theorem open_op {fuel:Nat} {cs:List Value} {x:DataW H×List MemPlace} (hl:cs.length=4) (h:DataW.trod enc Tryz.prog W base spare held fuel 93 cs=some x):∃a:OpC,True∧cs=a.cells:=by
 match cs,hl with
 | [c0,c1,c2,c3],_=>
  obtain⟨ys,n,_,_,_,hlen,hg⟩:=DataW.trod_struct Tryz.underlying93 h
  match ys,hlen with
  | [y0,y1,y2,y3],_=>
   have q3:Tryz.prog.cellsOf 3=1:=by kernel_rfl
   have g0:DataW.trod enc Tryz.prog W base spare held n 3 (([c0,c1,c2,c3].drop 0).take (Tryz.prog.cellsOf 3))=some y0:=hg 0 _ rfl;have g1:DataW.trod enc Tryz.prog W base spare held n 3 (([c0,c1,c2,c3].drop 1).take (Tryz.prog.cellsOf 3))=some y1:=hg 1 _ rfl;have g2:DataW.trod enc Tryz.prog W base spare held n 3 (([c0,c1,c2,c3].drop 2).take (Tryz.prog.cellsOf 3))=some y2:=hg 2 _ rfl;have g3:DataW.trod enc Tryz.prog W base spare held n 3 (([c0,c1,c2,c3].drop 3).take (Tryz.prog.cellsOf 3))=some y3:=hg 3 _ rfl;rw[q3]at g0 g1 g2 g3;obtain⟨n0,e0⟩:=open_i64 g0;obtain⟨n1,e1⟩:=open_i64 g1
   obtain⟨n2,e2⟩:=open_i64 g2;obtain⟨n3,e3⟩:=open_i64 g3;have e0':=List.head_eq_of_cons_eq e0;have e1':=List.head_eq_of_cons_eq e1;have e2':=List.head_eq_of_cons_eq e2;have e3':=List.head_eq_of_cons_eq e3;subst e0' e1' e2' e3';exact⟨⟨n0,n1,n2,n3⟩,trivial,rfl⟩
theorem open_cfg {fuel:Nat} {cs:List Value} {x:DataW H×List MemPlace} (hl:cs.length=5) (h:DataW.trod enc Tryz.prog W base spare held fuel 25 cs=some x):∃(c:SCf) (cf:Cf),cs=[.slice c.lps.A c.lps.n c.lps.c,.slice c.pgs.A c.pgs.n c.pgs.c,.int .i64 c.la,.int .i64 c.en,.int .i64 c.cp]∧CfAt MZ W c cf:=by
 match cs,hl with
 | [c0,c1,c2,c3,c4],_=>
  obtain⟨ys,n,_,_,_,hlen,hg⟩:=DataW.trod_struct Tryz.underlying25 h
  match ys,hlen with
  | [y0,y1,y2,y3,y4],_=>
   have q3:Tryz.prog.cellsOf 3=1:=by kernel_rfl
   have qa:Tryz.prog.cellsOf 22=1:=by kernel_rfl
   have qb:Tryz.prog.cellsOf 23=1:=by kernel_rfl
   have g0:DataW.trod enc Tryz.prog W base spare held n 22 (([c0,c1,c2,c3,c4].drop 0).take (Tryz.prog.cellsOf 22))=some y0:=hg 0 _ rfl;have g1:DataW.trod enc Tryz.prog W base spare held n 23 (([c0,c1,c2,c3,c4].drop 1).take (Tryz.prog.cellsOf 23))=some y1:=hg 1 _ rfl;have g2:DataW.trod enc Tryz.prog W base spare held n 3 (([c0,c1,c2,c3,c4].drop 2).take (Tryz.prog.cellsOf 3))=some y2:=hg 2 _ rfl;have g3:DataW.trod enc Tryz.prog W base spare held n 3 (([c0,c1,c2,c3,c4].drop 3).take (Tryz.prog.cellsOf 3))=some y3:=hg 3 _ rfl
   have g4:DataW.trod enc Tryz.prog W base spare held n 3 (([c0,c1,c2,c3,c4].drop 4).take (Tryz.prog.cellsOf 3))=some y4:=hg 4 _ rfl;rw[q3]at g2 g3 g4;rw[qa]at g0;rw[qb]at g1;obtain⟨n2,e2⟩:=open_i64 g2;obtain⟨n3,e3⟩:=open_i64 g3;obtain⟨n4,e4⟩:=open_i64 g4;obtain⟨s0,l0,e0,r0,p0⟩:=open_row (sz:=1) (en:=fun h:SH=>[Value.slice h.A h.n h.c]) (hl:=fun _=>rfl) (h1:=fun _ u hu=>by simp at hu;subst hu;rfl) (P:=fun s=>∃l,Rd kSt MZ W s l) Tryz.underlying22 (by kernel_rfl) (fun hcl ht=>by
    obtain⟨s,l,e,r,_⟩:=open_row (sz:=2) (en:=StC.cells) (hl:=fun _=>rfl) (h1:=fun _ u hu=>by simp[StC.cells]at hu;rcases hu with rfl|rfl<;>rfl) (P:=fun _=>True) Tryz.underlying58 (by kernel_rfl) open_start ht;exact⟨s,⟨l,r⟩,e⟩) g0
   obtain⟨s1,l1,e1,r1,p1⟩:=open_row (sz:=1) (en:=fun h:SH=>[Value.slice h.A h.n h.c]) (hl:=fun _=>rfl) (h1:=fun _ u hu=>by simp at hu;subst hu;rfl) (P:=fun s=>∃l,Rd kOp MZ W s l) Tryz.underlying23 (by kernel_rfl) (fun hcl ht=>by
    obtain⟨s,l,e,r,_⟩:=open_row (sz:=4) (en:=OpC.cells) (hl:=fun _=>rfl) (h1:=fun _ u hu=>by simp[OpC.cells]at hu;rcases hu with rfl|rfl|rfl|rfl<;>rfl) (P:=fun _=>True) Tryz.underlying59 (by kernel_rfl) open_op ht;exact⟨s,⟨l,r⟩,e⟩) g1
   have e0':=List.head_eq_of_cons_eq e0;have e1':=List.head_eq_of_cons_eq e1;have e2':=List.head_eq_of_cons_eq e2;have e3':=List.head_eq_of_cons_eq e3;have e4':=List.head_eq_of_cons_eq e4;subst e0' e1' e2' e3' e4';obtain⟨ls,hls⟩:=all2_of2 p0;obtain⟨gs,hgs⟩:=all2_of2 p1;exact⟨⟨s0,s1,n2,n3,n4⟩,⟨ls,gs,n2,n3,n4⟩,rfl,⟨⟨_,r0,hls⟩,⟨_,r1,hgs⟩,rfl,rfl,rfl⟩⟩
end
end
end Go.Proofs.YtfnimdhghglanaaGreat.Hand
end
section
namespace Go.Proofs.YtfnimdhghglanaaGreat.Hand
open Go.RowKit Go.Shelf Go.Proofs.YtfnimdhghglanaaGreatW PrintWords PrintLast PrintMore
attribute [local go_sem] max2_int min2_int max_two min_two max_three min_three max_four min_four
def cfB:Cf:=⟨[[⟨0,3⟩],[⟨1,2⟩]],[[⟨2,1,7,4⟩,⟨6,0,1,0⟩,⟨1,3,0,0⟩,⟨7,0,3,0⟩,⟨8,0,0,0⟩],[⟨3,5,2,0⟩,⟨1,9,0,0⟩,⟨6,1,10,0⟩,⟨8,0,0,0⟩]],4,100,16⟩
theorem alloc_next {w w':World} {o:Obj} (h:w.alloc o=w'):Below w.heap.size w w'∧w'.heap[w.heap.size]?=some o∧w'.heap.size=w.heap.size+1:=by
 subst h;exact⟨below_alloc (Below.refl _ _) _,World.alloc_heap_new _ _,World.size_alloc _ _⟩
theorem flat_get {α:Type} {sz:Nat} {en:α→List Value} (hl:∀x,(en x).length=sz):∀(l:List α) (j:Nat) (p:α) (i:Nat) (u:Value),l[j]?=some p→(en p)[i]?=some u→(l.flatMap en)[j*sz+i]?=some u
 | [],j,p,i,u,h,_=>by simp at h
 |x::l,0,p,i,u,h,hu=>by
  simp at h;subst h;rw[List.flatMap_cons,Nat.zero_mul,Nat.zero_add,List.getElem?_append_left (List.getElem?_eq_some_iff.1 hu).1];exact hu
 |x::l,j+1,p,i,u,h,hu=>by
  have ih:=flat_get hl l j p i u (by simpa using h) hu;have e:(j+1)*sz+i=sz+(j*sz+i):=by rw[Nat.succ_mul];omega
  rw[List.flatMap_cons,List.getElem?_append_right (by rw[hl,e];omega),hl,e,Nat.add_sub_cancel_left];exact ih
theorem Rd.of_blk {α:Type} {sz:Nat} {en:α→List Value} {hl:∀x,(en x).length=sz} {h1:∀x,∀u∈en x,u.oneCell'=true} {W:World} {q n:Nat} {cs:Array Value} {t:TypeId} {l:List α} (hq:W.heap[q]?=some (.cells cs t (0,0))) (hn:l.length=n) (hm:n≤9223372036854775807) (hc:cs.toList=l.flatMap en):Rd (Kd.flat sz en hl h1) MZ W ⟨some ⟨q,0,none⟩,n,n⟩ l:=by
 refine Rd.of_cells hn (Nat.le_refl _) hm fun _=>⟨_,rfl,fun j p hp i u hu=> ?_⟩;have h2:=flat_get hl l j p i u hp hu;rw[←hc,Array.getElem?_toList]at h2;rw[show(⟨q,0,none⟩:Addr).add (j*sz+i)=⟨q,j*sz+i,none⟩by unfold Addr.add;split<;>simp_all];simp[World.cell?,hq,h2]
theorem base_calls (w:World):Calls Tryz.prog 22 #[] w fun e w'=>∃c:SCf,e= .returned c.v∧CfAt MZ w' c cfB∧Below w.heap.size w w':=by
 go_enter Tryz.func22,Tryz.ntmps22
 go_wp2_with (fail)
 obtain⟨q,hq⟩:∃q,w.heap.size=q:=⟨_,rfl⟩;obtain⟨w1,h1⟩:∃v,w.alloc (.cells #[.slice (some ⟨q+1+1+1,0,none⟩) 2 2,.slice (some ⟨q+1+1+1+1+1+1,0,none⟩) 2 2,.int .i64 4,.int .i64 100,.int .i64 16] TCf)=v:=⟨_,rfl⟩;obtain⟨w2,h2⟩:∃v,w1.alloc (.cells #[.int .i64 0,.int .i64 3] TSt2)=v:=⟨_,rfl⟩;obtain⟨w3,h3⟩:∃v,w2.alloc (.cells #[.int .i64 1,.int .i64 2] TSt2)=v:=⟨_,rfl⟩;obtain⟨w4,h4⟩:∃v,w3.alloc (.cells #[.slice (some ⟨q+1,0,none⟩) 1 1,.slice (some ⟨q+1+1,0,none⟩) 1 1] 58)=v:=⟨_,rfl⟩
 obtain⟨w5,h5⟩:∃v,w4.alloc (.cells #[.int .i64 2,.int .i64 1,.int .i64 7,.int .i64 4,.int .i64 6,.int .i64 0,.int .i64 1,.int .i64 0,.int .i64 1,.int .i64 3,.int .i64 0,.int .i64 0,.int .i64 7,.int .i64 0,.int .i64 3,.int .i64 0,.int .i64 8,.int .i64 0,.int .i64 0,.int .i64 0] TOp)=v:=⟨_,rfl⟩;obtain⟨w6,h6⟩:∃v,w5.alloc (.cells #[.int .i64 3,.int .i64 5,.int .i64 2,.int .i64 0,.int .i64 1,.int .i64 9,.int .i64 0,.int .i64 0,.int .i64 6,.int .i64 1,.int .i64 10,.int .i64 0,.int .i64 8,.int .i64 0,.int .i64 0,.int .i64 0] TOp)=v:=⟨_,rfl⟩
 obtain⟨w7,h7⟩:∃v,w6.alloc (.cells #[.slice (some ⟨q+1+1+1+1,0,none⟩) 5 5,.slice (some ⟨q+1+1+1+1+1,0,none⟩) 4 4] 59)=v:=⟨_,rfl⟩;obtain⟨b1,c1,s1⟩:=alloc_next h1;obtain⟨b2,c2,s2⟩:=alloc_next h2;obtain⟨b3,c3,s3⟩:=alloc_next h3;obtain⟨b4,c4,s4⟩:=alloc_next h4;obtain⟨b5,c5,s5⟩:=alloc_next h5;obtain⟨b6,c6,s6⟩:=alloc_next h6;obtain⟨b7,c7,s7⟩:=alloc_next h7;rw[hq]at c1 s1;rw[s1]at c2 s2;rw[s2]at c3 s3;rw[s3]at c4 s4;rw[s4]at c5 s5;rw[s5]at c6 s6;rw[s6]at c7 s7;have d6:=box_more b7 c6;have d5:=box_more b7 (box_more b6 c5);have d4:=box_more b7 (box_more b6 (box_more b5 c4))
 have d3:=box_more b7 (box_more b6 (box_more b5 (box_more b4 c3)));have d2:=box_more b7 (box_more b6 (box_more b5 (box_more b4 (box_more b3 c2))));have d1:=box_more b7 (box_more b6 (box_more b5 (box_more b4 (box_more b3 (box_more b2 c1)))));have e12:=b1.trans (b2.mono b1.size);have e13:=e12.trans (b3.mono e12.size);have e14:=e13.trans (b4.mono e13.size);have e15:=e14.trans (b5.mono e14.size);have e16:=e15.trans (b6.mono e15.size);have e17:=e16.trans (b7.mono e16.size);rw[hq,h1,h2,h3,h4,h5,h6,h7];have HB:=am e17
 have HCF:=am (show CfAt MZ w7 ⟨⟨some ⟨q+1+1+1,0,none⟩,2,2⟩,⟨some ⟨q+1+1+1+1+1+1,0,none⟩,2,2⟩,4,100,16⟩ cfB from by
  refine⟨⟨[⟨some ⟨q+1,0,none⟩,1,1⟩,⟨some ⟨q+1+1,0,none⟩,1,1⟩],Rd.of_blk d4 rfl (by decide) rfl,.cons (Rd.of_blk d2 rfl (by decide) rfl) (.cons (Rd.of_blk d3 rfl (by decide) rfl) .nil)⟩,⟨[⟨some ⟨q+1+1+1+1,0,none⟩,5,5⟩,⟨some ⟨q+1+1+1+1+1,0,none⟩,4,4⟩],Rd.of_blk c7 rfl (by decide) rfl,.cons (Rd.of_blk d5 rfl (by decide) rfl) (.cons (Rd.of_blk d6 rfl (by decide) rfl) .nil)⟩,rfl,rfl,rfl⟩)
 have o0:w7.cell? ⟨q,0,none⟩=some (.slice (some ⟨q+1+1+1,0,none⟩) 2 2):=by simp[World.cell?,d1]
 have o1:w7.cell? ⟨q,1,none⟩=some (.slice (some ⟨q+1+1+1+1+1+1,0,none⟩) 2 2):=by simp[World.cell?,d1]
 have o2:w7.cell? ⟨q,2,none⟩=some (.int .i64 4):=by simp[World.cell?,d1]
 have o3:w7.cell? ⟨q,3,none⟩=some (.int .i64 100):=by simp[World.cell?,d1]
 have o4:w7.cell? ⟨q,4,none⟩=some (.int .i64 16):=by simp[World.cell?,d1]
 refine bodyPost_ret (results_cell1 Tryz.results22 rfl (v:= .agg #[.slice (some ⟨q+1+1+1,0,none⟩) 2 2,.slice (some ⟨q+1+1+1+1+1+1,0,none⟩) 2 2,.int .i64 4,.int .i64 100,.int .i64 16]) (by simp[go_sem,o0,o1,o2,o3,o4])) rfl ⟨_,rfl,HCF.out,?_⟩;rw[←hq];exact HB.out
end Go.Proofs.YtfnimdhghglanaaGreat.Hand
end
section
namespace Go.Proofs.YtfnimdhghglanaaGreat.Hand
open Go
theorem base_chk:chk cfB=0:=by kernel_rfl
theorem base_par:((cfB.par 50).2,(cfB.par 50).1.tr.flatten.length)=((0:Int),10):=by kernel_rfl
theorem base_seq:cfB.seqErr 50=0:=by kernel_rfl
theorem base_same:(cfB.seq 50).tr=(cfB.par 50).1.tr:=by kernel_rfl
theorem fst1_zero {α:Type} {f:α→Int}:∀{l:List α},fst1 f l=0→∀x∈l,f x=0
 | [],_,x,hx=>by cases hx
 |y::l,h,x,hx=>by
  unfold fst1 at h
  split at h
  ·rename_i h0;rcases List.mem_cons.1 hx with rfl|hx
   ·exact h0
   ·exact fst1_zero h x hx
  ·rename_i h0;exact absurd h h0
theorem vd_true {b:Bool} {e:Int} (he:e≠0) (h:vd b e=0):b=true:=by
 cases b
 ·exact absurd h he
 ·rfl
theorem wi_true {n a b:Int} (h:wi n a b=true):a≤n∧n≤b:=by simpa [wi]using h
theorem opV_of {n P N la:Int} {N' P':Nat} (hN:N=N') (hP:P=P') {o:OpC} (h1:opC o=0) (h2:opO n P o=0) (h3:opT N o=0) (h4:opE la o=0):OpV N' P' la o:=by
 have g1:=wi_true (vd_true (by decide) h1);have g2:=vd_true (by decide) h2;have g3:=vd_true (by decide) h3;have g4:=vd_true (by decide) h4;simp only[Bool.not_eq_true',Bool.and_eq_false_iff,decide_eq_false_iff_not]at g3 g4;subst hN hP;refine⟨⟨g1.1,g1.2,fun hc=> ?_,fun hc=> ?_⟩,fun hc=> ?_,fun hc=> ?_,fun hc=> ?_,fun hc=> ?_⟩
 ·rcases hc with hc|hc
  ·simp only[hc]at g2;simp[wi]at g2;omega
  ·simp only[hc]at g2;simp[wi]at g2;omega
 ·simp only[hc]at g2;simp[wi]at g2;omega
 ·simp only[hc]at g2;simp[wi]at g2;omega
 ·simp only[hc]at g2;simp[wi]at g2;omega
 ·simp only[hc]at g2;simp[wi]at g2;omega
 ·simp only[hc]at g2;simp[wi]at g2;omega
theorem cfOk_of {cf:Cf} (h:chk cf=0) (h8:cf.la≤8):CfOk cf cf.lps.length cf.pgs.length∧CfSm cf:=by
 rw[chk_eq]at h
 split at h
 ·rename_i hs
  split at h
  ·rename_i hla
   split at h
   ·rename_i hp;simp only[szs,Bool.and_eq_true,decide_eq_true_eq,List.all_eq_true]at hs;obtain⟨s1,s2,s3,s4,s5⟩:=hs;have s1:=wi_true s1;have s3:=wi_true s3;have s4:=wi_true s4;have hst:=fst1_zero h;have hpg:=fst1_zero hp;have hop:∀p∈cf.pgs,wi p.length 1 16=true∧fst1 opC p=0∧fst1 (opO p.length cf.pgs.length) p=0∧fst1 (opT cf.lps.length) p=0∧fst1 (opE cf.la) p=0:=fun p hp=>by
     have h1:=hpg p hp;unfold pck at h1
     split at h1
     ·rename_i h2;have h3:=fst1_zero h1;exact⟨h2,h3 _ (by simp),h3 _ (by simp),h3 _ (by simp),h3 _ (by simp)⟩
     ·exact absurd h1 (by decide)
    refine⟨⟨rfl,by omega,by omega,rfl,by omega,fun l hl=>by have:=s5 l hl;omega,fun l hl s hsl=> ?_,fun p hp=>by have:=wi_true (hop p hp).1;omega,fun p hp o ho=> ?_,⟨hla,h8⟩,s4,s3⟩,⟨by omega,by omega,fun l hl=>by have:=s5 l hl;omega,fun p hp=>by have:=wi_true (hop p hp).1;omega⟩⟩
    ·have h1:=fst1_zero (hst l hl) s hsl;unfold stc at h1
     split at h1
     ·rename_i h2;have h3:=wi_true h2;have h4:=wi_true (vd_true (by decide) h1);omega
     ·exact absurd h1 (by decide)
    ·obtain⟨_,q1,q2,q3,q4⟩:=hop p hp;exact opV_of rfl rfl (fst1_zero q1 o ho) (fst1_zero q2 o ho) (fst1_zero q3 o ho) (fst1_zero q4 o ho)
   ·rename_i hp;exact absurd h hp
  ·exact absurd h (by decide)
 ·exact absurd h (by decide)
end Go.Proofs.YtfnimdhghglanaaGreat.Hand
end
section
namespace Go.Proofs.YtfnimdhghglanaaGreat.Hand
open Go.RowKit Go.Shelf Go.Proofs.YtfnimdhghglanaaGreatW PrintWords PrintLast PrintMore
attribute [local go_sem] max2_int min2_int max_two min_two max_three min_three max_four min_four
theorem parRun_calls {Mt:Nat→Prop} {w:World} (hM:∀k,Mt k→k<w.heap.size) (c:SCf) {cf:Cf} {N P:Nat} (hok:CfOk cf N P) (hc:CfAt Mt w c cf) (hs:CfSm cf) (h0:chk cf=0) (wk:Nat) (hw0:1≤wk) (hw:wk≤64) (ph:SH) (l:List Int) (hl:l.length≤1000) (hr:∀p∈l,0≤p∧p<wk) (hpk:Rd (Kd.int .i64) Mt w ph l) (lim:Int) (hl0:0≤lim) (hl50:lim≤50):
  Calls Tryz.prog 10 #[c.v,.int .i64 wk,.slice ph.A ph.n ph.c,.int .i64 lim] w fun r w'=>∃th lh:SH,r= .returned (.tuple #[.slice th.A th.n th.c,.slice lh.A lh.n lh.c,.int .i64 (cf.par lim).2])∧EvssAt Mt w' th (cf.par lim).1.tr∧LpsAt Mt w' lh (cf.par lim).1.lps∧Below w.heap.size w w':=by
 obtain⟨w1,hw1⟩:∃w1,w.alloc (.cells #[.slice c.lps.A c.lps.n c.lps.c,.slice c.pgs.A c.pgs.n c.pgs.c,.int .i64 c.la,.int .i64 c.en,.int .i64 c.cp] TCf)=w1:=⟨_,rfl⟩;have hb1:Below w.heap.size w w1:=hw1▸below_alloc (Below.refl _ _) _;have hk1:w1.heap[w.heap.size]?=some (.cells (cf5 c) TCf (0,0)):=by rw[←hw1];exact World.alloc_heap_new _ _
 obtain⟨a0,a1,a2,a3,a4⟩:=cfbox_at hk1 (Below.refl _ _);have HB1:=am hb1;have HK1:=am hk1;have HM:=am hM;have HCK:=am (h0▸check_calls c (hc.keep (Keep.of_below hb1)) hs);have HRUN:=am (show∀W,Below w.heap.size w W→Calls Tryz.prog 28 #[c.v,.int .i64 wk,.slice ph.A ph.n ph.c,.int .i64 lim] W (fun r w'=>∃s:SPs,r= .returned (.tuple #[s.v,.int .i64 (cf.par lim).2])∧PsAt Mt w' s (cf.par lim).1∧Below W.heap.size W w')from
  fun W hb=>prun_calls (fun k hk=>Nat.lt_of_lt_of_le (hM k hk) hb.size) c hok (hc.keep (Keep.of_below hb)) wk hw0 hw ph l hl hr (hpk.below hb) lim hl0 hl50)
 clear hb1 hk1 hM hc hs h0 hok hl hr hpk hl0 hl50 hw0 hw;simp only[SCf.v]at HCK HRUN ⊢;go_enter Tryz.func10,Tryz.ntmps10;go_upto_region 1 with (fail)
 clear hw1;go_upto_region 4 with (first|(go_at_call 27;go_must (with_reducible refine HCK.out.mono ?_);go_must (rintro e w2 ⟨rfl,hb2⟩);go_must (obtain⟨b0,b1,b2,b3,b4⟩:=cfbox_at HK1.out hb2);have HB2:=HB1.go hb2;clear hb2))
 have HRN:=am (HRUN.out _ HB2.out);clear a0 a1 a2 a3 a4;simp only[SPs.v]at HRN;go_upto_region 5 with (first|(go_at_call 28;go_must (with_reducible refine HRN.out.mono ?_);go_must (rintro e w3 ⟨s,rfl,hps,hb3⟩);have HPS:=am hps;have HB3:=HB2.go hb3;clear hps hb3))
 obtain⟨w4,hw4⟩:∃w4,w3.alloc (.cells #[.slice s.tr.A s.tr.n s.tr.c,.slice s.lps.A s.lps.n s.lps.c,.slice s.bx.A s.bx.n s.bx.c,.bool s.ov,.slice s.fl.A s.fl.n s.fl.c,.slice s.pr.A s.pr.n s.pr.c] TSt)=w4:=⟨_,rfl⟩;have hb4:Below w3.heap.size w3 w4:=hw4▸below_alloc (Below.refl _ _) _;have hk4:w4.heap[w3.heap.size]?=some (.cells (st6 s) TSt (0,0)):=by rw[←hw4];exact World.alloc_heap_new _ _
 have HB4:=HB3.go hb4;have HP4:=am (HPS.out.keep (Keep.of_below hb4));have z0:w4.cell? ⟨w3.heap.size,0,none⟩=some (.slice s.tr.A s.tr.n s.tr.c):=by simp[World.cell?,hk4]
 have z1:w4.cell? ⟨w3.heap.size,1,none⟩=some (.slice s.lps.A s.lps.n s.lps.c):=by simp[World.cell?,hk4]
 have z4:w4.cell? ⟨w3.heap.size,4,none⟩=some (.slice s.fl.A s.fl.n s.fl.c):=by simp[World.cell?,hk4]
 have z5:w4.cell? ⟨w3.heap.size,5,none⟩=some (.slice s.pr.A s.pr.n s.pr.c):=by simp[World.cell?,hk4]
 rw[hw4];clear hw4 hb4 hk4
 go_region
 go_wp2_with (fail)
 go_returns
 exact⟨s.tr,s.lps,rfl,HP4.out.tr.keep (Keep.of_below (below_drew (Below.refl _ _))),HP4.out.lps.keep (Keep.of_below (below_drew (Below.refl _ _))),HB4.out.trans ((below_drew (Below.refl _ _)).mono HB4.out.size)⟩
def rr30:List Int:=[0,1,0,1,0,1,0,1,0,1,0,1,0,1,0,1,0,1,0,1,0,1,0,1,0,1,0,1,0,1]
theorem rr_eval:rrobin.f 40 0 2 30=some rr30:=by kernel_rfl
theorem MZ_lt (w:World) (k:Nat) (h:MZ k):k<w.heap.size:=h.elim
theorem rr_calls (w:World):Calls Tryz.prog 23 #[.int .i64 0,.int .i64 2,.int .i64 30] w fun e w'=>∃h:SH,e= .returned (.slice h.A h.n h.c)∧Rd (Kd.int .i64) MZ w' h rr30∧Below w.heap.size w w':=by
 refine(rrobin.calls 40 0 2 30 rr30 w rr_eval).mono ?_;rintro e w' ⟨v,rfl,hR,hB⟩;obtain⟨A2,n2,c2,hn2,rfl⟩:=R_slice3 hR;exact⟨⟨A2,n2,c2⟩,rfl,Rd.of_R rfl hR (fun k hk hm=>hm),hB⟩
theorem head25_calls (w:World):Calls Tryz.prog 6 #[] w fun e w'=>e= .returned (.bool true)∧Below w.heap.size w w':=by
 obtain⟨hok,hsm⟩:=cfOk_of base_chk (by decide);have HBA:=am (fun W=>base_calls W);have HRR:=am (fun W=>rr_calls W);have HPR:=am (show∀(W:World) (c:SCf) (ph:SH),CfAt MZ W c cfB→Rd (Kd.int .i64) MZ W ph rr30→Calls Tryz.prog 10 #[c.v,.int .i64 2,.slice ph.A ph.n ph.c,.int .i64 50] W (fun r w'=>∃th lh:SH,r= .returned (.tuple #[.slice th.A th.n th.c,.slice lh.A lh.n lh.c,.int .i64 0])∧EvssAt MZ w' th (cfB.par 50).1.tr∧LpsAt MZ w' lh (cfB.par 50).1.lps∧Below W.heap.size W w')from fun W c ph hc hp=>by
  have h1:=parRun_calls (MZ_lt W) c hok hc hsm base_chk 2 (by decide) (by decide) ph rr30 (by decide) (by decide) hp 50 (by decide) (by decide);rw[show(cfB.par 50).2=0 from congrArg Prod.fst base_par]at h1;exact h1)
 have HSR:=am (show∀(W:World) (c:SCf),CfAt MZ W c cfB→Calls Tryz.prog 13 #[c.v,.int .i64 50] W (fun r w'=>∃th lh:SH,r= .returned (.tuple #[.slice th.A th.n th.c,.slice lh.A lh.n lh.c,.int .i64 0])∧EvssAt MZ w' th (cfB.par 50).1.tr∧LpsAt MZ w' lh (cfB.seq 50).lps∧Below W.heap.size W w')from fun W c hc=>by
  have h1:=seqRun_calls (MZ_lt W) c hok hc hsm base_chk 50 (by decide);rw[base_seq,base_same]at h1;exact h1)
 have HLEN:=am (show(cfB.par 50).1.tr.length≤1000000∧(cfB.par 50).1.tr.flatten.length=10 from⟨by(have h2:(cfB.par 50).1.tr.length=2:=by kernel_rfl);omega,congrArg Prod.snd base_par⟩);clear hok hsm;go_enter Tryz.func6,Tryz.ntmps6;go_upto_region 1 with (fail)
 have H0:=am (HBA.out w);go_upto_region 2 with (first
  |(go_at_call 22;go_must (with_reducible refine H0.out.mono ?_);go_must (rintro e w1 ⟨c,rfl,hc,hb⟩);have HC1:=am hc;have HB1:=am hb;have H1:=am (HRR.out w1);clear hc hb)
  |(go_at_call 23;go_must (with_reducible refine H1.out.mono ?_);go_must (rintro e w2 ⟨ph,rfl,hp,hb⟩);go_must (have h2:=HPR.out w2 c ph (HC1.out.keep (Keep.of_below hb)) hp);have HB2:=HB1.go hb;have H2:=am h2;clear hp hb h2)
  |(go_at_call 10;go_must (with_reducible refine H2.out.mono ?_);go_must (rintro e w3 ⟨ta,la,rfl,ht,_,hb⟩);have HT3:=am ht;have HB3:=HB2.go hb;clear ht hb))
 have H3:=am (HBA.out w3);go_upto_region 3 with (first
  |(go_at_call 22;go_must (with_reducible refine H3.out.mono ?_);go_must (rintro e w4 ⟨c2,rfl,hc,hb⟩);go_must (have h4:=HSR.out w4 c2 hc);have HB34:=am hb;have HB4:=HB3.go hb;have H4:=am h4;clear hc hb h4)
  |(go_at_call 13;go_must (with_reducible refine H4.out.mono ?_);go_must (rintro e w5 ⟨tb,lb,rfl,ht,_,hb⟩);have HT5:=am ht;have HB35:=HB34.go hb;have HB5:=HB4.go hb;clear ht hb))
 have HTA:=am (HT3.out.keep (Keep.of_below HB35.out));have h5:=commits_calls HTA.out (MZ_lt w5) HLEN.out.1 (by have:=HLEN.out.2;omega);rw[HLEN.out.2]at h5;have H5:=am h5;clear h5
 go_wp2_with (first
  |(go_at_call 12;go_must (with_reducible refine H5.out.mono ?_);go_must (rintro e w6 ⟨rfl,hb⟩);go_must (have h6:=trseq_calls (HTA.out.keep (Keep.of_below hb)) (HT5.out.keep (Keep.of_below hb)));have H6:=am h6;have HB6:=HB5.go hb;clear hb h6)
  |(go_at_call 20;go_must (with_reducible refine H6.out.mono ?_);go_must (rintro e w7 ⟨rfl,hb⟩);have HB7:=HB6.go hb;clear hb))
 go_ret;exact⟨rfl,HB7.out⟩
end Go.Proofs.YtfnimdhghglanaaGreat.Hand
end
section
namespace Go.Proofs.YtfnimdhghglanaaGreat.Sch
open Go.RowKit Go.Proofs.YtfnimdhghglanaaGreatW PrintWords PrintLast PrintMore
attribute [local go_sem] max2_int min2_int max_two min_two max_three min_three max_four min_four
def lcg (x:Int):Int:=(x*1664525+1013904223)%4294967296
def lcgN (x:Int):Nat→Int
 |0=>x
 |k+1=>lcg (lcgN x k)
def rndAt (seed threads:Int) (k:Nat):Int:=(lcgN seed (k+1) / 65536)%threads
def rndList (seed threads:Int) (n:Nat):List Int:=(List.range n).map (rndAt seed threads)
theorem lcg_range (x:Int):0≤lcg x∧lcg x<4294967296:=by unfold lcg;omega
theorem lcgN_range {x:Int} (h:0≤x∧x<4294967296):∀k,0≤lcgN x k∧lcgN x k<4294967296
 |0=>h
 |_+1=>lcg_range _
def rndOk (a0 a1 a2:Int):Prop:=0≤a0∧a0<4294967296∧1≤a1∧a1≤64∧0≤a2∧a2≤100000
instance (a0 a1 a2:Int):Decidable (rndOk a0 a1 a2):=by unfold rndOk;exact inferInstance
def sched_Random.f (a0 a1 a2:Int):Option (List Int):=if rndOk a0 a1 a2 then some (rndList a0 a1 a2.toNat)else none
def rndPart (seed threads:Int) (n k:Nat):List Int:=rndList seed threads k++List.replicate (n-k) 0
theorem rndList_length (s t:Int) (n:Nat):(rndList s t n).length=n:=by simp[rndList]
theorem rndPart_length (s t:Int) {n k:Nat} (h:k≤n):(rndPart s t n k).length=n:=by simp[rndPart,rndList_length];omega
theorem rndPart_zero (s t:Int) (n:Nat):rndPart s t n 0=List.replicate n 0:=by simp[rndPart,rndList]
theorem rndPart_all (s t:Int) (n:Nat):rndPart s t n n=rndList s t n:=by simp[rndPart]
theorem rndPart_step (s t:Int) {n k:Nat} (h:k<n):(rndPart s t n k).set k (rndAt s t k)=rndPart s t n (k+1):=by
 unfold rndPart;rw[List.set_append_right _ _ (by rw[rndList_length];omega),rndList_length,Nat.sub_self];obtain⟨m,hm⟩:∃m,n-k=m+1:=⟨n-k-1,by omega⟩;have hm2:n-(k+1)=m:=by omega
 rw[hm,hm2,List.replicate_succ];simp[rndList,List.range_succ]
theorem next_calls (B:Nat) (x:Int) (w:World) (hc:w.cell? ⟨B,0,none⟩=some (.int .u32 x)) (hf:w.frozen? ⟨B,0,none⟩=false) (h:0≤x∧x<4294967296):
  Calls Tryz.prog 61 #[.pointer (some ⟨B,0,none⟩)] w fun e w'=>e= .returned (.int .u32 (lcg x))∧w'=w.setCell ⟨B,0,none⟩ (.int .u32 (lcg x)):=by
 obtain⟨h0,h1⟩:=h;go_enter Tryz.func61,Tryz.ntmps61
 go_wp2
 go_ret;exact⟨rfl,rfl⟩
theorem gen_calls (x:Int) (w:World):
  Calls Tryz.prog 37 #[.int .u32 x] w fun e w'=>e= .returned (.func (.func 61) #[] #[.pointer (some ⟨w.heap.size,0,none⟩)])∧
   Below w.heap.size w w'∧w.heap.size<w'.heap.size∧w'.cell? ⟨w.heap.size,0,none⟩=some (.int .u32 x)∧w'.frozen? ⟨w.heap.size,0,none⟩=false:=by
 go_enter Tryz.func37,Tryz.ntmps37
 go_wp2
 go_ret;exact⟨rfl,(Below.refl _ _).alloc (Nat.le_refl _) _,by simp,by simp,by simp⟩
theorem sched_Random.calls (a0:Int) (a1:Int) (a2:Int) (r:List Int) (w:World) (h:sched_Random.f a0 a1 a2=some r):
  Calls Tryz.prog 18 #[.int .u32 a0,.int .i64 a1,.int .i64 a2] w fun e w'=>∃v0_:Value,e= .returned (v0_)∧Kd.R (Kd.int .i64) 3 w' w.heap.size (fun _=>True) v0_ r∧Below w.heap.size w w':=by
 unfold sched_Random.f at h
 split at h
 case isFalse=>simp at h
 case isTrue hok=>
 obtain⟨h1,h2,h3,h4,h5,h6⟩:=hok;have HS:=Aside0.mk (Option.some.inj h);clear h;obtain⟨n,rfl⟩:∃n:Nat,a2=n:=⟨a2.toNat,by omega⟩;have hn:(n:Int).toNat=n:=by omega
 rw[hn]at HS;go_enter Tryz.func18,Tryz.ntmps18
 go_wp2_with (first|(go_at_call 37;refine(gen_calls a0 _).mono ?_;rintro e w1 ⟨rfl,hb1,hs1,hc1,hf1⟩;have HB1:=Aside0.mk hb1;have HS1:=Aside0.mk hs1;have HC1:=Aside0.mk hc1;have HF1:=Aside0.mk hf1;clear hb1 hs1 hc1 hf1)|((with_reducible refine gate_dst (N:=13) rfl ?_);refine Kd.R_make (Kd.int .i64) _ 3 rfl (N:=13) rfl 35 _ _ rfl (n:Int) rfl rfl Tryz.underlying35 (.int .i64 0) 8 info3 rfl (by decide) (by omega) 0 (ok:=fun k=>k≠w.heap.size) (okp:=fun k=>k≠w.heap.size) rfl (fun _ hk=>hk) (by have:=HS1.out;omega) (by omega) (by omega) (Below.refl _ _) (Nat.le_refl _) ?_;intro vo w2 ho hb2 hg2 hnew2;rw[hn]at ho;obtain⟨Ao,co,rfl⟩:=Kd.R_slice ho;rw[List.length_replicate]at ho ⊢;have HO:=Aside0.mk (Kd.R_lower ho (Nat.le_of_lt HS1.out));have HB:=Aside0.mk (below_step HB1.out hb2);have HC:=Aside0.mk ((hb2.cell (p:=⟨w.heap.size,0,none⟩) HS1.out).trans HC1.out);have HF:=Aside0.mk ((hb2.frozen (p:=⟨w.heap.size,0,none⟩) HS1.out).trans HF1.out);have HS2:=Aside0.mk (Nat.lt_of_lt_of_le HS1.out hb2.size);clear ho hb2 hg2 hnew2 HB1 HC1 HF1 HS1))
 go_loopw [16] (fun i w'=>∃k:Nat,k≤n∧i= .int .i64 k∧
   Aside0 (Kd.R (Kd.int .i64) 3 w' w.heap.size (fun k=>k≠w.heap.size) (.slice Ao n co) (rndPart a0 a1 n k))∧
   Aside0 (w'.cell? ⟨w.heap.size,0,none⟩=some (.int .u32 (lcgN a0 k)))∧Aside0 (w'.frozen? ⟨w.heap.size,0,none⟩=false)∧Aside0 (w.heap.size<w'.heap.size)∧
   Aside0 (Below w.heap.size w w')) (fun i _=>n-(intOf i).toNat)
 case atStart=>exact⟨0,Nat.zero_le _,rfl,by rw[rndPart_zero];exact HO,HC,HF,HS2,HB⟩
 case round=>
  clear HO HC HF HB HS2;obtain⟨k,hk,rfl,HO,HC,HF,HSZ,HB⟩:=hrel;have hpl:=rndPart_length a0 a1 hk;by_cases hlt:k<n
  ·obtain⟨go,co2,eo,hgo,_,_⟩:=Kd.R_form HO.out (by omega)
   injection eo with e1 e2 e3
   subst e1;subst e3;clear e2;have HGO:=Aside0.mk hgo;have hne:w.heap.size≠go:=by
    have:=HO.out.1 go rfl;omega
   have hlr:=lcgN_range (x:=a0) ⟨h1,h2⟩ (k+1);have HE:Aside0 (lcgN a0 (k+1)=lcg (lcgN a0 k)):=⟨rfl⟩;have HP:=Aside0.mk (rndPart_step a0 a1 hlt);have HR:Aside0 (rndAt a0 a1 k=(lcgN a0 (k+1) / 65536)%a1):=⟨rfl⟩;clear hpl hgo;obtain⟨y,hy⟩:∃y,lcgN a0 (k+1)=y:=⟨_,rfl⟩;rw[hy]at hlr HE HR;have HY:=Aside0.mk hy;clear hy;have hz:(a1==0)=false:=beq_eq_false_iff_ne.2 (by omega);have hz2:(a1 != 0)=true:=bne_iff_ne.2 (by omega)
   go_wp2_with (first|(go_at_call 61;refine(next_calls _ _ _ HC.out HF.out (lcgN_range ⟨by omega,by omega⟩ k)).mono ?_;rintro e w4 ⟨rfl,hw4⟩;rw[←HE.out]at hw4 ⊢;have hc4:w4.cell? ⟨w.heap.size,0,none⟩=some (.int .u32 y):=(by rw[hw4];exact World.cell?_setCell_same' _ _ _ (by rw[HC.out];rfl));have hf4:w4.frozen? ⟨w.heap.size,0,none⟩=false:=(by rw[hw4,World.frozen?_setCell];exact HF.out);have n1:=Aside0.mk (show Kd.R (Kd.int .i64) 3 w4 w.heap.size (fun k=>k≠w.heap.size) (.slice (some ⟨go,0,none⟩) n co) (rndPart a0 a1 n k)by rw[hw4];exact Kd.R_far HO.out (fun k hk=>hk) _);have n2:=Aside0.mk (show Below w.heap.size w w4 by rw[hw4];exact below_set HB.out (Nat.le_refl _));have n3:=Aside0.mk (show w.heap.size<w4.heap.size by rw[hw4];simpa [World.setCell]using HSZ.out);clear HO HB HSZ HC HF hw4;have HO:=n1;have HB:=n2;have HSZ:=n3;have HC:=Aside0.mk hc4;have HF:=Aside0.mk hf4;clear n1 n2 n3 hc4 hf4;obtain⟨hx5,hf5⟩:=Kd.R_celln 0 HO.out (k:Int) (by omega) (by omega);rw[Int.toNat_natCast]at hx5 hf5))
   go_roundw
   case rel=>
    have n2:=Kd.R_putg HO.out (k:Int) (rndAt a0 a1 k);rw[Int.toNat_natCast,HP.out,HR.out]at n2;refine⟨k+1,by omega,by go_num,⟨n2.1⟩,⟨?_⟩,⟨?_⟩,⟨?_⟩,⟨below_set HB.out HGO.out⟩⟩
    ·rw[World.cell?_setCell_other _ _ _ _ (fun e=>hne (by injection e with e1;exact e1.symm)),HY.out];exact HC.out
    ·rw[World.frozen?_setCell];exact HF.out
    ·simpa [World.setCell]using HSZ.out
   case measure=>simp[intOf];omega
  ·obtain rfl:k=n:=by omega
   have hall:=Aside0.mk (rndPart_all a0 a1 k)
   go_wp2
   go_ret;exact⟨_,rfl,by rw[←HS.out,←hall.out];exact Kd.R_mono HO.out (fun _ _=>trivial),HB.out⟩
end Go.Proofs.YtfnimdhghglanaaGreat.Sch
end
section
namespace Go.Proofs.YtfnimdhghglanaaGreat.PI
open Go.RowKit Go.Proofs.YtfnimdhghglanaaGreatW PrintWords PrintLast PrintMore
attribute [local go_sem] max2_int min2_int max_two min_two max_three min_three max_four min_four
def errW:Option Int→Value
 |none=> .nilIface
 |some c=> .iface 0 (.int .i64 c)
theorem errW_none:errW none= .nilIface:=rfl
theorem errW_some (c:Int):errW (some c)= .iface 0 (.int .i64 c):=rfl
def slices_Index_int_int.l0:Nat→List Int→Int→Int→Int→Option (Int)
 |0,_,_,_,_=>none
 |k+1,x0,x1,x7,x8=>if x8<x7 then(if 0≤x8 then(if x8<(x0.length:Int)then(if x1=(rd x0 x8)then(some x8)else(slices_Index_int_int.l0 k x0 x1 x7 (wrap64 (x8+1))))else(none))else(none))else(some (-1))
def slices_Index_int_int.f (k:Nat) (l0:List Int) (a1:Int):Option (Int):=slices_Index_int_int.l0 k l0 a1 (l0.length:Int) 0
theorem slices_Index_int_int.mono_l:∀k,(∀y0 y1 y2 y3,LeO (slices_Index_int_int.l0 k y0 y1 y2 y3) (slices_Index_int_int.l0 (k+1) y0 y1 y2 y3))
 |0=>fun _ _ _ _ r h=>by simp[slices_Index_int_int.l0]at h
 |k+1=>by
  have ih0:=slices_Index_int_int.mono_l k
  ·intro y0 y1 y2 y3;unfold slices_Index_int_int.l0
   repeat' first
   |(with_reducible exact ih0 _ _ _ _)
   |(with_reducible exact LeO.refl _)
   |(with_reducible exact LeO.none _)
   |(with_reducible refine LeO.ite ?_ ?_)
   |(with_reducible refine LeO.bind ?_ (fun _=> ?_))
   |exact ih0 _ _ _ _
   |exact LeO.none _
   |refine LeO.ite ?_ ?_
   |refine LeO.bind ?_ (fun _=> ?_)
theorem slices_Index_int_int.mono:∀a0 a1 k,LeO (slices_Index_int_int.f k a0 a1) (slices_Index_int_int.f (k+1) a0 a1):=by
 intro a0 a1 k;have ih0:=slices_Index_int_int.mono_l k;unfold slices_Index_int_int.f
 repeat' first
   |(with_reducible exact ih0 _ _ _ _)
   |(with_reducible exact LeO.refl _)
   |(with_reducible exact LeO.none _)
   |(with_reducible refine LeO.ite ?_ ?_)
   |(with_reducible refine LeO.bind ?_ (fun _=> ?_))
   |exact ih0 _ _ _ _
   |exact LeO.none _
   |refine LeO.ite ?_ ?_
   |refine LeO.bind ?_ (fun _=> ?_)
theorem slices_Index_int_int.calls (k:Nat) (A0:Option Addr) (c0:Nat) (l0:List Int) (a1:Int) (r:Int) (w:World) (hr0:Kd.C (Kd.int .i64) w A0 l0.length l0) (hc0:l0.length≤c0) (h:slices_Index_int_int.f k l0 a1=some r):
  Calls Tryz.prog 40 #[.slice A0 l0.length c0,.int .i64 a1] w fun e w'=>e= .returned (.int .i64 r)∧Drawn0 w w':=by
 have HR0:=Aside0.mk hr0;have HC0:=Aside0.mk hc0;clear hr0 hc0;have H:(slices_Index_int_int.l0 k l0 a1 (l0.length:Int) 0)=some r:=h;clear h;have H':=Aside0.mk H;clear H;go_enter Tryz.func40,Tryz.ntmps40
 go_wp2
 go_loopg [8] k (fun kq v8 w'=>∃(x8_1:Int),v8= .int .i64 x8_1∧Aside0 (slices_Index_int_int.l0 kq l0 a1 (l0.length:Int) x8_1=some r)∧Aside0 (kq≤k)∧Drawn0 w w')
 case atStart=>exact⟨(0),(by first|rfl|(simp;done)|(simp[*];done)),H',⟨Nat.le_refl _⟩,by repeat (first|exact Drawn0.refl _|apply Drawn0.step)⟩
 case round=>
  clear H'
  try clear c2
  try clear p2
  obtain⟨x8_1,rfl,HA,HK1,⟨m1,rfl⟩⟩:=hrel;cases gk with
  |zero=>exact absurd HA.out (by simp[slices_Index_int_int.l0])
  |succ k1=>
   have H:=HA.out;clear HA;simp only[slices_Index_int_int.l0]at H;by_cases c3:x8_1<(l0.length:Int)
   ·rw[if_pos c3]at H;have c3b0:decide (x8_1<(l0.length:Int))=true:=decide_eq_true c3;clear c3;by_cases c4:0≤x8_1
    ·rw[if_pos c4]at H;have c4b0:decide (0≤x8_1)=true:=decide_eq_true c4;clear c4;by_cases c5:x8_1<(l0.length:Int)
     ·rw[if_pos c5]at H;have c5b0:decide (x8_1<(l0.length:Int))=true:=decide_eq_true c5;clear c5;by_cases c6:a1=(rd l0 x8_1)
      ·rw[if_pos c6]at H;have c6b0:(a1==(rd l0 x8_1))=true:=beq_iff_eq.mpr c6;have c6b1:(a1 != (rd l0 x8_1))=false:=bne_eq_false_iff_eq.mpr c6;clear c6;obtain rfl:=Option.some.inj H;have p101:0≤(x8_1:Int):=of_decide_eq_true (by first|(with_reducible assumption)|assumption);have q101:x8_1<(l0.length:Int):=of_decide_eq_true (by first|(with_reducible assumption)|assumption);obtain⟨ad101,e101,hx101_0⟩:=Kd.at_int HR0.out x8_1 p101 q101;cases e101
       replace p101:=eq_true p101
       replace q101:=eq_true q101
       go_wp2
       go_ret;exact⟨by first|rfl|(simp;done)|(simp[*];done),by repeat (first|exact Drawn0.refl _|apply Drawn0.step)⟩
      ·rw[if_neg c6]at H;have c6b0:(a1==(rd l0 x8_1))=false:=beq_eq_false_iff_ne.mpr c6;have c6b1:(a1 != (rd l0 x8_1))=true:=bne_iff_ne.mpr c6;have H':=Aside0.mk H;clear H;have p101:0≤(x8_1:Int):=of_decide_eq_true (by first|(with_reducible assumption)|assumption);have q101:x8_1<(l0.length:Int):=of_decide_eq_true (by first|(with_reducible assumption)|assumption);obtain⟨ad101,e101,hx101_0⟩:=Kd.at_int HR0.out x8_1 p101 q101;cases e101
       replace p101:=eq_true p101
       replace q101:=eq_true q101
       go_wp2
       go_roundg k1
       case measure=>have:=HK1.out;omega
       case rel=>exact⟨(wrap64 (x8_1+1)),(by first|rfl|(simp;done)|(simp[*];done)),H',⟨by have:=HK1.out;omega⟩,by repeat (first|exact Drawn0.refl _|apply Drawn0.step)⟩
     ·rw[if_neg c5]at H;exact absurd H (by simp)
    ·rw[if_neg c4]at H;exact absurd H (by simp)
   ·rw[if_neg c3]at H;have c3b0:decide (x8_1<(l0.length:Int))=false:=decide_eq_false c3;clear c3;obtain rfl:=Option.some.inj H
    go_wp2
    go_ret;exact⟨by first|rfl|(simp;done)|(simp[*];done),by repeat (first|exact Drawn0.refl _|apply Drawn0.step)⟩
end Go.Proofs.YtfnimdhghglanaaGreat.PI
end
section
namespace Go.Proofs.YtfnimdhghglanaaGreat.Sch
open Go.RowKit Go.Proofs.YtfnimdhghglanaaGreatW PrintWords PrintLast PrintMore
theorem foldl_mx_mem (l:List Int):∀a,l.foldl mx a=a∨l.foldl mx a∈l:=by
 induction l with
 |nil=>intro a;simp
 |cons y ys ih=>
  intro a;simp only[List.foldl_cons];rcases ih (mx a y)with h|h
  ·rw[h];unfold mx
   split
   ·right;simp
   ·left;rfl
  ·right;exact List.mem_cons_of_mem _ h
theorem lmax_mem (l:List Int) (h:l≠[]):lmax l∈l:=by
 cases l with
 |nil=>exact absurd rfl h
 |cons x xs=>
  show xs.foldl mx x∈x::xs;rcases foldl_mx_mem xs x with h|h
  ·rw[h];simp
  ·exact List.mem_cons_of_mem _ h
def pickOf (d:Int) (ages:List Int) (p:Int):Int:=if lmax ages≥d then(ages.idxOf (lmax ages):Int)else p
def aged (ages:List Int) (q:Int):List Int:=(ages.map (·+1)).set q.toNat 0
def repGo (d:Int):List Int→List Int→List Int
 |_,[]=>[]
 |ages,p::rest=>pickOf d ages p::repGo d (aged ages (pickOf d ages p)) rest
theorem repGo_length (d:Int) (l:List Int):∀ages,(repGo d ages l).length=l.length:=by
 induction l with
 |nil=>intro ages;rfl
 |cons p rest ih=>intro ages;simp[repGo,ih]
theorem aged_length (ages:List Int) (q:Int):(aged ages q).length=ages.length:=by simp[aged]
theorem pickOf_range {d:Int} {ages:List Int} {p:Int} (h:ages≠[]) (hp:0≤p∧p<ages.length):0≤pickOf d ages p∧pickOf d ages p<ages.length:=by
 unfold pickOf
 split
 ·have:=List.idxOf_lt_length_iff.2 (lmax_mem ages h);omega
 ·exact hp
theorem aged_bound {ages:List Int} {q:Int} {k:Nat} (h:∀x∈ages,0≤x∧x≤(k:Int)):∀x∈aged ages q,0≤x∧x≤((k+1:Nat):Int):=by
 intro x hx;unfold aged at hx;rcases List.mem_or_eq_of_mem_set hx with hx|rfl
 ·obtain⟨y,hy,rfl⟩:=List.mem_map.1 hx;have:=h y hy;omega
 ·omega
theorem index_from (l:List Int) (m:Int) (hb:l.length≤100000):∀(d k i:Nat),l.length-i=d→d<k→i≤l.length→(∀j (h:j<l.length),j<i→l[j]≠m)→(∃j,∃h:j<l.length,l[j]=m)→
  PI.slices_Index_int_int.l0 k l m (l.length:Int) (i:Int)=some (l.idxOf m:Int):=by
 intro d
 induction d with
 |zero=>
  intro k i hd hk hi hn ⟨j,hj,hm⟩;exact absurd hm (hn j hj (by omega))
 |succ d ih=>
  intro k i hd hk hi hn he;obtain⟨k,rfl⟩:∃m,k=m+1:=⟨k-1,by omega⟩;have hlt:i<l.length:=by omega
  simp only[PI.slices_Index_int_int.l0];rw[if_pos (by omega),if_pos (by omega),if_pos (by omega)];have hr:rd l (i:Int)=l[i]:=by simp[rd,List.getD_eq_getElem?_getD,hlt]
  rw[hr];by_cases e:m=l[i]
  ·rw[if_pos e]
   congr 1
   have:l.idxOf m=i:=by
    subst e;unfold List.idxOf;rw[List.findIdx_eq hlt];exact⟨by simp,fun j hj=>by simpa using hn j (by omega) hj⟩
   rw[this]
  ·rw[if_neg e];have hw:wrap64 ((i:Int)+1)=((i+1:Nat):Int):=by unfold wrap64;omega
   rw[hw];refine ih k (i+1) (by omega) (by omega) (by omega) (fun j h hj=> ?_) he;by_cases h2:j=i
   ·subst h2;exact fun h3=>e h3.symm
   ·exact hn j h (by omega)
theorem index_some (l:List Int) (m:Int) (hb:l.length≤100000) (h:m∈l):PI.slices_Index_int_int.f (l.length+1) l m=some (l.idxOf m:Int):=by
 obtain⟨j,hj,hm⟩:=List.mem_iff_getElem.1 h;exact index_from l m hb l.length (l.length+1) 0 (by omega) (by omega) (by omega) (fun j _ h=>absurd h (by omega)) ⟨j,hj,hm⟩
end Go.Proofs.YtfnimdhghglanaaGreat.Sch
end
section
namespace Go.Proofs.YtfnimdhghglanaaGreat.Sch
open Go.RowKit Go.Proofs.YtfnimdhghglanaaGreatW PrintWords PrintLast PrintMore
attribute [local go_sem] max2_int min2_int max_two min_two max_three min_three max_four min_four
def repOk (l0:List Int) (a1 a2:Int):Prop:=1≤a1∧a1≤64∧l0.length≤100000∧0≤a2∧a2≤100000∧∀p∈l0,0≤p∧p<a1
instance (l0:List Int) (a1 a2:Int):Decidable (repOk l0 a1 a2):=by unfold repOk;exact inferInstance
def sched_Repair.f (l0:List Int) (a1 a2:Int):Option (List Int):=if repOk l0 a1 a2 then some (repGo (a2-a1) (List.replicate a1.toNat 0) l0)else none
structure RepAt (l0:List Int) (d:Int) (n k:Nat) (res out ages:List Int):Prop where
 outEq:∃done:List Int,done.length=k∧out=done++l0.drop k∧res=done++repGo d ages (l0.drop k)
 len:ages.length=n
 bd:∀x∈ages,0≤x∧x≤(k:Int)
theorem RepAt.start (l0:List Int) (d:Int) (n:Nat):RepAt l0 d n 0 (repGo d (List.replicate n 0) l0) l0 (List.replicate n 0):=
 ⟨⟨[],rfl,by simp,by simp⟩,by simp,fun x hx=>by have:=List.eq_of_mem_replicate hx;omega⟩
theorem RepAt.olen {l0:List Int} {d:Int} {n k:Nat} {res out ages:List Int} (h:RepAt l0 d n k res out ages) (hk:k≤l0.length):out.length=l0.length:=by
 obtain⟨done,h1,rfl,_⟩:=h.outEq;simp[h1];omega
theorem RepAt.rdAt {l0:List Int} {d:Int} {n k:Nat} {res out ages:List Int} (h:RepAt l0 d n k res out ages) (hk:k<l0.length):rd out (k:Int)=l0[k]:=by
 obtain⟨done,h1,rfl,_⟩:=h.outEq;subst h1;simp[rd,List.getD_eq_getElem?_getD,List.getElem?_append_right,hk]
theorem RepAt.step {l0:List Int} {d:Int} {n k:Nat} {res out ages:List Int} (h:RepAt l0 d n k res out ages) (hk:k<l0.length):
  RepAt l0 d n (k+1) res (out.set k (pickOf d ages l0[k])) (aged ages (pickOf d ages l0[k])):=by
 obtain⟨⟨done,h1,rfl,h3⟩,h4,h5⟩:=h;rw[List.drop_eq_getElem_cons hk]at h3 ⊢;refine⟨⟨done++[pickOf d ages l0[k]],by simp[h1],?_,?_⟩,by rw[aged_length,h4],aged_bound h5⟩
 ·subst h1;simp only[List.set_append_right _ _ (Nat.le_refl _),Nat.sub_self,List.append_assoc,List.cons_append,List.nil_append];rfl
 ·rw[h3];simp[repGo]
theorem RepAt.same {l0:List Int} {d:Int} {n k:Nat} {res out ages:List Int} (h:RepAt l0 d n k res out ages) (hk:k<l0.length):out.set k l0[k]=out:=by
 obtain⟨done,h1,rfl,h3⟩:=h.outEq;subst h1;rw[List.set_append_right _ _ (Nat.le_refl _),Nat.sub_self,List.drop_eq_getElem_cons hk];rfl
theorem RepAt.fin {l0:List Int} {d:Int} {n:Nat} {res out ages:List Int} (h:RepAt l0 d n l0.length res out ages):out=res:=by
 obtain⟨done,h1,rfl,rfl⟩:=h.outEq;simp[repGo]
theorem max_calls' (A0:Option Addr) (c0:Nat) (l0:List Int) (n:Nat) (w:World) (hn:l0.length=n) (hr0:Kd.C (Kd.int .i64) w A0 l0.length l0) (hl:n≤17592186044416) (hp:1≤n):
  Calls Tryz.prog 39 #[.slice A0 n c0] w fun e w'=>e= .returned (.int .i64 (lmax l0))∧Below w.heap.size w w':=by
 subst hn;exact(max_calls A0 c0 l0 w hr0 hl hp).mono fun _ _ h=>⟨h.1,h.2.below⟩
theorem index_calls' (A0:Option Addr) (c0:Nat) (l0:List Int) (n:Nat) (q:Int) (w:World) (hn:l0.length=n) (hr0:Kd.C (Kd.int .i64) w A0 l0.length l0) (hc:n≤c0) (hl:n≤100000) (hp:1≤n) (hq:(l0.idxOf (lmax l0):Int)=q):
  Calls Tryz.prog 40 #[.slice A0 n c0,.int .i64 (lmax l0)] w fun e w'=>e= .returned (.int .i64 q)∧Below w.heap.size w w':=by
 subst hn;subst hq;exact(PI.slices_Index_int_int.calls (l0.length+1) A0 c0 l0 (lmax l0) _ w hr0 hc (index_some l0 (lmax l0) hl (lmax_mem l0 (by intro h;rw[h]at hp;simp at hp)))).mono fun _ _ h=>⟨h.1,h.2.below⟩
def grown (ages:List Int) (t:Nat):List Int:=(ages.take t).map (·+1)++ages.drop t
theorem grown_zero (ages:List Int):grown ages 0=ages:=by simp[grown]
theorem grown_all (ages:List Int) {t:Nat} (h:ages.length≤t):grown ages t=ages.map (·+1):=by
 unfold grown;rw[List.take_of_length_le h,List.drop_eq_nil_of_le h,List.append_nil]
theorem grown_length (ages:List Int) (t:Nat):(grown ages t).length=ages.length:=by simp[grown];omega
theorem grown_rd (ages:List Int) {t:Nat} (h:t<ages.length):rd (grown ages t) (t:Int)=ages[t]:=by
 unfold grown rd;rw[Int.toNat_natCast,List.getD_eq_getElem?_getD,List.getElem?_append_right (by simp;omega)];simp[Nat.min_eq_left (Nat.le_of_lt h),h]
theorem grown_step (ages:List Int) {t:Nat} (h:t<ages.length):(grown ages t).set t (ages[t]+1)=grown ages (t+1):=by
 unfold grown;rw[List.set_append_right _ _ (by simp;omega),List.take_succ_eq_append_getElem h,List.map_append,List.append_assoc]
 congr 1
 have hm:t-((ages.take t).map (·+1)).length=0:=by simp;omega
 rw[hm,List.drop_eq_getElem_cons h];rfl
theorem sched_Repair.calls (A0:Option Addr) (c0:Nat) (l0:List Int) (a1:Int) (a2:Int) (r:List Int) (w:World) (hr0:Kd.C (Kd.int .i64) w A0 l0.length l0) (_hc0:l0.length≤c0) (h:sched_Repair.f l0 a1 a2=some r):
  Calls Tryz.prog 19 #[.slice A0 l0.length c0,.int .i64 a1,.int .i64 a2] w fun e w'=>∃v0_:Value,e= .returned (v0_)∧Kd.R (Kd.int .i64) 3 w' w.heap.size (fun _=>True) v0_ r∧Below w.heap.size w w':=by
 unfold sched_Repair.f at h
 split at h
 case isFalse=>simp at h
 case isTrue hok=>
 obtain⟨h1,h2,h3,h4,h5,h6⟩:=hok;have HR:=Aside0.mk hr0;have H6:=Aside0.mk h6;have HS:=Aside0.mk (Option.some.inj h);clear hr0 h6 h;obtain⟨n,rfl⟩:∃n:Nat,a1=n:=⟨a1.toNat,by omega⟩;have hn:(n:Int).toNat=n:=by omega
 go_enter Tryz.func19,Tryz.ntmps19
 go_wp2_with (first|((with_reducible refine gate_dst (N:=14) rfl ?_);refine Kd.R_make (Kd.int .i64) _ 3 rfl (N:=14) rfl 35 _ _ rfl (n:Int) rfl rfl Tryz.underlying35 (.int .i64 0) 8 info3 rfl (by decide) (by omega) 0 (ok:=fun _=>True) (okp:=fun _=>True) rfl (fun _ hk=>hk) trivial (by omega) (by omega) (Below.refl _ _) (Nat.le_refl _) ?_;intro va w1 ha hb1 hg1 hnew1;rw[hn]at ha;obtain⟨ga,ca,rfl,hga1,hga2,hga3⟩:=Kd.R_form ha (by simp;omega);rw[List.length_replicate]at ha ⊢;have HA:=Aside0.mk ha;have HB:=Aside0.mk hb1;have HGA:=Aside0.mk hga1;clear ha hb1 hg1 hnew1 hga3 hga1 hga2)|(go_at_call 38;refine(clone_calls _ _ l0 _ (Kd.C_below HR.out HB.out) (by omega)).mono ?_;rintro e w2 ⟨vo,rfl,ho,hb2⟩;obtain⟨Ao,co,rfl⟩:=Kd.R_slice ho;have HO:=Aside0.mk ho;have HB2:=Aside0.mk hb2;clear ho hb2))
 have HA2:=Aside0.mk (Kd.R_elder' HA.out (v:= .slice Ao l0.length co) (Kd.R_base HO.out) HB2.out);have HO2:=Aside0.mk (Kd.R_lower (Kd.R_new' HO.out (Kd.R_lt HA.out)) HB.out.size);have HB3:=Aside0.mk (below_step HB.out HB2.out);clear HA HO HB HB2;rw[hn]at HS
 go_wp2
 go_loopw [19] (fun i w'=>∃(k:Nat) (out ages:List Int),k≤l0.length∧i= .int .i64 k∧RepAt l0 (a2-n) n k r out ages∧
   Aside0 (Kd.R (Kd.int .i64) 3 w' w.heap.size (fun k=>True∧some k≠(Value.slice Ao l0.length co).ownBlock) (.slice (some ⟨ga,0,none⟩) n ca) ages)∧
   Aside0 (Kd.R (Kd.int .i64) 3 w' w.heap.size (fun k=>True∧some k≠(Value.slice (some ⟨ga,0,none⟩) n ca).ownBlock) (.slice Ao l0.length co) out)∧
   Aside0 (Below w.heap.size w w')) (fun i _=>l0.length-(intOf i).toNat)
 case atStart=>exact⟨0,l0,List.replicate n 0,Nat.zero_le _,rfl,by rw[←HS.out];exact RepAt.start _ _ _,HA2,HO2,HB3⟩
 case round=>
  clear HA2 HO2 HB3;obtain⟨k,out,ages,hk,rfl,hat,HA,HO,HB⟩:=hrel;have HAT:=Aside0.mk hat;clear hat;by_cases hlt:k<l0.length
  ·have hol:=HAT.out.olen hk;have hal:=HAT.out.len;obtain⟨go,co2,eo,hgo,_,_⟩:=Kd.R_form HO.out (by omega)
   injection eo with e1 e2 e3
   subst e1;subst e3;clear e2;have HGO:=Aside0.mk hgo;have hne:ages≠[]:=by intro he;rw[he]at hal;simp at hal;omega
   have hpk:=HAT.out.rdAt hlt;obtain⟨hx,hf⟩:=Kd.R_celln 0 HO.out (k:Int) (by omega) (by omega)
   replace hx:wr.cell? ⟨go,(k:Int).toNat,none⟩=some (Value.int .i64 (rd out (k:Int))):=hx
   rw[hpk,Int.toNat_natCast]at hx;clear hpk hf;have hp:=H6.out l0[k] (List.getElem_mem _);have hqr:=pickOf_range (d:=a2-n) (p:=l0[k]) hne (by rw[hal];exact hp);rw[hal]at hqr;have hst:=HAT.out.step hlt;have hsm:=HAT.out.same hlt;have HAL:=Aside0.mk hal;obtain⟨p,hpe⟩:∃p,l0[k]=p:=⟨_,rfl⟩;rw[hpe]at hx hp hqr hst hsm;have HSM:=Aside0.mk hsm;have HP0:=Aside0.mk hp.1;have HP1:=Aside0.mk hp.2;clear hal hpe hol hsm hp;by_cases hd:a2-n≤lmax ages
   ·obtain⟨q,hq⟩:∃q,(ages.idxOf (lmax ages):Int)=q:=⟨_,rfl⟩;have hq2:pickOf (a2-n) ages p=q:=by unfold pickOf;rw[if_pos hd,hq]
    rw[hq2]at hqr hst;have HQ:=Aside0.mk hq;have HQ0:=Aside0.mk hqr.1;have HQ1:=Aside0.mk hqr.2;have HSTEP:=Aside0.mk hst;clear hq hq2 hqr hst
    go_wp2_with (first|(go_at_call 39;refine(max_calls' _ _ ages n _ HAL.out (Kd.R_reads' HA.out).2.2 (by omega) (by omega)).mono ?_;rintro e w3 ⟨rfl,hb3⟩;have n1:=Aside0.mk (Kd.R_below HA.out hb3);have n2:=Aside0.mk (Kd.R_below HO.out hb3);have n3:=Aside0.mk (below_step HB.out hb3);clear HA HO HB hb3 hx;have HA:=n1;have HO:=n2;have HB:=n3;clear n1 n2 n3)|(go_at_call 40;refine(index_calls' _ _ ages n q _ HAL.out (Kd.R_reads' HA.out).2.2 (Kd.R_reads' HA.out).2.1 (by omega) (by omega) HQ.out).mono ?_;rintro e w4 ⟨rfl,hb4⟩;have n1:=Aside0.mk (Kd.R_below HA.out hb4);have n2:=Aside0.mk (Kd.R_below HO.out hb4);have n3:=Aside0.mk (below_step HB.out hb4);clear HA HO HB hb4;have HA:=n1;have HO:=n2;have HB:=n3;clear n1 n2 n3;obtain⟨hx4,hf4⟩:=Kd.R_celln 0 HO.out (k:Int) (by omega) (by omega);rw[Int.toNat_natCast]at hx4 hf4)|((with_reducible refine gate_store (t:=3) (p:=37) rfl ?_);refine store_event (t:=3) (p:=37) (v:= ?voO) (w1:=(w4.setCell ⟨go,k,none⟩ (.int .i64 q))) ?hgO ?hoO ?hnO ?hrO ?_;(case hoO=>rfl);(case hgO=>rfl);(case hnO=>rfl);(case hrO=>first|(go_simp;done)|(go_simp;rfl));intro w5 hw5;have n2:=Aside0.mk (Kd.R_putg HO.out (k:Int) (q:Int));have n1:=Aside0.mk (Kd.R_grown HA.out n2.out.2 (fun k hk=>hk.2));rw[Int.toNat_natCast]at n1 n2;rw[←hw5]at n1 n2;have n3:=Aside0.mk (show Below w.heap.size w w5 by rw[hw5];exact below_set HB.out HGO.out);have n4:=Aside0.mk n2.out.1;clear HA HO HB hw5 n2 hx4 hf4;have HA:=n1;have HO:=n4;have HB:=n3;clear n1 n4 n3))
    go_loopw [40] (fun i w'=>∃t:Nat,t≤n∧i= .int .i64 t∧
      Aside0 (Kd.R (Kd.int .i64) 3 w' w.heap.size (fun k=>True∧some k≠(Value.slice (some ⟨go,0,none⟩) l0.length co).ownBlock) (.slice (some ⟨ga,0,none⟩) n ca) (grown ages t))∧
      Aside0 (Kd.R (Kd.int .i64) 3 w' w.heap.size (fun k=>True∧some k≠(Value.slice (some ⟨ga,0,none⟩) n ca).ownBlock) (.slice (some ⟨go,0,none⟩) l0.length co) (out.set k q))∧
      Aside0 (Below w.heap.size w w')) (fun i _=>n-(intOf i).toNat)
    case atStart=>exact⟨0,Nat.zero_le _,rfl,by rw[grown_zero];exact HA,HO,HB⟩
    case round=>
     clear HA HO HB;obtain⟨t,ht,rfl,HA,HO,HB⟩:=hrel;have hgl:(grown ages t).length=n:=(grown_length ages t).trans HAL.out;have hal:=HAL.out;by_cases htn:t<n
     ·obtain⟨hx6,hf6⟩:=Kd.R_celln 0 HA.out (t:Int) (by omega) (by omega);rw[Int.toNat_natCast]at hx6 hf6;have hr6:=grown_rd ages (t:=t) (by omega)
      replace hx6:wr.cell? ⟨ga,t,none⟩=some (Value.int .i64 (rd (grown ages t) (t:Int))):=hx6
      rw[hr6]at hx6;clear hr6;obtain⟨hb6,hb7⟩:=HAT.out.bd ages[t] (List.getElem_mem _)
      go_wp2_with (first|((with_reducible refine gate_store (t:=3) (p:=48) rfl ?_);refine store_event (t:=3) (p:=48) (v:= ?voIa) (w1:=(wr.setCell ⟨ga,t,none⟩ (.int .i64 (ages[t]+1)))) ?hgIa ?hoIa ?hnIa ?hrIa ?_;(case hoIa=>rfl);(case hgIa=>rfl);(case hnIa=>rfl);(case hrIa=>first|(go_simp;done)|(go_simp;rfl));intro w7 hw7;have n2:=Aside0.mk (Kd.R_putg HA.out (t:Int) (ages[t]+1));have n1:=Aside0.mk (Kd.R_grown HO.out n2.out.2 (fun k hk=>hk.2));rw[Int.toNat_natCast]at n1 n2;rw[←hw7]at n1 n2;have n3:=Aside0.mk (show Below w.heap.size w w7 by rw[hw7];exact below_set HB.out HGA.out);have n4:=Aside0.mk n2.out.1;clear HA HO HB hw7 n2 hx6 hf6;have HA:=n4;have HO:=n1;have HB:=n3;clear n1 n4 n3))
      go_roundw
      case rel=>exact⟨t+1,by omega,by go_num,by rw[←grown_step ages (by omega)];exact HA,HO,HB⟩
      case measure=>simp[intOf];omega
     ·have hga:=grown_all ages (t:=t) (by omega);rw[hga]at HA hgl;clear hga;obtain⟨hx7,hf7⟩:=Kd.R_celln 0 HA.out (q:Int) HQ0.out HQ1.out;have hc7:wr.cell? ⟨ga,q.toNat,none⟩=some (.int .i64 (rd (ages.map (·+1)) q)):=hx7;clear hx7;have hx7:=hc7;clear hc7;have hq0:=HQ0.out;have hq1:=HQ1.out
      go_wp2_with (first|((with_reducible refine gate_store (t:=3) (p:=52) rfl ?_);refine store_event (t:=3) (p:=52) (v:= ?voZa) (w1:=(wr.setCell ⟨ga,q.toNat,none⟩ (.int .i64 0))) ?hgZa ?hoZa ?hnZa ?hrZa ?_;(case hoZa=>rfl);(case hgZa=>rfl);(case hnZa=>rfl);(case hrZa=>first|(go_simp;done)|(go_simp;rfl));intro w8 hw8;have n2:=Aside0.mk (Kd.R_putg HA.out (q:Int) 0);have n1:=Aside0.mk (Kd.R_grown HO.out n2.out.2 (fun k hk=>hk.2));rw[←hw8]at n1 n2;have n3:=Aside0.mk (show Below w.heap.size w w8 by rw[hw8];exact below_set HB.out HGA.out);have n4:=Aside0.mk n2.out.1;clear HA HO HB hw8 n2 hx7 hf7;have HA:=n4;have HO:=n1;have HB:=n3;clear n1 n4 n3))
      go_roundw
      case rel=>exact⟨k+1,_,_,by omega,by go_num,HSTEP.out,HA,HO,HB⟩
      case measure=>simp[intOf];omega
   ·have hq2:pickOf (a2-n) ages p=p:=by unfold pickOf;rw[if_neg hd]
    rw[hq2]at hqr hst;rw[HSM.out]at hst;obtain⟨q,rfl⟩:∃q,q=p:=⟨_,rfl⟩;have HQ0:=Aside0.mk hqr.1;have HQ1:=Aside0.mk hqr.2;have HSTEP:=Aside0.mk hst;clear hq2 hqr hst
    go_wp2_with (first|(go_at_call 39;refine(max_calls' _ _ ages n _ HAL.out (Kd.R_reads' HA.out).2.2 (by omega) (by omega)).mono ?_;rintro e w3 ⟨rfl,hb3⟩;have n1:=Aside0.mk (Kd.R_below HA.out hb3);have n2:=Aside0.mk (Kd.R_below HO.out hb3);have n3:=Aside0.mk (below_step HB.out hb3);clear HA HO HB hb3 hx;have HA:=n1;have HO:=n2;have HB:=n3;clear n1 n2 n3))
    go_loopw [40] (fun i w'=>∃t:Nat,t≤n∧i= .int .i64 t∧
      Aside0 (Kd.R (Kd.int .i64) 3 w' w.heap.size (fun k=>True∧some k≠(Value.slice (some ⟨go,0,none⟩) l0.length co).ownBlock) (.slice (some ⟨ga,0,none⟩) n ca) (grown ages t))∧
      Aside0 (Kd.R (Kd.int .i64) 3 w' w.heap.size (fun k=>True∧some k≠(Value.slice (some ⟨ga,0,none⟩) n ca).ownBlock) (.slice (some ⟨go,0,none⟩) l0.length co) out)∧
      Aside0 (Below w.heap.size w w')) (fun i _=>n-(intOf i).toNat)
    case atStart=>exact⟨0,Nat.zero_le _,rfl,by rw[grown_zero];exact HA,HO,HB⟩
    case round=>
     clear HA HO HB;obtain⟨t,ht,rfl,HA,HO,HB⟩:=hrel;have hgl:(grown ages t).length=n:=(grown_length ages t).trans HAL.out;have hal:=HAL.out;by_cases htn:t<n
     ·obtain⟨hx6,hf6⟩:=Kd.R_celln 0 HA.out (t:Int) (by omega) (by omega);rw[Int.toNat_natCast]at hx6 hf6;have hr6:=grown_rd ages (t:=t) (by omega)
      replace hx6:wr.cell? ⟨ga,t,none⟩=some (Value.int .i64 (rd (grown ages t) (t:Int))):=hx6
      rw[hr6]at hx6;clear hr6;obtain⟨hb6,hb7⟩:=HAT.out.bd ages[t] (List.getElem_mem _)
      go_wp2_with (first|((with_reducible refine gate_store (t:=3) (p:=48) rfl ?_);refine store_event (t:=3) (p:=48) (v:= ?voIb) (w1:=(wr.setCell ⟨ga,t,none⟩ (.int .i64 (ages[t]+1)))) ?hgIb ?hoIb ?hnIb ?hrIb ?_;(case hoIb=>rfl);(case hgIb=>rfl);(case hnIb=>rfl);(case hrIb=>first|(go_simp;done)|(go_simp;rfl));intro w7 hw7;have n2:=Aside0.mk (Kd.R_putg HA.out (t:Int) (ages[t]+1));have n1:=Aside0.mk (Kd.R_grown HO.out n2.out.2 (fun k hk=>hk.2));rw[Int.toNat_natCast]at n1 n2;rw[←hw7]at n1 n2;have n3:=Aside0.mk (show Below w.heap.size w w7 by rw[hw7];exact below_set HB.out HGA.out);have n4:=Aside0.mk n2.out.1;clear HA HO HB hw7 n2 hx6 hf6;have HA:=n4;have HO:=n1;have HB:=n3;clear n1 n4 n3))
      go_roundw
      case rel=>exact⟨t+1,by omega,by go_num,by rw[←grown_step ages (by omega)];exact HA,HO,HB⟩
      case measure=>simp[intOf];omega
     ·have hga:=grown_all ages (t:=t) (by omega);rw[hga]at HA hgl;clear hga;obtain⟨hx7,hf7⟩:=Kd.R_celln 0 HA.out (q:Int) HQ0.out HQ1.out;have hc7:wr.cell? ⟨ga,q.toNat,none⟩=some (.int .i64 (rd (ages.map (·+1)) q)):=hx7;clear hx7;have hx7:=hc7;clear hc7;have hq0:=HQ0.out;have hq1:=HQ1.out
      go_wp2_with (first|((with_reducible refine gate_store (t:=3) (p:=52) rfl ?_);refine store_event (t:=3) (p:=52) (v:= ?voZb) (w1:=(wr.setCell ⟨ga,q.toNat,none⟩ (.int .i64 0))) ?hgZb ?hoZb ?hnZb ?hrZb ?_;(case hoZb=>rfl);(case hgZb=>rfl);(case hnZb=>rfl);(case hrZb=>first|(go_simp;done)|(go_simp;rfl));intro w8 hw8;have n2:=Aside0.mk (Kd.R_putg HA.out (q:Int) 0);have n1:=Aside0.mk (Kd.R_grown HO.out n2.out.2 (fun k hk=>hk.2));rw[←hw8]at n1 n2;have n3:=Aside0.mk (show Below w.heap.size w w8 by rw[hw8];exact below_set HB.out HGA.out);have n4:=Aside0.mk n2.out.1;clear HA HO HB hw8 n2 hx7 hf7;have HA:=n4;have HO:=n1;have HB:=n3;clear n1 n4 n3))
      go_roundw
      case rel=>exact⟨k+1,_,_,by omega,by go_num,HSTEP.out,HA,HO,HB⟩
      case measure=>simp[intOf];omega
  ·have hke:l0.length≤k:=by omega
   obtain rfl:k=l0.length:=by omega
   have hfin:=Aside0.mk HAT.out.fin
   go_wp2
   go_ret;exact⟨_,rfl,by rw[←hfin.out];exact Kd.R_mono HO.out (fun _ _=>trivial),HB.out⟩
end Go.Proofs.YtfnimdhghglanaaGreat.Sch
end
