/- TopWindows, part 26 of 27; no condition.  -/
import Derived.Test.YtfnimdhghglanaaGreatQwAY
import Derived.Deep.Slices
import Derived.ChangeSame
import Derived.OpenShut
import Derived.WideShapes
import Derived.KernelRfl
set_option maxRecDepth 100000
set_option maxHeartbeats 8000000
set_option linter.unusedVariables false
set_option linter.unusedSimpArgs false
section
namespace Go.Proofs.YtfnimdhghglanaaGreat.Hand
open Go.RowKit Go.Proofs.YtfnimdhghglanaaGreatW PrintWords PrintLast PrintMore
attribute [local go_sem] max2_int min2_int max_two min_two max_three min_three max_four min_four
theorem infoI3:(Tryz.prog.info? 3).map (fun i=>(i.zero,i.size,i.bytes))=some (some (.int .i64 0),1,8):=by kernel_rfl
def rrobin.l0:Nat→Int→Int→List Int→Int→Int→Option (List Int)
 |0,_,_,_,_,_=>none
 |k+1,x0,x1,x7,x12,x13=>if x13<x12 then(if x1=0 then(none)else(if 0≤x13 then(if x13<(x7.length:Int)then(rrobin.l0 k x0 x1 (x7.set (x13:Int).toNat (Int.tmod (wrap64 (x0+x13)) x1)) x12 (wrap64 (x13+1)))else(none))else(none)))else(some x7)
def rrobin.f (k:Nat) (a0:Int) (a1:Int) (a2:Int):Option (List Int):=if 0≤a2 then(if (a2:Int).toNat≤35184372088832 then((some (List.replicate (a2:Int).toNat 0:List Int)).bind fun y181=>(rrobin.l0 k a0 a1 y181 (y181.length:Int) 0))else(none))else(none)
theorem rrobin.calls (k:Nat) (a0:Int) (a1:Int) (a2:Int) (r:List Int) (w:World) (h:rrobin.f k a0 a1 a2=some r):
  Calls Tryz.prog 23 #[.int .i64 a0,.int .i64 a1,.int .i64 a2] w fun e w'=>∃v0_:Value,e= .returned (v0_)∧Kd.R (Kd.int .i64) 3 w' w.heap.size (fun _=>True) v0_ r∧Below w.heap.size w w':=by
 have HB:=am (Below.refl w.heap.size w);have H:(if 0≤a2 then(if (a2:Int).toNat≤35184372088832 then((some (List.replicate (a2:Int).toNat 0:List Int)).bind fun y181=>(rrobin.l0 k a0 a1 y181 (y181.length:Int) 0))else(none))else(none))=some r:=h;clear h;by_cases c4:0≤a2
 ·rw[if_pos c4]at H;have c4b0:=eq_true c4;have c4b1:decide (0≤a2)=true:=decide_eq_true c4;clear c4;by_cases c5:(a2:Int).toNat≤35184372088832
  ·rw[if_pos c5]at H;have c5b0:=eq_true c5;have c5b1:decide ((a2:Int).toNat≤35184372088832)=true:=decide_eq_true c5;clear c5;obtain⟨y181,hy181⟩:∃y_:List Int,y_=(List.replicate (a2:Int).toNat 0):=⟨_,rfl⟩
   replace H:(rrobin.l0 k a0 a1 y181 (y181.length:Int) 0)=some r:=by first|(rw[hy181];with_reducible exact H)|(have H2_:=(Option.bind_some _ _).symm.trans H;rw[hy181];with_reducible exact H2_)|(have H2_:=(Option.bind_some _ _).symm.trans H;with_reducible exact H2_)|with_reducible exact H|(rw[hy181];exact H)|exact H
   have Ny181:=am hy181;clear hy181;have H':=am H;clear H;go_enter Tryz.func23,Tryz.ntmps23
   go_wp2_with (first|((with_reducible refine gate_dst (N:=10) rfl ?_);refine Kd.R_make (Kd.int .i64) _ 3 rfl (N:=10) rfl 35 _ _ rfl a2 rfl rfl Tryz.underlying35 (.int .i64 0) 8 infoI3 rfl (by decide) (by omega) 0 (ok:=fun _=>True) (okp:=fun _=>True) rfl (fun _ hk=>hk) trivial (of_decide_eq_true (by first|(with_reducible assumption)|assumption)) (Nat.le_trans (Nat.mul_le_mul_right _ (of_decide_eq_true (by first|(with_reducible assumption)|assumption):a2.toNat≤35184372088832)) (by omega)) (Below.refl _ _) (Nat.le_refl _) ?_;intro v182 w6 ho7 hb hg_ hnew_;clear hg_ hnew_;(first|rw[←Ny181.out]at ho7|(simp only[Int.reduceToNat]at ho7;rw[←Ny181.out]at ho7));have n0_:=am (Kd.R_lower ho7 (below_size (by repeat (first|(with_reducible first|exact HB.out|apply below_alloc|apply pw_below_drewN|apply below_drew1)|exact HB.out))));have n1_:=am (below_step (by repeat (first|(with_reducible first|exact HB.out|apply below_alloc|apply pw_below_drewN|apply below_drew1)|exact HB.out)) hb);clear HB;have HO183:=n0_;have HB:=n1_;clear n0_ n1_;clear hb ho7;obtain⟨Ao8,co8,eo8⟩:=Kd.R_slice HO183.out;subst eo8))
   go_loopg [13] k (fun kq v13 w'=>∃(x7_1:List Int) (x13_1:Int),v13= .int .i64 x13_1∧Aside0 (rrobin.l0 kq a0 a1 x7_1 (y181.length:Int) x13_1=some r)∧Aside0 (kq≤k)∧Aside0 (Kd.R (Kd.int .i64) 3 w' w.heap.size (fun _=>True) (.slice Ao8 y181.length co8) x7_1)∧Aside0 (Below w.heap.size w w'))
   case atStart=>exact⟨(y181),(0),(by first|rfl|(simp;done)|(simp[*];done)),H',⟨Nat.le_refl _⟩,⟨by(with_reducible repeat (first|apply Kd.R_alloc|apply Kd.R_drewN|apply Kd.R_drew));exact HO183.out⟩,⟨by repeat (first|(with_reducible first|exact HB.out|apply below_alloc|apply pw_below_drewN|apply below_drew1)|exact HB.out)⟩⟩
   case round=>
    clear H'
    try clear c2
    try clear p2
    try clear c4
    try clear c4b0
    try clear c4b1
    try clear c5
    try clear c5b0
    try clear c5b1
    obtain⟨x7_1,x13_1,rfl,HA,HK1,HO_7,HB⟩:=hrel;have hl7_1:=(Kd.R_reads' HO_7.out).1;rw[hl7_1]at HO_7
    (try simp only[hl7_1])
    cases gk with
    |zero=>exact absurd HA.out (by simp[rrobin.l0])
    |succ k1=>
     have H:=HA.out;clear HA;simp only[rrobin.l0]at H;by_cases c9:x13_1<(y181.length:Int)
     ·rw[if_pos c9]at H;have c9b0:decide (x13_1<(y181.length:Int))=true:=decide_eq_true c9;clear c9;by_cases c10:a1=0
      ·rw[if_pos c10]at H;exact absurd H (by simp)
      ·rw[if_neg c10]at H;have c10b0:(a1==0)=false:=beq_eq_false_iff_ne.mpr c10;have c10b1:(a1 != 0)=true:=bne_iff_ne.mpr c10;by_cases c11:0≤x13_1
       ·rw[if_pos c11]at H;have c11b0:decide (0≤x13_1)=true:=decide_eq_true c11;clear c11;by_cases c12:x13_1<(x7_1.length:Int)
        ·rw[if_pos c12]at H;have c12b0:decide (x13_1<(x7_1.length:Int))=true:=decide_eq_true c12;clear c12;obtain⟨y184,hy184⟩:∃y_:List Int,y_=(x7_1.set (x13_1:Int).toNat (Int.tmod (wrap64 (a0+x13_1)) a1)):=⟨_,rfl⟩
         replace H:(rrobin.l0 k1 a0 a1 y184 (y181.length:Int) (wrap64 (x13_1+1)))=some r:=by first|(rw[hy184];with_reducible exact H)|(have H2_:=(Option.bind_some _ _).symm.trans H;rw[hy184];with_reducible exact H2_)|(have H2_:=(Option.bind_some _ _).symm.trans H;with_reducible exact H2_)|with_reducible exact H|(rw[hy184];exact H)|exact H
         have Ny184:=am hy184;clear hy184;have H':=am H;clear H;have p13:0≤(x13_1:Int):=of_decide_eq_true (by first|(with_reducible assumption)|assumption);have q13:(x13_1:Int)<((x7_1.length:Int):Int):=of_decide_eq_true (by first|(with_reducible assumption)|assumption);obtain⟨go13,co13,eo13,gb13,gl13,cl13,HG13⟩:=Kd.R_form HO_7.out (by omega)
         (first|cases eo13|(injection eo13 with ea_ en_ ec_;(first|subst ea_|(injection ea_ with ea_;subst ea_));subst ec_;clear en_))
         have GB13:=am gb13;have GG13:=am HG13;clear gb13 gl13 HG13;obtain⟨hx13_0,hf13_0⟩:=Kd.R_celln 0 HO_7.out (x13_1:Int) p13 q13
         replace p13:=eq_true p13
         replace q13:=eq_true q13
         have HP14:=Kd.R_putg HO_7.out (x13_1:Int) (Int.tmod (wrap64 (a0+x13_1)) a1)
         go_wp2_with (first|((with_reducible refine gate_store (t:=3) (p:=23) rfl ?_);refine store_event (t:=3) (p:=23) (v:= ?vo_w15) (w1:=(wr.setCell ⟨go13,(x13_1:Int).toNat,none⟩ (.int .i64 (Int.tmod (wrap64 (a0+x13_1)) a1)))) ?hg ?ho ?hn ?hr ?_;(case ho=>rfl);(case hg=>rfl);(case hn=>rfl);(case hr=>first|(go_simp;done)|(go_simp;rfl));intro w15 hw;have hg:wr.grownBy w15 (some go13):=(by rw[hw];exact HP14.2);have hp_:Kd.R (Kd.int .i64) 3 w15 w.heap.size (fun _=>True) (.slice (some ⟨go13,0,none⟩) x7_1.length co8) y184:=(by rw[hw,Ny184.out];exact HP14.1);clear HP14;have n0_:=am (hp_);have n1_:=am ((by rw[hw];exact below_set (HB.out) GB13.out:Below w.heap.size w w15));clear HO_7;clear HB;have HO_7:=n0_;have HB:=n1_;clear n0_ n1_;clear hg hw hp_))
         (try simp only[←hl7_1])
         go_roundg k1
         case measure=>have:=HK1.out;omega
         case rel=>exact⟨(y184),(wrap64 (x13_1+1)),(by first|rfl|(simp;done)|(simp[*];done)),H',⟨by have:=HK1.out;omega⟩,⟨by(try simp only[hl7_1]);(with_reducible repeat (first|apply Kd.R_alloc|apply Kd.R_drewN|apply Kd.R_drew));exact HO_7.out⟩,⟨by repeat (first|(with_reducible first|exact HB.out|apply below_alloc|apply pw_below_drewN|apply below_drew1)|exact HB.out)⟩⟩
        ·rw[if_neg c12]at H;exact absurd H (by simp)
       ·rw[if_neg c11]at H;exact absurd H (by simp)
     ·rw[if_neg c9]at H;have c9b0:decide (x13_1<(y181.length:Int))=false:=decide_eq_false c9;clear c9;obtain rfl:=Option.some.inj H
      try rw[hl7_1]at c9b0
      go_wp2
      go_ret;exact⟨_,by first|rfl|(simp[errW_none,errW_some]<;>rfl)|(simp[*,errW_none,errW_some]<;>rfl),by(with_reducible repeat (first|apply Kd.R_alloc|apply Kd.R_drewN|apply Kd.R_drew));exact HO_7.out,by repeat (first|(with_reducible first|exact HB.out|apply below_alloc|apply pw_below_drewN|apply below_drew1)|exact HB.out)⟩
  ·rw[if_neg c5]at H;exact absurd H (by simp)
 ·rw[if_neg c4]at H;exact absurd H (by simp)
def lpicks.l0:Nat→List Int→Int→List Int→Int→Option (List Int)
 |0,_,_,_,_=>none
 |k+1,x0,x1,x5,x6=>if x6<(x0.length:Int)then(if 0≤x6 then(if (mx 1 x1)=0 then(none)else(if x5.length<17592186044416 then(lpicks.l0 k x0 x1 (x5++[Int.tmod (wrap64 (rd x0 x6)) (mx 1 x1)]) (wrap64 (x6+1)))else(none)))else(none))else(some x5)
def lpicks.f (k:Nat) (l0:List Int) (a1:Int):Option (List Int):=lpicks.l0 k l0 a1 ([]:List Int) 0
theorem lpicks.calls (k:Nat) (A0:Option Addr) (c0:Nat) (l0:List Int) (a1:Int) (r:List Int) (w:World) (hr0:Kd.C (Kd.int .u8) w A0 l0.length l0) (hc0:l0.length≤c0) (h:lpicks.f k l0 a1=some r):
  Calls Tryz.prog 11 #[.slice A0 l0.length c0,.int .i64 a1] w fun e w'=>∃v0_:Value,e= .returned (v0_)∧Kd.R (Kd.int .i64) 3 w' w.heap.size (fun _=>True) v0_ r∧Below w.heap.size w w':=by
 have HR0:=am hr0;have HC0:=am hc0;clear hr0 hc0;have HB:=am (Below.refl w.heap.size w);have H:(lpicks.l0 k l0 a1 ([]:List Int) 0)=some r:=h;clear h;have H':=am H;clear H;go_enter Tryz.func11,Tryz.ntmps11
 go_wp2
 go_loopg [5,6] k (fun kq v5 v6 w'=>∃(x5_1:List Int) (x6_1:Int),v6= .int .i64 x6_1∧Aside0 (lpicks.l0 kq l0 a1 x5_1 x6_1=some r)∧Aside0 (kq≤k)∧Aside0 (Kd.R (Kd.int .i64) 3 w' w.heap.size (fun _=>True) v5 x5_1)∧Aside0 (Below w.heap.size w w'))
 case atStart=>exact⟨(([]:List Int)),(0),(by first|rfl|(simp;done)|(simp[*];done)),H',⟨Nat.le_refl _⟩,⟨by first|exact Kd.R_nil _ _ _ _ _|exact Kd.N_nil _ _ _ _ _|exact Kd.V_nil _ _ _ _ _|exact Kd.Q_nil _ _ _ _ _|exact Kd.S_nil _ _ _ _ _⟩,⟨by repeat (first|(with_reducible first|exact HB.out|apply below_alloc|apply pw_below_drewN|apply below_drew1)|exact HB.out)⟩⟩
 case round=>
  clear H'
  try clear c1
  try clear p2
  obtain⟨x5_1,x6_1,rfl,HA,HK1,HO_5,HB⟩:=hrel;cases gk with
  |zero=>exact absurd HA.out (by simp[lpicks.l0])
  |succ k1=>
   have H:=HA.out;clear HA;simp only[lpicks.l0]at H;by_cases c3:x6_1<(l0.length:Int)
   ·rw[if_pos c3]at H;have c3b0:decide (x6_1<(l0.length:Int))=true:=decide_eq_true c3;clear c3;by_cases c4:0≤x6_1
    ·rw[if_pos c4]at H;have c4b0:decide (0≤x6_1)=true:=decide_eq_true c4;clear c4;obtain⟨ji5,hji5⟩:∃j_:Int,(mx 1 a1)=j_:=⟨_,rfl⟩
     replace H:(if (ji5)=0 then(none)else(if x5_1.length<17592186044416 then(lpicks.l0 k1 l0 a1 (x5_1++[Int.tmod (wrap64 (rd l0 x6_1)) (ji5)]) (wrap64 (x6_1+1)))else(none)))=some r:=by first|(rw[hji5]at H;exact H)|(simp only[hji5]at H ⊢;exact H)
     have hji5_:(if 1<a1 then a1 else 1)=ji5:=hji5;by_cases c6:(ji5)=0
     ·rw[if_pos c6]at H;exact absurd H (by simp)
     ·rw[if_neg c6]at H;have c6b0:((ji5)==0)=false:=beq_eq_false_iff_ne.mpr c6;have c6b1:((ji5) != 0)=true:=bne_iff_ne.mpr c6;by_cases c7:x5_1.length<17592186044416
      ·rw[if_pos c7]at H;have LMc7:=am c7;clear c7;obtain⟨y237,hy237⟩:∃y_:List Int,y_=(x5_1++[Int.tmod (wrap64 (rd l0 x6_1)) (ji5)]):=⟨_,rfl⟩
       replace H:(lpicks.l0 k1 l0 a1 y237 (wrap64 (x6_1+1)))=some r:=by first|(rw[hy237];with_reducible exact H)|(have H2_:=(Option.bind_some _ _).symm.trans H;rw[hy237];with_reducible exact H2_)|(have H2_:=(Option.bind_some _ _).symm.trans H;with_reducible exact H2_)|with_reducible exact H|(rw[hy237];exact H)|exact H
       have Ny237:=am hy237;clear hy237;have H':=am H;clear H;have p236:0≤(x6_1:Int):=of_decide_eq_true (by first|(with_reducible assumption)|assumption);have q236:x6_1<(l0.length:Int):=of_decide_eq_true (by first|(with_reducible assumption)|assumption);obtain⟨ad236,e236,hx236_0⟩:=Kd.at_int HR0.out x6_1 p236 q236;cases e236
       replace hx236_0:=(HB.out.cell (World.block_lt_of_cell? w _ hx236_0)).trans hx236_0
       replace p236:=eq_true p236
       replace q236:=eq_true q236
       go_wp2_with (first|((with_reducible refine gate_builtin (b:= .append) (xs:= #[.tmp 13,.tmp 22]) rfl ?_);at_builtin;refine Kd.R_append (Kd.int .i64) (w0:=w) w.heap.size rfl (.tmp 13) (.tmp 22) 35 3 (.int .i64 0) 8 rfl Tryz.underlying35 infoI3 rfl (by decide) (by omega) u5 x5_1 (Int.tmod (wrap64 (rd l0 x6_1)) (ji5)) [.int .i64 (Int.tmod (wrap64 (rd l0 x6_1)) (ji5))] (fun _=>True) (fun _=>False) rfl rfl ?aP (fun _ hk=>hk.elim) ?aF ?aO ?aB ?aS ?aL ?_;(case aP=>exact rfl);(case aB=>exact(by repeat (first|(with_reducible first|exact HB.out|apply below_alloc|apply pw_below_drewN|apply below_drew1)|exact HB.out)));(case aF=>exact(fun _ _=>trivial));(case aO=>exact(by(with_reducible repeat (first|apply Kd.R_alloc|apply Kd.R_drewN|apply Kd.R_drew));exact HO_5.out));(case aS=>exact(below_size (by repeat (first|(with_reducible first|exact HB.out|apply below_alloc|apply pw_below_drewN|apply below_drew1)|exact HB.out))));(case aL=>have:=LMc7.out;omega);intro v238 w8 ho hb hg hat;rw[←Ny237.out]at ho;have n0_:=am (hb);have n1_:=am (ho);clear HB;clear HO_5;have HB:=n0_;have HO239:=n1_;clear n0_ n1_;clear ho hb hg hat))
       go_roundg k1
       case measure=>have:=HK1.out;omega
       case rel=>exact⟨(y237),(wrap64 (x6_1+1)),(by first|rfl|(simp;done)|(simp[*];done)),H',⟨by have:=HK1.out;omega⟩,⟨by(with_reducible repeat (first|apply Kd.R_alloc|apply Kd.R_drewN|apply Kd.R_drew));exact HO239.out⟩,⟨by repeat (first|(with_reducible first|exact HB.out|apply below_alloc|apply pw_below_drewN|apply below_drew1)|exact HB.out)⟩⟩
      ·rw[if_neg c7]at H;exact absurd H (by simp)
    ·rw[if_neg c4]at H;exact absurd H (by simp)
   ·rw[if_neg c3]at H;have c3b0:decide (x6_1<(l0.length:Int))=false:=decide_eq_false c3;clear c3;obtain rfl:=Option.some.inj H
    go_wp2
    go_ret;exact⟨_,by first|rfl|(simp[errW_none,errW_some]<;>rfl)|(simp[*,errW_none,errW_some]<;>rfl),by(with_reducible repeat (first|apply Kd.R_alloc|apply Kd.R_drewN|apply Kd.R_drew));exact HO_5.out,by repeat (first|(with_reducible first|exact HB.out|apply below_alloc|apply pw_below_drewN|apply below_drew1)|exact HB.out)⟩
theorem lpicks_eq (n:Int) (h1:1≤n):∀(m:Nat) (l:List Int) (k:Nat) (acc:List Int),(∀x∈l,0≤x∧x≤255)→l.length≤1000→k+m=l.length→acc.length=k→lpicks.l0 (m+1) l n acc k=some (acc++(l.drop k).map fun x=>x%n)
 |0,l,k,acc,hl,hs,hk,ha=>by
  unfold lpicks.l0;rw[if_neg (by omega),List.drop_eq_nil_of_le (by omega)];simp
 |m+1,l,k,acc,hl,hs,hk,ha=>by
  have hlt:k<l.length:=by omega
  have hx:=hl _ (List.getElem_mem hlt);have hmx:mx 1 n=n:=by unfold mx;split<;>omega
  have hrd:rd l (k:Int)=l[k]:=by unfold rd;simp[List.getD_eq_getElem?_getD,hlt]
  unfold lpicks.l0;rw[if_pos (by omega),if_pos (by omega),hmx,if_neg (by omega),if_pos (by omega),hrd];rw[show Go.RowKit.wrap64 l[k]=l[k]by unfold Go.RowKit.wrap64;omega,show Go.RowKit.wrap64 ((k:Int)+1)=((k+1:Nat):Int)by unfold Go.RowKit.wrap64;omega,Int.tmod_eq_emod_of_nonneg hx.1];rw[lpicks_eq n h1 m l (k+1) _ hl hs (by omega) (by simp[ha]),List.drop_eq_getElem_cons hlt,List.map_cons,List.append_assoc];rfl
theorem picks_calls {Mt:Nat→Prop} {w:World} (hM:∀k,Mt k→k<w.heap.size) {A:Option Addr} {n c:Nat} {l:List Int} (hr:Rd (Kd.int .u8) Mt w ⟨A,n,c⟩ l) (hb:∀x∈l,0≤x∧x≤255) (hn:n≤1000) (m:Int) (hm:1≤m):Calls Tryz.prog 11 #[.slice A n c,.int .i64 m] w fun e w'=>
  ∃h:SH,e= .returned (.slice h.A h.n h.c)∧Rd (Kd.int .i64) Mt w' h (l.map fun x=>x%m)∧Below w.heap.size w w':=by
 have hl:n=l.length:=hr.len;subst hl;have h0:=lpicks_eq m hm l.length l 0 [] hb hn (by omega) rfl;rw[List.drop_zero,List.nil_append]at h0;refine(lpicks.calls (l.length+1) A c l m _ w hr.here hr.cap h0).mono ?_;rintro e w' ⟨v,rfl,hR,hB⟩;obtain⟨A2,n2,c2,hn2,rfl⟩:=R_slice3 hR;exact⟨⟨A2,n2,c2⟩,rfl,Rd.of_R rfl hR (fun k hk hm=>by have:=Kd.R_base hR k hk;have:=hM k hm;omega),hB⟩
end Go.Proofs.YtfnimdhghglanaaGreat.Hand
end
section
namespace Go.Proofs.YtfnimdhghglanaaGreat.Hand
open Go.ChangeShapes Go.WideShapes Go.Deep
open Go.RowKit Go.Shelf Go.Proofs.YtfnimdhghglanaaGreatW PrintWords PrintLast PrintMore
section
abbrev MZ:Nat→Prop:=fun _=>False
theorem cell_keep {W w2:World} (hk:Keep MZ W w2) {p:Addr} {u:Value} (h:W.cell? p=some u):w2.cell? p=some u:=by
 have hb:=World.block_lt_of_cell? _ _ h;unfold World.cell? at h ⊢;rw[hk.block _ hb (fun h=>h)];exact h
theorem Rd.of_cells {α:Type} {sz:Nat} {enc:α→List Value} {hl:∀x,(enc x).length=sz} {h1:∀x,∀u∈enc x,u.oneCell'=true} {W:World} {A:Option Addr} {n c:Nat} {l:List α} (hn:l.length=n) (hc:n≤c) (hm:n≤9223372036854775807) (hcell:0<n→∃ad,A=some ad∧∀(j:Nat) (p:α),l[j]?=some p→∀i u,(enc p)[i]?=some u→W.cell? (ad.add (j*sz+i))=some u):Rd (Kd.flat sz enc hl h1) MZ W ⟨A,n,c⟩ l:=by
 refine⟨hn.symm,hc,fun w2 hk=>⟨hn,hm,fun h0=> ?_⟩⟩;obtain⟨ad,e,h⟩:=hcell h0;exact⟨ad,e,fun j p hp=>⟨enc p,hl p,rfl,fun i u hu=>cell_keep hk (h j p hp i u hu)⟩⟩
theorem list_of2 {α:Type} {n:Nat} {P:Nat→α→Prop} (h:∀i,i<n→∃x,P i x):∃l:List α,l.length=n∧∀(i:Nat) (x:α),l[i]?=some x→P i x:=by
 induction n with
 |zero=>exact⟨[],rfl,fun i x h=>by simp at h⟩
 |succ n ih=>
  obtain⟨l,h1,h2⟩:=ih fun i hi=>h i (by omega);obtain⟨x,hx⟩:=h n (by omega);refine⟨l++[x],by simp[h1],fun i y hy=> ?_⟩;by_cases hi:i<n
  ·rw[List.getElem?_append_left (by omega)]at hy;exact h2 i y hy
  ·rw[List.getElem?_append_right (by omega)]at hy;have h3:i=n:=by
    have:=(List.getElem?_eq_some_iff.1 hy).1;simp at this;omega
   subst h3;simp[h1]at hy;exact hy▸hx
theorem all2_of2 {α β:Type} {R:α→β→Prop}:∀{l:List α},(∀x∈l,∃y,R x y)→∃m,All2 R l m
 | [],_=>⟨[],.nil⟩
 |x::l,h=>by
  obtain⟨y,hy⟩:=h x List.mem_cons_self;obtain⟨m,hm⟩:=all2_of2 fun z hz=>h z (List.mem_cons_of_mem _ hz);exact⟨y::m,.cons hy hm⟩
section
variable {H:Type} {enc:TypeId×Value→H} {W:World} {base:Nat} {spare:Nat→Bool} {held:Bool}
theorem open_row {α:Type} {sz:Nat} {en:α→List Value} {hl:∀x,(en x).length=sz} {h1:∀x,∀u∈en x,u.oneCell'=true} {P:α→Prop} {t e:TypeId} (ht:Tryz.prog.underlying t=some (.slice e)) (hsz:Tryz.prog.cellsOf e=sz)
  (ho:∀{fuel:Nat} {cs:List Value} {x:DataW H×List MemPlace},cs.length=sz→DataW.trod enc Tryz.prog W base spare held fuel e cs=some x→∃a,P a∧cs=en a)
  {fuel:Nat} {cs:List Value} {x:DataW H×List MemPlace} (h:DataW.trod enc Tryz.prog W base spare held fuel t cs=some x):∃(s:SH) (l:List α),cs=[.slice s.A s.n s.c]∧Rd (Kd.flat sz en hl h1) MZ W s l∧∀a∈l,P a:=by
 rcases open_slice ht h with ⟨hcs,_⟩|⟨ad,len,cap,m,n,D,Pl,hcs,_,hle,hm,hmm,_,hi⟩
 ·exact⟨⟨none,0,0⟩,[],hcs,Rd.of_cells rfl (Nat.le_refl _) (by omega) (fun h=>by omega),fun a h=>by cases h⟩
 ·have hml:len≤m:=by rw[hmm];split<;>omega
  rw[hsz]at hi;obtain⟨l,hll,hP⟩:=list_of2 (n:=len) (P:=fun i (a:α)=>P a∧∀j u,(en a)[j]?=some u→W.cell? (ad.add (i*sz+j))=some u) (fun i hil=>by
   obtain⟨cs',hc,ht'⟩:=hi i (by omega);obtain⟨_,hcl,hat⟩:=World.cells?_some hc;obtain⟨a,ha,rfl⟩:=ho hcl ht';refine⟨a,ha,fun j u hu=> ?_⟩;have hj:j<sz:=by
    have:=(List.getElem?_eq_some_iff.1 hu).1;omega
   rw[←Go.Deep.add_add,hat j hj,hu])
  refine⟨⟨some ad,len,cap⟩,l,hcs,Rd.of_cells hll hle (by simp[maxLen]at hm;omega) (fun _=>⟨ad,rfl,fun j p hp=>(hP j p hp).2⟩),fun a ha=> ?_⟩;obtain⟨i,hi2⟩:=List.mem_iff_getElem?.1 ha;exact(hP i a hi2).1
theorem open_i64 {fuel:Nat} {cs:List Value} {x:DataW H×List MemPlace} (h:DataW.trod enc Tryz.prog W base spare held fuel 3 cs=some x):∃n,cs=[.int .i64 n]:=by
 obtain⟨n0,e0,_,w0⟩:=DataW.trod_int Tryz.underlying3 h;exact⟨n0,e0⟩
theorem open_start {fuel:Nat} {cs:List Value} {x:DataW H×List MemPlace} (hl:cs.length=2) (h:DataW.trod enc Tryz.prog W base spare held fuel 62 cs=some x):∃a:StC,True∧cs=a.cells:=by
 match cs,hl with
 | [c0,c1],_=>
  obtain⟨ys,n,_,_,_,hlen,hg⟩:=DataW.trod_struct Tryz.underlying62 h
  match ys,hlen with
  | [y0,y1],_=>
   have q3:Tryz.prog.cellsOf 3=1:=by kernel_rfl
   have g0:DataW.trod enc Tryz.prog W base spare held n 3 (([c0,c1].drop 0).take (Tryz.prog.cellsOf 3))=some y0:=hg 0 _ rfl;have g1:DataW.trod enc Tryz.prog W base spare held n 3 (([c0,c1].drop 1).take (Tryz.prog.cellsOf 3))=some y1:=hg 1 _ rfl;rw[q3]at g0 g1;obtain⟨n0,e0⟩:=open_i64 g0;obtain⟨n1,e1⟩:=open_i64 g1;have e0':=List.head_eq_of_cons_eq e0;have e1':=List.head_eq_of_cons_eq e1;subst e0' e1';exact⟨⟨n0,n1⟩,trivial,rfl⟩
theorem open_op {fuel:Nat} {cs:List Value} {x:DataW H×List MemPlace} (hl:cs.length=4) (h:DataW.trod enc Tryz.prog W base spare held fuel 93 cs=some x):∃a:OpC,True∧cs=a.cells:=by
 match cs,hl with
 | [c0,c1,c2,c3],_=>
  obtain⟨ys,n,_,_,_,hlen,hg⟩:=DataW.trod_struct Tryz.underlying93 h
  match ys,hlen with
  | [y0,y1,y2,y3],_=>
   have q3:Tryz.prog.cellsOf 3=1:=by kernel_rfl
   have g0:DataW.trod enc Tryz.prog W base spare held n 3 (([c0,c1,c2,c3].drop 0).take (Tryz.prog.cellsOf 3))=some y0:=hg 0 _ rfl;have g1:DataW.trod enc Tryz.prog W base spare held n 3 (([c0,c1,c2,c3].drop 1).take (Tryz.prog.cellsOf 3))=some y1:=hg 1 _ rfl;have g2:DataW.trod enc Tryz.prog W base spare held n 3 (([c0,c1,c2,c3].drop 2).take (Tryz.prog.cellsOf 3))=some y2:=hg 2 _ rfl;have g3:DataW.trod enc Tryz.prog W base spare held n 3 (([c0,c1,c2,c3].drop 3).take (Tryz.prog.cellsOf 3))=some y3:=hg 3 _ rfl;rw[q3]at g0 g1 g2 g3;obtain⟨n0,e0⟩:=open_i64 g0;obtain⟨n1,e1⟩:=open_i64 g1
   obtain⟨n2,e2⟩:=open_i64 g2;obtain⟨n3,e3⟩:=open_i64 g3;have e0':=List.head_eq_of_cons_eq e0;have e1':=List.head_eq_of_cons_eq e1;have e2':=List.head_eq_of_cons_eq e2;have e3':=List.head_eq_of_cons_eq e3;subst e0' e1' e2' e3';exact⟨⟨n0,n1,n2,n3⟩,trivial,rfl⟩
theorem open_cfg {fuel:Nat} {cs:List Value} {x:DataW H×List MemPlace} (hl:cs.length=5) (h:DataW.trod enc Tryz.prog W base spare held fuel 25 cs=some x):∃(c:SCf) (cf:Cf),cs=[.slice c.lps.A c.lps.n c.lps.c,.slice c.pgs.A c.pgs.n c.pgs.c,.int .i64 c.la,.int .i64 c.en,.int .i64 c.cp]∧CfAt MZ W c cf:=by
 match cs,hl with
 | [c0,c1,c2,c3,c4],_=>
  obtain⟨ys,n,_,_,_,hlen,hg⟩:=DataW.trod_struct Tryz.underlying25 h
  match ys,hlen with
  | [y0,y1,y2,y3,y4],_=>
   have q3:Tryz.prog.cellsOf 3=1:=by kernel_rfl
   have qa:Tryz.prog.cellsOf 22=1:=by kernel_rfl
   have qb:Tryz.prog.cellsOf 23=1:=by kernel_rfl
   have g0:DataW.trod enc Tryz.prog W base spare held n 22 (([c0,c1,c2,c3,c4].drop 0).take (Tryz.prog.cellsOf 22))=some y0:=hg 0 _ rfl;have g1:DataW.trod enc Tryz.prog W base spare held n 23 (([c0,c1,c2,c3,c4].drop 1).take (Tryz.prog.cellsOf 23))=some y1:=hg 1 _ rfl;have g2:DataW.trod enc Tryz.prog W base spare held n 3 (([c0,c1,c2,c3,c4].drop 2).take (Tryz.prog.cellsOf 3))=some y2:=hg 2 _ rfl;have g3:DataW.trod enc Tryz.prog W base spare held n 3 (([c0,c1,c2,c3,c4].drop 3).take (Tryz.prog.cellsOf 3))=some y3:=hg 3 _ rfl
   have g4:DataW.trod enc Tryz.prog W base spare held n 3 (([c0,c1,c2,c3,c4].drop 4).take (Tryz.prog.cellsOf 3))=some y4:=hg 4 _ rfl;rw[q3]at g2 g3 g4;rw[qa]at g0;rw[qb]at g1;obtain⟨n2,e2⟩:=open_i64 g2;obtain⟨n3,e3⟩:=open_i64 g3;obtain⟨n4,e4⟩:=open_i64 g4;obtain⟨s0,l0,e0,r0,p0⟩:=open_row (sz:=1) (en:=fun h:SH=>[Value.slice h.A h.n h.c]) (hl:=fun _=>rfl) (h1:=fun _ u hu=>by simp at hu;subst hu;rfl) (P:=fun s=>∃l,Rd kSt MZ W s l) Tryz.underlying22 (by kernel_rfl) (fun hcl ht=>by
    obtain⟨s,l,e,r,_⟩:=open_row (sz:=2) (en:=StC.cells) (hl:=fun _=>rfl) (h1:=fun _ u hu=>by simp[StC.cells]at hu;rcases hu with rfl|rfl<;>rfl) (P:=fun _=>True) Tryz.underlying58 (by kernel_rfl) open_start ht;exact⟨s,⟨l,r⟩,e⟩) g0
   obtain⟨s1,l1,e1,r1,p1⟩:=open_row (sz:=1) (en:=fun h:SH=>[Value.slice h.A h.n h.c]) (hl:=fun _=>rfl) (h1:=fun _ u hu=>by simp at hu;subst hu;rfl) (P:=fun s=>∃l,Rd kOp MZ W s l) Tryz.underlying23 (by kernel_rfl) (fun hcl ht=>by
    obtain⟨s,l,e,r,_⟩:=open_row (sz:=4) (en:=OpC.cells) (hl:=fun _=>rfl) (h1:=fun _ u hu=>by simp[OpC.cells]at hu;rcases hu with rfl|rfl|rfl|rfl<;>rfl) (P:=fun _=>True) Tryz.underlying59 (by kernel_rfl) open_op ht;exact⟨s,⟨l,r⟩,e⟩) g1
   have e0':=List.head_eq_of_cons_eq e0;have e1':=List.head_eq_of_cons_eq e1;have e2':=List.head_eq_of_cons_eq e2;have e3':=List.head_eq_of_cons_eq e3;have e4':=List.head_eq_of_cons_eq e4;subst e0' e1' e2' e3' e4';obtain⟨ls,hls⟩:=all2_of2 p0;obtain⟨gs,hgs⟩:=all2_of2 p1;exact⟨⟨s0,s1,n2,n3,n4⟩,⟨ls,gs,n2,n3,n4⟩,rfl,⟨⟨_,r0,hls⟩,⟨_,r1,hgs⟩,rfl,rfl,rfl⟩⟩
end
end
end Go.Proofs.YtfnimdhghglanaaGreat.Hand
end
section
namespace Go.Proofs.YtfnimdhghglanaaGreat.Hand
open Go.RowKit Go.Shelf Go.Proofs.YtfnimdhghglanaaGreatW PrintWords PrintLast PrintMore
attribute [local go_sem] max2_int min2_int max_two min_two max_three min_three max_four min_four
def cfB:Cf:=⟨[[⟨0,3⟩],[⟨1,2⟩]],[[⟨2,1,7,4⟩,⟨6,0,1,0⟩,⟨1,3,0,0⟩,⟨7,0,3,0⟩,⟨8,0,0,0⟩],[⟨3,5,2,0⟩,⟨1,9,0,0⟩,⟨6,1,10,0⟩,⟨8,0,0,0⟩]],4,100,16⟩
theorem alloc_next {w w':World} {o:Obj} (h:w.alloc o=w'):Below w.heap.size w w'∧w'.heap[w.heap.size]?=some o∧w'.heap.size=w.heap.size+1:=by
 subst h;exact⟨below_alloc (Below.refl _ _) _,World.alloc_heap_new _ _,World.size_alloc _ _⟩
theorem flat_get {α:Type} {sz:Nat} {en:α→List Value} (hl:∀x,(en x).length=sz):∀(l:List α) (j:Nat) (p:α) (i:Nat) (u:Value),l[j]?=some p→(en p)[i]?=some u→(l.flatMap en)[j*sz+i]?=some u
 | [],j,p,i,u,h,_=>by simp at h
 |x::l,0,p,i,u,h,hu=>by
  simp at h;subst h;rw[List.flatMap_cons,Nat.zero_mul,Nat.zero_add,List.getElem?_append_left (List.getElem?_eq_some_iff.1 hu).1];exact hu
 |x::l,j+1,p,i,u,h,hu=>by
  have ih:=flat_get hl l j p i u (by simpa using h) hu;have e:(j+1)*sz+i=sz+(j*sz+i):=by rw[Nat.succ_mul];omega
  rw[List.flatMap_cons,List.getElem?_append_right (by rw[hl,e];omega),hl,e,Nat.add_sub_cancel_left];exact ih
theorem Rd.of_blk {α:Type} {sz:Nat} {en:α→List Value} {hl:∀x,(en x).length=sz} {h1:∀x,∀u∈en x,u.oneCell'=true} {W:World} {q n:Nat} {cs:Array Value} {t:TypeId} {l:List α} (hq:W.heap[q]?=some (.cells cs t (0,0))) (hn:l.length=n) (hm:n≤9223372036854775807) (hc:cs.toList=l.flatMap en):Rd (Kd.flat sz en hl h1) MZ W ⟨some ⟨q,0,none⟩,n,n⟩ l:=by
 refine Rd.of_cells hn (Nat.le_refl _) hm fun _=>⟨_,rfl,fun j p hp i u hu=> ?_⟩;have h2:=flat_get hl l j p i u hp hu;rw[←hc,Array.getElem?_toList]at h2;rw[show(⟨q,0,none⟩:Addr).add (j*sz+i)=⟨q,j*sz+i,none⟩by unfold Addr.add;split<;>simp_all];simp[World.cell?,hq,h2]
theorem base_calls (w:World):Calls Tryz.prog 22 #[] w fun e w'=>∃c:SCf,e= .returned c.v∧CfAt MZ w' c cfB∧Below w.heap.size w w':=by
 go_enter Tryz.func22,Tryz.ntmps22
 go_wp2_with (fail)
 obtain⟨q,hq⟩:∃q,w.heap.size=q:=⟨_,rfl⟩;obtain⟨w1,h1⟩:∃v,w.alloc (.cells #[.slice (some ⟨q+1+1+1,0,none⟩) 2 2,.slice (some ⟨q+1+1+1+1+1+1,0,none⟩) 2 2,.int .i64 4,.int .i64 100,.int .i64 16] TCf)=v:=⟨_,rfl⟩;obtain⟨w2,h2⟩:∃v,w1.alloc (.cells #[.int .i64 0,.int .i64 3] TSt2)=v:=⟨_,rfl⟩;obtain⟨w3,h3⟩:∃v,w2.alloc (.cells #[.int .i64 1,.int .i64 2] TSt2)=v:=⟨_,rfl⟩;obtain⟨w4,h4⟩:∃v,w3.alloc (.cells #[.slice (some ⟨q+1,0,none⟩) 1 1,.slice (some ⟨q+1+1,0,none⟩) 1 1] 58)=v:=⟨_,rfl⟩
 obtain⟨w5,h5⟩:∃v,w4.alloc (.cells #[.int .i64 2,.int .i64 1,.int .i64 7,.int .i64 4,.int .i64 6,.int .i64 0,.int .i64 1,.int .i64 0,.int .i64 1,.int .i64 3,.int .i64 0,.int .i64 0,.int .i64 7,.int .i64 0,.int .i64 3,.int .i64 0,.int .i64 8,.int .i64 0,.int .i64 0,.int .i64 0] TOp)=v:=⟨_,rfl⟩;obtain⟨w6,h6⟩:∃v,w5.alloc (.cells #[.int .i64 3,.int .i64 5,.int .i64 2,.int .i64 0,.int .i64 1,.int .i64 9,.int .i64 0,.int .i64 0,.int .i64 6,.int .i64 1,.int .i64 10,.int .i64 0,.int .i64 8,.int .i64 0,.int .i64 0,.int .i64 0] TOp)=v:=⟨_,rfl⟩
 obtain⟨w7,h7⟩:∃v,w6.alloc (.cells #[.slice (some ⟨q+1+1+1+1,0,none⟩) 5 5,.slice (some ⟨q+1+1+1+1+1,0,none⟩) 4 4] 59)=v:=⟨_,rfl⟩;obtain⟨b1,c1,s1⟩:=alloc_next h1;obtain⟨b2,c2,s2⟩:=alloc_next h2;obtain⟨b3,c3,s3⟩:=alloc_next h3;obtain⟨b4,c4,s4⟩:=alloc_next h4;obtain⟨b5,c5,s5⟩:=alloc_next h5;obtain⟨b6,c6,s6⟩:=alloc_next h6;obtain⟨b7,c7,s7⟩:=alloc_next h7;rw[hq]at c1 s1;rw[s1]at c2 s2;rw[s2]at c3 s3;rw[s3]at c4 s4;rw[s4]at c5 s5;rw[s5]at c6 s6;rw[s6]at c7 s7;have d6:=box_more b7 c6;have d5:=box_more b7 (box_more b6 c5);have d4:=box_more b7 (box_more b6 (box_more b5 c4))
 have d3:=box_more b7 (box_more b6 (box_more b5 (box_more b4 c3)));have d2:=box_more b7 (box_more b6 (box_more b5 (box_more b4 (box_more b3 c2))));have d1:=box_more b7 (box_more b6 (box_more b5 (box_more b4 (box_more b3 (box_more b2 c1)))));have e12:=b1.trans (b2.mono b1.size);have e13:=e12.trans (b3.mono e12.size);have e14:=e13.trans (b4.mono e13.size);have e15:=e14.trans (b5.mono e14.size);have e16:=e15.trans (b6.mono e15.size);have e17:=e16.trans (b7.mono e16.size);rw[hq,h1,h2,h3,h4,h5,h6,h7];have HB:=am e17
 have HCF:=am (show CfAt MZ w7 ⟨⟨some ⟨q+1+1+1,0,none⟩,2,2⟩,⟨some ⟨q+1+1+1+1+1+1,0,none⟩,2,2⟩,4,100,16⟩ cfB from by
  refine⟨⟨[⟨some ⟨q+1,0,none⟩,1,1⟩,⟨some ⟨q+1+1,0,none⟩,1,1⟩],Rd.of_blk d4 rfl (by decide) rfl,.cons (Rd.of_blk d2 rfl (by decide) rfl) (.cons (Rd.of_blk d3 rfl (by decide) rfl) .nil)⟩,⟨[⟨some ⟨q+1+1+1+1,0,none⟩,5,5⟩,⟨some ⟨q+1+1+1+1+1,0,none⟩,4,4⟩],Rd.of_blk c7 rfl (by decide) rfl,.cons (Rd.of_blk d5 rfl (by decide) rfl) (.cons (Rd.of_blk d6 rfl (by decide) rfl) .nil)⟩,rfl,rfl,rfl⟩)
 have o0:w7.cell? ⟨q,0,none⟩=some (.slice (some ⟨q+1+1+1,0,none⟩) 2 2):=by simp[World.cell?,d1]
 have o1:w7.cell? ⟨q,1,none⟩=some (.slice (some ⟨q+1+1+1+1+1+1,0,none⟩) 2 2):=by simp[World.cell?,d1]
 have o2:w7.cell? ⟨q,2,none⟩=some (.int .i64 4):=by simp[World.cell?,d1]
 have o3:w7.cell? ⟨q,3,none⟩=some (.int .i64 100):=by simp[World.cell?,d1]
 have o4:w7.cell? ⟨q,4,none⟩=some (.int .i64 16):=by simp[World.cell?,d1]
 refine bodyPost_ret (results_cell1 Tryz.results22 rfl (v:= .agg #[.slice (some ⟨q+1+1+1,0,none⟩) 2 2,.slice (some ⟨q+1+1+1+1+1+1,0,none⟩) 2 2,.int .i64 4,.int .i64 100,.int .i64 16]) (by simp[go_sem,o0,o1,o2,o3,o4])) rfl ⟨_,rfl,HCF.out,?_⟩;rw[←hq];exact HB.out
end Go.Proofs.YtfnimdhghglanaaGreat.Hand
end
section
namespace Go.Proofs.YtfnimdhghglanaaGreat.Hand
open Go
theorem base_chk:chk cfB=0:=by kernel_rfl
theorem base_par:((cfB.par 50).2,(cfB.par 50).1.tr.flatten.length)=((0:Int),10):=by kernel_rfl
theorem base_seq:cfB.seqErr 50=0:=by kernel_rfl
theorem base_same:(cfB.seq 50).tr=(cfB.par 50).1.tr:=by kernel_rfl
theorem fst1_zero {α:Type} {f:α→Int}:∀{l:List α},fst1 f l=0→∀x∈l,f x=0
 | [],_,x,hx=>by cases hx
 |y::l,h,x,hx=>by
  unfold fst1 at h
  split at h
  ·rename_i h0;rcases List.mem_cons.1 hx with rfl|hx
   ·exact h0
   ·exact fst1_zero h x hx
  ·rename_i h0;exact absurd h h0
theorem vd_true {b:Bool} {e:Int} (he:e≠0) (h:vd b e=0):b=true:=by
 cases b
 ·exact absurd h he
 ·rfl
theorem wi_true {n a b:Int} (h:wi n a b=true):a≤n∧n≤b:=by simpa [wi]using h
theorem opV_of {n P N la:Int} {N' P':Nat} (hN:N=N') (hP:P=P') {o:OpC} (h1:opC o=0) (h2:opO n P o=0) (h3:opT N o=0) (h4:opE la o=0):OpV N' P' la o:=by
 have g1:=wi_true (vd_true (by decide) h1);have g2:=vd_true (by decide) h2;have g3:=vd_true (by decide) h3;have g4:=vd_true (by decide) h4;simp only[Bool.not_eq_true',Bool.and_eq_false_iff,decide_eq_false_iff_not]at g3 g4;subst hN hP;refine⟨⟨g1.1,g1.2,fun hc=> ?_,fun hc=> ?_⟩,fun hc=> ?_,fun hc=> ?_,fun hc=> ?_,fun hc=> ?_⟩
 ·rcases hc with hc|hc
  ·simp only[hc]at g2;simp[wi]at g2;omega
  ·simp only[hc]at g2;simp[wi]at g2;omega
 ·simp only[hc]at g2;simp[wi]at g2;omega
 ·simp only[hc]at g2;simp[wi]at g2;omega
 ·simp only[hc]at g2;simp[wi]at g2;omega
 ·simp only[hc]at g2;simp[wi]at g2;omega
 ·simp only[hc]at g2;simp[wi]at g2;omega
theorem cfOk_of {cf:Cf} (h:chk cf=0) (h8:cf.la≤8):CfOk cf cf.lps.length cf.pgs.length∧CfSm cf:=by
 rw[chk_eq]at h
 split at h
 ·rename_i hs
  split at h
  ·rename_i hla
   split at h
   ·rename_i hp;simp only[szs,Bool.and_eq_true,decide_eq_true_eq,List.all_eq_true]at hs;obtain⟨s1,s2,s3,s4,s5⟩:=hs;have s1:=wi_true s1;have s3:=wi_true s3;have s4:=wi_true s4;have hst:=fst1_zero h;have hpg:=fst1_zero hp;have hop:∀p∈cf.pgs,wi p.length 1 16=true∧fst1 opC p=0∧fst1 (opO p.length cf.pgs.length) p=0∧fst1 (opT cf.lps.length) p=0∧fst1 (opE cf.la) p=0:=fun p hp=>by
     have h1:=hpg p hp;unfold pck at h1
     split at h1
     ·rename_i h2;have h3:=fst1_zero h1;exact⟨h2,h3 _ (by simp),h3 _ (by simp),h3 _ (by simp),h3 _ (by simp)⟩
     ·exact absurd h1 (by decide)
    refine⟨⟨rfl,by omega,by omega,rfl,by omega,fun l hl=>by have:=s5 l hl;omega,fun l hl s hsl=> ?_,fun p hp=>by have:=wi_true (hop p hp).1;omega,fun p hp o ho=> ?_,⟨hla,h8⟩,s4,s3⟩,⟨by omega,by omega,fun l hl=>by have:=s5 l hl;omega,fun p hp=>by have:=wi_true (hop p hp).1;omega⟩⟩
    ·have h1:=fst1_zero (hst l hl) s hsl;unfold stc at h1
     split at h1
     ·rename_i h2;have h3:=wi_true h2;have h4:=wi_true (vd_true (by decide) h1);omega
     ·exact absurd h1 (by decide)
    ·obtain⟨_,q1,q2,q3,q4⟩:=hop p hp;exact opV_of rfl rfl (fst1_zero q1 o ho) (fst1_zero q2 o ho) (fst1_zero q3 o ho) (fst1_zero q4 o ho)
   ·rename_i hp;exact absurd h hp
  ·exact absurd h (by decide)
 ·exact absurd h (by decide)
end Go.Proofs.YtfnimdhghglanaaGreat.Hand
end
section
namespace Go.Proofs.YtfnimdhghglanaaGreat.Hand
open Go.RowKit Go.Shelf Go.Proofs.YtfnimdhghglanaaGreatW PrintWords PrintLast PrintMore
attribute [local go_sem] max2_int min2_int max_two min_two max_three min_three max_four min_four
theorem parRun_calls {Mt:Nat→Prop} {w:World} (hM:∀k,Mt k→k<w.heap.size) (c:SCf) {cf:Cf} {N P:Nat} (hok:CfOk cf N P) (hc:CfAt Mt w c cf) (hs:CfSm cf) (h0:chk cf=0) (wk:Nat) (hw0:1≤wk) (hw:wk≤64) (ph:SH) (l:List Int) (hl:l.length≤1000) (hr:∀p∈l,0≤p∧p<wk) (hpk:Rd (Kd.int .i64) Mt w ph l) (lim:Int) (hl0:0≤lim) (hl50:lim≤50):
  Calls Tryz.prog 10 #[c.v,.int .i64 wk,.slice ph.A ph.n ph.c,.int .i64 lim] w fun r w'=>∃th lh:SH,r= .returned (.tuple #[.slice th.A th.n th.c,.slice lh.A lh.n lh.c,.int .i64 (cf.par lim).2])∧EvssAt Mt w' th (cf.par lim).1.tr∧LpsAt Mt w' lh (cf.par lim).1.lps∧Below w.heap.size w w':=by
 obtain⟨w1,hw1⟩:∃w1,w.alloc (.cells #[.slice c.lps.A c.lps.n c.lps.c,.slice c.pgs.A c.pgs.n c.pgs.c,.int .i64 c.la,.int .i64 c.en,.int .i64 c.cp] TCf)=w1:=⟨_,rfl⟩;have hb1:Below w.heap.size w w1:=hw1▸below_alloc (Below.refl _ _) _;have hk1:w1.heap[w.heap.size]?=some (.cells (cf5 c) TCf (0,0)):=by rw[←hw1];exact World.alloc_heap_new _ _
 obtain⟨a0,a1,a2,a3,a4⟩:=cfbox_at hk1 (Below.refl _ _);have HB1:=am hb1;have HK1:=am hk1;have HM:=am hM;have HCK:=am (h0▸check_calls c (hc.keep (Keep.of_below hb1)) hs);have HRUN:=am (show∀W,Below w.heap.size w W→Calls Tryz.prog 28 #[c.v,.int .i64 wk,.slice ph.A ph.n ph.c,.int .i64 lim] W (fun r w'=>∃s:SPs,r= .returned (.tuple #[s.v,.int .i64 (cf.par lim).2])∧PsAt Mt w' s (cf.par lim).1∧Below W.heap.size W w')from
  fun W hb=>prun_calls (fun k hk=>Nat.lt_of_lt_of_le (hM k hk) hb.size) c hok (hc.keep (Keep.of_below hb)) wk hw0 hw ph l hl hr (hpk.below hb) lim hl0 hl50)
 clear hb1 hk1 hM hc hs h0 hok hl hr hpk hl0 hl50 hw0 hw;simp only[SCf.v]at HCK HRUN ⊢;go_enter Tryz.func10,Tryz.ntmps10;go_upto_region 1 with (fail)
 clear hw1;go_upto_region 4 with (first|(go_at_call 27;go_must (with_reducible refine HCK.out.mono ?_);go_must (rintro e w2 ⟨rfl,hb2⟩);go_must (obtain⟨b0,b1,b2,b3,b4⟩:=cfbox_at HK1.out hb2);have HB2:=HB1.go hb2;clear hb2))
 have HRN:=am (HRUN.out _ HB2.out);clear a0 a1 a2 a3 a4;simp only[SPs.v]at HRN;go_upto_region 5 with (first|(go_at_call 28;go_must (with_reducible refine HRN.out.mono ?_);go_must (rintro e w3 ⟨s,rfl,hps,hb3⟩);have HPS:=am hps;have HB3:=HB2.go hb3;clear hps hb3))
 obtain⟨w4,hw4⟩:∃w4,w3.alloc (.cells #[.slice s.tr.A s.tr.n s.tr.c,.slice s.lps.A s.lps.n s.lps.c,.slice s.bx.A s.bx.n s.bx.c,.bool s.ov,.slice s.fl.A s.fl.n s.fl.c,.slice s.pr.A s.pr.n s.pr.c] TSt)=w4:=⟨_,rfl⟩;have hb4:Below w3.heap.size w3 w4:=hw4▸below_alloc (Below.refl _ _) _;have hk4:w4.heap[w3.heap.size]?=some (.cells (st6 s) TSt (0,0)):=by rw[←hw4];exact World.alloc_heap_new _ _
 have HB4:=HB3.go hb4;have HP4:=am (HPS.out.keep (Keep.of_below hb4));have z0:w4.cell? ⟨w3.heap.size,0,none⟩=some (.slice s.tr.A s.tr.n s.tr.c):=by simp[World.cell?,hk4]
 have z1:w4.cell? ⟨w3.heap.size,1,none⟩=some (.slice s.lps.A s.lps.n s.lps.c):=by simp[World.cell?,hk4]
 have z4:w4.cell? ⟨w3.heap.size,4,none⟩=some (.slice s.fl.A s.fl.n s.fl.c):=by simp[World.cell?,hk4]
 have z5:w4.cell? ⟨w3.heap.size,5,none⟩=some (.slice s.pr.A s.pr.n s.pr.c):=by simp[World.cell?,hk4]
 rw[hw4];clear hw4 hb4 hk4
 go_region
 go_wp2_with (fail)
 go_returns
 exact⟨s.tr,s.lps,rfl,HP4.out.tr.keep (Keep.of_below (below_drew (Below.refl _ _))),HP4.out.lps.keep (Keep.of_below (below_drew (Below.refl _ _))),HB4.out.trans ((below_drew (Below.refl _ _)).mono HB4.out.size)⟩
theorem floors_calls {Mt:Nat→Prop} {w:World} (hM:∀k,Mt k→k<w.heap.size) (c:SCf) {cf:Cf} {N P:Nat} (hok:CfOk cf N P) (hc:CfAt Mt w c cf) (hs:CfSm cf) (h0:chk cf=0) (wk:Nat) (hw0:1≤wk) (hw:wk≤64) (ph:SH) (l:List Int) (hl:l.length≤1000) (hr:∀p∈l,0≤p∧p<wk) (hpk:Rd (Kd.int .i64) Mt w ph l) (lim:Int) (hl0:0≤lim) (hl50:lim≤50):
  Calls Tryz.prog 15 #[c.v,.int .i64 wk,.slice ph.A ph.n ph.c,.int .i64 lim] w fun r w'=>∃fh:SH,r= .returned (.slice fh.A fh.n fh.c)∧Rd (Kd.int .i64) Mt w' fh (cf.par lim).1.fl∧Below w.heap.size w w':=by
 obtain⟨w1,hw1⟩:∃w1,w.alloc (.cells #[.slice c.lps.A c.lps.n c.lps.c,.slice c.pgs.A c.pgs.n c.pgs.c,.int .i64 c.la,.int .i64 c.en,.int .i64 c.cp] TCf)=w1:=⟨_,rfl⟩;have hb1:Below w.heap.size w w1:=hw1▸below_alloc (Below.refl _ _) _;have hk1:w1.heap[w.heap.size]?=some (.cells (cf5 c) TCf (0,0)):=by rw[←hw1];exact World.alloc_heap_new _ _
 obtain⟨a0,a1,a2,a3,a4⟩:=cfbox_at hk1 (Below.refl _ _);have HB1:=am hb1;have HK1:=am hk1;have HM:=am hM;have HCK:=am (h0▸check_calls c (hc.keep (Keep.of_below hb1)) hs);have HRUN:=am (show∀W,Below w.heap.size w W→Calls Tryz.prog 28 #[c.v,.int .i64 wk,.slice ph.A ph.n ph.c,.int .i64 lim] W (fun r w'=>∃s:SPs,r= .returned (.tuple #[s.v,.int .i64 (cf.par lim).2])∧PsAt Mt w' s (cf.par lim).1∧Below W.heap.size W w')from
  fun W hb=>prun_calls (fun k hk=>Nat.lt_of_lt_of_le (hM k hk) hb.size) c hok (hc.keep (Keep.of_below hb)) wk hw0 hw ph l hl hr (hpk.below hb) lim hl0 hl50)
 clear hb1 hk1 hM hc hs h0 hok hl hr hpk hl0 hl50 hw0 hw;simp only[SCf.v]at HCK HRUN ⊢;go_enter Tryz.func15,Tryz.ntmps15;go_upto_region 1 with (fail)
 clear hw1;go_upto_region 3 with (first|(go_at_call 27;go_must (with_reducible refine HCK.out.mono ?_);go_must (rintro e w2 ⟨rfl,hb2⟩);go_must (obtain⟨b0,b1,b2,b3,b4⟩:=cfbox_at HK1.out hb2);have HB2:=HB1.go hb2;clear hb2))
 have HRN:=am (HRUN.out _ HB2.out);clear a0 a1 a2 a3 a4;simp only[SPs.v]at HRN;go_upto_region 4 with (first|(go_at_call 28;go_must (with_reducible refine HRN.out.mono ?_);go_must (rintro e w3 ⟨s,rfl,hps,hb3⟩);have HPS:=am hps;have HB3:=HB2.go hb3;clear hps hb3))
 obtain⟨w4,hw4⟩:∃w4,w3.alloc (.cells #[.slice s.tr.A s.tr.n s.tr.c,.slice s.lps.A s.lps.n s.lps.c,.slice s.bx.A s.bx.n s.bx.c,.bool s.ov,.slice s.fl.A s.fl.n s.fl.c,.slice s.pr.A s.pr.n s.pr.c] TSt)=w4:=⟨_,rfl⟩;have hb4:Below w3.heap.size w3 w4:=hw4▸below_alloc (Below.refl _ _) _;have hk4:w4.heap[w3.heap.size]?=some (.cells (st6 s) TSt (0,0)):=by rw[←hw4];exact World.alloc_heap_new _ _
 have HB4:=HB3.go hb4;have HP4:=am (HPS.out.keep (Keep.of_below hb4));have z0:w4.cell? ⟨w3.heap.size,0,none⟩=some (.slice s.tr.A s.tr.n s.tr.c):=by simp[World.cell?,hk4]
 have z1:w4.cell? ⟨w3.heap.size,1,none⟩=some (.slice s.lps.A s.lps.n s.lps.c):=by simp[World.cell?,hk4]
 have z4:w4.cell? ⟨w3.heap.size,4,none⟩=some (.slice s.fl.A s.fl.n s.fl.c):=by simp[World.cell?,hk4]
 have z5:w4.cell? ⟨w3.heap.size,5,none⟩=some (.slice s.pr.A s.pr.n s.pr.c):=by simp[World.cell?,hk4]
 rw[hw4];clear hw4 hb4 hk4
 go_wp2_with (fail)
 go_ret;exact⟨s.fl,rfl,HP4.out.fl,HB4.out⟩
theorem assign_calls {Mt:Nat→Prop} {w:World} (hM:∀k,Mt k→k<w.heap.size) (c:SCf) {cf:Cf} {N P:Nat} (hok:CfOk cf N P) (hc:CfAt Mt w c cf) (hs:CfSm cf) (h0:chk cf=0) (wk:Nat) (hw0:1≤wk) (hw:wk≤64) (ph:SH) (l:List Int) (hl:l.length≤1000) (hr:∀p∈l,0≤p∧p<wk) (hpk:Rd (Kd.int .i64) Mt w ph l) (lim:Int) (hl0:0≤lim) (hl50:lim≤50):
  Calls Tryz.prog 17 #[c.v,.int .i64 wk,.slice ph.A ph.n ph.c,.int .i64 lim] w fun r w'=>∃fh:SH,r= .returned (.slice fh.A fh.n fh.c)∧fh.n=(cf.par lim).1.np∧Below w.heap.size w w':=by
 obtain⟨w1,hw1⟩:∃w1,w.alloc (.cells #[.slice c.lps.A c.lps.n c.lps.c,.slice c.pgs.A c.pgs.n c.pgs.c,.int .i64 c.la,.int .i64 c.en,.int .i64 c.cp] TCf)=w1:=⟨_,rfl⟩;have hb1:Below w.heap.size w w1:=hw1▸below_alloc (Below.refl _ _) _;have hk1:w1.heap[w.heap.size]?=some (.cells (cf5 c) TCf (0,0)):=by rw[←hw1];exact World.alloc_heap_new _ _
 obtain⟨a0,a1,a2,a3,a4⟩:=cfbox_at hk1 (Below.refl _ _);have HB1:=am hb1;have HK1:=am hk1;have HM:=am hM;have HCK:=am (h0▸check_calls c (hc.keep (Keep.of_below hb1)) hs);have HRUN:=am (show∀W,Below w.heap.size w W→Calls Tryz.prog 28 #[c.v,.int .i64 wk,.slice ph.A ph.n ph.c,.int .i64 lim] W (fun r w'=>∃s:SPs,r= .returned (.tuple #[s.v,.int .i64 (cf.par lim).2])∧PsAt Mt w' s (cf.par lim).1∧Below W.heap.size W w')from
  fun W hb=>prun_calls (fun k hk=>Nat.lt_of_lt_of_le (hM k hk) hb.size) c hok (hc.keep (Keep.of_below hb)) wk hw0 hw ph l hl hr (hpk.below hb) lim hl0 hl50)
 clear hb1 hk1 hM hc hs h0 hok hl hr hpk hl0 hl50 hw0 hw;simp only[SCf.v]at HCK HRUN ⊢;go_enter Tryz.func17,Tryz.ntmps17;go_upto_region 1 with (fail)
 clear hw1;go_upto_region 3 with (first|(go_at_call 27;go_must (with_reducible refine HCK.out.mono ?_);go_must (rintro e w2 ⟨rfl,hb2⟩);go_must (obtain⟨b0,b1,b2,b3,b4⟩:=cfbox_at HK1.out hb2);have HB2:=HB1.go hb2;clear hb2))
 have HRN:=am (HRUN.out _ HB2.out);clear a0 a1 a2 a3 a4;simp only[SPs.v]at HRN;go_upto_region 4 with (first|(go_at_call 28;go_must (with_reducible refine HRN.out.mono ?_);go_must (rintro e w3 ⟨s,rfl,hps,hb3⟩);have HPS:=am hps;have HB3:=HB2.go hb3;clear hps hb3))
 obtain⟨w4,hw4⟩:∃w4,w3.alloc (.cells #[.slice s.tr.A s.tr.n s.tr.c,.slice s.lps.A s.lps.n s.lps.c,.slice s.bx.A s.bx.n s.bx.c,.bool s.ov,.slice s.fl.A s.fl.n s.fl.c,.slice s.pr.A s.pr.n s.pr.c] TSt)=w4:=⟨_,rfl⟩;have hb4:Below w3.heap.size w3 w4:=hw4▸below_alloc (Below.refl _ _) _;have hk4:w4.heap[w3.heap.size]?=some (.cells (st6 s) TSt (0,0)):=by rw[←hw4];exact World.alloc_heap_new _ _
 have HB4:=HB3.go hb4;have HP4:=am (HPS.out.keep (Keep.of_below hb4));have z0:w4.cell? ⟨w3.heap.size,0,none⟩=some (.slice s.tr.A s.tr.n s.tr.c):=by simp[World.cell?,hk4]
 have z1:w4.cell? ⟨w3.heap.size,1,none⟩=some (.slice s.lps.A s.lps.n s.lps.c):=by simp[World.cell?,hk4]
 have z4:w4.cell? ⟨w3.heap.size,4,none⟩=some (.slice s.fl.A s.fl.n s.fl.c):=by simp[World.cell?,hk4]
 have z5:w4.cell? ⟨w3.heap.size,5,none⟩=some (.slice s.pr.A s.pr.n s.pr.c):=by simp[World.cell?,hk4]
 rw[hw4];clear hw4 hb4 hk4
 go_wp2_with (fail)
 go_ret;obtain⟨hs,h1,h2⟩:=HP4.out.pr;exact⟨s.pr,rfl,h1.len.trans h2,HB4.out⟩
def rr30:List Int:=[0,1,0,1,0,1,0,1,0,1,0,1,0,1,0,1,0,1,0,1,0,1,0,1,0,1,0,1,0,1]
theorem rr_eval:rrobin.f 40 0 2 30=some rr30:=by kernel_rfl
theorem MZ_lt (w:World) (k:Nat) (h:MZ k):k<w.heap.size:=h.elim
theorem rr_calls (w:World):Calls Tryz.prog 23 #[.int .i64 0,.int .i64 2,.int .i64 30] w fun e w'=>∃h:SH,e= .returned (.slice h.A h.n h.c)∧Rd (Kd.int .i64) MZ w' h rr30∧Below w.heap.size w w':=by
 refine(rrobin.calls 40 0 2 30 rr30 w rr_eval).mono ?_;rintro e w' ⟨v,rfl,hR,hB⟩;obtain⟨A2,n2,c2,hn2,rfl⟩:=R_slice3 hR;exact⟨⟨A2,n2,c2⟩,rfl,Rd.of_R rfl hR (fun k hk hm=>hm),hB⟩
theorem head25_calls (w:World):Calls Tryz.prog 6 #[] w fun e w'=>e= .returned (.bool true)∧Below w.heap.size w w':=by
 obtain⟨hok,hsm⟩:=cfOk_of base_chk (by decide);have HBA:=am (fun W=>base_calls W);have HRR:=am (fun W=>rr_calls W);have HPR:=am (show∀(W:World) (c:SCf) (ph:SH),CfAt MZ W c cfB→Rd (Kd.int .i64) MZ W ph rr30→Calls Tryz.prog 10 #[c.v,.int .i64 2,.slice ph.A ph.n ph.c,.int .i64 50] W (fun r w'=>∃th lh:SH,r= .returned (.tuple #[.slice th.A th.n th.c,.slice lh.A lh.n lh.c,.int .i64 0])∧EvssAt MZ w' th (cfB.par 50).1.tr∧LpsAt MZ w' lh (cfB.par 50).1.lps∧Below W.heap.size W w')from fun W c ph hc hp=>by
  have h1:=parRun_calls (MZ_lt W) c hok hc hsm base_chk 2 (by decide) (by decide) ph rr30 (by decide) (by decide) hp 50 (by decide) (by decide);rw[show(cfB.par 50).2=0 from congrArg Prod.fst base_par]at h1;exact h1)
 have HSR:=am (show∀(W:World) (c:SCf),CfAt MZ W c cfB→Calls Tryz.prog 13 #[c.v,.int .i64 50] W (fun r w'=>∃th lh:SH,r= .returned (.tuple #[.slice th.A th.n th.c,.slice lh.A lh.n lh.c,.int .i64 0])∧EvssAt MZ w' th (cfB.par 50).1.tr∧LpsAt MZ w' lh (cfB.seq 50).lps∧Below W.heap.size W w')from fun W c hc=>by
  have h1:=seqRun_calls (MZ_lt W) c hok hc hsm base_chk 50 (by decide);rw[base_seq,base_same]at h1;exact h1)
 have HLEN:=am (show(cfB.par 50).1.tr.length≤1000000∧(cfB.par 50).1.tr.flatten.length=10 from⟨by(have h2:(cfB.par 50).1.tr.length=2:=by kernel_rfl);omega,congrArg Prod.snd base_par⟩);clear hok hsm;go_enter Tryz.func6,Tryz.ntmps6;go_upto_region 1 with (fail)
 have H0:=am (HBA.out w);go_upto_region 2 with (first
  |(go_at_call 22;go_must (with_reducible refine H0.out.mono ?_);go_must (rintro e w1 ⟨c,rfl,hc,hb⟩);have HC1:=am hc;have HB1:=am hb;have H1:=am (HRR.out w1);clear hc hb)
  |(go_at_call 23;go_must (with_reducible refine H1.out.mono ?_);go_must (rintro e w2 ⟨ph,rfl,hp,hb⟩);go_must (have h2:=HPR.out w2 c ph (HC1.out.keep (Keep.of_below hb)) hp);have HB2:=HB1.go hb;have H2:=am h2;clear hp hb h2)
  |(go_at_call 10;go_must (with_reducible refine H2.out.mono ?_);go_must (rintro e w3 ⟨ta,la,rfl,ht,_,hb⟩);have HT3:=am ht;have HB3:=HB2.go hb;clear ht hb))
 have H3:=am (HBA.out w3);go_upto_region 3 with (first
  |(go_at_call 22;go_must (with_reducible refine H3.out.mono ?_);go_must (rintro e w4 ⟨c2,rfl,hc,hb⟩);go_must (have h4:=HSR.out w4 c2 hc);have HB34:=am hb;have HB4:=HB3.go hb;have H4:=am h4;clear hc hb h4)
  |(go_at_call 13;go_must (with_reducible refine H4.out.mono ?_);go_must (rintro e w5 ⟨tb,lb,rfl,ht,_,hb⟩);have HT5:=am ht;have HB35:=HB34.go hb;have HB5:=HB4.go hb;clear ht hb))
 have HTA:=am (HT3.out.keep (Keep.of_below HB35.out));have h5:=commits_calls HTA.out (MZ_lt w5) HLEN.out.1 (by have:=HLEN.out.2;omega);rw[HLEN.out.2]at h5;have H5:=am h5;clear h5
 go_wp2_with (first
  |(go_at_call 12;go_must (with_reducible refine H5.out.mono ?_);go_must (rintro e w6 ⟨rfl,hb⟩);go_must (have h6:=trseq_calls (HTA.out.keep (Keep.of_below hb)) (HT5.out.keep (Keep.of_below hb)));have H6:=am h6;have HB6:=HB5.go hb;clear hb h6)
  |(go_at_call 20;go_must (with_reducible refine H6.out.mono ?_);go_must (rintro e w7 ⟨rfl,hb⟩);have HB7:=HB6.go hb;clear hb))
 go_ret;exact⟨rfl,HB7.out⟩
end Go.Proofs.YtfnimdhghglanaaGreat.Hand
end
