/- TopErrorPrefix, part 29 of 41; no condition. (Printed from the session's own texts: what is not used left out, spaces spared.) -/
import Derived.Test.YtfnimdhghglanaaGreatQeBB
import Derived.Deep.LoopGhost
import Derived.Deep.DeepCutAuto
set_option maxRecDepth 100000
set_option maxHeartbeats 8000000
set_option linter.unusedVariables false
set_option linter.unusedSimpArgs false
section
namespace Go.Proofs.YtfnimdhghglanaaGreat.Hand
open Go.RowKit Go.Shelf Go.Proofs.YtfnimdhghglanaaGreatW.PrintWords Go.Proofs.YtfnimdhghglanaaGreatW.PrintLast Go.Proofs.YtfnimdhghglanaaGreatW.PrintMore
attribute [local go_sem] max2_int min2_int max_two min_two max_three min_three max_four min_four
theorem fst1_drop {α:Type} (f:α→Int) {l:List α} {k:Nat} {x:α} (h:l[k]?=some x):fst1 f (l.drop k)=if f x=0 then fst1 f (l.drop (k+1))else f x:=by
 obtain⟨hk,e⟩:=List.getElem?_eq_some_iff.1 h;rw[List.drop_eq_getElem_cons hk,e,fst1]
abbrev TSt2:TypeId:=62
theorem firstSt_calls {Mt:Nat→Prop} {w:World} {A:Option Addr} {n c:Nat} {l:List StC} (hr:Rd kSt Mt w ⟨A,n,c⟩ l) (hn:n≤1000000) (q:Nat) (f:StC→Int)
  (hf:∀W,Below w.heap.size w W→∀x∈l,Calls Tryz.prog 73 #[.agg #[.int .i64 x.pg,.int .i64 x.t],.pointer (some ⟨q,0,none⟩)] W fun e w'=>e= .returned (.int .i64 (f x))∧Below W.heap.size W w'):
  Calls Tryz.prog 72 #[.slice A n c,.func (.func 73) #[] #[.pointer (some ⟨q,0,none⟩)]] w fun e w'=>e= .returned (.int .i64 (fst1 f l))∧Below w.heap.size w w':=by
 have hl:n=l.length:=hr.len;have HR:=am hr;have HF:=am hf;have HL:=am hl;clear hr hf hl;go_enter Tryz.func72,Tryz.ntmps72
 go_wp2_with (fail)
 go_loopw [10] (fun i wr=>∃k:Nat,k≤n∧i= .int .i64 k∧Aside0 (fst1 f (l.drop k)=fst1 f l)∧Aside0 (Below w.heap.size w wr)) (fun i _=>n-(intOf i).toNat)
 case atStart=>exact⟨0,Nat.zero_le _,rfl,⟨by rw[List.drop_zero]⟩,⟨Below.refl _ _⟩⟩
 case round=>
  obtain⟨k,hk,rfl,HD,HB⟩:=hrel;by_cases hlt:k<n
  ·have d1:decide ((k:Int)<(n:Int))=true:=decide_eq_true (by omega);have d1':decide (k<n)=true:=decide_eq_true hlt;obtain⟨ad,x,rfl,⟨h2,hx⟩,p0,p1⟩:=st_cells ((HR.out.below HB.out).here) k hlt;have hxm:x∈l:=hx▸List.getElem_mem h2;have hfd:=fst1_drop f (show l[k]?=some x by rw[List.getElem?_eq_getElem h2,hx]);obtain⟨v,hv⟩:∃v,f x=v:=⟨_,rfl⟩;rw[hv]at hfd;obtain⟨w2,hw2⟩:∃w2,wr.alloc (.cells #[.int .i64 x.pg,.int .i64 x.t] TSt2)=w2:=⟨_,rfl⟩;have hb2:Below wr.heap.size wr w2:=hw2▸below_alloc (Below.refl _ _) _
   have hq2:w2.heap[wr.heap.size]?=some (.cells #[.int .i64 x.pg,.int .i64 x.t] TSt2 (0,0)):=by rw[←hw2];exact World.alloc_heap_new _ _
   have z0:w2.cell? ⟨wr.heap.size,0,none⟩=some (.int .i64 x.pg):=by simp[World.cell?,hq2]
   have z1:w2.cell? ⟨wr.heap.size,1,none⟩=some (.int .i64 x.t):=by simp[World.cell?,hq2]
   have HB2:=am (HB.out.trans (hb2.mono HB.out.size));have HC:=am (hv▸HF.out w2 HB2.out x hxm);have HFD:=am hfd;have HW2:=am hw2;have m0:(0:Int)≤(k:Int):=by omega
   have m1:(k:Int)<(n:Nat):=by omega
   clear hx hxm hfd hb2 hq2 hw2 h2 hv;obtain⟨xp,xt⟩:=x;simp only at p0 p1 z0 z1 HC HW2;go_upto_region 4 with (fail)
   rw[HW2.out];clear p0 p1;by_cases hv0:v=0
   ·subst hv0
    go_wp2_with (first|(go_at_call 73;go_must (with_reducible refine HC.out.mono ?_);go_must (rintro e w3 ⟨rfl,hb3⟩);have HB3:=am (HB2.out.trans (hb3.mono HB2.out.size));clear hb3))
    go_roundw
    ·exact⟨k+1,by omega,by go_num,⟨by rw[←HD.out,HFD.out];simp⟩,HB3⟩
    ·simp[intOf];omega
   ·have hz:(v != 0)=true:=bne_iff_ne.2 hv0
    go_wp2_with (first|(go_at_call 73;go_must (with_reducible refine HC.out.mono ?_);go_must (rintro e w3 ⟨rfl,hb3⟩);have HB3:=am (HB2.out.trans (hb3.mono HB2.out.size));clear hb3))
    go_ret;exact⟨by rw[←HD.out,HFD.out,if_neg hv0];rfl,HB3.out⟩
  ·obtain rfl:k=n:=by omega
   have d1:decide ((k:Int)<(k:Int))=false:=decide_eq_false (by omega)
   go_wp2_with (fail)
   go_ret;refine⟨?_,HB.out⟩;rw[←HD.out,List.drop_eq_nil_of_le (by rw[←HL.out];exact Nat.le_refl _)];rfl
theorem firstSts_calls {Mt:Nat→Prop} {w:World} {A:Option Addr} {n c:Nat} {ss:List SH} {l:List (List StC)} (hr:Rd kH Mt w ⟨A,n,c⟩ ss) (hlen:ss.length=l.length) (hn:n≤1000000) (q:Nat) (f:List StC→Int)
  (hf:∀W,Below w.heap.size w W→∀(i:Nat) (s:SH) (x:List StC),ss[i]?=some s→l[i]?=some x→Calls Tryz.prog 71 #[.slice s.A s.n s.c,.pointer (some ⟨q,0,none⟩)] W fun e w'=>e= .returned (.int .i64 (f x))∧Below W.heap.size W w'):
  Calls Tryz.prog 70 #[.slice A n c,.func (.func 71) #[] #[.pointer (some ⟨q,0,none⟩)]] w fun e w'=>e= .returned (.int .i64 (fst1 f l))∧Below w.heap.size w w':=by
 have hl:n=ss.length:=hr.len;have HR:=am hr;have HF:=am hf;have HL:=am hl;have HLN:=am hlen;clear hr hf hl hlen;go_enter Tryz.func70,Tryz.ntmps70
 go_wp2_with (fail)
 go_loopw [10] (fun i wr=>∃k:Nat,k≤n∧i= .int .i64 k∧Aside0 (fst1 f (l.drop k)=fst1 f l)∧Aside0 (Below w.heap.size w wr)) (fun i _=>n-(intOf i).toNat)
 case atStart=>exact⟨0,Nat.zero_le _,rfl,⟨by rw[List.drop_zero]⟩,⟨Below.refl _ _⟩⟩
 case round=>
  obtain⟨k,hk,rfl,HD,HB⟩:=hrel;by_cases hlt:k<n
  ·have d1:decide ((k:Int)<(n:Int))=true:=decide_eq_true (by omega);have d1':decide (k<n)=true:=decide_eq_true hlt;obtain⟨ad,x,rfl,⟨h2,hx⟩,p0⟩:=hd_cells ((HR.out.below HB.out).here) k hlt;have h3:k<l.length:=by have:=HLN.out;omega
   have hfd:=fst1_drop f (List.getElem?_eq_getElem h3);obtain⟨v,hv⟩:∃v,f l[k]=v:=⟨_,rfl⟩;rw[hv]at hfd;have HC:=am (hv▸HF.out wr HB.out k x l[k] (by rw[List.getElem?_eq_getElem h2,hx]) (List.getElem?_eq_getElem h3));have HFD:=am hfd;have m0:(0:Int)≤(k:Int):=by omega
   have m1:(k:Int)<(n:Nat):=by omega
   clear hx hfd h2 hv h3;obtain⟨xA,xn,xc⟩:=x;simp only at p0 HC;by_cases hv0:v=0
   ·subst hv0
    go_wp2_with (first|(go_at_call 71;go_must (with_reducible refine HC.out.mono ?_);go_must (rintro e w3 ⟨rfl,hb3⟩);have HB3:=am (HB.out.trans (hb3.mono HB.out.size));clear hb3))
    go_roundw
    ·exact⟨k+1,by omega,by go_num,⟨by rw[←HD.out,HFD.out];simp⟩,HB3⟩
    ·simp[intOf];omega
   ·have hz:(v != 0)=true:=bne_iff_ne.2 hv0
    go_wp2_with (first|(go_at_call 71;go_must (with_reducible refine HC.out.mono ?_);go_must (rintro e w3 ⟨rfl,hb3⟩);have HB3:=am (HB.out.trans (hb3.mono HB.out.size));clear hb3))
    go_ret;exact⟨by rw[←HD.out,HFD.out,if_neg hv0];rfl,HB3.out⟩
  ·obtain rfl:k=n:=by omega
   have d1:decide ((k:Int)<(k:Int))=false:=decide_eq_false (by omega)
   go_wp2_with (fail)
   go_ret;refine⟨?_,HB.out⟩;rw[←HD.out,List.drop_eq_nil_of_le (by have:=HL.out;have:=HLN.out;omega)];rfl
theorem firstOps_calls {Mt:Nat→Prop} {w:World} {A:Option Addr} {n c:Nat} {ss:List SH} {l:List (List OpC)} (hr:Rd kH Mt w ⟨A,n,c⟩ ss) (hlen:ss.length=l.length) (hn:n≤1000000) (q:Nat) (f:List OpC→Int)
  (hf:∀W,Below w.heap.size w W→∀(i:Nat) (s:SH) (x:List OpC),ss[i]?=some s→l[i]?=some x→Calls Tryz.prog 68 #[.slice s.A s.n s.c,.pointer (some ⟨q,0,none⟩)] W fun e w'=>e= .returned (.int .i64 (f x))∧Below W.heap.size W w'):
  Calls Tryz.prog 67 #[.slice A n c,.func (.func 68) #[] #[.pointer (some ⟨q,0,none⟩)]] w fun e w'=>e= .returned (.int .i64 (fst1 f l))∧Below w.heap.size w w':=by
 have hl:n=ss.length:=hr.len;have HR:=am hr;have HF:=am hf;have HL:=am hl;have HLN:=am hlen;clear hr hf hl hlen;go_enter Tryz.func67,Tryz.ntmps67
 go_wp2_with (fail)
 go_loopw [10] (fun i wr=>∃k:Nat,k≤n∧i= .int .i64 k∧Aside0 (fst1 f (l.drop k)=fst1 f l)∧Aside0 (Below w.heap.size w wr)) (fun i _=>n-(intOf i).toNat)
 case atStart=>exact⟨0,Nat.zero_le _,rfl,⟨by rw[List.drop_zero]⟩,⟨Below.refl _ _⟩⟩
 case round=>
  obtain⟨k,hk,rfl,HD,HB⟩:=hrel;by_cases hlt:k<n
  ·have d1:decide ((k:Int)<(n:Int))=true:=decide_eq_true (by omega);have d1':decide (k<n)=true:=decide_eq_true hlt;obtain⟨ad,x,rfl,⟨h2,hx⟩,p0⟩:=hd_cells ((HR.out.below HB.out).here) k hlt;have h3:k<l.length:=by have:=HLN.out;omega
   have hfd:=fst1_drop f (List.getElem?_eq_getElem h3);obtain⟨v,hv⟩:∃v,f l[k]=v:=⟨_,rfl⟩;rw[hv]at hfd;have HC:=am (hv▸HF.out wr HB.out k x l[k] (by rw[List.getElem?_eq_getElem h2,hx]) (List.getElem?_eq_getElem h3));have HFD:=am hfd;have m0:(0:Int)≤(k:Int):=by omega
   have m1:(k:Int)<(n:Nat):=by omega
   clear hx hfd h2 hv h3;obtain⟨xA,xn,xc⟩:=x;simp only at p0 HC;by_cases hv0:v=0
   ·subst hv0
    go_wp2_with (first|(go_at_call 68;go_must (with_reducible refine HC.out.mono ?_);go_must (rintro e w3 ⟨rfl,hb3⟩);have HB3:=am (HB.out.trans (hb3.mono HB.out.size));clear hb3))
    go_roundw
    ·exact⟨k+1,by omega,by go_num,⟨by rw[←HD.out,HFD.out];simp⟩,HB3⟩
    ·simp[intOf];omega
   ·have hz:(v != 0)=true:=bne_iff_ne.2 hv0
    go_wp2_with (first|(go_at_call 68;go_must (with_reducible refine HC.out.mono ?_);go_must (rintro e w3 ⟨rfl,hb3⟩);have HB3:=am (HB.out.trans (hb3.mono HB.out.size));clear hb3))
    go_ret;exact⟨by rw[←HD.out,HFD.out,if_neg hv0];rfl,HB3.out⟩
  ·obtain rfl:k=n:=by omega
   have d1:decide ((k:Int)<(k:Int))=false:=decide_eq_false (by omega)
   go_wp2_with (fail)
   go_ret;refine⟨?_,HB.out⟩;rw[←HD.out,List.drop_eq_nil_of_le (by have:=HL.out;have:=HLN.out;omega)];rfl
abbrev TCc:TypeId:=97
def CkBox (w:World) (q:Nat) (c:SCf):Prop:=w.heap[q]?=some (.cells #[.slice c.lps.A c.lps.n c.lps.c,.slice c.pgs.A c.pgs.n c.pgs.c,.int .i64 c.la,.int .i64 c.en,.int .i64 c.cp] TCc (0,0))
theorem CkBox.at_ {w w':World} {q:Nat} {c:SCf} (h:CkBox w q c) (hb:Below w.heap.size w w'):w'.cell? ⟨q,0,none⟩=some (.slice c.lps.A c.lps.n c.lps.c)∧w'.cell? ⟨q,1,none⟩=some (.slice c.pgs.A c.pgs.n c.pgs.c)∧w'.cell? ⟨q,2,none⟩=some (.int .i64 c.la)∧w'.cell? ⟨q,3,none⟩=some (.int .i64 c.en)∧w'.cell? ⟨q,4,none⟩=some (.int .i64 c.cp):=by
 have h1:=box_more hb h;refine⟨?_,?_,?_,?_,?_⟩<;>simp[World.cell?,h1]
theorem start_calls1 {w:World} {q:Nat} {c:SCf} (h:CkBox w q c) (x:StC) (hp:c.pgs.n≤1000000):Calls Tryz.prog 73 #[.agg #[.int .i64 x.pg,.int .i64 x.t],.pointer (some ⟨q,0,none⟩)] w fun e w'=>e= .returned (.int .i64 (stc c.pgs.n x))∧Below w.heap.size w w':=by
 obtain⟨xp,xt⟩:=x;obtain⟨⟨lA,ln,lc⟩,⟨pA,pn,pc⟩,la,en,cp⟩:=c;have hq:=blk_lt h;have hb1:=below_alloc (Below.refl w.heap.size w) (.cells #[.int .i64 xp,.int .i64 xt] TSt2);obtain⟨w1,hw1⟩:∃w1,w.alloc (.cells #[.int .i64 xp,.int .i64 xt] TSt2)=w1:=⟨_,rfl⟩;have hk1:w1.heap[w.heap.size]?=some (.cells #[.int .i64 xp,.int .i64 xt] TSt2 (0,0)):=by rw[←hw1];exact World.alloc_heap_new _ _
 rw[hw1]at hb1;obtain⟨c0,c1,c2,c3,c4⟩:=CkBox.at_ h hb1;have z0:w1.cell? ⟨w.heap.size,0,none⟩=some (.int .i64 xp):=by simp[World.cell?,hk1]
 simp only at c0 c1 c2 c3 c4 hp;have wP:=IntWalk.i64_in ((pn:Int)-1) (by omega);obtain⟨b1,hb1'⟩:∃b,wi xp 0 ((pn:Int)-1)=b:=⟨_,rfl⟩;obtain⟨b2,hb2'⟩:∃b,wi xt 0 1152921504606846976=b:=⟨_,rfl⟩;have H1:=am (fun W=>hb1'▸within_calls xp 0 ((pn:Int)-1) W);have H2:=am (fun W=>hb2'▸within_calls xt 0 1152921504606846976 W);have H3:=am (fun W=>verdict_calls b2 11 W);have HB1:=am hb1;have HK1:=am hk1;unfold stc;simp only;rw[hb1',hb2'];clear hb1 hb1' hb2' hq h hk1 hp;cases b1
 ·go_enter Tryz.func73,Tryz.ntmps73;go_upto_region 1 with (fail)
  clear hw1
  go_wp2_with (first|(go_at_call 65;go_must (with_reducible refine(H1.out w1).mono ?_);go_must (rintro e w2 ⟨rfl,hb2⟩);have HB2:=am (HB1.out.trans (hb2.mono HB1.out.size));clear hb2))
  go_ret;exact⟨rfl,HB2.out⟩
 ·go_enter Tryz.func73,Tryz.ntmps73;go_upto_region 1 with (fail)
  clear hw1
  go_wp2_with (first
   |(go_at_call 65;first
    |((with_reducible refine(H1.out w1).mono ?_);go_must (rintro e w2 ⟨rfl,hb2⟩);go_must (have y1:w2.cell? ⟨w.heap.size,1,none⟩=some (.int .i64 xt):=by simp[World.cell?,box_more hb2 HK1.out]);have HB2:=am (HB1.out.trans (hb2.mono HB1.out.size));clear hb2)
    |((with_reducible refine(H2.out w2).mono ?_);go_must (rintro e w3 ⟨rfl,hb3⟩);have HB3:=am (HB2.out.trans (hb3.mono HB2.out.size));clear hb3))
   |(go_at_call 66;go_must (with_reducible refine(H3.out w3).mono ?_);go_must (rintro e w4 ⟨rfl,hb4⟩);have HB4:=am (HB3.out.trans (hb4.mono HB3.out.size));clear hb4))
  go_ret;exact⟨rfl,HB4.out⟩
theorem starts1_calls {Mt:Nat→Prop} {w:World} {q:Nat} {c:SCf} (h:CkBox w q c) {s:SH} {x:List StC} (hr:Rd kSt Mt w s x) (hn:s.n≤1000000) (hp:c.pgs.n≤1000000):Calls Tryz.prog 71 #[.slice s.A s.n s.c,.pointer (some ⟨q,0,none⟩)] w fun e w'=>e= .returned (.int .i64 (fst1 (stc c.pgs.n) x))∧Below w.heap.size w w':=by
 obtain⟨sA,sn,sc⟩:=s;have HC:=am (show Calls Tryz.prog 72 #[.slice sA sn sc,.func (.func 73) #[] #[.pointer (some ⟨q,0,none⟩)]] w (fun e w'=>e= .returned (.int .i64 (fst1 (stc c.pgs.n) x))∧Below w.heap.size w w')from
  firstSt_calls hr hn q _ (fun W hb y _=>start_calls1 (box_more hb h) y hp))
 clear hr h;go_enter Tryz.func71,Tryz.ntmps71
 go_wp2_with (first|(go_at_call 72;go_must (with_reducible refine HC.out.mono ?_);go_must (rintro e w2 ⟨rfl,hb2⟩);have HB2:=am hb2;clear hb2))
 go_ret;exact⟨rfl,HB2.out⟩
theorem starts_calls {Mt:Nat→Prop} {w:World} (c:SCf) {cf:Cf} (hc:CfAt Mt w c cf) (h1:cf.lps.length≤1000) (h2:cf.pgs.length≤1000) (h3:∀l∈cf.lps,l.length≤1000):
  Calls Tryz.prog 47 #[c.v] w fun e w'=>e= .returned (.int .i64 (fst1 (fst1 (stc cf.pgs.length)) cf.lps))∧Below w.heap.size w w':=by
 obtain⟨w1,hw1⟩:∃w1,w.alloc (.cells #[.slice c.lps.A c.lps.n c.lps.c,.slice c.pgs.A c.pgs.n c.pgs.c,.int .i64 c.la,.int .i64 c.en,.int .i64 c.cp] TCc)=w1:=⟨_,rfl⟩;have hb1:Below w.heap.size w w1:=hw1▸below_alloc (Below.refl _ _) _;have hk1:CkBox w1 w.heap.size c:=by rw[←hw1];exact World.alloc_heap_new _ _
 have hpn:c.pgs.n=cf.pgs.length:=by
  obtain⟨tt,q1,q2⟩:=hc.pgs;have:=q1.len;have:=q2.len;omega
 obtain⟨c0,_⟩:=CkBox.at_ hk1 (Below.refl _ _);obtain⟨ss,p1,p2⟩:=(hc.keep (Keep.of_below hb1)).lps;have HC:=am (show Calls Tryz.prog 70 #[.slice c.lps.A c.lps.n c.lps.c,.func (.func 71) #[] #[.pointer (some ⟨w.heap.size,0,none⟩)]] w1 (fun e w'=>e= .returned (.int .i64 (fst1 (fst1 (stc cf.pgs.length)) cf.lps))∧Below w1.heap.size w1 w')from
  firstSts_calls p1 p2.len (show c.lps.n≤1000000 by have h4:c.lps.n=ss.length:=p1.len;have:=p2.len;omega) w.heap.size _ (fun W hb i s x hi hx=>by
   rw[←hpn];obtain⟨i1,e1⟩:=List.getElem?_eq_some_iff.1 hi;obtain⟨i2,e2⟩:=List.getElem?_eq_some_iff.1 hx;have hrx:=(p2.get i i1 i2).below hb;rw[e1,e2]at hrx;exact starts1_calls (box_more hb hk1) hrx (by have h4:=h3 x (List.mem_of_getElem? hx);have h5:s.n=x.length:=hrx.len;omega) (by omega)))
 have HB1:=am hb1;clear hc hk1 p1 p2 hb1 hpn;simp only[SCf.v];go_enter Tryz.func47,Tryz.ntmps47;go_upto_region 1 with (fail)
 clear hw1
 go_wp2_with (first|(go_at_call 70;go_must (with_reducible refine HC.out.mono ?_);go_must (rintro e w2 ⟨rfl,hb2⟩);have HB2:=am (HB1.out.trans (hb2.mono HB1.out.size));clear hb2))
 go_ret;exact⟨rfl,HB2.out⟩
theorem lookahead_calls (w:World) (c:SCf):Calls Tryz.prog 45 #[c.v] w fun e w'=>e= .returned (.int .i64 (vd (decide (1≤c.la)) 20))∧Below w.heap.size w w':=by
 obtain⟨w1,hw1⟩:∃w1,w.alloc (.cells #[.slice c.lps.A c.lps.n c.lps.c,.slice c.pgs.A c.pgs.n c.pgs.c,.int .i64 c.la,.int .i64 c.en,.int .i64 c.cp] TCc)=w1:=⟨_,rfl⟩;have hb1:Below w.heap.size w w1:=hw1▸below_alloc (Below.refl _ _) _;have hk1:CkBox w1 w.heap.size c:=by rw[←hw1];exact World.alloc_heap_new _ _
 obtain⟨_,_,c2,_,_⟩:=CkBox.at_ hk1 (Below.refl _ _);have HB1:=am hb1;have HC:=am (verdict_calls (decide (1≤c.la)) 20 w1);clear hb1 hk1;simp only[SCf.v];go_enter Tryz.func45,Tryz.ntmps45;go_upto_region 1 with (fail)
 clear hw1
 go_wp2_with (first|(go_at_call 66;go_must (with_reducible refine HC.out.mono ?_);go_must (rintro e w2 ⟨rfl,hb2⟩);have HB2:=am (HB1.out.trans (hb2.mono HB1.out.size));clear hb2))
 go_ret;exact⟨rfl,HB2.out⟩
abbrev fvs (n P N la:Int):Array Value:= #[.func (.func 96) #[ckV n P N la] #[],.func (.func 97) #[ckV n P N la] #[],.func (.func 98) #[ckV n P N la] #[],.func (.func 99) #[ckV n P N la] #[]]
abbrev TFop:TypeId:=155
def rls (n P N la:Int):List (OpC→Int):=[opC,opO n P,opT N,opE la]
theorem pck_eq (P N la:Int) (p:List OpC):pck P N la p=if wi p.length 1 16 then fst1 (fun r=>fst1 r p) (rls p.length P N la)else 22:=rfl
theorem rule_at (n P N la:Int) (hn:0≤n∧n≤1000) (hP:0≤P∧P≤1000) (k:Nat) (hk:k<4):∃(F:FuncId) (r:OpC→Int),(rls n P N la)[k]?=some r∧(fvs n P N la)[k]?=some (.func (.func F) #[ckV n P N la] #[])∧(∀(args:Array Value) (w:World),(callFunc F args).run Tryz.prog w= .ok (.enter F args) w)∧∀(x:OpC) (W:World),Calls Tryz.prog F #[ckV n P N la,x.v] W fun e w'=>e= .returned (.int .i64 (r x))∧Below W.heap.size W w':=by
 have h:k=0∨k=1∨k=2∨k=3:=by omega
 rcases h with rfl|rfl|rfl|rfl
 ·exact⟨96,opC,rfl,rfl,fun args w=>enters_ Tryz.func96 (by kernel_rfl) (by kernel_rfl) args w,fun x W=>code_calls n P N la x W⟩
 ·exact⟨97,opO n P,rfl,rfl,fun args w=>enters_ Tryz.func97 (by kernel_rfl) (by kernel_rfl) args w,fun x W=>operands_calls n P N la x W hn hP⟩
 ·exact⟨98,opT N,rfl,rfl,fun args w=>enters_ Tryz.func98 (by kernel_rfl) (by kernel_rfl) args w,fun x W=>target_calls n P N la x W⟩
 ·exact⟨99,opE la,rfl,rfl,fun args w=>enters_ Tryz.func99 (by kernel_rfl) (by kernel_rfl) args w,fun x W=>early_calls n P N la x W⟩
theorem pcheck_calls {Mt:Nat→Prop} {w:World} {A:Option Addr} {n c:Nat} {p:List OpC} (hr:Rd kOp Mt w ⟨A,n,c⟩ p) (hn:n≤1000) (P N la:Int) (hP:0≤P∧P≤1000):
  Calls Tryz.prog 69 #[.slice A n c,.int .i64 P,.int .i64 N,.int .i64 la] w fun e w'=>e= .returned (.int .i64 (pck P N la p))∧Below w.heap.size w w':=by
 have hl:n=p.length:=hr.len;obtain⟨R,hR⟩:∃R,pck P N la p=R:=⟨_,rfl⟩;rw[hR];rw[pck_eq]at hR;obtain⟨b1,hb1⟩:∃b,wi (n:Int) 1 16=b:=⟨_,rfl⟩;rw[←hl,hb1]at hR;have H1:=am (hb1▸pwithin_calls n 1 16 w);have HR:=am hr;have HL:=am hl;have HRS:=am hR;clear hr hl hR hb1;cases b1
 ·go_enter Tryz.func69,Tryz.ntmps69
  go_wp2_with (first|(go_at_call 95;go_must (with_reducible refine H1.out.mono ?_);go_must (rintro e w2 ⟨rfl,hb2⟩);have HB2:=am hb2;clear hb2))
  go_ret;exact⟨by rw[←HRS.out];rfl,HB2.out⟩
 ·go_enter Tryz.func69,Tryz.ntmps69;go_upto_region 3 with (first|(go_at_call 95;go_must (with_reducible refine H1.out.mono ?_);go_must (rintro e w2 ⟨rfl,hb2⟩);have HB2:=am hb2;clear hb2))
  obtain⟨w3,hw3⟩:∃w3,(w2.alloc (.cells #[.int .i64 n,.int .i64 P,.int .i64 N,.int .i64 la] TCk)).alloc (.cells (fvs n P N la) TFop)=w3:=⟨_,rfl⟩;obtain⟨hb3,_,hg3⟩:=box2 hw3;obtain⟨g,hg⟩:∃g,w2.heap.size+1=g:=⟨_,rfl⟩;rw[hg]at hg3;have HB3:=am (HB2.out.trans (hb3.mono HB2.out.size));have HG3:=am hg3;have HW3:=am hw3;have HG:=am hg;clear hb3 hg3 hw3 hg;go_upto_region 5 with (fail)
  rw[HW3.out,HG.out]
  go_loopw [35] (fun i wr=>∃k:Nat,k≤4∧i= .int .i64 k∧Aside0 (fst1 (fun r=>fst1 r p) ((rls n P N la).drop k)=R)∧Aside0 (Below w.heap.size w wr)∧Aside0 (wr.heap[g]?=some (.cells (fvs n P N la) TFop (0,0)))) (fun i _=>4-(intOf i).toNat)
  case atStart=>exact⟨0,Nat.zero_le _,rfl,⟨HRS.out⟩,HB3,HG3⟩
  case round=>
   obtain⟨k,hk,rfl,HD,HB,HGK⟩:=hrel;by_cases hlt:k<4
   ·have d1:decide ((k:Int)<4)=true:=decide_eq_true (by omega);have d1':decide (k<4)=true:=decide_eq_true hlt;obtain⟨F,r,hr1,hfv,heg,hrc⟩:=rule_at n P N la ⟨by omega,by omega⟩ hP k hlt;have hfd:=fst1_drop (fun r=>fst1 r p) hr1;rw[HD.out]at hfd;have p0:wr.cell? ⟨g,k,none⟩=some (.func (.func F) #[ckV n P N la] #[]):=by simp only[World.cell?,HGK.out];exact hfv
    have HRC:=am hrc;have HFD:=am hfd;have m0:(0:Int)≤(k:Int):=by omega
    have m1:(k:Int)<4:=by omega
    clear hr1 hfv hrc hfd;go_upto_region 8 with (fail)
    clear p0
    go_loopw [41] (fun i wi=>∃j:Nat,j≤n∧i= .int .i64 j∧Aside0 (fst1 r (p.drop j)=fst1 r p)∧Aside0 (Below w.heap.size w wi)∧Aside0 (wi.heap[g]?=some (.cells (fvs n P N la) TFop (0,0)))) (fun i _=>n-(intOf i).toNat)
    case atStart=>exact⟨0,Nat.zero_le _,rfl,⟨by rw[List.drop_zero]⟩,HB,HGK⟩
    case round=>
     obtain⟨j,hj,rfl,HDJ,HBJ,HGJ⟩:=hrel;by_cases hjn:j<n
     ·have e1:decide ((j:Int)<(n:Int))=true:=decide_eq_true (by omega);have e1':decide (j<n)=true:=decide_eq_true hjn;obtain⟨ad,o,rfl,⟨h2,hx⟩,p0,p1,p2,p3⟩:=op_cells ((HR.out.below HBJ.out).here) j hjn;have hfj:=fst1_drop r (show p[j]?=some o by rw[List.getElem?_eq_getElem h2,hx]);obtain⟨v,hv⟩:∃v,r o=v:=⟨_,rfl⟩;rw[hv,HDJ.out]at hfj;obtain⟨oc,oa,ob,od⟩:=o;obtain⟨w4,hw4⟩:∃w4,wr.alloc (.cells #[.int .i64 oc,.int .i64 oa,.int .i64 ob,.int .i64 od] TOp)=w4:=⟨_,rfl⟩;have hb4:Below wr.heap.size wr w4:=hw4▸below_alloc (Below.refl _ _) _
      have hq4:w4.heap[wr.heap.size]?=some (.cells #[.int .i64 oc,.int .i64 oa,.int .i64 ob,.int .i64 od] TOp (0,0)):=by rw[←hw4];exact World.alloc_heap_new _ _
      have HG4:=am (box_more hb4 HGJ.out);have HB4:=am (HBJ.out.trans (hb4.mono HBJ.out.size));have HC:=am (hv▸HRC.out ⟨oc,oa,ob,od⟩ w4);have HFJ:=am hfj;have HW4:=am hw4;obtain⟨z0,z1,z2,z3⟩:=op2 hq4;simp only[OpC.v]at p0 p1 p2 p3 HC;have n0:(0:Int)≤(j:Int):=by omega
      have n1:(j:Int)<(n:Nat):=by omega
      clear hx hfj hv hw4 hq4 hb4 h2;go_upto_region 10 with (fail)
      rw[HW4.out];clear p0 p1 p2 p3;by_cases hv0:v=0
      ·subst hv0
       go_wp2_with (first|((with_reducible refine HC.out.mono ?_);go_must (rintro e w5 ⟨rfl,hb5⟩);go_must (have HB5:=am (HB4.out.trans (hb5.mono HB4.out.size));have HG5:=am (box_more hb5 HG4.out));clear hb5))
       go_roundw
       ·exact⟨j+1,by omega,by go_num,⟨by have:=HFJ.out;rw[if_pos trivial]at this;exact this.symm⟩,HB5,HG5⟩
       ·simp[intOf];omega
      ·have hz:(v != 0)=true:=bne_iff_ne.2 hv0;have HV:=am (show fst1 r p=v from by have:=HFJ.out;rw[if_neg hv0]at this;exact this);have HRV:=am (show R=v from by have:=HFD.out;rw[HV.out,if_neg hv0]at this;exact this)
       go_wp2_with (first|((with_reducible refine HC.out.mono ?_);go_must (rintro e w5 ⟨rfl,hb5⟩);go_must (have HB5:=am (HB4.out.trans (hb5.mono HB4.out.size)));clear hb5))
       go_ret;exact⟨by rw[HRV.out];rfl,HB5.out⟩
     ·obtain rfl:j=n:=by omega
      have e1:decide ((j:Int)<(j:Int))=false:=decide_eq_false (by omega);have HZ:=am (show fst1 r p=0 by rw[←HDJ.out,List.drop_eq_nil_of_le (by have:=HL.out;omega)];rfl);have HD2:=am (show fst1 (fun r=>fst1 r p) ((rls j P N la).drop (k+1))=R by have:=HFD.out;rw[HZ.out,if_pos rfl]at this;exact this.symm)
      go_wp2_with (fail)
      go_roundw
      ·exact⟨k+1,by omega,by go_num,HD2,HBJ,HGJ⟩
      ·simp[intOf];omega
   ·obtain rfl:k=4:=by omega
    have d1:decide (((4:Nat):Int)<4)=false:=by decide
    go_wp2_with (fail)
    go_ret;exact⟨by rw[←HD.out];rfl,HB.out⟩
theorem programs1_calls {Mt:Nat→Prop} {w:World} {q:Nat} {c:SCf} (h:CkBox w q c) {s:SH} {p:List OpC} (hr:Rd kOp Mt w s p) (hn:s.n≤1000) (hp:c.pgs.n≤1000):Calls Tryz.prog 68 #[.slice s.A s.n s.c,.pointer (some ⟨q,0,none⟩)] w fun e w'=>e= .returned (.int .i64 (pck c.pgs.n c.lps.n c.la p))∧Below w.heap.size w w':=by
 obtain⟨sA,sn,sc⟩:=s;obtain⟨c0,c1,c2,_,_⟩:=CkBox.at_ h (Below.refl _ _);have HC:=am (pcheck_calls hr hn c.pgs.n c.lps.n c.la ⟨by omega,by omega⟩);clear hr h;go_enter Tryz.func68,Tryz.ntmps68
 go_wp2_with (first|(go_at_call 69;go_must (with_reducible refine HC.out.mono ?_);go_must (rintro e w2 ⟨rfl,hb2⟩);have HB2:=am hb2;clear hb2))
 go_ret;exact⟨rfl,HB2.out⟩
structure CfSm (cf:Cf):Prop where
 l:cf.lps.length≤1000
 p:cf.pgs.length≤1000
 ll:∀l∈cf.lps,l.length≤1000
 pl:∀p∈cf.pgs,p.length≤1000
theorem CfAt.lens {Mt:Nat→Prop} {w:World} {c:SCf} {cf:Cf} (hc:CfAt Mt w c cf):c.lps.n=cf.lps.length∧c.pgs.n=cf.pgs.length:=by
 obtain⟨tt,q1,q2⟩:=hc.pgs;obtain⟨ss,p1,p2⟩:=hc.lps;have h1:=q1.len;have h2:=q2.len;have h3:=p1.len;have h4:=p2.len;omega
theorem programs_calls {Mt:Nat→Prop} {w:World} (c:SCf) {cf:Cf} (hc:CfAt Mt w c cf) (hs:CfSm cf):
  Calls Tryz.prog 46 #[c.v] w fun e w'=>e= .returned (.int .i64 (fst1 (pck cf.pgs.length cf.lps.length cf.la) cf.pgs))∧Below w.heap.size w w':=by
 obtain⟨w1,hw1⟩:∃w1,w.alloc (.cells #[.slice c.lps.A c.lps.n c.lps.c,.slice c.pgs.A c.pgs.n c.pgs.c,.int .i64 c.la,.int .i64 c.en,.int .i64 c.cp] TCc)=w1:=⟨_,rfl⟩;have hb1:Below w.heap.size w w1:=hw1▸below_alloc (Below.refl _ _) _;have hk1:CkBox w1 w.heap.size c:=by rw[←hw1];exact World.alloc_heap_new _ _
 obtain⟨hln,hpn⟩:=hc.lens;have hla:=hc.la;obtain⟨_,c1,_⟩:=CkBox.at_ hk1 (Below.refl _ _);obtain⟨ss,p1,p2⟩:=(hc.keep (Keep.of_below hb1)).pgs;have hs2:=hs.p;have HC:=am (show Calls Tryz.prog 67 #[.slice c.pgs.A c.pgs.n c.pgs.c,.func (.func 68) #[] #[.pointer (some ⟨w.heap.size,0,none⟩)]] w1 (fun e w'=>e= .returned (.int .i64 (fst1 (pck cf.pgs.length cf.lps.length cf.la) cf.pgs))∧Below w1.heap.size w1 w')from
  firstOps_calls p1 p2.len (show c.pgs.n≤1000000 by omega) w.heap.size _ (fun W hb i s x hi hx=>by
   rw[←hpn,←hln,←hla];obtain⟨i1,e1⟩:=List.getElem?_eq_some_iff.1 hi;obtain⟨i2,e2⟩:=List.getElem?_eq_some_iff.1 hx;have hrx:=(p2.get i i1 i2).below hb;rw[e1,e2]at hrx;exact programs1_calls (box_more hb hk1) hrx (by have h4:=hs.pl x (List.mem_of_getElem? hx);have h5:s.n=x.length:=hrx.len;omega) (by omega)))
 have HB1:=am hb1;clear hc hk1 p1 p2 hb1 hpn hln hla hs hs2;simp only[SCf.v];go_enter Tryz.func46,Tryz.ntmps46;go_upto_region 1 with (fail)
 clear hw1
 go_wp2_with (first|(go_at_call 67;go_must (with_reducible refine HC.out.mono ?_);go_must (rintro e w2 ⟨rfl,hb2⟩);have HB2:=am (HB1.out.trans (hb2.mono HB1.out.size));clear hb2))
 go_ret;exact⟨rfl,HB2.out⟩
theorem all_take_succ {α:Type} (f:α→Bool) (l:List α) (k:Nat) (h:k<l.length):(l.take (k+1)).all f=((l.take k).all f&&f l[k]):=by
 rw[List.take_succ_eq_append_getElem h,List.all_append];simp
theorem sizes_calls {Mt:Nat→Prop} {w:World} (c:SCf) {cf:Cf} (hc:CfAt Mt w c cf) (hs:CfSm cf):
  Calls Tryz.prog 44 #[c.v] w fun e w'=>e= .returned (.int .i64 (vd (szs cf) 1))∧Below w.heap.size w w':=by
 obtain⟨w1,hw1⟩:∃w1,w.alloc (.cells #[.slice c.lps.A c.lps.n c.lps.c,.slice c.pgs.A c.pgs.n c.pgs.c,.int .i64 c.la,.int .i64 c.en,.int .i64 c.cp] TCc)=w1:=⟨_,rfl⟩;have hb1:Below w.heap.size w w1:=hw1▸below_alloc (Below.refl _ _) _;have hk1:CkBox w1 w.heap.size c:=by rw[←hw1];exact World.alloc_heap_new _ _
 obtain⟨hln,hpn⟩:=hc.lens;obtain⟨c0,c1,c2,c3,c4⟩:=CkBox.at_ hk1 (Below.refl _ _);obtain⟨ss,p1,p2⟩:=(hc.keep (Keep.of_below hb1)).lps;have hcp:=hc.cp;have hen:=hc.en;obtain⟨b1,hb1'⟩:∃b,wi (c.lps.n:Int) 1 8=b:=⟨_,rfl⟩;obtain⟨b2,hb2'⟩:∃b,decide ((c.pgs.n:Int)≤8)=b:=⟨_,rfl⟩;obtain⟨b3,hb3'⟩:∃b,wi c.cp 1 64=b:=⟨_,rfl⟩;obtain⟨b4,hb4'⟩:∃b,wi c.en 0 1152921504606846976=b:=⟨_,rfl⟩;have hsz:szs cf=(b1&&(b2&&(b3&&(b4&&cf.lps.all fun l=>decide ((l.length:Int)≤8))))):=by
  unfold szs;rw[←hln,←hpn,←hcp,←hen,hb1',hb2',hb3',hb4']
 have H1:=am (fun W=>hb1'▸within_calls c.lps.n 1 8 W);have H3:=am (fun W=>hb3'▸within_calls c.cp 1 64 W);have H4:=am (fun W=>hb4'▸within_calls c.en 0 1152921504606846976 W);have HBX:=am hk1;have HB1:=am hb1;have HSZ:=am hsz;have HP1:=am p1;have HP2:=am p2;have HL1:=am (show c.lps.n=ss.length from p1.len);have HL2:=am p2.len;have hs1:=hs.l;have hlb:c.lps.n≤1000:=by omega
 clear hc hk1 p1 p2 hb1 hpn hln hs hb1' hb3' hb4' hcp hen hsz hs1;obtain⟨⟨lA,ln,lc⟩,⟨pA,pn,pc⟩,la,en,cp⟩:=c;simp only[SCf.v]at*;go_enter Tryz.func44,Tryz.ntmps44;go_upto_region 1 with (fail)
 clear hw1
 go_cut [3] (fun v wx=>v= .bool (b1&&(b2&&(b3&&b4)))∧Aside0 (Below w1.heap.size w1 wx))
 case first=>
  cases b1<;>cases b2<;>cases b3<;>cases b4
  all_goals
   go_wp2_with (first|(go_at_call 65;first
    |((with_reducible refine(H1.out w1).mono ?_);go_must (rintro e w2 ⟨rfl,hbb⟩);go_must (obtain⟨d0,d1,d2,d3,d4⟩:=CkBox.at_ HBX.out hbb);have HB2:=am hbb;clear hbb)
    |((with_reducible refine(H3.out w2).mono ?_);go_must (rintro e w3 ⟨rfl,hbb⟩);go_must (have hbc:=HB2.out.trans (hbb.mono HB2.out.size));go_must (obtain⟨e0,e1,e2,e3,e4⟩:=CkBox.at_ HBX.out hbc);have HB3:=am hbc;clear hbb hbc)
    |((with_reducible refine(H4.out w3).mono ?_);go_must (rintro e w4 ⟨rfl,hbb⟩);go_must (have hbc:=HB3.out.trans (hbb.mono HB3.out.size));have HB4:=am hbc;clear hbb hbc)))
   go_meet;exact⟨rfl,by first|exact HB4|exact HB3|exact HB2⟩
 case rest=>
  obtain⟨rfl,HBC⟩:=hcut;obtain⟨d0,d1,d2,d3,d4⟩:=CkBox.at_ HBX.out HBC.out;obtain⟨B,hB⟩:∃B,(b1&&(b2&&(b3&&b4)))=B:=⟨_,rfl⟩;rw[hB];have HSZ2:=am (show szs cf=(B&&cf.lps.all fun l=>decide ((l.length:Int)≤8))by rw[HSZ.out,←hB];simp only[Bool.and_assoc]);clear hB
  go_wp2_with (fail)
  go_loopw [3,34] (fun v i wr=>∃k:Nat,k≤ln∧v= .bool (B&&(cf.lps.take k).all fun l=>decide ((l.length:Int)≤8))∧i= .int .i64 k∧Aside0 (Below w1.heap.size w1 wr)) (fun _ i _=>ln-(intOf i).toNat)
  case atStart=>exact⟨0,Nat.zero_le _,by simp,rfl,HBC⟩
  case round=>
   obtain⟨k,hk,rfl,rfl,HB⟩:=hrel;obtain⟨Bk,hBk⟩:∃Bk,(B&&(cf.lps.take k).all fun l=>decide ((l.length:Int)≤8))=Bk:=⟨_,rfl⟩;rw[hBk];have HBK:=am hBk;clear hBk;by_cases hlt:k<ln
   ·have e1:decide ((k:Int)<(ln:Int))=true:=decide_eq_true (by omega);have e1':decide (k<ln)=true:=decide_eq_true hlt;obtain⟨ad,x,rfl,⟨h2,hx⟩,p0⟩:=hd_cells ((HP1.out.below HB.out).here) k hlt;have h3:k<cf.lps.length:=by have:=HL1.out;have:=HL2.out;omega
    have hxn:x.n=cf.lps[k].length:=by
     have h4:Rd kSt Mt w1 ss[k] cf.lps[k]:=HP2.out.get k h2 h3;rw[hx]at h4;exact h4.len
    have HNX:=am (show(B&&(cf.lps.take (k+1)).all fun l=>decide ((l.length:Int)≤8))=(Bk&&decide ((x.n:Int)≤8))by
     rw[all_take_succ _ _ k h3,←Bool.and_assoc,HBK.out,hxn])
    have m0:(0:Int)≤(k:Int):=by omega
    have m1:(k:Int)<(ln:Nat):=by omega
    obtain⟨xA,xn,xc⟩:=x;simp only at p0 HNX;clear hx hxn h2 h3;cases Bk
    ·go_wp2_with (fail)
     go_roundw
     ·exact⟨k+1,by omega,by rw[HNX.out];rfl,by go_num,HB⟩
     ·simp[intOf];omega
    ·by_cases h8:(xn:Int)≤8
     ·have e8:decide ((xn:Int)≤8)=true:=decide_eq_true h8;have e8':decide (xn≤8)=true:=decide_eq_true (by omega)
      go_wp2_with (fail)
      go_roundw
      ·exact⟨k+1,by omega,by rw[HNX.out,e8];rfl,by go_num,HB⟩
      ·simp[intOf];omega
     ·have e8:decide ((xn:Int)≤8)=false:=decide_eq_false h8;have e8':decide (xn≤8)=false:=decide_eq_false (by omega)
      go_wp2_with (fail)
      go_roundw
      ·exact⟨k+1,by omega,by rw[HNX.out,e8];rfl,by go_num,HB⟩
      ·simp[intOf];omega
   ·obtain rfl:k=ln:=by omega
    have e1:decide ((k:Int)<(k:Int))=false:=decide_eq_false (by omega);have HV:=am (verdict_calls Bk 1 wr);have HE:=am (show szs cf=Bk by
     have h4:cf.lps.take k=cf.lps:=List.take_of_length_le (by have:=HL1.out;have:=HL2.out;omega);have h5:=HBK.out;rw[h4]at h5;rw[HSZ2.out,h5])
    go_wp2_with (first|(go_at_call 66;go_must (with_reducible refine HV.out.mono ?_);go_must (rintro e w4 ⟨rfl,hb4⟩);have HB4:=am (HB.out.trans (hb4.mono HB.out.size));clear hb4))
    go_ret;exact⟨by rw[HE.out];rfl,HB1.out.trans (HB4.out.mono HB1.out.size)⟩
theorem check1_calls {F:FuncId} {cv:Value} {v:Int} {w:World} (heg:∀(args:Array Value) (w:World),(callFunc F args).run Tryz.prog w= .ok (.enter F args) w) (hc:Calls Tryz.prog F #[cv] w fun e w'=>e= .returned (.int .i64 v)∧Below w.heap.size w w'):
  Calls Tryz.prog 49 #[.func (.func F) #[cv] #[]] w fun e w'=>e= .returned (.int .i64 v)∧Below w.heap.size w w':=by
 have HC:=am hc;clear hc;go_enter Tryz.func49,Tryz.ntmps49
 go_wp2_with (first|((with_reducible refine HC.out.mono ?_);go_must (rintro e w2 ⟨rfl,hb2⟩);have HB2:=am hb2;clear hb2))
 go_ret;exact⟨rfl,HB2.out⟩
abbrev gvs (cv:Value):Array Value:= #[.func (.func 44) #[cv] #[],.func (.func 45) #[cv] #[],.func (.func 46) #[cv] #[],.func (.func 47) #[cv] #[]]
def cks (cf:Cf):List Int:=[vd (szs cf) 1,vd (decide (1≤cf.la)) 20,fst1 (pck cf.pgs.length cf.lps.length cf.la) cf.pgs,fst1 (fst1 (stc cf.pgs.length)) cf.lps]
abbrev TFck:TypeId:=98
theorem check_at {Mt:Nat→Prop} {w:World} (c:SCf) {cf:Cf} (hc:CfAt Mt w c cf) (hs:CfSm cf) (k:Nat) (hk:k<4):∃(F:FuncId) (v:Int),(cks cf)[k]?=some v∧(gvs c.v)[k]?=some (.func (.func F) #[c.v] #[])∧(∀(args:Array Value) (w:World),(callFunc F args).run Tryz.prog w= .ok (.enter F args) w)∧∀(W:World),Below w.heap.size w W→Calls Tryz.prog F #[c.v] W fun e w'=>e= .returned (.int .i64 v)∧Below W.heap.size W w':=by
 have hkp:∀W,Below w.heap.size w W→CfAt Mt W c cf:=fun W hb=>hc.keep (Keep.of_below hb);have h:k=0∨k=1∨k=2∨k=3:=by omega
 rcases h with rfl|rfl|rfl|rfl
 ·exact⟨44,_,rfl,rfl,fun args w=>enters_ Tryz.func44 (by kernel_rfl) (by kernel_rfl) args w,fun W hb=>sizes_calls c (hkp W hb) hs⟩
 ·exact⟨45,_,rfl,rfl,fun args w=>enters_ Tryz.func45 (by kernel_rfl) (by kernel_rfl) args w,fun W hb=>hc.la▸lookahead_calls W c⟩
 ·exact⟨46,_,rfl,rfl,fun args w=>enters_ Tryz.func46 (by kernel_rfl) (by kernel_rfl) args w,fun W hb=>programs_calls c (hkp W hb) hs⟩
 ·exact⟨47,_,rfl,rfl,fun args w=>enters_ Tryz.func47 (by kernel_rfl) (by kernel_rfl) args w,fun W hb=>starts_calls c (hkp W hb) hs.l hs.p hs.ll⟩
theorem firstCk_calls {Mt:Nat→Prop} {w:World} (c:SCf) {cf:Cf} (hc:CfAt Mt w c cf) (hs:CfSm cf) {g:Nat} (hg:w.heap[g]?=some (.cells (gvs c.v) TFck (0,0))):
  Calls Tryz.prog 48 #[.slice (some ⟨g,0,none⟩) 4 4,.func (.func 49) #[] #[]] w fun e w'=>e= .returned (.int .i64 (chk cf))∧Below w.heap.size w w':=by
 have HC:=am hc;have HS:=am hs;have HG:=am hg;obtain⟨R,hR⟩:∃R,chk cf=R:=⟨_,rfl⟩;rw[hR];have HR:=am (show fst1 (fun f=>f) (cks cf)=R from hR);clear hc hs hg hR;go_enter Tryz.func48,Tryz.ntmps48
 go_wp2_with (fail)
 go_loopw [10] (fun i wr=>∃k:Nat,k≤4∧i= .int .i64 k∧Aside0 (fst1 (fun f=>f) ((cks cf).drop k)=R)∧Aside0 (Below w.heap.size w wr)) (fun i _=>4-(intOf i).toNat)
 case atStart=>exact⟨0,Nat.zero_le _,rfl,⟨by rw[List.drop_zero];exact HR.out⟩,⟨Below.refl _ _⟩⟩
 case round=>
  obtain⟨k,hk,rfl,HD,HB⟩:=hrel;by_cases hlt:k<4
  ·have d1:decide ((k:Int)<4)=true:=decide_eq_true (by omega);have d1':decide (k<4)=true:=decide_eq_true hlt;obtain⟨F,v,hv1,hfv,heg,hcall⟩:=check_at c HC.out HS.out k hlt;have hfd:=fst1_drop (fun f:Int=>f) hv1;rw[HD.out]at hfd;have p0:wr.cell? ⟨g,k,none⟩=some (.func (.func F) #[c.v] #[]):=by simp only[World.cell?,box_more HB.out HG.out];exact hfv
   have HCL:=am (check1_calls heg (hcall wr HB.out));have HFD:=am hfd;have m0:(0:Int)≤(k:Int):=by omega
   have m1:(k:Int)<4:=by omega
   clear hv1 hfv hcall hfd heg;by_cases hv0:v=0
   ·subst hv0
    go_wp2_with (first|(go_at_call 49;go_must (with_reducible refine HCL.out.mono ?_);go_must (rintro e w3 ⟨rfl,hb3⟩);have HB3:=am (HB.out.trans (hb3.mono HB.out.size));clear hb3))
    go_roundw
    ·exact⟨k+1,by omega,by go_num,⟨by have:=HFD.out;rw[if_pos trivial]at this;exact this.symm⟩,HB3⟩
    ·simp[intOf];omega
   ·have hz:(v != 0)=true:=bne_iff_ne.2 hv0
    go_wp2_with (first|(go_at_call 49;go_must (with_reducible refine HCL.out.mono ?_);go_must (rintro e w3 ⟨rfl,hb3⟩);have HB3:=am (HB.out.trans (hb3.mono HB.out.size));clear hb3))
    go_ret;exact⟨by rw[HFD.out,if_neg hv0];rfl,HB3.out⟩
  ·obtain rfl:k=4:=by omega
   have d1:decide (((4:Nat):Int)<4)=false:=by decide
   go_wp2_with (fail)
   go_ret;exact⟨by rw[←HD.out];rfl,HB.out⟩
theorem check_calls {Mt:Nat→Prop} {w:World} (c:SCf) {cf:Cf} (hc:CfAt Mt w c cf) (hs:CfSm cf):
  Calls Tryz.prog 27 #[c.v] w fun e w'=>e= .returned (.int .i64 (chk cf))∧Below w.heap.size w w':=by
 obtain⟨w1,hw1⟩:∃w1,(w.alloc (.cells #[.slice c.lps.A c.lps.n c.lps.c,.slice c.pgs.A c.pgs.n c.pgs.c,.int .i64 c.la,.int .i64 c.en,.int .i64 c.cp] 25)).alloc (.cells #[.slice c.lps.A c.lps.n c.lps.c,.slice c.pgs.A c.pgs.n c.pgs.c,.int .i64 c.la,.int .i64 c.en,.int .i64 c.cp] TCc)=w1:=⟨_,rfl⟩;obtain⟨w2,hw2⟩:∃w2,w1.alloc (.cells (gvs c.v) TFck)=w2:=⟨_,rfl⟩;have hb1:=(box2 hw1).1;have hsz:w1.heap.size=w.heap.size+1+1:=by rw[←hw1,World.size_alloc,World.size_alloc]
 have hb2:Below w1.heap.size w1 w2:=hw2▸below_alloc (Below.refl _ _) _;have hg:w2.heap[w.heap.size+1+1]?=some (.cells (gvs c.v) TFck (0,0)):=by rw[←hw2,←hsz];exact World.alloc_heap_new _ _
 have hbw:=hb1.trans (hb2.mono hb1.size);have HC:=am (firstCk_calls c (hc.keep (Keep.of_below hbw)) hs hg);have HB:=am hbw;have HW1:=am hw1;have HW2:=am hw2;clear hc hs hw1 hw2 hb1 hb2 hsz hg hbw;simp only[SCf.v]at HC HW2 ⊢;go_enter Tryz.func27,Tryz.ntmps27;go_upto_region 3 with (fail)
 rw[HW1.out,HW2.out]
 go_wp2_with (first|(go_at_call 48;go_must (with_reducible refine HC.out.mono ?_);go_must (rintro e w3 ⟨rfl,hb3⟩);have HB3:=am (HB.out.trans (hb3.mono HB.out.size));clear hb3))
 go_ret;exact⟨rfl,HB3.out⟩
end Go.Proofs.YtfnimdhghglanaaGreat.Hand
end
