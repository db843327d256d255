/- TopScheduleIndependent, part 10 of 27; no condition.  -/
import Derived.Test.YtfnimdhghglanaaGreatQsAI
import Derived.Sort.CutIn
import Derived.Maps.AppendAt
set_option maxRecDepth 100000
set_option maxHeartbeats 8000000
set_option linter.unusedVariables false
set_option linter.unusedSimpArgs false
section
namespace Go.Proofs.YtfnimdhghglanaaGreat.Hand
open Go.RowKit Go.Shelf Go.Proofs.YtfnimdhghglanaaGreatW PrintWords PrintLast PrintMore
attribute [local go_sem] max2_int min2_int max_two min_two max_three min_three max_four min_four
attribute [local go_sem] Oper.semAt_some
structure KeepO (Mt:Nat→Prop) (w w':World):Prop where
 keep:Keep Mt w w'
 os:w'.os=w.os
 tape:w'.tape=w.tape
 output:w'.output=w.output
theorem KeepO.of_below {Mt:Nat→Prop} {w w':World} (h:Below w.heap.size w w'):KeepO Mt w w':=⟨Keep.of_below h,h.os,h.tape,h.output⟩
theorem KeepO.trans {Mt:Nat→Prop} {w w' w2:World} (h:KeepO Mt w w') (k:KeepO Mt w' w2):KeepO Mt w w2:=⟨h.keep.trans k.keep,k.os.trans h.os,k.tape.trans h.tape,k.output.trans h.output⟩
theorem KeepO.below {Mt:Nat→Prop} {w w':World} {B:Nat} (h:KeepO Mt w w') (hB:B≤w.heap.size) (hm:∀k,k<B→¬Mt k):Below B w w':=⟨h.os,h.tape,h.output,h.keep.size,fun k hk=>h.keep.block k (by omega) (hm k hk)⟩
structure It (Mt:Nat→Prop) (wb:World) (qa qb:Nat) (la lb:List SE) (W:World):Prop where
 keep:Keep Mt wb W
 ex:∃ha hb:SH,W.cell? ⟨qa,0,none⟩=some (.slice ha.A ha.n ha.c)∧W.cell? ⟨qb,0,none⟩=some (.slice hb.A hb.n hb.c)∧Rd kE Mt wb ha la∧Rd kE Mt wb hb lb
 fa:W.frozen? ⟨qa,0,none⟩=false
 fb:W.frozen? ⟨qb,0,none⟩=false
def mergeL (cmp:SE→SE→Int) (la lb:List SE):List SE:=List.merge la lb (fun x y=> !decide (cmp y x<0))
theorem mergeL_nil (cmp:SE→SE→Int) (lb:List SE):mergeL cmp [] lb=lb:=by simp[mergeL]
theorem mergeL_right (cmp:SE→SE→Int) (la:List SE):mergeL cmp la []=la:=by simp[mergeL]
theorem mergeL_length (cmp:SE→SE→Int) (la lb:List SE):(mergeL cmp la lb).length=la.length+lb.length:=by
 have:=(List.merge_perm_append (xs:=la) (ys:=lb) (le:=fun x y=> !decide (cmp y x<0))).length_eq
 rwa [List.length_append]at this
theorem mergeL_cons (cmp:SE→SE→Int) (x y:SE) (la lb:List SE):mergeL cmp (x::la) (y::lb)=if cmp y x<0 then y::mergeL cmp (x::la) lb else x::mergeL cmp la (y::lb):=by
 unfold mergeL;rw[List.cons_merge_cons];by_cases h:cmp y x<0<;>simp[h]
theorem Rd.tail {Mt:Nat→Prop} {w:World} {A:Option Addr} {n c:Nat} {x:SE} {l:List SE} (r:Rd kE Mt w ⟨A,n,c⟩ (x::l)):Rd kE Mt w ⟨if c=1 then A else A.map (·.add (1*6)),n-1,c-1⟩ l:=by
 have hn:n=(x::l).length:=r.len;have hc:n≤c:=r.cap;refine⟨by simp[hn],by simp only;omega,fun w' hw=> ?_⟩;have:=r.2.2 w' hw;simp only at this;rw[hn]at this;have h2:=Kd.C_drop this (m:=1) (by simp) (by rw[←hn];exact hc);have e:(x::l).drop 1=l:=rfl;rw[e]at h2;have e2:n-1=l.length:=by simp[hn]
 simp only;rw[e2];exact h2
def lenAt (w:World) (q:Nat):Nat:=match w.cell? ⟨q,0,none⟩with|some (.slice _ n _)=>n|_=>0
theorem It.below {Mt:Nat→Prop} {wb:World} {qa qb:Nat} {la lb:List SE} {W W':World} (h:It Mt wb qa qb la lb W) (hqa:Mt qa) (hqb:Mt qb) (k:Below W.heap.size W W'):It Mt wb qa qb la lb W':=by
 obtain⟨h1,⟨ha,hb,c1,c2,r1,r2⟩,h3,h4⟩:=h;have l1:=World.block_lt_of_cell? W _ c1;have l2:=World.block_lt_of_cell? W _ c2;exact⟨h1.trans (Keep.of_below k),⟨ha,hb,(k.cell (p:=⟨qa,0,none⟩) l1).trans c1,(k.cell (p:=⟨qb,0,none⟩) l2).trans c2,r1,r2⟩,
  by simpa [World.frozen?,k.block qa l1]using h3,by simpa [World.frozen?,k.block qb l2]using h4⟩
theorem lenAt_of {w:World} {q n c:Nat} {A:Option Addr} (h:w.cell? ⟨q,0,none⟩=some (.slice A n c)):lenAt w q=n:=by simp[lenAt,h]
theorem mut_cell {Mt:Nat→Prop} {A B:World} {q:Nat} (k:Keep Mt A B) (h:¬Mt q) (hq:q<A.heap.size) (j:Nat):B.cell? ⟨q,j,none⟩=A.cell? ⟨q,j,none⟩:=by simp only[World.cell?,k.block q hq h]
theorem KeepO.set_q (qa qb:Nat) (W:World) (q:Nat) (hq:q=qa∨q=qb) (u:Value):KeepO (fun k=>k=qa∨k=qb) W (W.setCell ⟨q,0,none⟩ u):=⟨Keep.set (Mt:=fun k=>k=qa∨k=qb) hq u,rfl,rfl,rfl⟩
theorem Keep.set_q (qa qb:Nat) (W:World) (q:Nat) (hq:q=qa∨q=qb) (u:Value):Keep (fun k=>k=qa∨k=qb) W (W.setCell ⟨q,0,none⟩ u):=Keep.set (Mt:=fun k=>k=qa∨k=qb) hq u
theorem merged_in {Mt:Nat→Prop} {wb:World} {qa qb m l:Nat} (cmp:SE→SE→Int) (la0 lb0:List SE) (hq:qa≠qb) (hqa:Mt qa) (hqb:Mt qb) (hla:la0.length≤1000000) (hlb:lb0.length≤1000000)
  (I:List SE→World→Prop) (hI:∀pre A B,I pre A→KeepO (fun k=>k=qa∨k=qb) A B→I pre B) (Rc:World→Prop) (hRc:∀A B,Rc A→Keep (fun k=>k=qa∨k=qb) A B→Rc B)
  (hcmp:∀W,Keep Mt wb W→∀y x,y∈lb0→x∈la0→Calls Tryz.prog 103 #[y.v,x.v] W fun e w'=>e= .returned (.int .i64 (cmp y x))∧Below W.heap.size W w')
  (hY:∀pre la lb x W,pre.length<la0.length+lb0.length→I pre W→It Mt wb qa qb la lb W→Rc W→YieldAt Fence.wide m Tryz.prog l #[x.v] W fun e W'=>e= .returned (.bool true)∧(I (pre++[x]) W'∧It Mt wb qa qb la lb W')∧Rc W')
  {W:World} (h0:I [] W) (hi:It Mt wb qa qb la0 lb0 W) (hr:Rc W):
  CallsIn Fence.wide (m+1) Tryz.prog 132 #[.func (.yield l) #[] #[],.pointer (some ⟨qa,0,none⟩),.pointer (some ⟨qb,0,none⟩)] W fun e W'=>(∃v,e= .returned v)∧I (mergeL cmp la0 lb0) W'∧Rc W':=by
 have HI:=am hI;have HRC:=am hRc;have HCMP:=am hcmp;have HY:=am hY;have H0:=am h0;have HIT:=am hi;have HR:=am hr;have HQ:=am hqa;have HQB:=am hqb;clear hI hRc hcmp hY h0 hi hr hqa hqb;refine callsIn_of_wp Tryz.func132 rfl trivial ?_ rfl;simp only[Tryz.ntmps132,List.size_toArray,List.length_cons,List.length_nil,Nat.reduceAdd,Nat.reduceSub,Array.replicate_succ,Array.replicate_zero,List.push_toArray,List.append_toArray,List.nil_append,List.cons_append]
 gi_wp2
 gi_loopw [] (fun wr=>∃(pre la lb:List SE),Aside0 (I pre wr)∧Aside0 (It Mt wb qa qb la lb wr)∧Aside0 (Rc wr)∧Aside0 (pre++mergeL cmp la lb=mergeL cmp la0 lb0)∧Aside0 ((∀x∈la,x∈la0)∧(∀x∈lb,x∈lb0))∧la.length≤1000000∧lb.length≤1000000) (fun wr=>lenAt wr qa+lenAt wr qb)
 case atStart=>exact⟨[],la0,lb0,H0,HIT,HR,⟨rfl⟩,⟨⟨fun _ h=>h,fun _ h=>h⟩⟩,hla,hlb⟩
 case round=>
  clear H0 HIT HR;obtain⟨pre,la,lb,HS,HIT,HR,HM,HMEM,hl1,hl2⟩:=hrel;obtain⟨⟨hA,hAn,hAc⟩,⟨hB,hBn,hBc⟩,ca,cb,ra,rb⟩:=HIT.out.ex;have fa:=HIT.out.fa;have fb:=HIT.out.fb;have na:hAn=la.length:=ra.len;have nb:hBn=lb.length:=rb.len;have HCA:=am ca;have HCB:=am cb;have HKP:=am HIT.out.keep;simp only at ca cb;have HLN:=am (show pre.length+(la.length+lb.length)=la0.length+lb0.length by
   have:=congrArg List.length HM.out
   rwa [List.length_append,mergeL_length,mergeL_length]at this)
  have NA:=am na;have NB:=am nb;cases lb with
  |nil=>
   cases la with
   |nil=>
    obtain rfl:hAn=0:=by simpa using na
    obtain rfl:hBn=0:=by simpa using nb
    clear na nb ra rb
    gi_wp2
    go_end0
    have:=HM.out;rw[mergeL_nil,List.append_nil]at this;exact⟨⟨_,rfl⟩,by rw[←this];exact HS.out,HR.out⟩
   |cons x la=>
    have z1:(0:Int)<(hAn:Int):=by simp at na;omega
    have z2:((hAn:Int)==0)=false:=beq_eq_false_iff_ne.2 (by omega);have z3:decide ((0:Int)<(hAn:Int))=true:=decide_eq_true z1;have w0:IntKind.i64.wrap (hAn:Int)=(hAn:Int):=(i64_w _).trans (by unfold Go.RowKit.wrap64;omega);obtain rfl:hBn=0:=by simpa using nb
    obtain⟨ad,e0,hab,hcl⟩:=ev_head (ra.keep HKP.out).here;simp only at e0;cases e0;obtain⟨p0,p1,p2,p3,p4,p5⟩:=hcl wr (fun _ _=>rfl);clear na nb ra rb hcl
    gi_upto_region 2 with (fail)
    refine wpIn_wide.2 ?_;refine sz_ 18 (S:=fun w'=>w'.cell? ⟨qa,0,none⟩=some (.slice (some ad) hAn hAc)∧w'.cell? ⟨qb,0,none⟩=some (.slice hB 0 hBc)) (ds:=[]) ⟨ca,cb⟩ (fun hHeld=> ?_);refine tz_ 0 11 18 1 hHeld ?_;refine pz_ 1 12 18 3 ?_;refine pz_ 2 13 18 7 ?_;refine pz_ 3 14 18 15 ?_;refine tz_ 4 15 18 31 hHeld ?_;refine pz_ 5 16 18 63 ?_;refine pz_ 6 17 18 127 ?_;refine pz_ 7 18 18 255 ?_;refine uz_ 8 19 18 511 ?_;refine uz_ 9 20 18 1023 ?_;refine uz_ 10 21 18 2047 ?_;refine uz_ 11 22 18 4095 ?_;refine uz_ 12 23 18 8191 ?_;refine uz_ 13 24 18 16383 ?_;refine uz_ 14 25 18 32767 ?_
    refine uz_ 15 26 18 65535 ?_;refine pz_ 16 27 18 131071 ?_;refine pz_ 17 28 18 262143 ?_;refine done_ (by kernel_rfl) ?_;obtain⟨fn,tmps,assign,body,hy,hR⟩:=HY.out pre (x::la) [] x wr.drew (by have:=HLN.out;simp only[List.length_cons,List.length_nil]at this;omega) (HI.out _ _ _ HS.out (KeepO.of_below (below_drew (Below.refl _ _)))) (HIT.out.below HQ.out HQB.out (below_drew (Below.refl _ _))) (HRC.out _ _ HR.out (Keep.of_below (below_drew (Below.refl _ _))));obtain⟨xt,⟨xA,xn,xc⟩,xl,xd,xp,xa⟩:=x;simp only at p0 p1 p2 p3 p4 p5;simp only[SE.v]at hy
    gi_wp2
    refine hR.mono ?_;rintro e W3 ⟨rfl,⟨hI3,hT3⟩,hR3⟩;have HI3:=am hI3;have HT3:=am hT3;have HR3:=am hR3;clear hI3 hT3 hR3 hR hy;obtain⟨⟨a2A,a2n,a2c⟩,⟨b2A,b2n,b2c⟩,ca2,cb2,ra2,rb2⟩:=HT3.out.ex;simp only at ca2 cb2;have fa2:=HT3.out.fa;have fb2:=HT3.out.fb;have HCA2:=am ca2;have HCB2:=am cb2;have HA2:=am ra2;have HB2:=am rb2;have hn2:(1:Int)≤(a2n:Int):=by
     have:=ra2.len;simp only[List.length_cons]at this;omega
    have HLA:=am ra2.len;have HLB:=am rb2.len;have HRT:=am ra2.tail;have qs:=evFrom a2A a2n a2c 1 (by omega) hn2;rw[show(1:Int).toNat=1 by rfl]at qs;clear ra2 rb2;obtain⟨A4,hA4⟩:∃A4,(if a2c=1 then a2A else a2A.map (·.add (1*6)))=A4:=⟨_,rfl⟩;rw[hA4]at qs;have HA4:=am hA4;clear hA4
    gi_wp2
    have hsame:(W3.setCell ⟨qa,0,none⟩ (.slice A4 (a2n-1) (a2c-1))).cell? ⟨qa,0,none⟩=some (.slice A4 (a2n-1) (a2c-1)):=World.cell?_setCell_same' _ _ _ (by rw[HCA2.out];rfl);have hoth:(W3.setCell ⟨qa,0,none⟩ (.slice A4 (a2n-1) (a2c-1))).cell? ⟨qb,0,none⟩=W3.cell? ⟨qb,0,none⟩:=cell_far (p:=⟨qa,0,none⟩) (a:=⟨qb,0,none⟩) (Ne.symm hq) _
    go_roundw
    case rel=>
     have hKO:=KeepO.set_q qa qb W3 qa (by simp) (.slice A4 (a2n-1) (a2c-1));have hK:=Keep.set_q qa qb W3 qa (by simp) (.slice A4 (a2n-1) (a2c-1));refine⟨pre++[⟨xt,⟨xA,xn,xc⟩,xl,xd,xp,xa⟩],la,[],⟨HI.out _ _ _ HI3.out hKO⟩,⟨⟨HT3.out.keep.trans (hK.mono (fun k _ e=>by rcases e with rfl|rfl;exact HQ.out;exact HQB.out)),?_,by rw[World.frozen?_setCell];exact fa2,by rw[World.frozen?_setCell];exact fb2⟩⟩,⟨HRC.out _ _ HR3.out hK⟩,⟨?_⟩,⟨?_⟩,by simp only[List.length_cons]at hl1 hl2 ⊢;omega,by simp only[List.length_cons]at hl1 hl2 ⊢;omega⟩
     ·refine⟨⟨A4,a2n-1,a2c-1⟩,⟨b2A,b2n,b2c⟩,hsame,hoth.trans HCB2.out,?_,HB2.out⟩;rw[←HA4.out];exact HRT.out
     ·have hm:=HM.out;rw[mergeL_right]at hm;rw[mergeL_right];rw[List.append_assoc];exact hm
     ·exact⟨fun z hz=>HMEM.out.1 z (by first|exact hz|exact List.mem_cons_of_mem _ hz),fun z hz=>HMEM.out.2 z (by first|exact hz|exact List.mem_cons_of_mem _ hz)⟩
    case measure=>
     rw[lenAt_of hsame,lenAt_of (hoth.trans HCB2.out),lenAt_of HCA.out,lenAt_of HCB.out];have e1:=HLA.out;have e2:=HLB.out;have e3:=NA.out;have e4:=NB.out;simp only[List.length_cons,List.length_nil]at e1 e2 e3 e4;omega
  |cons y lb=>
   cases la with
   |nil=>
    have z1:(0:Int)<(hBn:Int):=by simp at nb;omega
    have z3:decide ((0:Int)<(hBn:Int))=true:=decide_eq_true z1;obtain rfl:hAn=0:=by simpa using na
    have w0:IntKind.i64.wrap (hBn:Int)=(hBn:Int):=(i64_w _).trans (by unfold Go.RowKit.wrap64;omega);obtain⟨ad,e0,hab,hcl⟩:=ev_head (rb.keep HKP.out).here;simp only at e0;cases e0;obtain⟨p0,p1,p2,p3,p4,p5⟩:=hcl wr (fun _ _=>rfl);clear na nb ra rb hcl
    gi_upto_region 2 with (fail)
    refine wpIn_wide.2 ?_;refine sz_ 18 (S:=fun w'=>w'.cell? ⟨qa,0,none⟩=some (.slice hA 0 hAc)) (ds:=[]) (ca) (fun hHeld=> ?_);refine tz_ 0 11 18 1 hHeld ?_;refine pz_ 1 12 18 3 ?_;refine pz_ 2 13 18 7 ?_;refine pz_ 3 14 18 15 ?_;refine uz_ 4 15 18 31 ?_;refine uz_ 5 16 18 63 ?_;refine uz_ 6 17 18 127 ?_;refine uz_ 7 18 18 255 ?_;refine uz_ 8 19 18 511 ?_;refine uz_ 9 20 18 1023 ?_;refine uz_ 10 21 18 2047 ?_;refine uz_ 11 22 18 4095 ?_;refine uz_ 12 23 18 8191 ?_;refine uz_ 13 24 18 16383 ?_;refine uz_ 14 25 18 32767 ?_;refine uz_ 15 26 18 65535 ?_;refine uz_ 16 27 18 131071 ?_
    refine pz_ 17 28 18 262143 ?_;refine done_ (by kernel_rfl) ?_;obtain⟨fn,tmps,assign,body,hy,hR⟩:=HY.out pre [] (y::lb) y wr.drew (by have:=HLN.out;simp only[List.length_cons,List.length_nil]at this;omega) (HI.out _ _ _ HS.out (KeepO.of_below (below_drew (Below.refl _ _)))) (HIT.out.below HQ.out HQB.out (below_drew (Below.refl _ _))) (HRC.out _ _ HR.out (Keep.of_below (below_drew (Below.refl _ _))));obtain⟨xt,⟨xA,xn,xc⟩,xl,xd,xp,xa⟩:=y;simp only at p0 p1 p2 p3 p4 p5;simp only[SE.v]at hy
    gi_wp2
    refine hR.mono ?_;rintro e W3 ⟨rfl,⟨hI3,hT3⟩,hR3⟩;have HI3:=am hI3;have HT3:=am hT3;have HR3:=am hR3;clear hI3 hT3 hR3 hR hy;obtain⟨⟨a2A,a2n,a2c⟩,⟨b2A,b2n,b2c⟩,ca2,cb2,ra2,rb2⟩:=HT3.out.ex;simp only at ca2 cb2;have fa2:=HT3.out.fa;have fb2:=HT3.out.fb;have HCA2:=am ca2;have HCB2:=am cb2;have HA2:=am ra2;have HB2:=am rb2;have hn2:(1:Int)≤(b2n:Int):=by
     have:=rb2.len;simp only[List.length_cons]at this;omega
    have HLA:=am ra2.len;have HLB:=am rb2.len;have HRT:=am rb2.tail;have qs:=evFrom b2A b2n b2c 1 (by omega) hn2;rw[show(1:Int).toNat=1 by rfl]at qs;clear ra2 rb2;obtain⟨A4,hA4⟩:∃A4,(if b2c=1 then b2A else b2A.map (·.add (1*6)))=A4:=⟨_,rfl⟩;rw[hA4]at qs;have HA4:=am hA4;clear hA4
    gi_wp2
    have hsame:(W3.setCell ⟨qb,0,none⟩ (.slice A4 (b2n-1) (b2c-1))).cell? ⟨qb,0,none⟩=some (.slice A4 (b2n-1) (b2c-1)):=World.cell?_setCell_same' _ _ _ (by rw[HCB2.out];rfl);have hoth:(W3.setCell ⟨qb,0,none⟩ (.slice A4 (b2n-1) (b2c-1))).cell? ⟨qa,0,none⟩=W3.cell? ⟨qa,0,none⟩:=cell_far (p:=⟨qb,0,none⟩) (a:=⟨qa,0,none⟩) hq _
    go_roundw
    case rel=>
     have hKO:=KeepO.set_q qa qb W3 qb (by simp) (.slice A4 (b2n-1) (b2c-1));have hK:=Keep.set_q qa qb W3 qb (by simp) (.slice A4 (b2n-1) (b2c-1));refine⟨pre++[⟨xt,⟨xA,xn,xc⟩,xl,xd,xp,xa⟩],[],lb,⟨HI.out _ _ _ HI3.out hKO⟩,⟨⟨HT3.out.keep.trans (hK.mono (fun k _ e=>by rcases e with rfl|rfl;exact HQ.out;exact HQB.out)),?_,by rw[World.frozen?_setCell];exact fa2,by rw[World.frozen?_setCell];exact fb2⟩⟩,⟨HRC.out _ _ HR3.out hK⟩,⟨?_⟩,⟨?_⟩,by simp only[List.length_cons]at hl1 hl2 ⊢;omega,by simp only[List.length_cons]at hl1 hl2 ⊢;omega⟩
     ·refine⟨⟨a2A,a2n,a2c⟩,⟨A4,b2n-1,b2c-1⟩,hoth.trans HCA2.out,hsame,HA2.out,?_⟩;rw[←HA4.out];exact HRT.out
     ·have hm:=HM.out;rw[mergeL_nil]at hm;rw[mergeL_nil];rw[List.append_assoc];exact hm
     ·exact⟨fun z hz=>HMEM.out.1 z (by first|exact hz|exact List.mem_cons_of_mem _ hz),fun z hz=>HMEM.out.2 z (by first|exact hz|exact List.mem_cons_of_mem _ hz)⟩
    case measure=>
     rw[lenAt_of (hoth.trans HCA2.out),lenAt_of hsame,lenAt_of HCA.out,lenAt_of HCB.out];have e1:=HLA.out;have e2:=HLB.out;have e3:=NA.out;have e4:=NB.out;simp only[List.length_cons,List.length_nil]at e1 e2 e3 e4;omega
   |cons x la=>
    have za:(0:Int)<(hAn:Int):=by simp at na;omega
    have za2:((hAn:Int)==0)=false:=beq_eq_false_iff_ne.2 (by omega);have zb:(0:Int)<(hBn:Int):=by simp at nb;omega
    have zb2:decide ((0:Int)<(hBn:Int))=true:=decide_eq_true zb;have zb4:0<hBn:=by omega
    have za4:0<hAn:=by omega
    have zb3:decide (0<hBn)=true:=decide_eq_true zb4;have zs:decide ((0:Int)<(hAn:Int)+(hBn:Int))=true:=dt (by omega);have w0:IntKind.i64.wrap ((hAn:Int)+(hBn:Int))=(hAn:Int)+(hBn:Int):=(i64_w _).trans (by unfold Go.RowKit.wrap64;omega);obtain⟨ad,e0,hab,hcl⟩:=ev_head (ra.keep HKP.out).here;simp only at e0;cases e0;obtain⟨ad2,e0,hab2,hcl2⟩:=ev_head (rb.keep HKP.out).here;simp only at e0;cases e0;have hcall:=HCMP.out wr.drew (HKP.out.trans (Keep.of_below (below_drew (Below.refl _ _)))) y x (HMEM.out.2 y List.mem_cons_self) (HMEM.out.1 x List.mem_cons_self)
    obtain⟨c,hc⟩:∃c,cmp y x=c:=⟨_,rfl⟩;rw[hc]at hcall;have HC:=am hc;have HLT:=am (show∀wx,Below wr.drew.heap.size wr.drew wx→wx.cell? ⟨qa,0,none⟩=wr.cell? ⟨qa,0,none⟩∧wx.cell? ⟨qb,0,none⟩=wr.cell? ⟨qb,0,none⟩∧(∀a:Addr,a.block=ad.block→wx.cell? a=wr.cell? a)∧(∀a:Addr,a.block=ad2.block→wx.cell? a=wr.cell? a)from fun wx hb=>
     ⟨hb.cell (p:=⟨qa,0,none⟩) (World.block_lt_of_cell? wr ⟨qa,0,none⟩ ca),hb.cell (p:=⟨qb,0,none⟩) (World.block_lt_of_cell? wr ⟨qb,0,none⟩ cb),fun a ha=>hb.cell (show a.block<wr.drew.heap.size by rw[ha];exact hab),fun a ha=>hb.cell (show a.block<wr.drew.heap.size by rw[ha];exact hab2)⟩)
    have HCL:=am hcl;have HCL2:=am hcl2;obtain⟨xt,⟨xA,xn,xc⟩,xl,xd,xp,xa⟩:=x;obtain⟨yt,⟨yA,yn,yc⟩,yl,yd,yp,ya⟩:=y;simp only[SE.v]at hcall;have HCALL:=am hcall;obtain⟨r0,r1,r2,r3,r4,r5⟩:=hcl wr (fun _ _=>rfl);obtain⟨s0,s1,s2,s3,s4,s5⟩:=hcl2 wr (fun _ _=>rfl);simp only at r0 r1 r2 r3 r4 r5 s0 s1 s2 s3 s4 s5;clear na nb ra rb hcl hcl2 hc hcall;by_cases hlt:c<0
    ·have d3:decide (c<0)=true:=decide_eq_true hlt
     gi_upto_region 2 with (fail)
     refine wpIn_wide.2 ?_
     go_region_held3 (fun w'=>w'.cell? ⟨qa,0,none⟩=some (.slice (some ad) hAn hAc)∧w'.cell? ⟨qb,0,none⟩=some (.slice (some ad2) hBn hBc)∧w'.cell? ad=some (.int .i64 xt)∧w'.cell? ⟨ad.block,ad.off+1,none⟩=some (.slice xA xn xc)∧w'.cell? ⟨ad.block,ad.off+2,none⟩=some (.int .i64 xl)∧w'.cell? ⟨ad.block,ad.off+3,none⟩=some (.int .i64 xd)∧w'.cell? ⟨ad.block,ad.off+4,none⟩=some (.int .i64 xp)∧w'.cell? ⟨ad.block,ad.off+5,none⟩=some (.int .i64 xa)∧w'.cell? ad2=some (.int .i64 yt)∧w'.cell? ⟨ad2.block,ad2.off+1,none⟩=some (.slice yA yn yc)∧w'.cell? ⟨ad2.block,ad2.off+2,none⟩=some (.int .i64 yl)∧w'.cell? ⟨ad2.block,ad2.off+3,none⟩=some (.int .i64 yd)∧w'.cell? ⟨ad2.block,ad2.off+4,none⟩=some (.int .i64 yp)∧w'.cell? ⟨ad2.block,ad2.off+5,none⟩=some (.int .i64 ya)) (first|go_keep|(rw[hcl1,hcl2,hcl3 ad rfl,hcl4 ad2 rfl,hcl3 ⟨ad.block,ad.off+1,none⟩ rfl,hcl3 ⟨ad.block,ad.off+2,none⟩ rfl,hcl3 ⟨ad.block,ad.off+3,none⟩ rfl,hcl3 ⟨ad.block,ad.off+4,none⟩ rfl,hcl3 ⟨ad.block,ad.off+5,none⟩ rfl,hcl4 ⟨ad2.block,ad2.off+1,none⟩ rfl,hcl4 ⟨ad2.block,ad2.off+2,none⟩ rfl,hcl4 ⟨ad2.block,ad2.off+3,none⟩ rfl,hcl4 ⟨ad2.block,ad2.off+4,none⟩ rfl,hcl4 ⟨ad2.block,ad2.off+5,none⟩ rfl];exact⟨ca,cb,r0,r1,r2,r3,r4,r5,s0,s1,s2,s3,s4,s5⟩))
      (first|(go_at_call 103;(with_reducible refine HCALL.out.mono ?_);rintro e wx ⟨rfl,hb⟩;have HBX:=am hb;obtain⟨hcl1,hcl2,hcl3,hcl4⟩:=HLT.out wx hb;clear hb))
     obtain⟨p0,p1,p2,p3,p4,p5⟩:=HCL2.out wx (fun a ha=>hcl4 a ha)
     try simp only at p0 p1 p2 p3 p4 p5
     have cb:=hcl2.trans cb;have ca:=hcl1.trans ca;clear r0 r1 r2 r3 r4 r5 s0 s1 s2 s3 s4 s5 hcl1 hcl2 hcl3 hcl4;obtain⟨fn,tmps,assign,body,hy,hR⟩:=HY.out pre (⟨xt,⟨xA,xn,xc⟩,xl,xd,xp,xa⟩::la) (⟨yt,⟨yA,yn,yc⟩,yl,yd,yp,ya⟩::lb) ⟨yt,⟨yA,yn,yc⟩,yl,yd,yp,ya⟩ wx (by have:=HLN.out;simp only[List.length_cons,List.length_nil]at this;omega) (HI.out _ _ _ HS.out (KeepO.of_below ((below_drew (Below.refl _ _)).trans HBX.out))) (HIT.out.below HQ.out HQB.out ((below_drew (Below.refl _ _)).trans HBX.out)) (HRC.out _ _ HR.out (Keep.of_below ((below_drew (Below.refl _ _)).trans HBX.out)));simp only[SE.v]at hy
     gi_wp2
     refine hR.mono ?_;rintro e W3 ⟨rfl,⟨hI3,hT3⟩,hR3⟩;have HI3:=am hI3;have HT3:=am hT3;have HR3:=am hR3;clear hI3 hT3 hR3 hR hy;obtain⟨⟨a2A,a2n,a2c⟩,⟨b2A,b2n,b2c⟩,ca2,cb2,ra2,rb2⟩:=HT3.out.ex;simp only at ca2 cb2;have fa2:=HT3.out.fa;have fb2:=HT3.out.fb;have HCA2:=am ca2;have HCB2:=am cb2;have HA2:=am ra2;have HB2:=am rb2;have hn2:(1:Int)≤(b2n:Int):=by
      have:=rb2.len;simp only[List.length_cons]at this;omega
     have HLA:=am ra2.len;have HLB:=am rb2.len;have HRT:=am rb2.tail;have qs:=evFrom b2A b2n b2c 1 (by omega) hn2;rw[show(1:Int).toNat=1 by rfl]at qs;clear ra2 rb2;obtain⟨A4,hA4⟩:∃A4,(if b2c=1 then b2A else b2A.map (·.add (1*6)))=A4:=⟨_,rfl⟩;rw[hA4]at qs;have HA4:=am hA4;clear hA4
     gi_wp2
     have hsame:(W3.setCell ⟨qb,0,none⟩ (.slice A4 (b2n-1) (b2c-1))).cell? ⟨qb,0,none⟩=some (.slice A4 (b2n-1) (b2c-1)):=World.cell?_setCell_same' _ _ _ (by rw[HCB2.out];rfl);have hoth:(W3.setCell ⟨qb,0,none⟩ (.slice A4 (b2n-1) (b2c-1))).cell? ⟨qa,0,none⟩=W3.cell? ⟨qa,0,none⟩:=cell_far (p:=⟨qb,0,none⟩) (a:=⟨qa,0,none⟩) hq _
     go_roundw
     case rel=>
      have hKO:=KeepO.set_q qa qb W3 qb (by simp) (.slice A4 (b2n-1) (b2c-1));have hK:=Keep.set_q qa qb W3 qb (by simp) (.slice A4 (b2n-1) (b2c-1));refine⟨pre++[⟨yt,⟨yA,yn,yc⟩,yl,yd,yp,ya⟩],(⟨xt,⟨xA,xn,xc⟩,xl,xd,xp,xa⟩::la),lb,⟨HI.out _ _ _ HI3.out hKO⟩,⟨⟨HT3.out.keep.trans (hK.mono (fun k _ e=>by rcases e with rfl|rfl;exact HQ.out;exact HQB.out)),?_,by rw[World.frozen?_setCell];exact fa2,by rw[World.frozen?_setCell];exact fb2⟩⟩,⟨HRC.out _ _ HR3.out hK⟩,⟨?_⟩,⟨?_⟩,by simp only[List.length_cons]at hl1 hl2 ⊢;omega,by simp only[List.length_cons]at hl1 hl2 ⊢;omega⟩
      ·refine⟨⟨a2A,a2n,a2c⟩,⟨A4,b2n-1,b2c-1⟩,hoth.trans HCA2.out,hsame,HA2.out,?_⟩;rw[←HA4.out];exact HRT.out
      ·have hm:=HM.out;rw[mergeL_cons,if_pos (by rw[HC.out];exact hlt)]at hm;rw[List.append_assoc];exact hm
      ·exact⟨fun z hz=>HMEM.out.1 z (by first|exact hz|exact List.mem_cons_of_mem _ hz),fun z hz=>HMEM.out.2 z (by first|exact hz|exact List.mem_cons_of_mem _ hz)⟩
     case measure=>
      rw[lenAt_of (hoth.trans HCA2.out),lenAt_of hsame,lenAt_of HCA.out,lenAt_of HCB.out];have e1:=HLA.out;have e2:=HLB.out;have e3:=NA.out;have e4:=NB.out;simp only[List.length_cons,List.length_nil]at e1 e2 e3 e4;omega
    ·have d3:decide (c<0)=false:=decide_eq_false hlt
     gi_upto_region 2 with (fail)
     refine wpIn_wide.2 ?_
     go_region_held3 (fun w'=>w'.cell? ⟨qa,0,none⟩=some (.slice (some ad) hAn hAc)∧w'.cell? ⟨qb,0,none⟩=some (.slice (some ad2) hBn hBc)∧w'.cell? ad=some (.int .i64 xt)∧w'.cell? ⟨ad.block,ad.off+1,none⟩=some (.slice xA xn xc)∧w'.cell? ⟨ad.block,ad.off+2,none⟩=some (.int .i64 xl)∧w'.cell? ⟨ad.block,ad.off+3,none⟩=some (.int .i64 xd)∧w'.cell? ⟨ad.block,ad.off+4,none⟩=some (.int .i64 xp)∧w'.cell? ⟨ad.block,ad.off+5,none⟩=some (.int .i64 xa)∧w'.cell? ad2=some (.int .i64 yt)∧w'.cell? ⟨ad2.block,ad2.off+1,none⟩=some (.slice yA yn yc)∧w'.cell? ⟨ad2.block,ad2.off+2,none⟩=some (.int .i64 yl)∧w'.cell? ⟨ad2.block,ad2.off+3,none⟩=some (.int .i64 yd)∧w'.cell? ⟨ad2.block,ad2.off+4,none⟩=some (.int .i64 yp)∧w'.cell? ⟨ad2.block,ad2.off+5,none⟩=some (.int .i64 ya)) (first|go_keep|(rw[hcl1,hcl2,hcl3 ad rfl,hcl4 ad2 rfl,hcl3 ⟨ad.block,ad.off+1,none⟩ rfl,hcl3 ⟨ad.block,ad.off+2,none⟩ rfl,hcl3 ⟨ad.block,ad.off+3,none⟩ rfl,hcl3 ⟨ad.block,ad.off+4,none⟩ rfl,hcl3 ⟨ad.block,ad.off+5,none⟩ rfl,hcl4 ⟨ad2.block,ad2.off+1,none⟩ rfl,hcl4 ⟨ad2.block,ad2.off+2,none⟩ rfl,hcl4 ⟨ad2.block,ad2.off+3,none⟩ rfl,hcl4 ⟨ad2.block,ad2.off+4,none⟩ rfl,hcl4 ⟨ad2.block,ad2.off+5,none⟩ rfl];exact⟨ca,cb,r0,r1,r2,r3,r4,r5,s0,s1,s2,s3,s4,s5⟩))
      (first|(go_at_call 103;(with_reducible refine HCALL.out.mono ?_);rintro e wx ⟨rfl,hb⟩;have HBX:=am hb;obtain⟨hcl1,hcl2,hcl3,hcl4⟩:=HLT.out wx hb;clear hb))
     obtain⟨p0,p1,p2,p3,p4,p5⟩:=HCL.out wx (fun a ha=>hcl3 a ha)
     try simp only at p0 p1 p2 p3 p4 p5
     have cb:=hcl2.trans cb;have ca:=hcl1.trans ca;clear r0 r1 r2 r3 r4 r5 s0 s1 s2 s3 s4 s5 hcl1 hcl2 hcl3 hcl4;obtain⟨fn,tmps,assign,body,hy,hR⟩:=HY.out pre (⟨xt,⟨xA,xn,xc⟩,xl,xd,xp,xa⟩::la) (⟨yt,⟨yA,yn,yc⟩,yl,yd,yp,ya⟩::lb) ⟨xt,⟨xA,xn,xc⟩,xl,xd,xp,xa⟩ wx (by have:=HLN.out;simp only[List.length_cons,List.length_nil]at this;omega) (HI.out _ _ _ HS.out (KeepO.of_below ((below_drew (Below.refl _ _)).trans HBX.out))) (HIT.out.below HQ.out HQB.out ((below_drew (Below.refl _ _)).trans HBX.out)) (HRC.out _ _ HR.out (Keep.of_below ((below_drew (Below.refl _ _)).trans HBX.out)));simp only[SE.v]at hy
     gi_wp2
     refine hR.mono ?_;rintro e W3 ⟨rfl,⟨hI3,hT3⟩,hR3⟩;have HI3:=am hI3;have HT3:=am hT3;have HR3:=am hR3;clear hI3 hT3 hR3 hR hy;obtain⟨⟨a2A,a2n,a2c⟩,⟨b2A,b2n,b2c⟩,ca2,cb2,ra2,rb2⟩:=HT3.out.ex;simp only at ca2 cb2;have fa2:=HT3.out.fa;have fb2:=HT3.out.fb;have HCA2:=am ca2;have HCB2:=am cb2;have HA2:=am ra2;have HB2:=am rb2;have hn2:(1:Int)≤(a2n:Int):=by
      have:=ra2.len;simp only[List.length_cons]at this;omega
     have HLA:=am ra2.len;have HLB:=am rb2.len;have HRT:=am ra2.tail;have qs:=evFrom a2A a2n a2c 1 (by omega) hn2;rw[show(1:Int).toNat=1 by rfl]at qs;clear ra2 rb2;obtain⟨A4,hA4⟩:∃A4,(if a2c=1 then a2A else a2A.map (·.add (1*6)))=A4:=⟨_,rfl⟩;rw[hA4]at qs;have HA4:=am hA4;clear hA4
     gi_wp2
     have hsame:(W3.setCell ⟨qa,0,none⟩ (.slice A4 (a2n-1) (a2c-1))).cell? ⟨qa,0,none⟩=some (.slice A4 (a2n-1) (a2c-1)):=World.cell?_setCell_same' _ _ _ (by rw[HCA2.out];rfl);have hoth:(W3.setCell ⟨qa,0,none⟩ (.slice A4 (a2n-1) (a2c-1))).cell? ⟨qb,0,none⟩=W3.cell? ⟨qb,0,none⟩:=cell_far (p:=⟨qa,0,none⟩) (a:=⟨qb,0,none⟩) (Ne.symm hq) _
     go_roundw
     case rel=>
      have hKO:=KeepO.set_q qa qb W3 qa (by simp) (.slice A4 (a2n-1) (a2c-1));have hK:=Keep.set_q qa qb W3 qa (by simp) (.slice A4 (a2n-1) (a2c-1));refine⟨pre++[⟨xt,⟨xA,xn,xc⟩,xl,xd,xp,xa⟩],la,(⟨yt,⟨yA,yn,yc⟩,yl,yd,yp,ya⟩::lb),⟨HI.out _ _ _ HI3.out hKO⟩,⟨⟨HT3.out.keep.trans (hK.mono (fun k _ e=>by rcases e with rfl|rfl;exact HQ.out;exact HQB.out)),?_,by rw[World.frozen?_setCell];exact fa2,by rw[World.frozen?_setCell];exact fb2⟩⟩,⟨HRC.out _ _ HR3.out hK⟩,⟨?_⟩,⟨?_⟩,by simp only[List.length_cons]at hl1 hl2 ⊢;omega,by simp only[List.length_cons]at hl1 hl2 ⊢;omega⟩
      ·refine⟨⟨A4,a2n-1,a2c-1⟩,⟨b2A,b2n,b2c⟩,hsame,hoth.trans HCB2.out,?_,HB2.out⟩;rw[←HA4.out];exact HRT.out
      ·have hm:=HM.out;rw[mergeL_cons,if_neg (by rw[HC.out];omega)]at hm;rw[List.append_assoc];exact hm
      ·exact⟨fun z hz=>HMEM.out.1 z (by first|exact hz|exact List.mem_cons_of_mem _ hz),fun z hz=>HMEM.out.2 z (by first|exact hz|exact List.mem_cons_of_mem _ hz)⟩
     case measure=>
      rw[lenAt_of hsame,lenAt_of (hoth.trans HCB2.out),lenAt_of HCA.out,lenAt_of HCB.out];have e1:=HLA.out;have e2:=HLB.out;have e3:=NA.out;have e4:=NB.out;simp only[List.length_cons,List.length_nil]at e1 e2 e3 e4;omega
structure Sg where
 pre:List SE
 la:List SE
 lb:List SE
 x:SE
def IA (W:World) (B base qa qb:Nat) (pre:List SE) (W':World):Prop:=(∃v,Boxed W' B 47 v∧W'.ownsRow base 49 6 v pre.length (fl pre))∧KeepO (fun k=>k=qa∨k=qb) W W'
theorem IA.keep {W A C:World} {B base qa qb:Nat} {pre:List SE} (h:IA W B base qa qb pre A) (hqa:qa<B) (hqb:qb<B) (hB:B≤base) (k:KeepO (fun k=>k=qa∨k=qb) A C):IA W B base qa qb pre C:=by
 obtain⟨⟨v,h1,h2⟩,h3⟩:=h;refine⟨⟨v,(k.keep.block B h1.lt (by omega)).trans h1,own_move h2 fun j hj=> ?_⟩,h3.trans k⟩;have:=own_base h2 j hj;exact k.keep.block j (own_lt h2 j hj) (by omega)
theorem IA.own {W:World} {B base qa qb n0:Nat} (hW:W.heap.size≤n0):OwnFrom n0 (fun pre W'=>IA W B base qa qb pre W'):=by
 rintro pre A C row ⟨⟨v,h1,h2⟩,h3⟩ hg hr;refine⟨⟨v,h1.kept hg (fun e=> ?_),own_move h2 fun j hj=> ?_⟩,⟨⟨Nat.le_trans h3.keep.size hg.size,fun k hk hm=>(hg.block k (Nat.lt_of_lt_of_le hk h3.keep.size) (fun e=> ?_)).trans (h3.keep.block k hk hm)⟩,hg.os.trans h3.os,hg.tape.trans h3.tape,hg.output.trans h3.output⟩⟩
 ·obtain⟨_,o,ho,hc⟩:=hr B e.symm;rw[show A.heap[B]?=_ from h1]at ho;cases ho;cases hc
 ·refine hg.block j (own_lt h2 j hj) fun e=> ?_;obtain⟨_,o,ho,hc⟩:=hr j e.symm;obtain⟨cells,ht⟩:=own_typed h2 j hj;rw[ht]at ho;cases ho;cases hc
 ·have:=(hr k e.symm).1;omega
theorem It.own {Mt:Nat→Prop} {wb:World} {qa qb n0:Nat} (hW:wb.heap.size≤n0) (hqa:qa<n0) (hqb:qb<n0) (la lb:List SE):OwnFrom n0 (fun(_:Unit) W=>It Mt wb qa qb la lb W):=by
 rintro _ A C row ⟨h1,⟨ha,hb,c1,c2,r1,r2⟩,h3,h4⟩ hg hr;have hb1:∀k,k<n0→k<A.heap.size→C.heap[k]?=A.heap[k]?:=fun k hk hl=>hg.block k hl fun e=>by have:=(hr k e.symm).1;omega
 have l1:=World.block_lt_of_cell? A _ c1;have l2:=World.block_lt_of_cell? A _ c2;exact⟨⟨Nat.le_trans h1.size hg.size,fun k hk hm=>(hb1 k (by omega) (Nat.lt_of_lt_of_le hk h1.size)).trans (h1.block k hk hm)⟩,⟨ha,hb,by simpa only[World.cell?,hb1 qa hqa l1]using c1,by simpa only[World.cell?,hb1 qb hqb l2]using c2,r1,r2⟩,
  by simpa only[World.frozen?,hb1 qa hqa l1]using h3,by simpa only[World.frozen?,hb1 qb hqb l2]using h4⟩
theorem It.move {Mt:Nat→Prop} {wb:World} {qa qb:Nat} {la lb:List SE} {A C:World} (h:It Mt wb qa qb la lb A) (n0:Nat) (hW:wb.heap.size≤n0) (hqa:qa<n0) (hqb:qb<n0) (hs:A.heap.size≤C.heap.size) (hb1:∀k,k<n0→k<A.heap.size→C.heap[k]?=A.heap[k]?):It Mt wb qa qb la lb C:=by
 obtain⟨h1,⟨ha,hb,c1,c2,r1,r2⟩,h3,h4⟩:=h;have l1:=World.block_lt_of_cell? A _ c1;have l2:=World.block_lt_of_cell? A _ c2;exact⟨⟨Nat.le_trans h1.size hs,fun k hk hm=>(hb1 k (by omega) (Nat.lt_of_lt_of_le hk h1.size)).trans (h1.block k hk hm)⟩,⟨ha,hb,by simpa only[World.cell?,hb1 qa hqa l1]using c1,by simpa only[World.cell?,hb1 qb hqb l2]using c2,r1,r2⟩,
  by simpa only[World.frozen?,hb1 qa hqa l1]using h3,by simpa only[World.frozen?,hb1 qb hqb l2]using h4⟩
def EvBox (W:World) (b:Nat) (x:SE):Prop:=W.heap[b]?=some (.cells #[.int .i64 x.t,.slice x.k.A x.k.n x.k.c,.int .i64 x.lp,.int .i64 x.kd,.int .i64 x.pr,.int .i64 x.ar] 49 (0,0))
theorem EvBox.cells {W:World} {b:Nat} {x:SE} (h:EvBox W b x):W.cell? ⟨b,0,none⟩=some (.int .i64 x.t)∧W.cell? ⟨b,1,none⟩=some (.slice x.k.A x.k.n x.k.c)∧W.cell? ⟨b,2,none⟩=some (.int .i64 x.lp)∧W.cell? ⟨b,3,none⟩=some (.int .i64 x.kd)∧W.cell? ⟨b,4,none⟩=some (.int .i64 x.pr)∧W.cell? ⟨b,5,none⟩=some (.int .i64 x.ar):=by
 have h:W.heap[b]?=_:=h;refine⟨?_,?_,?_,?_,?_,?_⟩<;>simp[World.cell?,h]
theorem appendSeq_calls {W:World} {qa qb:Nat} {la lb:List SE} (cmp:SE→SE→Int) (hq:qa≠qb) (hqa:qa<W.heap.size) (hqb:qb<W.heap.size) (hla:la.length≤1000000) (hlb:lb.length≤1000000) (hit:It (fun k=>k=qa∨k=qb) W qa qb la lb W)
  (hcmp:∀W',Keep (fun k=>k=qa∨k=qb) W W'→∀y x,y∈lb→x∈la→Calls Tryz.prog 103 #[y.v,x.v] W' fun e w'=>e= .returned (.int .i64 (cmp y x))∧Below W'.heap.size W' w'):
  Calls Tryz.prog 131 #[.slice none 0 0,.func (.func 132) #[] #[.pointer (some ⟨qa,0,none⟩),.pointer (some ⟨qb,0,none⟩)]] W fun e w'=>
   ∃v,e= .returned v∧Kd.R kE 49 w' W.heap.size (fun _=>True) v (mergeL cmp la lb)∧KeepO (fun k=>k=qa∨k=qb) W w':=by
 have hone:1≤3-1-1:=by omega
 refine(callsIn_wide (n:=3)).1 ?_;refine callsIn_of_wp_marks Tryz.func131 rfl trivial ?_ rfl;simp only[Tryz.ntmps131,List.size_toArray,List.length_cons,List.length_nil,Nat.reduceAdd,Nat.reduceSub,Array.replicate_succ,Array.replicate_zero,List.push_toArray,List.append_toArray,List.nil_append,List.cons_append]
 gi_wp2
 have hb0:=below_alloc (Below.refl W.heap.size W) (.cells #[.slice none 0 0] 47);have hbx:=Boxed.new W 47 (.slice none 0 0);have hsz:=World.size_alloc W (.cells #[.slice none 0 0] 47);obtain⟨w,hw⟩:∃w,W.alloc (.cells #[.slice none 0 0] 47)=w:=⟨_,rfl⟩;rw[hw]at hb0 hbx hsz ⊢;obtain⟨B,hB⟩:∃B,W.heap.size=B:=⟨_,rfl⟩;rw[hB]at hbx hsz hqa hqb;have hle:W.heap.size≤w.heap.size:=by omega
 have hI0:IA W B B qa qb [] w:=⟨⟨_,hbx,World.ownsRow_nil _ _ _ _⟩,KeepO.of_below hb0⟩;have hit0:It (fun k=>k=qa∨k=qb) W qa qb la lb w:=hit.below (.inl rfl) (.inr rfl) hb0;refine range_own (F:=Fence.wide) (n:=3) rfl (by omega) (gf:=132) (lb:= #[.pointer (some ⟨qa,0,none⟩),.pointer (some ⟨qb,0,none⟩)]) rfl trivial (enters_of Tryz.func132 (by kernel_rfl) rfl) (σ:=Sg) (fun s=> #[s.x.v]) (fun _=>rfl)
  (fun s W'=>s.pre.length<la.length+lb.length∧IA W B B qa qb s.pre W'∧It (fun k=>k=qa∨k=qb) W qa qb s.la s.lb W')
  (fun s W'=>IA W B B qa qb (s.pre++[s.x]) W'∧It (fun k=>k=qa∨k=qb) W qa qb s.la s.lb W')
  (fun W'=>IA W B B qa qb (mergeL cmp la lb) W')
  (fun s A C row hs hg hr=>⟨IA.own hle _ A C row hs.1 hg hr,It.own hle (by omega) (by omega) _ _ () A C row hs.2 hg hr⟩)
  (fun _ A C row hs hg hr=>IA.own hle _ A C row hs hg hr) ?iter
  (fun s a' W'=>∃Bx,s.pre.length<la.length+lb.length∧w.heap.size≤Bx∧EvBox W' Bx s.x∧IA W B B qa qb s.pre W'∧It (fun k=>k=qa∨k=qb) W qa qb s.la s.lb W'∧a'={tmps:= #[.slice none 0 0,(.func (.func 132) #[] #[.pointer (some ⟨qa,0,none⟩),.pointer (some ⟨qb,0,none⟩)]),.pointer (some ⟨B,0,none⟩),undef,.slice none 0 0,.pointer (some ⟨Bx,0,none⟩),(.func (.func 132) #[] #[.pointer (some ⟨qa,0,none⟩),.pointer (some ⟨qb,0,none⟩)]),s.x.v,undef,undef,undef,undef,undef],defers:=[]})
  ?hax ?assign ?body ?done
 case iter=>
  intro l Rc W1 hb1 hRcK hYld hRc1;have:=merged_in (Mt:=fun k=>k=qa∨k=qb) (wb:=W) (m:=1) (l:=l) cmp la lb hq (.inl rfl) (.inr rfl) hla hlb (IA W B B qa qb) (fun pre A C h k=>h.keep hqa hqb (Nat.le_refl _) k) Rc (fun A C h k=>hRcK A C h (k.mono (fun j _ e=>by omega))) hcmp
   (fun pre la lb x W' hl hI hIt hRc=>hYld ⟨pre,la,lb,x⟩ W' ⟨hl,hI,hIt⟩ hRc) (W:=W1) (hI0.keep hqa hqb (Nat.le_refl _) (KeepO.of_below hb1)) (hit0.below (.inl rfl) (.inr rfl) hb1) hRc1
  exact this
 case hax=>
  rintro s a' _ A C row ⟨Bx,h0,h1,h2,h3,h4,h5⟩ hg hr;refine⟨Bx,h0,h1,(hg.block Bx (Array.getElem?_eq_some_iff.1 (show A.heap[Bx]?=_ from h2)).1 (fun e=> ?_)).trans h2,IA.own hle _ A C row h3 hg hr,It.own hle (by omega) (by omega) _ _ () A C row h4 hg hr,h5⟩;obtain⟨_,o,ho,hc⟩:=hr Bx e.symm;rw[show A.heap[Bx]?=_ from h2]at ho;cases ho;cases hc
 case assign=>
  rintro l ⟨pre,la',lb',⟨xt,⟨xA,xn,xc⟩,xl,xd,xp,xa⟩⟩ W' K ⟨hln,hI,hIt⟩ hK;simp only[SE.v]
  gi_wp2
  have hb2:=below_alloc (Below.refl W'.heap.size W') (.cells #[.int .i64 xt,.slice xA xn xc,.int .i64 xl,.int .i64 xd,.int .i64 xp,.int .i64 xa] 49);refine hK _ _ ((KeepsOthers.alloc _ _).from _) ⟨W'.heap.size,hln,?_,World.alloc_heap_new _ _,hI.keep hqa hqb (Nat.le_refl _) (KeepO.of_below hb2),hIt.below (.inl rfl) (.inr rfl) hb2,rfl⟩;obtain⟨⟨v,hv,_⟩,_⟩:=hI;have:=hv.lt;omega
 case body=>
  rintro l ⟨pre,la',lb',⟨xt,⟨xA,xn,xc⟩,xl,xd,xp,xa⟩⟩ a' W' ⟨Bx,hln,hBx,hbox,⟨⟨v,hv,hrow⟩,hk⟩,hIt,rfl⟩;simp only at hrow hIt hln;obtain⟨i0,hi0,hzz⟩:=Option.map_eq_some_iff.1 infoEv;simp only[Prod.mk.injEq]at hzz;obtain⟨hz0,hzs,hzb⟩:=hzz;have hBW:B≤W'.heap.size:=Nat.le_of_lt hv.lt;obtain⟨c0,c1,c2,c3,c4,c5⟩:=hbox.cells;simp only at c0 c1 c2 c3 c4 c5;have hvc:=hv.cell;simp only[SE.v]
  gi_wp2_with (gi_at_builtin;refine wpListIn_append_own _ rfl (.tmp 8) (.tmp 10) 47 rfl B 49 i0 _ 6 64 Tryz.underlying47 hi0 hz0 hzs hzb rfl (by decide) v pre.length (fl pre) rfl (own_alloc hrow _) ⟨W'.heap.size,0,none⟩ 1 1 [.int .i64 xt,.slice xA xn xc,.int .i64 xl,.int .i64 xd,.int .i64 xp,.int .i64 xa] rfl rfl (fun j u hu=>by rw[add_at,Nat.zero_add];exact cell_new _ _ _ _ _ _ rfl (by simpa using hu)) (fun u hu=>fl_one [⟨xt,⟨xA,xn,xc⟩,xl,xd,xp,xa⟩] u (by simpa [fl,SE.cells]using hu)) (by unfold maxLen;omega) (by omega) (by have:=(below_alloc (Below.refl W'.heap.size W') (.cells #[.int .i64 xt,.slice xA xn xc,.int .i64 xl,.int .i64 xd,.int .i64 xp,.int .i64 xa] 49)).size;omega) ?_;intro v' w1 hown' hgrow _;obtain⟨g',cap',rfl⟩:=ownsRow_succ hown';obtain⟨hv1,hv2,hr2,hk2,hb2⟩:=hv.appended (by decide) hrow hBW (Nat.le_refl _) hown' hgrow;have hc1:=hv1.cell;have hf1:=hv1.frozen)
  refine⟨hk2.from _,⟨⟨_,hv2,?_⟩,⟨⟨Nat.le_trans hk.keep.size hb2.size,fun k hk3 hm=>(hb2.block k (by omega)).trans (hk.keep.block k hk3 hm)⟩,hb2.os.trans hk.os,hb2.tape.trans hk.tape,hb2.output.trans hk.output⟩⟩,hIt.move B (by omega) hqa hqb hb2.size (fun k h1 _=>hb2.block k h1)⟩;rw[fl_append,List.length_append];exact hr2
 case done=>
  rintro D W' hD ⟨⟨v,hv,hrow⟩,hk⟩ hK;have hvc:=hv.cell
  gi_wp2
  refine⟨by simp,.inl ⟨_,_,rfl,run_takeDeferred hK,?_⟩⟩;refine⟨_,results_tmp rfl _ _ _,v,rfl,?_,?_⟩
  ·have:=ownsRow_putObj hrow (.deferred none) hK rfl;rw[hB];exact⟨fun _ _=>trivial,_,this,reps_fl.2 rfl⟩
  ·have hg:=grownBy_putObj' W' D (.deferred none);exact⟨⟨Nat.le_trans hk.keep.size hg.size,fun k h1 hm=>(hg.block k (Nat.lt_of_lt_of_le h1 hk.keep.size) (fun e=>by cases e;omega)).trans (hk.keep.block k h1 hm)⟩,hg.os.trans hk.os,hg.tape.trans hk.tape,hg.output.trans hk.output⟩
theorem collect_calls {W:World} {qa qb:Nat} {la lb:List SE} (cmp:SE→SE→Int) (hq:qa≠qb) (hqa:qa<W.heap.size) (hqb:qb<W.heap.size) (hla:la.length≤1000000) (hlb:lb.length≤1000000) (hit:It (fun k=>k=qa∨k=qb) W qa qb la lb W)
  (hcmp:∀W',Keep (fun k=>k=qa∨k=qb) W W'→∀y x,y∈lb→x∈la→Calls Tryz.prog 103 #[y.v,x.v] W' fun e w'=>e= .returned (.int .i64 (cmp y x))∧Below W'.heap.size W' w'):
  Calls Tryz.prog 117 #[.func (.func 132) #[] #[.pointer (some ⟨qa,0,none⟩),.pointer (some ⟨qb,0,none⟩)]] W fun e w'=>
   ∃v,e= .returned v∧Kd.R kE 49 w' W.heap.size (fun _=>True) v (mergeL cmp la lb)∧KeepO (fun k=>k=qa∨k=qb) W w':=by
 have HC:=am (appendSeq_calls cmp hq hqa hqb hla hlb hit hcmp);clear hit hcmp;go_enter Tryz.func117,Tryz.ntmps117
 go_wp2_with (first|(go_at_call 131;(with_reducible refine HC.out.mono ?_);rintro e wx ⟨v,rfl,hv,hk⟩;have HV:=am hv;have HK:=am hk;clear hv hk))
 go_ret;exact⟨_,rfl,HV.out,HK.out⟩
theorem mergedF_calls (W:World) (A B:Option Addr) (n c m d:Nat):Calls Tryz.prog 118 #[.slice A n c,.slice B m d] W fun e w'=>
  e= .returned (.func (.func 132) #[] #[.pointer (some ⟨W.heap.size,0,none⟩),.pointer (some ⟨W.heap.size+1,0,none⟩)])∧w'=(W.alloc (.cells #[.slice A n c] 47)).alloc (.cells #[.slice B m d] 47):=by
 go_enter Tryz.func118,Tryz.ntmps118
 go_wp2_with (fail)
 go_ret;exact⟨rfl,rfl⟩
def mergeE (a b:List Ev):List Ev:=List.merge a b (fun x y=> !decide (cmpE y x<0))
theorem mergeE_map (f:SE→Ev):∀(a b:List SE),(mergeL (fun x y=>cmpE (f x) (f y)) a b).map f=mergeE (a.map f) (b.map f)
 | [],b=>by rw[mergeL_nil];simp[mergeE]
 |a::l,[]=>by rw[mergeL_right];simp[mergeE]
 |x::a,y::b=>by
  have h1:=mergeE_map f (x::a) b;have h2:=mergeE_map f a (y::b);rw[mergeL_cons];unfold mergeE at h1 h2 ⊢;simp only[List.map_cons]at h1 h2 ⊢;rw[List.cons_merge_cons];by_cases h:cmpE (f y) (f x)<0
  ·simp[h,h1]
  ·simp[h,h2]
termination_by a b=>a.length+b.length
theorem mergeL_mem {cmp:SE→SE→Int} {a b:List SE} {x:SE} (h:x∈mergeL cmp a b):x∈a∨x∈b:=by
 have:=(List.merge_perm_append (xs:=a) (ys:=b) (le:=fun x y=> !decide (cmp y x<0))).subset h;exact List.mem_append.1 this
theorem collectDeep {Mt:Nat→Prop} {wx:World} {ha hb:SH} {es ms:List Ev} (r1:EvsAt Mt wx ha es) (r2:EvsAt Mt wx hb ms) (hM:∀k,Mt k→k<wx.heap.size) (hn:es.length≤1000000) (hm:ms.length≤1000000) (hk:∀e∈es,e.k.length≤1000000) (hk2:∀e∈ms,e.k.length≤1000000):
  Calls Tryz.prog 117 #[.func (.func 132) #[] #[.pointer (some ⟨wx.heap.size,0,none⟩),.pointer (some ⟨wx.heap.size+1,0,none⟩)]] ((wx.alloc (.cells #[.slice ha.A ha.n ha.c] 47)).alloc (.cells #[.slice hb.A hb.n hb.c] 47)) fun e w'=>
   ∃h':SH,e= .returned h'.v∧EvsAt Mt w' h' (mergeE es ms)∧Below wx.heap.size wx w':=by
 obtain⟨sa,a1,a2⟩:=r1;obtain⟨sb,b1,b2⟩:=r2;obtain⟨f,hf⟩:=ev_of Mt wx;have ea:=a2.map_eq hf;have eb:=b2.map_eq hf;have la:=a2.len;have lb:=b2.len;have hb0:=below_alloc (below_alloc (Below.refl wx.heap.size wx) (.cells #[.slice ha.A ha.n ha.c] 47)) (.cells #[.slice hb.A hb.n hb.c] 47);have hs1:=World.size_alloc wx (.cells #[.slice ha.A ha.n ha.c] 47);have hs2:=World.size_alloc (wx.alloc (.cells #[.slice ha.A ha.n ha.c] 47)) (.cells #[.slice hb.A hb.n hb.c] 47)
 have hx1:Boxed ((wx.alloc (.cells #[.slice ha.A ha.n ha.c] 47)).alloc (.cells #[.slice hb.A hb.n hb.c] 47)) wx.heap.size 47 (.slice ha.A ha.n ha.c):=(Boxed.new wx _ _).alloc _;have hx2:Boxed ((wx.alloc (.cells #[.slice ha.A ha.n ha.c] 47)).alloc (.cells #[.slice hb.A hb.n hb.c] 47)) (wx.heap.size+1) 47 (.slice hb.A hb.n hb.c):=by
  have:=Boxed.new (wx.alloc (.cells #[.slice ha.A ha.n ha.c] 47)) 47 (.slice hb.A hb.n hb.c)
  rwa [hs1]at this
 obtain⟨w2,hw2⟩:∃w2,(wx.alloc (.cells #[.slice ha.A ha.n ha.c] 47)).alloc (.cells #[.slice hb.A hb.n hb.c] 47)=w2:=⟨_,rfl⟩;rw[hw2]at hb0 hs2 hx1 hx2 ⊢;have hnew:∀k,k<wx.heap.size→(k=wx.heap.size∨k=wx.heap.size+1)→Mt k:=fun k h1 h2=>by omega
 have hit:It (fun k=>k=wx.heap.size∨k=wx.heap.size+1) w2 wx.heap.size (wx.heap.size+1) sa sb w2:=
  ⟨Keep.refl _ _,⟨ha,hb,hx1.cell,hx2.cell,a1.fresh (Keep.of_below hb0) hnew,b1.fresh (Keep.of_below hb0) hnew⟩,hx1.frozen,hx2.frozen⟩
 have kp:∀W',Keep (fun k=>k=wx.heap.size∨k=wx.heap.size+1) w2 W'→Keep Mt wx W':=fun W' k=>⟨Nat.le_trans hb0.size k.size,fun j hj _=>(k.block j (Nat.lt_of_lt_of_le hj hb0.size) (by omega)).trans (hb0.block j hj)⟩;refine(collect_calls (fun x y=>cmpE (f x) (f y)) (by omega) (by omega) (by omega) (by omega) (by omega) hit (fun W' k y x hy hx=> ?_)).mono ?_
 ·obtain⟨ex,mx,hex⟩:=a2.mem hx;obtain⟨ey,my,hey⟩:=b2.mem hy;rw[←hf _ _ hex,←hf _ _ hey];have k1:=hex.k.keep (kp _ k);have k2:=hey.k.keep (kp _ k);exact cmpEvents_calls y x ey ex W' hey.t hex.t k2.here k1.here (by rw[k2.len];exact hk2 _ my) (by rw[k1.len];exact hk _ mx)
 ·rintro e w' ⟨v,rfl,hv,hkp⟩;obtain⟨A,c,rfl⟩:=Kd.R_slice hv;have hk3:=kp _ hkp.keep;have hbw:Below wx.heap.size wx w':=hb0.trans (hkp.below hb0.size (fun k hk e=>by omega));refine⟨⟨A,_,c⟩,rfl,?_,hbw⟩;have e2:mergeE es ms=(mergeL (fun x y=>cmpE (f x) (f y)) sa sb).map f:=by rw[mergeE_map,←ea,←eb]
  rw[e2];refine⟨_,Rd.of_R rfl hv (fun k h1 h2=> ?_),All2.map_of f fun x hx=> ?_⟩
  ·have:=Kd.R_base hv k h1;have:=hM k h2;omega
  ·rcases mergeL_mem hx with h|h
   ·obtain⟨ex,_,hex⟩:=a2.mem h;rw[←hf _ _ hex];exact hex.keep hk3
   ·obtain⟨ex,_,hex⟩:=b2.mem h;rw[←hf _ _ hex];exact hex.keep hk3
theorem mbMerge_calls {Mt:Nat→Prop} {W:World} {h1 h2:SH} {es ms:List Ev} (r1:EvsAt Mt W h1 es) (r2:EvsAt Mt W h2 ms) (hM:∀k,Mt k→k<W.heap.size) (hn:es.length≤1000000) (hm:ms.length≤1000000) (hk:∀e∈es,e.k.length≤1000000) (hk2:∀e∈ms,e.k.length≤1000000):
  Calls Tryz.prog 100 #[h1.v,h2.v] W fun e w'=>∃(h':SH) (ms':List Ev),e= .returned h'.v∧ms'.Perm ms∧SortedE ms'∧EvsAt Mt w' h' (mergeE es ms')∧Below W.heap.size W w':=by
 have HS:=am (sortEvents_calls r2 hM hm hk2);have HR:=am r1;have HM:=am hM;have HK:=am hk;have HK2:=am hk2;obtain⟨aA,an,ac⟩:=h1;obtain⟨bA,bn,bc⟩:=h2;simp only[SH.v]at HS ⊢;clear r1 r2 hM hk hk2;go_enter Tryz.func100,Tryz.ntmps100
 go_wp2_with (first
  |(go_at_call 76;(with_reducible refine HS.out.mono ?_);rintro e wx ⟨⟨sA,sn,sc⟩,ms',rfl,hr,hp,hs,hb⟩;have HX:=am hr;have HP:=am hp;have HSO:=am hs;have HB:=am hb;clear hr hp hs hb)
  |(go_at_call 118;(with_reducible refine(mergedF_calls wx aA sA an ac sn sc).mono ?_);rintro e wy ⟨rfl,hy⟩;have HY:=am hy;clear hy)
  |(have HCC:=am (collectDeep (ha:=⟨aA,an,ac⟩) (HR.out.below HB.out) HX.out (fun k hk=>Nat.lt_of_lt_of_le (HM.out k hk) HB.out.size) hn (by rw[HP.out.length_eq];exact hm) HK.out (fun e he=>HK2.out e (HP.out.subset he)));rw[←HY.out]at HCC;go_at_call 117;(with_reducible refine HCC.out.mono ?_);rintro e wz ⟨⟨zA,zn,zc⟩,rfl,hr,hb⟩;have HZ:=am hr;have HBZ:=am hb;clear hr hb))
 go_ret;exact⟨⟨zA,zn,zc⟩,ms',rfl,HP.out,HSO.out,HZ.out,HB.out.trans (HBZ.out.mono HB.out.size)⟩
end Go.Proofs.YtfnimdhghglanaaGreat.Hand
end
section
namespace Go.Proofs.YtfnimdhghglanaaGreat.Hand
open Go.RowKit Go.Shelf Go.Proofs.YtfnimdhghglanaaGreatW PrintWords PrintLast PrintMore
attribute [local go_sem] max2_int min2_int max_two min_two max_three min_three max_four min_four
theorem child_calls (A:Option Addr) (n c:Nat) (k:List Int) (i:Int) (W:World) (h:Kd.C (Kd.int .i64) W A n k) (hn:n≤1000000):
  Calls Tryz.prog 75 #[.slice A n c,.int .i64 i] W fun e w'=>∃v:Value,e= .returned v∧Kd.R (Kd.int .i64) 3 w' W.heap.size (fun _=>True) v (k++[i])∧Below W.heap.size W w':=by
 have HC:=am (cloneInt_calls A c n k W h h.1 hn);have HL:=am h.1;clear h;go_enter Tryz.func75,Tryz.ntmps75
 go_wp2_with (first
  |(go_at_call 38;(with_reducible refine HC.out.mono ?_);rintro e wx ⟨v,rfl,hv,hb⟩;have HV:=am hv;have HB:=am hb;clear hv hb)
  |((with_reducible refine gate_builtin (b:= .append) (xs:= #[.tmp 6,.tmp 8]) rfl ?_);at_builtin;refine Kd.R_append_rows (Kd.int .i64) (Rr:=fun y cs=>cs=[Value.int .i64 y]) (w0:=W) W.heap.size rfl (.tmp 6) (.tmp 8) 35 3 (.int .i64 0) 8 rfl Tryz.underlying35 info3 rfl (by decide) (by omega) _ k [i] (some ⟨wx.heap.size,0,none⟩) 1 1 (fun _=>True) (fun _=>False) rfl rfl (Kd.R_below HV.out (below_alloc (Below.refl _ _) _)) ?aR (fun q cs hq=>hq) (fun _ h=>h.elim) (fun _ _=>trivial) (below_alloc HB.out _) (below_alloc HB.out _).size ?aL ?_;(case aR=>exact⟨rfl,by decide,fun _=>⟨_,rfl,fun j p hj=>by
    obtain⟨h1,rfl⟩:=List.getElem?_eq_some_iff.1 hj;have hj0:j=0:=by simpa using h1
    subst hj0;refine⟨[.int .i64 i],rfl,rfl,fun t u hu=> ?_⟩;have ht:t=0:=by
     have:=(List.getElem?_eq_some_iff.1 hu).1
     simpa using this
    subst ht;rw[add_at,Nat.zero_add];exact cell_new _ _ _ _ _ _ rfl (by simpa using hu)⟩⟩);(case aL=>have:=HL.out;omega);intro v9 w9 ho9 hb9 hg9 hat9;have HO:=am ho9;have HB9:=am hb9;clear ho9 hb9 hg9 hat9))
 go_ret;exact⟨_,rfl,HO.out,HB9.out⟩
end Go.Proofs.YtfnimdhghglanaaGreat.Hand
end
section
namespace Go.Proofs.YtfnimdhghglanaaGreat.Hand
open Go.RowKit Go.Shelf Go.Proofs.YtfnimdhghglanaaGreatW PrintWords PrintLast PrintMore
section
structure Pc where
 pg:Int
 pc:Int
 al:Bool
 tm:List Int
 deriving DecidableEq
structure Lp where
 r0:Int
 r1:Int
 ps:List Pc
 sum:Int
 deriving DecidableEq
structure Ex where
 lp:Lp
 ev:Ev
 cr:List Ev
 n:Nat
 ca:List (List Int)
 ov:Bool
def IntB (w:World) (k:Nat):Prop:=∃cells,w.heap[k]?=some (.cells cells 3 (0,0))
def Lm (Mt:Nat→Prop) (B:Nat) (w:World) (k:Nat):Prop:=Mt k∨(B≤k∧¬IntB w k)
abbrev TExec:TypeId:=171
section
variable {Mt:Nat→Prop} {B:Nat} {w w':World}
theorem lm_back (hM:∀k,Mt k→k<B) (hk:Keep (Lm Mt B w) w w') (j:Nat) (hj:j<w.heap.size) (hm:Lm Mt B w' j):Lm Mt B w j:=by
 rcases hm with hm|⟨h1,h2⟩
 ·exact .inl hm
 ·refine .inr ⟨h1,fun e=>h2 ?_⟩;obtain⟨cells,hc⟩:=e;refine⟨cells,(hk.block j hj fun hl=> ?_).trans hc⟩;rcases hl with hl|⟨_,hl⟩
  ·have:=hM j hl;omega
  ·exact hl ⟨cells,hc⟩
theorem Rd.lm {s:SH} {k:List Int} (h:KeyAt (Lm Mt B w) w s k) (hM:∀k,Mt k→k<B) (hk:Keep (Lm Mt B w) w w'):KeyAt (Lm Mt B w') w' s k:=Rd.fresh h hk (lm_back hM hk)
theorem EvAt.lm {s:SE} {e:Ev} (h:EvAt (Lm Mt B w) w s e) (hM:∀k,Mt k→k<B) (hk:Keep (Lm Mt B w) w w'):EvAt (Lm Mt B w') w' s e:=h.fresh hk (lm_back hM hk)
theorem Keep.grown_lm {g:Nat} {t:TypeId} {cells:Array Value} (hg:w.grownBy w' (some g)) (hB:B≤g) (hh:w.heap[g]?=some (.cells cells t (0,0))) (ht:t≠3):Keep (Lm Mt B w) w w':=
 Keep.grown hg fun k hk=>by
  cases hk;refine .inr ⟨hB,fun e=> ?_⟩;obtain⟨c,hc⟩:=e;rw[hh]at hc;cases hc;exact ht rfl
structure PcAt (Mt:Nat→Prop) (w:World) (s:SP) (p:Pc):Prop where
 pg:s.pg=p.pg
 pc:s.pc=p.pc
 al:s.al=p.al
 tm:KeyAt Mt w s.tm p.tm
theorem PcAt.lm {s:SP} {p:Pc} (h:PcAt (Lm Mt B w) w s p) (hM:∀k,Mt k→k<B) (hk:Keep (Lm Mt B w) w w'):PcAt (Lm Mt B w') w' s p:=⟨h.pg,h.pc,h.al,h.tm.lm hM hk⟩
theorem PcAt.keep {s:SP} {p:Pc} (h:PcAt Mt w s p) (k:Keep Mt w w'):PcAt Mt w' s p:=⟨h.pg,h.pc,h.al,h.tm.keep k⟩
theorem PcAt.fresh {Mt':Nat→Prop} {s:SP} {p:Pc} (h:PcAt Mt w s p) (k:Keep Mt w w') (hm:∀k,k<w.heap.size→Mt' k→Mt k):PcAt Mt' w' s p:=⟨h.pg,h.pc,h.al,h.tm.fresh k hm⟩
end
def PcsAt (Mt:Nat→Prop) (w:World) (h:SH) (ps:List Pc):Prop:=∃ss,Rd kPr Mt w h ss∧All2 (PcAt Mt w) ss ps
theorem PcsAt.keep {Mt:Nat→Prop} {w w':World} {h:SH} {ps:List Pc} (r:PcsAt Mt w h ps) (k:Keep Mt w w'):PcsAt Mt w' h ps:=by
 obtain⟨ss,h1,h2⟩:=r;exact⟨ss,h1.keep k,h2.imp fun _ _ h=>h.keep k⟩
theorem PcsAt.fresh {Mt Mt':Nat→Prop} {w w':World} {h:SH} {ps:List Pc} (r:PcsAt Mt w h ps) (k:Keep Mt w w') (hm:∀k,k<w.heap.size→Mt' k→Mt k):PcsAt Mt' w' h ps:=by
 obtain⟨ss,h1,h2⟩:=r;exact⟨ss,h1.fresh k hm,h2.imp fun _ _ h=>h.fresh k hm⟩
theorem PcsAt.len {Mt:Nat→Prop} {w:World} {h:SH} {ps:List Pc} (r:PcsAt Mt w h ps):h.n=ps.length:=by
 obtain⟨ss,h1,h2⟩:=r;rw[h1.len,h2.len]
structure OwnAt {α β:Type} (d:Kd α) (e:TypeId) (R:(Nat→Prop)→World→α→β→Prop) (Mt:Nat→Prop) (B:Nat) (w:World) (h:SH) (xs:List β):Prop where
 ex:∃ss,Kd.R d e w B (fun _=>True) (.slice h.A h.n h.c) ss∧All2 (R (Lm Mt B w) w) ss xs
theorem OwnAt.len {α β:Type} {d:Kd α} {e:TypeId} {R:(Nat→Prop)→World→α→β→Prop} {Mt:Nat→Prop} {B:Nat} {w:World} {h:SH} {xs:List β} (r:OwnAt d e R Mt B w h xs):h.n=xs.length:=by
 obtain⟨ss,h1,h2⟩:=r.ex;rw[(Kd.R_reads' h1).1,h2.len]
theorem OwnAt.move {α β:Type} {d:Kd α} (hE:d.E=[]) {e:TypeId} {R:(Nat→Prop)→World→α→β→Prop} {Mt:Nat→Prop} {B:Nat} {w w':World} {h:SH} {xs:List β} (r:OwnAt d e R Mt B w h xs)
  (hR:∀s x,R (Lm Mt B w) w s x→R (Lm Mt B w') w' s x) (hb:∀k cells,w.heap[k]?=some (.cells cells e (0,0))→(Value.slice h.A h.n h.c).ownBlock=some k→w'.heap[k]?=w.heap[k]?):OwnAt d e R Mt B w' h xs:=by
 obtain⟨ss,h1,h2⟩:=r.ex;refine⟨ss,R_stay h1 hE fun k hk=> ?_,h2.imp fun s x hs=>hR s x hs⟩;obtain⟨cells,hc⟩:=Kd.R_typed h1 k hk;exact hb k cells hc hk
abbrev PsO:=OwnAt kPr 114 PcAt
abbrev CrO:=OwnAt kE 49 EvAt
abbrev CaO:=OwnAt kH 35 KeyAt
structure ExP (Mt:Nat→Prop) (W w:World) (kh ph ch xh:SH) (x:Ex):Prop where
 below:Below W.heap.size W w
 key:KeyAt (Lm Mt W.heap.size w) w kh x.ev.k
 ps:PsO Mt W.heap.size w ph x.lp.ps
 cr:CrO Mt W.heap.size w ch x.cr
 ca:CaO Mt W.heap.size w xh x.ca
def exCells (kh ph ch xh:SH) (x:Ex):Array Value:= #[.int .i64 x.lp.r0,.int .i64 x.lp.r1,.slice ph.A ph.n ph.c,.int .i64 x.lp.sum,.int .i64 x.ev.t,.slice kh.A kh.n kh.c,.int .i64 x.ev.lp,.int .i64 x.ev.kd,.int .i64 x.ev.pr,.int .i64 x.ev.ar,.slice ch.A ch.n ch.c,.int .i64 x.n,.slice xh.A xh.n xh.c,.bool x.ov]
structure ExAt (Mt:Nat→Prop) (W w:World) (b:Nat) (kh ph ch xh:SH) (x:Ex):Prop where
 p:ExP Mt W w kh ph ch xh x
 hb:W.heap.size≤b
 blk:w.heap[b]?=some (.cells (exCells kh ph ch xh x) TExec (0,0))
section
variable {Mt:Nat→Prop} {W w w':World} {b:Nat} {kh ph ch xh:SH} {x:Ex}
theorem ExP.moved (h:ExP Mt W w kh ph ch xh x) (hM:∀k,Mt k→k<W.heap.size) (hb:Below W.heap.size w w') (hk:Keep (Lm Mt W.heap.size w) w w')
  (h1:∀(k:Nat) (cells:Array Value) (t:TypeId),w.heap[k]?=some (Obj.cells cells t (0,0))→t=114∨t=49∨t=35→w'.heap[k]?=w.heap[k]?):ExP Mt W w' kh ph ch xh x:=
 ⟨h.below.trans hb,h.key.lm hM hk,h.ps.move rfl (fun _ _ hs=>PcAt.lm hs hM hk) (fun k cells hc _=>h1 k cells _ hc (.inl rfl)),
  h.cr.move rfl (fun _ _ hs=>EvAt.lm hs hM hk) (fun k cells hc _=>h1 k cells _ hc (.inr (.inl rfl))),h.ca.move rfl (fun _ _ hs=>Rd.lm hs hM hk) (fun k cells hc _=>h1 k cells _ hc (.inr (.inr rfl)))⟩
theorem ExP.more (h:ExP Mt W w kh ph ch xh x) (hM:∀k,Mt k→k<W.heap.size) (k:Below w.heap.size w w'):ExP Mt W w' kh ph ch xh x:=
 h.moved hM (k.mono h.below.size) (Keep.of_below k) fun j cells t hj _=>k.block j (blk_lt hj)
theorem ExP.put (h:ExP Mt W w kh ph ch xh x) (hM:∀k,Mt k→k<W.heap.size) {arr:Array Value} (hb:W.heap.size≤b) (hblk:w.heap[b]?=some (.cells arr TExec (0,0))) (j:Nat) (u:Value):ExP Mt W (w.setCell ⟨b,j,none⟩ u) kh ph ch xh x:=
 have hg:w.grownBy (w.setCell ⟨b,j,none⟩ u) (some b):=grown_cells [u] w j
 h.moved hM ((Below.refl W.heap.size w).setCell (p:=⟨b,j,none⟩) hb u) (Keep.grown_lm hg hb hblk (by decide)) fun k cells t hk ht=>hg.block k (blk_lt hk) fun e=>by
  cases e;rw[hblk]at hk;cases hk;rcases ht with ht|ht|ht<;>exact absurd ht (by decide)
theorem ExAt.more (h:ExAt Mt W w b kh ph ch xh x) (hM:∀k,Mt k→k<W.heap.size) (k:Below w.heap.size w w'):ExAt Mt W w' b kh ph ch xh x:=
 ⟨h.p.more hM k,h.hb,(k.block b (blk_lt h.blk)).trans h.blk⟩
theorem ExAt.put (h:ExAt Mt W w b kh ph ch xh x) (j:Nat) (u:Value) {kh' ph' ch' xh':SH} {x':Ex} (he:(exCells kh ph ch xh x).setIfInBounds j u=exCells kh' ph' ch' xh' x') (hp:ExP Mt W (w.setCell ⟨b,j,none⟩ u) kh' ph' ch' xh' x'):ExAt Mt W (w.setCell ⟨b,j,none⟩ u) b kh' ph' ch' xh' x':=
 ⟨hp,h.hb,blk_put h.blk j u he⟩
theorem ExAt.cells (h:ExAt Mt W w b kh ph ch xh x):∀j u,(exCells kh ph ch xh x)[j]?=some u→w.cell? ⟨b,j,none⟩=some u:=fun j u hu=>by
 simp only[World.cell?,h.blk];exact hu
theorem ExAt.free (h:ExAt Mt W w b kh ph ch xh x) (j:Nat):w.frozen? ⟨b,j,none⟩=false:=blk_frozen h.blk j
end
section
variable {α β γ δ:Type} {d:Kd α} {e:TypeId} {R:(Nat→Prop)→World→α→β→Prop} {d2:Kd γ} {e2:TypeId} {R2:(Nat→Prop)→World→γ→δ→Prop} {Mt:Nat→Prop} {B:Nat} {w w':World} {h h2:SH} {xs:List β} {ys:List δ}
theorem OwnAt.grow (r:OwnAt d e R Mt B w h xs) (he:e≠3) (hg:w.grownBy w' (Value.slice h.A h.n h.c).ownBlock):Keep (Lm Mt B w) w w':=by
 obtain⟨ss,h1,_⟩:=r.ex;cases ho:(Value.slice h.A h.n h.c).ownBlock with
 |none=>
  rw[ho]at hg;exact Keep.grown hg (fun k hk=>by cases hk)
 |some g=>
  rw[ho]at hg;obtain⟨cells,hc⟩:=Kd.R_typed h1 g ho;exact Keep.grown_lm hg (Kd.R_base h1 g ho) hc he
theorem OwnAt.beside (r:OwnAt d e R Mt B w h xs) (hE:d.E=[]) (r2:OwnAt d2 e2 R2 Mt B w h2 ys) (hne:e≠e2) (hg:w.grownBy w' (Value.slice h2.A h2.n h2.c).ownBlock) (hR:∀s x,R (Lm Mt B w) w s x→R (Lm Mt B w') w' s x):OwnAt d e R Mt B w' h xs:=by
 obtain⟨ss2,h3,_⟩:=r2.ex;refine r.move hE hR fun k cells hc hk=>hg.block k (blk_lt hc) fun e3=> ?_;obtain⟨c2,hc2⟩:=Kd.R_typed h3 k e3.symm;rw[hc]at hc2;cases hc2;exact hne rfl
theorem OwnAt.far (r:OwnAt d e R Mt B w h xs) (hE:d.E=[]) {b:Nat} {t:TypeId} {arr:Array Value} (hb:w.heap[b]?=some (.cells arr t (0,0))) (hne:e≠t) (hg:w.grownBy w' (some b)) (hR:∀s x,R (Lm Mt B w) w s x→R (Lm Mt B w') w' s x):OwnAt d e R Mt B w' h xs:=
 r.move hE hR fun k cells hc hk=>hg.block k (blk_lt hc) fun e3=>by
  cases e3;rw[hb]at hc;cases hc;exact hne rfl
end
section
variable {Mt:Nat→Prop} {B:Nat} {w:World} {ph:SH} {ps:List Pc}
theorem PsO.get (h:PsO Mt B w ph ps) (i:Nat) (hi:i<ps.length):∃g s,ph.A=some ⟨g,0,none⟩∧B≤g∧(∃cells,w.heap[g]?=some (.cells cells 114 (0,0)))∧PcAt (Lm Mt B w) w s ps[i]∧
  w.cell? ⟨g,i*4,none⟩=some (.int .i64 s.pg)∧w.cell? ⟨g,i*4+1,none⟩=some (.int .i64 s.pc)∧w.cell? ⟨g,i*4+2,none⟩=some (.bool s.al)∧w.cell? ⟨g,i*4+3,none⟩=some (.slice s.tm.A s.tm.n s.tm.c)∧∀j,w.frozen? ⟨g,j,none⟩=false:=by
 obtain⟨ss,h1,h2⟩:=h.ex;have hl:=h2.len;have hil:i<ss.length:=by omega
 obtain⟨g,cap,he,hg,_,cells,hc⟩:=Kd.R_form h1 (by omega);have hA:ph.A=some ⟨g,0,none⟩:=by injection he
 have hn:=(Kd.R_reads' h1).1;rw[hA]at h1;obtain⟨c,_,hM,hcc,_⟩:=Kd.R_elem h1 SP.zero (i:Int) (by omega) (by omega);rw[Int.toNat_natCast]at hM hcc;have e4:ss.getD i SP.zero=ss[i]'hil:=by simp[List.getD_eq_getElem?_getD,List.getElem?_eq_getElem (show i<ss.length by omega)]
 rw[e4]at hM;obtain rfl:c=SP.cells (ss[i]'hil):=hM;exact⟨g,ss[i]'hil,hA,hg,⟨cells,hc⟩,h2.get i (by omega) hi,hcc 0 _ rfl,hcc 1 _ rfl,hcc 2 _ rfl,hcc 3 _ rfl,fun j=>blk_frozen hc j⟩
theorem PsO.put (h:PsO Mt B w ph ps) (hM:∀k,Mt k→k<B) (i:Nat) (hi:i<ps.length) {g:Nat} (hA:ph.A=some ⟨g,0,none⟩) (j:Nat) (u:Value) (p':Pc)
  (hp:∀s,PcAt (Lm Mt B w) w s ps[i]→Keep (Lm Mt B w) w (w.setCell ⟨g,i*4+j,none⟩ u)→∃s',(SP.cells s).take j++[u]++(SP.cells s).drop (j+1)=SP.cells s'∧PcAt (Lm Mt B (w.setCell ⟨g,i*4+j,none⟩ u)) (w.setCell ⟨g,i*4+j,none⟩ u) s' p') (hj:j<4):
  PsO Mt B (w.setCell ⟨g,i*4+j,none⟩ u) ph (ps.set i p')∧w.grownBy (w.setCell ⟨g,i*4+j,none⟩ u) (some g)∧Keep (Lm Mt B w) w (w.setCell ⟨g,i*4+j,none⟩ u):=by
 obtain⟨ss,h1,h2⟩:=h.ex;have hl:=h2.len;have hil:i<ss.length:=by omega
 have hn:=(Kd.R_reads' h1).1;have hkeep:=fun hg=>h.grow (w':=w.setCell ⟨g,i*4+j,none⟩ u) (by decide) hg;rw[hA]at h1 hkeep;obtain⟨c,hcl,hMc,hcc,_⟩:=Kd.R_elem h1 SP.zero (i:Int) (by omega) (by omega);rw[Int.toNat_natCast]at hMc hcc;have e4:ss.getD i SP.zero=ss[i]'hil:=by simp[List.getD_eq_getElem?_getD,List.getElem?_eq_getElem (show i<ss.length by omega)]
 rw[e4]at hMc;obtain rfl:c=SP.cells (ss[i]'hil):=hMc;have hg:w.grownBy (w.setCell ⟨g,i*4+j,none⟩ u) (some g):=grown_cells [u] w (i*4+j);have hk:=hkeep hg;obtain⟨s',hs1,hs2⟩:=hp _ (h2.get i (by omega) hi) hk;have h3:=Kd.R_seg (okp:=fun _=>False) h1 (i:Int) (by omega) (by omega) (c:=SP.cells (ss[i]'hil)) (seg:=[u]) (j:=j) (x':=s') hcl (by rw[Int.toNat_natCast];exact hcc) (show j+1≤4 by omega) hs1 (fun _ h=>h.elim);rw[Int.toNat_natCast]at h3;refine⟨⟨⟨ss.set i s',by rw[hA];exact h3.1,?_⟩⟩,hg,hk⟩;exact(h2.imp fun _ _ hs=>PcAt.lm hs hM hk).set i hs2
end
end
end Go.Proofs.YtfnimdhghglanaaGreat.Hand
end
section
namespace Go.Proofs.YtfnimdhghglanaaGreat.Hand
open Go.RowKit Go.Shelf Go.Proofs.YtfnimdhghglanaaGreatW PrintWords PrintLast PrintMore
attribute [local go_sem] max2_int min2_int max_two min_two max_three min_three max_four min_four
theorem self_calls {w:World} {b g n c:Nat} (i:Nat) (h1:w.cell? ⟨b,2,none⟩=some (.slice (some ⟨g,0,none⟩) n c)) (h2:w.cell? ⟨b,8,none⟩=some (.int .i64 (i:Int))) (hi:i<n):
  Calls Tryz.prog 108 #[.pointer (some ⟨b,0,none⟩)] w fun e w'=>e= .returned (.pointer (some ⟨g,i*4,none⟩))∧Below w.heap.size w w':=by
 have m1:(i:Int)<(n:Nat):=by omega
 have m0:(0:Int)≤(i:Int):=by omega
 go_enter Tryz.func108,Tryz.ntmps108;go_upto_region 1 with (fail)
 go_region
 go_wp2_with (fail)
 go_ret;exact⟨rfl,below_drew (Below.refl _ _)⟩
theorem own_calls {w:World} {b:Nat} (lp kd pr ar:Int) (h1:w.cell? ⟨b,6,none⟩=some (.int .i64 lp)):
  Calls Tryz.prog 154 #[.pointer (some ⟨b,0,none⟩),.int .i64 kd,.int .i64 pr,.int .i64 ar] w fun e w'=>e= .returned (.agg #[.int .i64 0,.slice none 0 0,.int .i64 lp,.int .i64 kd,.int .i64 pr,.int .i64 ar])∧Below w.heap.size w w':=by
 have hlt:b<w.heap.size:=World.block_lt_of_cell? w ⟨b,6,none⟩ h1;go_enter Tryz.func154,Tryz.ntmps154
 go_wp2_with (fail)
 go_returns
 exact⟨rfl,by go_grown⟩
end Go.Proofs.YtfnimdhghglanaaGreat.Hand
end
