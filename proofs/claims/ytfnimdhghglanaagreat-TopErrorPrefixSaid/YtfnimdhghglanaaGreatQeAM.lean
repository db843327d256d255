/- TopErrorPrefix, part 13 of 41; no condition. (Printed from the session's own texts: what is not used left out, spaces spared.) -/
import Derived.Test.YtfnimdhghglanaaGreatQeAB
import Derived.Test.YtfnimdhghglanaaGreatQeAL
import Derived.Sort.CutIn
set_option maxRecDepth 100000
set_option maxHeartbeats 8000000
set_option linter.unusedVariables false
set_option linter.unusedSimpArgs false
section
namespace Go.Proofs.YtfnimdhghglanaaGreat.Hand
open Go.RowKit Go.Shelf Go.Proofs.YtfnimdhghglanaaGreatW.PrintWords Go.Proofs.YtfnimdhghglanaaGreatW.PrintLast Go.Proofs.YtfnimdhghglanaaGreatW.PrintMore
attribute [local go_sem] max2_int min2_int max_two min_two max_three min_three max_four min_four
attribute [local go_sem] Oper.semAt_some
structure KeepO (Mt:Nat→Prop) (w w':World):Prop where
 keep:Keep Mt w w'
 os:w'.os=w.os
 tape:w'.tape=w.tape
 output:w'.output=w.output
theorem KeepO.of_below {Mt:Nat→Prop} {w w':World} (h:Below w.heap.size w w'):KeepO Mt w w':=⟨Keep.of_below h,h.os,h.tape,h.output⟩
theorem KeepO.trans {Mt:Nat→Prop} {w w' w2:World} (h:KeepO Mt w w') (k:KeepO Mt w' w2):KeepO Mt w w2:=⟨h.keep.trans k.keep,k.os.trans h.os,k.tape.trans h.tape,k.output.trans h.output⟩
theorem KeepO.below {Mt:Nat→Prop} {w w':World} {B:Nat} (h:KeepO Mt w w') (hB:B≤w.heap.size) (hm:∀k,k<B→¬Mt k):Below B w w':=⟨h.os,h.tape,h.output,h.keep.size,fun k hk=>h.keep.block k (by omega) (hm k hk)⟩
structure It (Mt:Nat→Prop) (wb:World) (qa qb:Nat) (la lb:List SE) (W:World):Prop where
 keep:Keep Mt wb W
 ex:∃ha hb:SH,W.cell? ⟨qa,0,none⟩=some (.slice ha.A ha.n ha.c)∧W.cell? ⟨qb,0,none⟩=some (.slice hb.A hb.n hb.c)∧Rd kE Mt wb ha la∧Rd kE Mt wb hb lb
 fa:W.frozen? ⟨qa,0,none⟩=false
 fb:W.frozen? ⟨qb,0,none⟩=false
def mergeL (cmp:SE→SE→Int) (la lb:List SE):List SE:=List.merge la lb (fun x y=> !decide (cmp y x<0))
theorem mergeL_nil (cmp:SE→SE→Int) (lb:List SE):mergeL cmp [] lb=lb:=by simp[mergeL]
theorem mergeL_right (cmp:SE→SE→Int) (la:List SE):mergeL cmp la []=la:=by simp[mergeL]
theorem mergeL_length (cmp:SE→SE→Int) (la lb:List SE):(mergeL cmp la lb).length=la.length+lb.length:=by
 have:=(List.merge_perm_append (xs:=la) (ys:=lb) (le:=fun x y=> !decide (cmp y x<0))).length_eq
 rwa [List.length_append]at this
theorem mergeL_cons (cmp:SE→SE→Int) (x y:SE) (la lb:List SE):mergeL cmp (x::la) (y::lb)=if cmp y x<0 then y::mergeL cmp (x::la) lb else x::mergeL cmp la (y::lb):=by
 unfold mergeL;rw[List.cons_merge_cons];by_cases h:cmp y x<0<;>simp[h]
theorem Rd.tail {Mt:Nat→Prop} {w:World} {A:Option Addr} {n c:Nat} {x:SE} {l:List SE} (r:Rd kE Mt w ⟨A,n,c⟩ (x::l)):Rd kE Mt w ⟨if c=1 then A else A.map (·.add (1*6)),n-1,c-1⟩ l:=by
 have hn:n=(x::l).length:=r.len;have hc:n≤c:=r.cap;refine⟨by simp[hn],by simp only;omega,fun w' hw=> ?_⟩;have:=r.2.2 w' hw;simp only at this;rw[hn]at this;have h2:=Kd.C_drop this (m:=1) (by simp) (by rw[←hn];exact hc);have e:(x::l).drop 1=l:=rfl;rw[e]at h2;have e2:n-1=l.length:=by simp[hn]
 simp only;rw[e2];exact h2
def lenAt (w:World) (q:Nat):Nat:=match w.cell? ⟨q,0,none⟩with|some (.slice _ n _)=>n|_=>0
theorem It.below {Mt:Nat→Prop} {wb:World} {qa qb:Nat} {la lb:List SE} {W W':World} (h:It Mt wb qa qb la lb W) (hqa:Mt qa) (hqb:Mt qb) (k:Below W.heap.size W W'):It Mt wb qa qb la lb W':=by
 obtain⟨h1,⟨ha,hb,c1,c2,r1,r2⟩,h3,h4⟩:=h;have l1:=World.block_lt_of_cell? W _ c1;have l2:=World.block_lt_of_cell? W _ c2;exact⟨h1.trans (Keep.of_below k),⟨ha,hb,(k.cell (p:=⟨qa,0,none⟩) l1).trans c1,(k.cell (p:=⟨qb,0,none⟩) l2).trans c2,r1,r2⟩,
  by simpa [World.frozen?,k.block qa l1]using h3,by simpa [World.frozen?,k.block qb l2]using h4⟩
theorem lenAt_of {w:World} {q n c:Nat} {A:Option Addr} (h:w.cell? ⟨q,0,none⟩=some (.slice A n c)):lenAt w q=n:=by simp[lenAt,h]
theorem mut_cell {Mt:Nat→Prop} {A B:World} {q:Nat} (k:Keep Mt A B) (h:¬Mt q) (hq:q<A.heap.size) (j:Nat):B.cell? ⟨q,j,none⟩=A.cell? ⟨q,j,none⟩:=by simp only[World.cell?,k.block q hq h]
theorem KeepO.set_q (qa qb:Nat) (W:World) (q:Nat) (hq:q=qa∨q=qb) (u:Value):KeepO (fun k=>k=qa∨k=qb) W (W.setCell ⟨q,0,none⟩ u):=⟨Keep.set (Mt:=fun k=>k=qa∨k=qb) hq u,rfl,rfl,rfl⟩
theorem Keep.set_q (qa qb:Nat) (W:World) (q:Nat) (hq:q=qa∨q=qb) (u:Value):Keep (fun k=>k=qa∨k=qb) W (W.setCell ⟨q,0,none⟩ u):=Keep.set (Mt:=fun k=>k=qa∨k=qb) hq u
theorem merged_in {Mt:Nat→Prop} {wb:World} {qa qb m l:Nat} (cmp:SE→SE→Int) (la0 lb0:List SE) (hq:qa≠qb) (hqa:Mt qa) (hqb:Mt qb) (hla:la0.length≤1000000) (hlb:lb0.length≤1000000)
  (I:List SE→World→Prop) (hI:∀pre A B,I pre A→KeepO (fun k=>k=qa∨k=qb) A B→I pre B) (Rc:World→Prop) (hRc:∀A B,Rc A→Keep (fun k=>k=qa∨k=qb) A B→Rc B)
  (hcmp:∀W,Keep Mt wb W→∀y x,y∈lb0→x∈la0→Calls Tryz.prog 103 #[y.v,x.v] W fun e w'=>e= .returned (.int .i64 (cmp y x))∧Below W.heap.size W w')
  (hY:∀pre la lb x W,pre.length<la0.length+lb0.length→I pre W→It Mt wb qa qb la lb W→Rc W→YieldAt Fence.wide m Tryz.prog l #[x.v] W fun e W'=>e= .returned (.bool true)∧(I (pre++[x]) W'∧It Mt wb qa qb la lb W')∧Rc W')
  {W:World} (h0:I [] W) (hi:It Mt wb qa qb la0 lb0 W) (hr:Rc W):
  CallsIn Fence.wide (m+1) Tryz.prog 132 #[.func (.yield l) #[] #[],.pointer (some ⟨qa,0,none⟩),.pointer (some ⟨qb,0,none⟩)] W fun e W'=>(∃v,e= .returned v)∧I (mergeL cmp la0 lb0) W'∧Rc W':=by
 have HI:=am hI;have HRC:=am hRc;have HCMP:=am hcmp;have HY:=am hY;have H0:=am h0;have HIT:=am hi;have HR:=am hr;have HQ:=am hqa;have HQB:=am hqb;clear hI hRc hcmp hY h0 hi hr hqa hqb;refine callsIn_of_wp Tryz.func132 rfl trivial ?_ rfl;simp only[Tryz.ntmps132,List.size_toArray,List.length_cons,List.length_nil,Nat.reduceAdd,Nat.reduceSub,Array.replicate_succ,Array.replicate_zero,List.push_toArray,List.append_toArray,List.nil_append,List.cons_append]
 gi_wp2
 gi_loopw [] (fun wr=>∃(pre la lb:List SE),Aside0 (I pre wr)∧Aside0 (It Mt wb qa qb la lb wr)∧Aside0 (Rc wr)∧Aside0 (pre++mergeL cmp la lb=mergeL cmp la0 lb0)∧Aside0 ((∀x∈la,x∈la0)∧(∀x∈lb,x∈lb0))∧la.length≤1000000∧lb.length≤1000000) (fun wr=>lenAt wr qa+lenAt wr qb)
 case atStart=>exact⟨[],la0,lb0,H0,HIT,HR,⟨rfl⟩,⟨⟨fun _ h=>h,fun _ h=>h⟩⟩,hla,hlb⟩
 case round=>
  clear H0 HIT HR;obtain⟨pre,la,lb,HS,HIT,HR,HM,HMEM,hl1,hl2⟩:=hrel;obtain⟨⟨hA,hAn,hAc⟩,⟨hB,hBn,hBc⟩,ca,cb,ra,rb⟩:=HIT.out.ex;have fa:=HIT.out.fa;have fb:=HIT.out.fb;have na:hAn=la.length:=ra.len;have nb:hBn=lb.length:=rb.len;have HCA:=am ca;have HCB:=am cb;have HKP:=am HIT.out.keep;simp only at ca cb;have HLN:=am (show pre.length+(la.length+lb.length)=la0.length+lb0.length by
   have:=congrArg List.length HM.out
   rwa [List.length_append,mergeL_length,mergeL_length]at this)
  have NA:=am na;have NB:=am nb;cases lb with
  |nil=>
   cases la with
   |nil=>
    obtain rfl:hAn=0:=by simpa using na
    obtain rfl:hBn=0:=by simpa using nb
    clear na nb ra rb
    gi_wp2
    go_end0
    have:=HM.out;rw[mergeL_nil,List.append_nil]at this;exact⟨⟨_,rfl⟩,by rw[←this];exact HS.out,HR.out⟩
   |cons x la=>
    have z1:(0:Int)<(hAn:Int):=by simp at na;omega
    have z2:((hAn:Int)==0)=false:=beq_eq_false_iff_ne.2 (by omega);have z3:decide ((0:Int)<(hAn:Int))=true:=decide_eq_true z1;have w0:IntKind.i64.wrap (hAn:Int)=(hAn:Int):=(i64_w _).trans (by unfold Go.RowKit.wrap64;omega);obtain rfl:hBn=0:=by simpa using nb
    obtain⟨ad,e0,hab,hcl⟩:=ev_head (ra.keep HKP.out).here;simp only at e0;cases e0;obtain⟨p0,p1,p2,p3,p4,p5⟩:=hcl wr (fun _ _=>rfl);clear na nb ra rb hcl
    gi_upto_region 2 with (fail)
    refine wpIn_wide.2 ?_;refine sz_ 18 (S:=fun w'=>w'.cell? ⟨qa,0,none⟩=some (.slice (some ad) hAn hAc)∧w'.cell? ⟨qb,0,none⟩=some (.slice hB 0 hBc)) (ds:=[]) ⟨ca,cb⟩ (fun hHeld=> ?_);refine tz_ 0 11 18 1 hHeld ?_;refine pz_ 1 12 18 3 ?_;refine pz_ 2 13 18 7 ?_;refine pz_ 3 14 18 15 ?_;refine tz_ 4 15 18 31 hHeld ?_;refine pz_ 5 16 18 63 ?_;refine pz_ 6 17 18 127 ?_;refine pz_ 7 18 18 255 ?_;refine uz_ 8 19 18 511 ?_;refine uz_ 9 20 18 1023 ?_;refine uz_ 10 21 18 2047 ?_;refine uz_ 11 22 18 4095 ?_;refine uz_ 12 23 18 8191 ?_;refine uz_ 13 24 18 16383 ?_;refine uz_ 14 25 18 32767 ?_
    refine uz_ 15 26 18 65535 ?_;refine pz_ 16 27 18 131071 ?_;refine pz_ 17 28 18 262143 ?_;refine done_ (by kernel_rfl) ?_;obtain⟨fn,tmps,assign,body,hy,hR⟩:=HY.out pre (x::la) [] x wr.drew (by have:=HLN.out;simp only[List.length_cons,List.length_nil]at this;omega) (HI.out _ _ _ HS.out (KeepO.of_below (below_drew (Below.refl _ _)))) (HIT.out.below HQ.out HQB.out (below_drew (Below.refl _ _))) (HRC.out _ _ HR.out (Keep.of_below (below_drew (Below.refl _ _))));obtain⟨xt,⟨xA,xn,xc⟩,xl,xd,xp,xa⟩:=x;simp only at p0 p1 p2 p3 p4 p5;simp only[SE.v]at hy
    gi_wp2
    refine hR.mono ?_;rintro e W3 ⟨rfl,⟨hI3,hT3⟩,hR3⟩;have HI3:=am hI3;have HT3:=am hT3;have HR3:=am hR3;clear hI3 hT3 hR3 hR hy;obtain⟨⟨a2A,a2n,a2c⟩,⟨b2A,b2n,b2c⟩,ca2,cb2,ra2,rb2⟩:=HT3.out.ex;simp only at ca2 cb2;have fa2:=HT3.out.fa;have fb2:=HT3.out.fb;have HCA2:=am ca2;have HCB2:=am cb2;have HA2:=am ra2;have HB2:=am rb2;have hn2:(1:Int)≤(a2n:Int):=by
     have:=ra2.len;simp only[List.length_cons]at this;omega
    have HLA:=am ra2.len;have HLB:=am rb2.len;have HRT:=am ra2.tail;have qs:=evFrom a2A a2n a2c 1 (by omega) hn2;rw[show(1:Int).toNat=1 by rfl]at qs;clear ra2 rb2;obtain⟨A4,hA4⟩:∃A4,(if a2c=1 then a2A else a2A.map (·.add (1*6)))=A4:=⟨_,rfl⟩;rw[hA4]at qs;have HA4:=am hA4;clear hA4
    gi_wp2
    have hsame:(W3.setCell ⟨qa,0,none⟩ (.slice A4 (a2n-1) (a2c-1))).cell? ⟨qa,0,none⟩=some (.slice A4 (a2n-1) (a2c-1)):=World.cell?_setCell_same' _ _ _ (by rw[HCA2.out];rfl);have hoth:(W3.setCell ⟨qa,0,none⟩ (.slice A4 (a2n-1) (a2c-1))).cell? ⟨qb,0,none⟩=W3.cell? ⟨qb,0,none⟩:=cell_far (p:=⟨qa,0,none⟩) (a:=⟨qb,0,none⟩) (Ne.symm hq) _
    go_roundw
    case rel=>
     have hKO:=KeepO.set_q qa qb W3 qa (by simp) (.slice A4 (a2n-1) (a2c-1));have hK:=Keep.set_q qa qb W3 qa (by simp) (.slice A4 (a2n-1) (a2c-1));refine⟨pre++[⟨xt,⟨xA,xn,xc⟩,xl,xd,xp,xa⟩],la,[],⟨HI.out _ _ _ HI3.out hKO⟩,⟨⟨HT3.out.keep.trans (hK.mono (fun k _ e=>by rcases e with rfl|rfl;exact HQ.out;exact HQB.out)),?_,by rw[World.frozen?_setCell];exact fa2,by rw[World.frozen?_setCell];exact fb2⟩⟩,⟨HRC.out _ _ HR3.out hK⟩,⟨?_⟩,⟨?_⟩,by simp only[List.length_cons]at hl1 hl2 ⊢;omega,by simp only[List.length_cons]at hl1 hl2 ⊢;omega⟩
     ·refine⟨⟨A4,a2n-1,a2c-1⟩,⟨b2A,b2n,b2c⟩,hsame,hoth.trans HCB2.out,?_,HB2.out⟩;rw[←HA4.out];exact HRT.out
     ·have hm:=HM.out;rw[mergeL_right]at hm;rw[mergeL_right];rw[List.append_assoc];exact hm
     ·exact⟨fun z hz=>HMEM.out.1 z (by first|exact hz|exact List.mem_cons_of_mem _ hz),fun z hz=>HMEM.out.2 z (by first|exact hz|exact List.mem_cons_of_mem _ hz)⟩
    case measure=>
     rw[lenAt_of hsame,lenAt_of (hoth.trans HCB2.out),lenAt_of HCA.out,lenAt_of HCB.out];have e1:=HLA.out;have e2:=HLB.out;have e3:=NA.out;have e4:=NB.out;simp only[List.length_cons,List.length_nil]at e1 e2 e3 e4;omega
  |cons y lb=>
   cases la with
   |nil=>
    have z1:(0:Int)<(hBn:Int):=by simp at nb;omega
    have z3:decide ((0:Int)<(hBn:Int))=true:=decide_eq_true z1;obtain rfl:hAn=0:=by simpa using na
    have w0:IntKind.i64.wrap (hBn:Int)=(hBn:Int):=(i64_w _).trans (by unfold Go.RowKit.wrap64;omega);obtain⟨ad,e0,hab,hcl⟩:=ev_head (rb.keep HKP.out).here;simp only at e0;cases e0;obtain⟨p0,p1,p2,p3,p4,p5⟩:=hcl wr (fun _ _=>rfl);clear na nb ra rb hcl
    gi_upto_region 2 with (fail)
    refine wpIn_wide.2 ?_;refine sz_ 18 (S:=fun w'=>w'.cell? ⟨qa,0,none⟩=some (.slice hA 0 hAc)) (ds:=[]) (ca) (fun hHeld=> ?_);refine tz_ 0 11 18 1 hHeld ?_;refine pz_ 1 12 18 3 ?_;refine pz_ 2 13 18 7 ?_;refine pz_ 3 14 18 15 ?_;refine uz_ 4 15 18 31 ?_;refine uz_ 5 16 18 63 ?_;refine uz_ 6 17 18 127 ?_;refine uz_ 7 18 18 255 ?_;refine uz_ 8 19 18 511 ?_;refine uz_ 9 20 18 1023 ?_;refine uz_ 10 21 18 2047 ?_;refine uz_ 11 22 18 4095 ?_;refine uz_ 12 23 18 8191 ?_;refine uz_ 13 24 18 16383 ?_;refine uz_ 14 25 18 32767 ?_;refine uz_ 15 26 18 65535 ?_;refine uz_ 16 27 18 131071 ?_
    refine pz_ 17 28 18 262143 ?_;refine done_ (by kernel_rfl) ?_;obtain⟨fn,tmps,assign,body,hy,hR⟩:=HY.out pre [] (y::lb) y wr.drew (by have:=HLN.out;simp only[List.length_cons,List.length_nil]at this;omega) (HI.out _ _ _ HS.out (KeepO.of_below (below_drew (Below.refl _ _)))) (HIT.out.below HQ.out HQB.out (below_drew (Below.refl _ _))) (HRC.out _ _ HR.out (Keep.of_below (below_drew (Below.refl _ _))));obtain⟨xt,⟨xA,xn,xc⟩,xl,xd,xp,xa⟩:=y;simp only at p0 p1 p2 p3 p4 p5;simp only[SE.v]at hy
    gi_wp2
    refine hR.mono ?_;rintro e W3 ⟨rfl,⟨hI3,hT3⟩,hR3⟩;have HI3:=am hI3;have HT3:=am hT3;have HR3:=am hR3;clear hI3 hT3 hR3 hR hy;obtain⟨⟨a2A,a2n,a2c⟩,⟨b2A,b2n,b2c⟩,ca2,cb2,ra2,rb2⟩:=HT3.out.ex;simp only at ca2 cb2;have fa2:=HT3.out.fa;have fb2:=HT3.out.fb;have HCA2:=am ca2;have HCB2:=am cb2;have HA2:=am ra2;have HB2:=am rb2;have hn2:(1:Int)≤(b2n:Int):=by
     have:=rb2.len;simp only[List.length_cons]at this;omega
    have HLA:=am ra2.len;have HLB:=am rb2.len;have HRT:=am rb2.tail;have qs:=evFrom b2A b2n b2c 1 (by omega) hn2;rw[show(1:Int).toNat=1 by rfl]at qs;clear ra2 rb2;obtain⟨A4,hA4⟩:∃A4,(if b2c=1 then b2A else b2A.map (·.add (1*6)))=A4:=⟨_,rfl⟩;rw[hA4]at qs;have HA4:=am hA4;clear hA4
    gi_wp2
    have hsame:(W3.setCell ⟨qb,0,none⟩ (.slice A4 (b2n-1) (b2c-1))).cell? ⟨qb,0,none⟩=some (.slice A4 (b2n-1) (b2c-1)):=World.cell?_setCell_same' _ _ _ (by rw[HCB2.out];rfl);have hoth:(W3.setCell ⟨qb,0,none⟩ (.slice A4 (b2n-1) (b2c-1))).cell? ⟨qa,0,none⟩=W3.cell? ⟨qa,0,none⟩:=cell_far (p:=⟨qb,0,none⟩) (a:=⟨qa,0,none⟩) hq _
    go_roundw
    case rel=>
     have hKO:=KeepO.set_q qa qb W3 qb (by simp) (.slice A4 (b2n-1) (b2c-1));have hK:=Keep.set_q qa qb W3 qb (by simp) (.slice A4 (b2n-1) (b2c-1));refine⟨pre++[⟨xt,⟨xA,xn,xc⟩,xl,xd,xp,xa⟩],[],lb,⟨HI.out _ _ _ HI3.out hKO⟩,⟨⟨HT3.out.keep.trans (hK.mono (fun k _ e=>by rcases e with rfl|rfl;exact HQ.out;exact HQB.out)),?_,by rw[World.frozen?_setCell];exact fa2,by rw[World.frozen?_setCell];exact fb2⟩⟩,⟨HRC.out _ _ HR3.out hK⟩,⟨?_⟩,⟨?_⟩,by simp only[List.length_cons]at hl1 hl2 ⊢;omega,by simp only[List.length_cons]at hl1 hl2 ⊢;omega⟩
     ·refine⟨⟨a2A,a2n,a2c⟩,⟨A4,b2n-1,b2c-1⟩,hoth.trans HCA2.out,hsame,HA2.out,?_⟩;rw[←HA4.out];exact HRT.out
     ·have hm:=HM.out;rw[mergeL_nil]at hm;rw[mergeL_nil];rw[List.append_assoc];exact hm
     ·exact⟨fun z hz=>HMEM.out.1 z (by first|exact hz|exact List.mem_cons_of_mem _ hz),fun z hz=>HMEM.out.2 z (by first|exact hz|exact List.mem_cons_of_mem _ hz)⟩
    case measure=>
     rw[lenAt_of (hoth.trans HCA2.out),lenAt_of hsame,lenAt_of HCA.out,lenAt_of HCB.out];have e1:=HLA.out;have e2:=HLB.out;have e3:=NA.out;have e4:=NB.out;simp only[List.length_cons,List.length_nil]at e1 e2 e3 e4;omega
   |cons x la=>
    have za:(0:Int)<(hAn:Int):=by simp at na;omega
    have za2:((hAn:Int)==0)=false:=beq_eq_false_iff_ne.2 (by omega);have zb:(0:Int)<(hBn:Int):=by simp at nb;omega
    have zb2:decide ((0:Int)<(hBn:Int))=true:=decide_eq_true zb;have zb4:0<hBn:=by omega
    have za4:0<hAn:=by omega
    have zb3:decide (0<hBn)=true:=decide_eq_true zb4;have zs:decide ((0:Int)<(hAn:Int)+(hBn:Int))=true:=decide_eq_true (by omega);have w0:IntKind.i64.wrap ((hAn:Int)+(hBn:Int))=(hAn:Int)+(hBn:Int):=(i64_w _).trans (by unfold Go.RowKit.wrap64;omega);obtain⟨ad,e0,hab,hcl⟩:=ev_head (ra.keep HKP.out).here;simp only at e0;cases e0;obtain⟨ad2,e0,hab2,hcl2⟩:=ev_head (rb.keep HKP.out).here;simp only at e0;cases e0;have hcall:=HCMP.out wr.drew (HKP.out.trans (Keep.of_below (below_drew (Below.refl _ _)))) y x (HMEM.out.2 y List.mem_cons_self) (HMEM.out.1 x List.mem_cons_self)
    obtain⟨c,hc⟩:∃c,cmp y x=c:=⟨_,rfl⟩;rw[hc]at hcall;have HC:=am hc;have HLT:=am (show∀wx,Below wr.drew.heap.size wr.drew wx→wx.cell? ⟨qa,0,none⟩=wr.cell? ⟨qa,0,none⟩∧wx.cell? ⟨qb,0,none⟩=wr.cell? ⟨qb,0,none⟩∧(∀a:Addr,a.block=ad.block→wx.cell? a=wr.cell? a)∧(∀a:Addr,a.block=ad2.block→wx.cell? a=wr.cell? a)from fun wx hb=>
     ⟨hb.cell (p:=⟨qa,0,none⟩) (World.block_lt_of_cell? wr ⟨qa,0,none⟩ ca),hb.cell (p:=⟨qb,0,none⟩) (World.block_lt_of_cell? wr ⟨qb,0,none⟩ cb),fun a ha=>hb.cell (show a.block<wr.drew.heap.size by rw[ha];exact hab),fun a ha=>hb.cell (show a.block<wr.drew.heap.size by rw[ha];exact hab2)⟩)
    have HCL:=am hcl;have HCL2:=am hcl2;obtain⟨xt,⟨xA,xn,xc⟩,xl,xd,xp,xa⟩:=x;obtain⟨yt,⟨yA,yn,yc⟩,yl,yd,yp,ya⟩:=y;simp only[SE.v]at hcall;have HCALL:=am hcall;obtain⟨r0,r1,r2,r3,r4,r5⟩:=hcl wr (fun _ _=>rfl);obtain⟨s0,s1,s2,s3,s4,s5⟩:=hcl2 wr (fun _ _=>rfl);simp only at r0 r1 r2 r3 r4 r5 s0 s1 s2 s3 s4 s5;clear na nb ra rb hcl hcl2 hc hcall;by_cases hlt:c<0
    ·have d3:decide (c<0)=true:=decide_eq_true hlt
     gi_upto_region 2 with (fail)
     refine wpIn_wide.2 ?_
     go_region_held3 (fun w'=>w'.cell? ⟨qa,0,none⟩=some (.slice (some ad) hAn hAc)∧w'.cell? ⟨qb,0,none⟩=some (.slice (some ad2) hBn hBc)∧w'.cell? ad=some (.int .i64 xt)∧w'.cell? ⟨ad.block,ad.off+1,none⟩=some (.slice xA xn xc)∧w'.cell? ⟨ad.block,ad.off+2,none⟩=some (.int .i64 xl)∧w'.cell? ⟨ad.block,ad.off+3,none⟩=some (.int .i64 xd)∧w'.cell? ⟨ad.block,ad.off+4,none⟩=some (.int .i64 xp)∧w'.cell? ⟨ad.block,ad.off+5,none⟩=some (.int .i64 xa)∧w'.cell? ad2=some (.int .i64 yt)∧w'.cell? ⟨ad2.block,ad2.off+1,none⟩=some (.slice yA yn yc)∧w'.cell? ⟨ad2.block,ad2.off+2,none⟩=some (.int .i64 yl)∧w'.cell? ⟨ad2.block,ad2.off+3,none⟩=some (.int .i64 yd)∧w'.cell? ⟨ad2.block,ad2.off+4,none⟩=some (.int .i64 yp)∧w'.cell? ⟨ad2.block,ad2.off+5,none⟩=some (.int .i64 ya)) (first|go_keep|(rw[hcl1,hcl2,hcl3 ad rfl,hcl4 ad2 rfl,hcl3 ⟨ad.block,ad.off+1,none⟩ rfl,hcl3 ⟨ad.block,ad.off+2,none⟩ rfl,hcl3 ⟨ad.block,ad.off+3,none⟩ rfl,hcl3 ⟨ad.block,ad.off+4,none⟩ rfl,hcl3 ⟨ad.block,ad.off+5,none⟩ rfl,hcl4 ⟨ad2.block,ad2.off+1,none⟩ rfl,hcl4 ⟨ad2.block,ad2.off+2,none⟩ rfl,hcl4 ⟨ad2.block,ad2.off+3,none⟩ rfl,hcl4 ⟨ad2.block,ad2.off+4,none⟩ rfl,hcl4 ⟨ad2.block,ad2.off+5,none⟩ rfl];exact⟨ca,cb,r0,r1,r2,r3,r4,r5,s0,s1,s2,s3,s4,s5⟩))
      (first|(go_at_call 103;(with_reducible refine HCALL.out.mono ?_);rintro e wx ⟨rfl,hb⟩;have HBX:=am hb;obtain⟨hcl1,hcl2,hcl3,hcl4⟩:=HLT.out wx hb;clear hb))
     obtain⟨p0,p1,p2,p3,p4,p5⟩:=HCL2.out wx (fun a ha=>hcl4 a ha)
     try simp only at p0 p1 p2 p3 p4 p5
     have cb:=hcl2.trans cb;have ca:=hcl1.trans ca;clear r0 r1 r2 r3 r4 r5 s0 s1 s2 s3 s4 s5 hcl1 hcl2 hcl3 hcl4;obtain⟨fn,tmps,assign,body,hy,hR⟩:=HY.out pre (⟨xt,⟨xA,xn,xc⟩,xl,xd,xp,xa⟩::la) (⟨yt,⟨yA,yn,yc⟩,yl,yd,yp,ya⟩::lb) ⟨yt,⟨yA,yn,yc⟩,yl,yd,yp,ya⟩ wx (by have:=HLN.out;simp only[List.length_cons,List.length_nil]at this;omega) (HI.out _ _ _ HS.out (KeepO.of_below ((below_drew (Below.refl _ _)).trans HBX.out))) (HIT.out.below HQ.out HQB.out ((below_drew (Below.refl _ _)).trans HBX.out)) (HRC.out _ _ HR.out (Keep.of_below ((below_drew (Below.refl _ _)).trans HBX.out)));simp only[SE.v]at hy
     gi_wp2
     refine hR.mono ?_;rintro e W3 ⟨rfl,⟨hI3,hT3⟩,hR3⟩;have HI3:=am hI3;have HT3:=am hT3;have HR3:=am hR3;clear hI3 hT3 hR3 hR hy;obtain⟨⟨a2A,a2n,a2c⟩,⟨b2A,b2n,b2c⟩,ca2,cb2,ra2,rb2⟩:=HT3.out.ex;simp only at ca2 cb2;have fa2:=HT3.out.fa;have fb2:=HT3.out.fb;have HCA2:=am ca2;have HCB2:=am cb2;have HA2:=am ra2;have HB2:=am rb2;have hn2:(1:Int)≤(b2n:Int):=by
      have:=rb2.len;simp only[List.length_cons]at this;omega
     have HLA:=am ra2.len;have HLB:=am rb2.len;have HRT:=am rb2.tail;have qs:=evFrom b2A b2n b2c 1 (by omega) hn2;rw[show(1:Int).toNat=1 by rfl]at qs;clear ra2 rb2;obtain⟨A4,hA4⟩:∃A4,(if b2c=1 then b2A else b2A.map (·.add (1*6)))=A4:=⟨_,rfl⟩;rw[hA4]at qs;have HA4:=am hA4;clear hA4
     gi_wp2
     have hsame:(W3.setCell ⟨qb,0,none⟩ (.slice A4 (b2n-1) (b2c-1))).cell? ⟨qb,0,none⟩=some (.slice A4 (b2n-1) (b2c-1)):=World.cell?_setCell_same' _ _ _ (by rw[HCB2.out];rfl);have hoth:(W3.setCell ⟨qb,0,none⟩ (.slice A4 (b2n-1) (b2c-1))).cell? ⟨qa,0,none⟩=W3.cell? ⟨qa,0,none⟩:=cell_far (p:=⟨qb,0,none⟩) (a:=⟨qa,0,none⟩) hq _
     go_roundw
     case rel=>
      have hKO:=KeepO.set_q qa qb W3 qb (by simp) (.slice A4 (b2n-1) (b2c-1));have hK:=Keep.set_q qa qb W3 qb (by simp) (.slice A4 (b2n-1) (b2c-1));refine⟨pre++[⟨yt,⟨yA,yn,yc⟩,yl,yd,yp,ya⟩],(⟨xt,⟨xA,xn,xc⟩,xl,xd,xp,xa⟩::la),lb,⟨HI.out _ _ _ HI3.out hKO⟩,⟨⟨HT3.out.keep.trans (hK.mono (fun k _ e=>by rcases e with rfl|rfl;exact HQ.out;exact HQB.out)),?_,by rw[World.frozen?_setCell];exact fa2,by rw[World.frozen?_setCell];exact fb2⟩⟩,⟨HRC.out _ _ HR3.out hK⟩,⟨?_⟩,⟨?_⟩,by simp only[List.length_cons]at hl1 hl2 ⊢;omega,by simp only[List.length_cons]at hl1 hl2 ⊢;omega⟩
      ·refine⟨⟨a2A,a2n,a2c⟩,⟨A4,b2n-1,b2c-1⟩,hoth.trans HCA2.out,hsame,HA2.out,?_⟩;rw[←HA4.out];exact HRT.out
      ·have hm:=HM.out;rw[mergeL_cons,if_pos (by rw[HC.out];exact hlt)]at hm;rw[List.append_assoc];exact hm
      ·exact⟨fun z hz=>HMEM.out.1 z (by first|exact hz|exact List.mem_cons_of_mem _ hz),fun z hz=>HMEM.out.2 z (by first|exact hz|exact List.mem_cons_of_mem _ hz)⟩
     case measure=>
      rw[lenAt_of (hoth.trans HCA2.out),lenAt_of hsame,lenAt_of HCA.out,lenAt_of HCB.out];have e1:=HLA.out;have e2:=HLB.out;have e3:=NA.out;have e4:=NB.out;simp only[List.length_cons,List.length_nil]at e1 e2 e3 e4;omega
    ·have d3:decide (c<0)=false:=decide_eq_false hlt
     gi_upto_region 2 with (fail)
     refine wpIn_wide.2 ?_
     go_region_held3 (fun w'=>w'.cell? ⟨qa,0,none⟩=some (.slice (some ad) hAn hAc)∧w'.cell? ⟨qb,0,none⟩=some (.slice (some ad2) hBn hBc)∧w'.cell? ad=some (.int .i64 xt)∧w'.cell? ⟨ad.block,ad.off+1,none⟩=some (.slice xA xn xc)∧w'.cell? ⟨ad.block,ad.off+2,none⟩=some (.int .i64 xl)∧w'.cell? ⟨ad.block,ad.off+3,none⟩=some (.int .i64 xd)∧w'.cell? ⟨ad.block,ad.off+4,none⟩=some (.int .i64 xp)∧w'.cell? ⟨ad.block,ad.off+5,none⟩=some (.int .i64 xa)∧w'.cell? ad2=some (.int .i64 yt)∧w'.cell? ⟨ad2.block,ad2.off+1,none⟩=some (.slice yA yn yc)∧w'.cell? ⟨ad2.block,ad2.off+2,none⟩=some (.int .i64 yl)∧w'.cell? ⟨ad2.block,ad2.off+3,none⟩=some (.int .i64 yd)∧w'.cell? ⟨ad2.block,ad2.off+4,none⟩=some (.int .i64 yp)∧w'.cell? ⟨ad2.block,ad2.off+5,none⟩=some (.int .i64 ya)) (first|go_keep|(rw[hcl1,hcl2,hcl3 ad rfl,hcl4 ad2 rfl,hcl3 ⟨ad.block,ad.off+1,none⟩ rfl,hcl3 ⟨ad.block,ad.off+2,none⟩ rfl,hcl3 ⟨ad.block,ad.off+3,none⟩ rfl,hcl3 ⟨ad.block,ad.off+4,none⟩ rfl,hcl3 ⟨ad.block,ad.off+5,none⟩ rfl,hcl4 ⟨ad2.block,ad2.off+1,none⟩ rfl,hcl4 ⟨ad2.block,ad2.off+2,none⟩ rfl,hcl4 ⟨ad2.block,ad2.off+3,none⟩ rfl,hcl4 ⟨ad2.block,ad2.off+4,none⟩ rfl,hcl4 ⟨ad2.block,ad2.off+5,none⟩ rfl];exact⟨ca,cb,r0,r1,r2,r3,r4,r5,s0,s1,s2,s3,s4,s5⟩))
      (first|(go_at_call 103;(with_reducible refine HCALL.out.mono ?_);rintro e wx ⟨rfl,hb⟩;have HBX:=am hb;obtain⟨hcl1,hcl2,hcl3,hcl4⟩:=HLT.out wx hb;clear hb))
     obtain⟨p0,p1,p2,p3,p4,p5⟩:=HCL.out wx (fun a ha=>hcl3 a ha)
     try simp only at p0 p1 p2 p3 p4 p5
     have cb:=hcl2.trans cb;have ca:=hcl1.trans ca;clear r0 r1 r2 r3 r4 r5 s0 s1 s2 s3 s4 s5 hcl1 hcl2 hcl3 hcl4;obtain⟨fn,tmps,assign,body,hy,hR⟩:=HY.out pre (⟨xt,⟨xA,xn,xc⟩,xl,xd,xp,xa⟩::la) (⟨yt,⟨yA,yn,yc⟩,yl,yd,yp,ya⟩::lb) ⟨xt,⟨xA,xn,xc⟩,xl,xd,xp,xa⟩ wx (by have:=HLN.out;simp only[List.length_cons,List.length_nil]at this;omega) (HI.out _ _ _ HS.out (KeepO.of_below ((below_drew (Below.refl _ _)).trans HBX.out))) (HIT.out.below HQ.out HQB.out ((below_drew (Below.refl _ _)).trans HBX.out)) (HRC.out _ _ HR.out (Keep.of_below ((below_drew (Below.refl _ _)).trans HBX.out)));simp only[SE.v]at hy
     gi_wp2
     refine hR.mono ?_;rintro e W3 ⟨rfl,⟨hI3,hT3⟩,hR3⟩;have HI3:=am hI3;have HT3:=am hT3;have HR3:=am hR3;clear hI3 hT3 hR3 hR hy;obtain⟨⟨a2A,a2n,a2c⟩,⟨b2A,b2n,b2c⟩,ca2,cb2,ra2,rb2⟩:=HT3.out.ex;simp only at ca2 cb2;have fa2:=HT3.out.fa;have fb2:=HT3.out.fb;have HCA2:=am ca2;have HCB2:=am cb2;have HA2:=am ra2;have HB2:=am rb2;have hn2:(1:Int)≤(a2n:Int):=by
      have:=ra2.len;simp only[List.length_cons]at this;omega
     have HLA:=am ra2.len;have HLB:=am rb2.len;have HRT:=am ra2.tail;have qs:=evFrom a2A a2n a2c 1 (by omega) hn2;rw[show(1:Int).toNat=1 by rfl]at qs;clear ra2 rb2;obtain⟨A4,hA4⟩:∃A4,(if a2c=1 then a2A else a2A.map (·.add (1*6)))=A4:=⟨_,rfl⟩;rw[hA4]at qs;have HA4:=am hA4;clear hA4
     gi_wp2
     have hsame:(W3.setCell ⟨qa,0,none⟩ (.slice A4 (a2n-1) (a2c-1))).cell? ⟨qa,0,none⟩=some (.slice A4 (a2n-1) (a2c-1)):=World.cell?_setCell_same' _ _ _ (by rw[HCA2.out];rfl);have hoth:(W3.setCell ⟨qa,0,none⟩ (.slice A4 (a2n-1) (a2c-1))).cell? ⟨qb,0,none⟩=W3.cell? ⟨qb,0,none⟩:=cell_far (p:=⟨qa,0,none⟩) (a:=⟨qb,0,none⟩) (Ne.symm hq) _
     go_roundw
     case rel=>
      have hKO:=KeepO.set_q qa qb W3 qa (by simp) (.slice A4 (a2n-1) (a2c-1));have hK:=Keep.set_q qa qb W3 qa (by simp) (.slice A4 (a2n-1) (a2c-1));refine⟨pre++[⟨xt,⟨xA,xn,xc⟩,xl,xd,xp,xa⟩],la,(⟨yt,⟨yA,yn,yc⟩,yl,yd,yp,ya⟩::lb),⟨HI.out _ _ _ HI3.out hKO⟩,⟨⟨HT3.out.keep.trans (hK.mono (fun k _ e=>by rcases e with rfl|rfl;exact HQ.out;exact HQB.out)),?_,by rw[World.frozen?_setCell];exact fa2,by rw[World.frozen?_setCell];exact fb2⟩⟩,⟨HRC.out _ _ HR3.out hK⟩,⟨?_⟩,⟨?_⟩,by simp only[List.length_cons]at hl1 hl2 ⊢;omega,by simp only[List.length_cons]at hl1 hl2 ⊢;omega⟩
      ·refine⟨⟨A4,a2n-1,a2c-1⟩,⟨b2A,b2n,b2c⟩,hsame,hoth.trans HCB2.out,?_,HB2.out⟩;rw[←HA4.out];exact HRT.out
      ·have hm:=HM.out;rw[mergeL_cons,if_neg (by rw[HC.out];omega)]at hm;rw[List.append_assoc];exact hm
      ·exact⟨fun z hz=>HMEM.out.1 z (by first|exact hz|exact List.mem_cons_of_mem _ hz),fun z hz=>HMEM.out.2 z (by first|exact hz|exact List.mem_cons_of_mem _ hz)⟩
     case measure=>
      rw[lenAt_of hsame,lenAt_of (hoth.trans HCB2.out),lenAt_of HCA.out,lenAt_of HCB.out];have e1:=HLA.out;have e2:=HLB.out;have e3:=NA.out;have e4:=NB.out;simp only[List.length_cons,List.length_nil]at e1 e2 e3 e4;omega
end Go.Proofs.YtfnimdhghglanaaGreat.Hand
end
