/- TopErrorPrefix, part 24 of 41; no condition. (Printed from the session's own texts: what is not used left out, spaces spared.) -/
import Derived.Test.YtfnimdhghglanaaGreatQeAW
import Derived.Handy
set_option maxRecDepth 100000
set_option maxHeartbeats 8000000
set_option linter.unusedVariables false
set_option linter.unusedSimpArgs false
section
namespace Go.Proofs.YtfnimdhghglanaaGreat.Hand
open Go.Proofs.YtfnimdhghglanaaGreat.Sch
open Go.RowKit Go.Shelf Go.Proofs.YtfnimdhghglanaaGreatW.PrintWords Go.Proofs.YtfnimdhghglanaaGreatW.PrintLast Go.Proofs.YtfnimdhghglanaaGreatW.PrintMore
attribute [local go_sem] max2_int min2_int max_two min_two max_three min_three max_four min_four
theorem evss_split {Mt:Nat→Prop} {w:World}:∀{hs:List SH} {ess:List (List Ev)},All2 (EvsAt Mt w) hs ess→∃sss:List (List SE),All2 (fun h ss=>Rd kE Mt w h ss) hs sss∧All2 (EvAt Mt w) sss.flatten ess.flatten
 | [],[],.nil=>⟨[],.nil,.nil⟩
 |h::hs,es::ess,.cons h1 h2=>by
  obtain⟨ss,r1,r2⟩:=h1;obtain⟨sss,r3,r4⟩:=evss_split h2;exact⟨ss::sss,.cons r1 r3,by simpa using r2.append r4⟩
theorem concatDeep {Mt:Nat→Prop} {w:World} {h:SH} {ess:List (List Ev)} (r:EvssAt Mt w h ess) (hM:∀k,Mt k→k<w.heap.size) (hn:ess.length≤1000000) (hl:ess.flatten.length≤1000000):
  Calls Tryz.prog 29 #[.slice h.A h.n h.c] w fun e w'=>∃h':SH,e= .returned (.slice h'.A h'.n h'.c)∧h'.n=ess.flatten.length∧EvsAt Mt w' h' ess.flatten∧Below w.heap.size w w':=by
 obtain⟨hs,r1,r2⟩:=r;obtain⟨sss,r3,r4⟩:=evss_split r2;have hlen:=r4.len;refine(concat_calls h.A h.n h.c hs sss r1.here (r3.imp fun h ss hr=>⟨hr.1,hr.2.1,hr.here⟩) (by rw[r1.len,r2.len];exact hn) (by rw[hlen];exact hl)).mono ?_;rintro e w' ⟨v,rfl,hv,hb⟩;obtain⟨A,n,c,hnn,rfl⟩:=R_slice3 hv;exact⟨⟨A,n,c⟩,rfl,by simp only;rw[hnn,hlen],⟨_,Rd.of_R rfl hv (fun k hk hm=>by have:=Kd.R_base hv k hk;have:=hM k hm;omega),r4.imp fun _ _ h=>h.below hb⟩,hb⟩
theorem count_calls {Mt:Nat→Prop} {w:World} {h:SH} {ess:List (List Ev)} (r:EvssAt Mt w h ess) (hM:∀k,Mt k→k<w.heap.size) (hn:ess.length≤1000000) (hl:ess.flatten.length≤1000000):
  Calls Tryz.prog 54 #[.slice h.A h.n h.c] w fun e w'=>e= .returned (.int .i64 ess.flatten.length)∧Below w.heap.size w w':=by
 have HC:=am (concatDeep r hM hn hl);clear r hM;obtain⟨hA,hN,hc⟩:=h;simp only at HC;go_enter Tryz.func54,Tryz.ntmps54
 go_wp2_with (first|(go_at_call 29;(with_reducible refine HC.out.mono ?_);rintro e w' ⟨⟨A2,n2,c2⟩,rfl,hn2,_,hb⟩;have HN:=am hn2;have HB:=am hb;clear hn2 hb))
 go_ret;exact⟨by rw[show n2=ess.flatten.length from HN.out];rfl,HB.out⟩
theorem commits_calls {Mt:Nat→Prop} {w:World} {h:SH} {ess:List (List Ev)} (r:EvssAt Mt w h ess) (hM:∀k,Mt k→k<w.heap.size) (hn:ess.length≤1000000) (hl:ess.flatten.length≤1000000):
  Calls Tryz.prog 12 #[.slice h.A h.n h.c] w fun e w'=>e= .returned (.int .i64 ess.flatten.length)∧Below w.heap.size w w':=by
 have HC:=am (concatDeep r hM hn hl);clear r hM;obtain⟨hA,hN,hc⟩:=h;simp only at HC;go_enter Tryz.func12,Tryz.ntmps12
 go_wp2_with (first|(go_at_call 29;(with_reducible refine HC.out.mono ?_);rintro e w' ⟨⟨A2,n2,c2⟩,rfl,hn2,_,hb⟩;have HN:=am hn2;have HB:=am hb;clear hn2 hb))
 go_ret;exact⟨by rw[show n2=ess.flatten.length from HN.out];rfl,HB.out⟩
theorem clipI_calls (A:Option Addr) (n c:Nat) (hc:n≤c) (w:World):Calls Tryz.prog 82 #[.slice A n c] w fun e w'=>e= .returned (.slice A n n)∧Below w.heap.size w w':=by
 have h1:(0:Int)≤(n:Int):=by omega
 have h2:(n:Int)≤(c:Int):=by omega
 go_enter Tryz.func82,Tryz.ntmps82
 go_wp2_with (fail)
 go_ret;exact⟨rfl,Below.refl _ _⟩
theorem clipP_calls (A:Option Addr) (n c:Nat) (hc:n≤c) (w:World):Calls Tryz.prog 83 #[.slice A n c] w fun e w'=>e= .returned (.slice A n n)∧Below w.heap.size w w':=by
 have h1:(0:Int)≤(n:Int):=by omega
 have h2:(n:Int)≤(c:Int):=by omega
 go_enter Tryz.func83,Tryz.ntmps83
 go_wp2_with (fail)
 go_ret;exact⟨rfl,Below.refl _ _⟩
def mn2 (x y:Int):Int:=if y<x then y else x
def lmin:List Int→Int
 | []=>0
 |x::xs=>xs.foldl mn2 x
theorem lmin_take_succ (l:List Int) (k:Nat) (h1:1≤k) (h:k<l.length):lmin (l.take (k+1))=mn2 (lmin (l.take k)) (l[k]):=by
 cases l with
 |nil=>simp at h
 |cons x xs=>
  obtain⟨j,rfl⟩:∃j,k=j+1:=⟨k-1,by omega⟩;simp only[List.take_succ_cons,lmin,List.getElem_cons_succ];rw[List.take_succ_eq_append_getElem (by simpa using h),List.foldl_append];rfl
theorem min_calls (A0:Option Addr) (c0:Nat) (l0:List Int) (w:World) (hr0:Kd.C (Kd.int .i64) w A0 l0.length l0) (hl:l0.length≤17592186044416) (hp:1≤l0.length):
  Calls Tryz.prog 77 #[.slice A0 l0.length c0] w fun e w'=>e= .returned (.int .i64 (lmin l0))∧Drawn0 w w':=by
 have HR:=am hr0;obtain⟨ad,e0,hx0⟩:=Kd.at_int hr0 0 (by omega) (by omega);cases e0;clear hr0;have e1:rd l0 0=lmin (l0.take 1):=by
  cases l0 with
  |nil=>simp at hp
  |cons x xs=>rfl
 rw[e1]at hx0;clear e1;have hxz:w.cell? ad=some (.int .i64 (lmin (l0.take 1))):=by rw[←hx0];rfl
 clear hx0;go_enter Tryz.func77,Tryz.ntmps77
 go_wp2
 go_loopw [3,4] (fun m i w'=>∃k:Nat,1≤k∧k≤l0.length∧i= .int .i64 k∧m= .int .i64 (lmin (l0.take k))∧Drawn0 w w') (fun _ i _=>l0.length-(intOf i).toNat)
 case atStart=>exact⟨1,by omega,by omega,rfl,rfl,Drawn0.refl _⟩
 case round=>
  obtain⟨k,hk1,hk,rfl,rfl,⟨m1,rfl⟩⟩:=hrel;clear hxz;by_cases hlt:k<l0.length
  ·have hs:=am (lmin_take_succ l0 k hk1 hlt);obtain⟨ad2,e2,hx⟩:=Kd.at_int HR.out (k:Int) (by omega) (by omega);cases e2;rw[show rd l0 (k:Int)=l0[k]by simp[rd,List.getD_eq_getElem?_getD,hlt],Int.toNat_natCast]at hx
   go_wp2
   go_roundw
   case rel=>exact⟨k+1,by omega,by omega,by go_num,by rw[hs.out];rfl,by repeat (first|exact Drawn0.refl _|apply Drawn0.step)⟩
   case measure=>simp[intOf];omega
  ·have hge:l0.length≤k:=by omega
   clear hlt
   go_wp2
   go_ret;exact⟨by first|rfl|(rw[List.take_of_length_le hge];rfl),by repeat (first|exact Drawn0.refl _|apply Drawn0.step)⟩
theorem infoInt:(Tryz.prog.info? 3).map (fun i=>(i.zero,i.size,i.bytes))=some (some (.int .i64 0),1,8):=by kernel_rfl
def headT (b:List Ev):List Int:=match b with
 | []=>[]
 |e::_=>[e.t]
def firsts (boxes:List (List Ev)):List Int:=(boxes.map headT).flatten
theorem firsts_next (boxes:List (List Ev)) (k:Nat) (hk:k<boxes.length):firsts (boxes.take (k+1))=firsts (boxes.take k)++headT boxes[k]:=by
 unfold firsts;rw[←List.take_append_getElem hk,List.map_append,List.flatten_append];simp
theorem firsts_le (boxes:List (List Ev)):(firsts boxes).length≤boxes.length:=by
 unfold firsts
 induction boxes with
 |nil=>simp
 |cons b l ih=>
  simp only[List.map_cons,List.flatten_cons,List.length_append,List.length_cons];have:(headT b).length≤1:=by cases b<;>simp[headT]
  omega
theorem floor_calls {Mt:Nat→Prop} {w:World} {h:SH} {boxes:List (List Ev)} (r:EvssAt Mt w h boxes) (hn:boxes.length≤1000000):
  Calls Tryz.prog 53 #[.slice h.A h.n h.c] w fun e w'=>e= .returned (.tuple #[.int .i64 (lmin (firsts boxes)),.bool (!(firsts boxes).isEmpty)])∧Below w.heap.size w w':=by
 obtain⟨hs,r1,r2⟩:=r;obtain⟨hA,hN,hc⟩:=h;have hln:hN=boxes.length:=r1.len.trans r2.len;have H1:=am r1;have H2:=am r2;have HLN:=am hln;have HN:=am hn;clear r1 r2 hln hn;go_enter Tryz.func53,Tryz.ntmps53
 go_wp2_with (fail)
 go_loopw [4,9] (fun v j wr=>∃k:Nat,k≤hN∧j= .int .i64 k∧Aside0 (Kd.R (Kd.int .i64) 3 wr w.heap.size (fun _=>True) v (firsts (boxes.take k)))∧Aside0 (Below w.heap.size w wr)) (fun _ j _=>hN-(intOf j).toNat)
 case atStart=>exact⟨0,Nat.zero_le _,rfl,⟨Kd.R_nil _ _ _ _ _⟩,⟨Below.refl _ _⟩⟩
 case round=>
  obtain⟨k,hk,rfl,HR,HB⟩:=hrel;by_cases hkn:k<hN
  ·have d1:decide ((k:Int)<(hN:Int))=true:=decide_eq_true (by omega);have d1':decide (k<hN)=true:=decide_eq_true hkn;have m1:(k:Int)<(hN:Nat):=by omega
   have m0:(0:Int)≤(k:Int):=by omega
   have hkb:k≤1000000:=by have:=HLN.out;have:=HN.out;omega
   obtain⟨ad,⟨xA,xn,xc⟩,e0,⟨hl1,hx1⟩,p0⟩:=hd_cells (H1.out.below HB.out).here k hkn;simp only at e0 p0;subst e0;have hl2:k<boxes.length:=by have:=HLN.out;omega
   have hE:=H2.out.get k hl1 hl2;rw[hx1]at hE;have HNX:=am (firsts_next boxes k hl2);have HFL:=am (show(firsts (boxes.take k)).length≤1000000 by have:=firsts_le (boxes.take k);have:=HN.out;rw[List.length_take]at*;omega);obtain⟨bk,hbk⟩:∃bk,boxes[k]=bk:=⟨_,rfl⟩;rw[hbk]at hE HNX;have hlen:xn=bk.length:=hE.len;cases bk with
   |nil=>
    have z1:decide ((0:Int)<(xn:Int))=false:=decide_eq_false (by simp at hlen;omega);obtain rfl:xn=0:=by simpa using hlen
    clear hE hlen hbk
    go_wp2_with (fail)
    go_roundw
    case rel=>exact⟨k+1,Nat.succ_le_of_lt hkn,by go_num,⟨by rw[HNX.out];simpa [headT]using HR.out⟩,HB⟩
    case measure=>simp[intOf];omega
   |cons e b=>
    have hpos:0<xn:=by simp at hlen;omega
    have z1:decide ((0:Int)<(xn:Int))=true:=decide_eq_true (by omega);have z1':(0:Int)<(xn:Int):=by omega
    obtain⟨ss,r3,r4⟩:=hE.below HB.out;cases r4 with
    |cons h1 h2=>
     rename_i s ss';obtain⟨ad2,e2,hab,hcl⟩:=ev_head r3.here;simp only at e2;subst e2;obtain⟨q0,_⟩:=hcl wr (fun _ _=>rfl);rw[h1.t]at q0;clear h1 h2 hcl r3 hE hlen hbk hab
     go_wp2_with (first|((with_reducible refine gate_builtin (b:= .append) (xs:= #[.tmp 16,.tmp 21]) rfl ?_);at_builtin;refine Kd.R_append (Kd.int .i64) (w0:=w) w.heap.size rfl (.tmp 16) (.tmp 21) 35 3 (.int .i64 0) 8 rfl Tryz.underlying35 infoInt rfl (by decide) (by omega) u4 (firsts (boxes.take k)) e.t [.int .i64 e.t] (fun _=>True) (fun _=>False) rfl rfl ?aP (fun _ hk=>hk.elim) ?aF ?aO ?aB ?aS ?aL ?_;(case aP=>exact rfl);(case aB=>exact HB.out);(case aF=>exact(fun _ _=>trivial));(case aO=>exact HR.out);(case aS=>exact HB.out.size);(case aL=>have:=HFL.out;omega);intro v8 w8 ho hb hg hat;have HO8:=am ho;have HB8:=am hb;clear ho hb hg hat))
     go_roundw
     case rel=>exact⟨k+1,Nat.succ_le_of_lt hkn,by go_num,⟨by rw[HNX.out];exact HO8.out⟩,HB8⟩
     case measure=>simp[intOf];omega
  ·obtain rfl:k=hN:=by omega
   have d1:decide ((k:Int)<(k:Int))=false:=decide_eq_false (by omega);have d1':decide (k<k)=false:=decide_eq_false (by omega);have hall:boxes.take k=boxes:=List.take_of_length_le (by have:=HLN.out;omega);rw[hall]at HR;obtain⟨A2,n2,c2,hn2,rfl⟩:=R_slice3 HR.out;have hfl:=firsts_le boxes;have HNN:=HN.out;by_cases h0:n2=0
   ·subst h0;have hf:firsts boxes=[]:=List.length_eq_zero_iff.1 hn2.symm;have HF:=am hf;clear hn2 hf hall hfl HNN
    go_wp2_with (fail)
    go_returns
    rw[HF.out];exact⟨rfl,HB.out⟩
   ·have z0:((n2:Int)==0)=false:=beq_eq_false_iff_ne.2 (by omega);have HMIN:=am (min_calls A2 c2 (firsts boxes) wr (by have:=(Kd.R_reads' HR.out).2.2;rwa [←hn2]at this ⊢) (by omega) (by omega));rw[←hn2]at HMIN;have HF:=am (show(firsts boxes).isEmpty=false by
     cases hf:firsts boxes with
     |nil=>rw[hf]at hn2;simp at hn2;omega
     |cons a b=>rfl)
    have h0':¬n2=0:=h0;clear hn2 hall hfl HNN
    go_wp2_with (first|(go_at_call 77;(with_reducible refine HMIN.out.mono ?_);rintro e w' ⟨rfl,hd⟩;have HD:=am hd;clear hd))
    go_returns
    rw[HF.out];obtain⟨m,rfl⟩:=HD.out;exact⟨rfl,pw_below_drewN HB.out m⟩
end Go.Proofs.YtfnimdhghglanaaGreat.Hand
end
section
namespace Go.Proofs.YtfnimdhghglanaaGreat.Hand
open Go.RowKit Go.Shelf Go.Proofs.YtfnimdhghglanaaGreatW.PrintWords Go.Proofs.YtfnimdhghglanaaGreatW.PrintLast Go.Proofs.YtfnimdhghglanaaGreatW.PrintMore
section
def Mtab (Mt:Nat→Prop) (g:Nat) (hs:List SH) (k:Nat):Prop:=Mt k∨k=g∨∃h∈hs,h.own=some k
abbrev THd:TypeId:=47
abbrev HRow (w:World) (B g n c:Nat) (hs:List SH):Prop:=Kd.R kH THd w B (fun _=>True) (.slice (some ⟨g,0,none⟩) n c) hs
theorem HRow.typed {w:World} {B g n c:Nat} {hs:List SH} (h:HRow w B g n c hs):(∃cells,w.heap[g]?=some (Obj.cells cells THd (0,0)))∧B≤g∧g<w.heap.size:=
 ⟨Kd.R_typed h g rfl,Kd.R_base h g rfl,Kd.R_lt h g rfl⟩
theorem HRow.stay {w w':World} {B g n c:Nat} {hs:List SH} (h:HRow w B g n c hs) (hb:w'.heap[g]?=w.heap[g]?):HRow w' B g n c hs:=R_stay h rfl fun k hk=>by
 cases hk;exact hb
theorem HRow.get {w:World} {B g n c:Nat} {hs:List SH} (h:HRow w B g n c hs) (i:Nat) (hi:i<hs.length):w.cell? ⟨g,i,none⟩=some (.slice (hs[i]).A (hs[i]).n (hs[i]).c)∧w.frozen? ⟨g,i,none⟩=false∧n=hs.length:=by
 have hn:=(Kd.R_reads' h).1;obtain⟨cc,_,hM,hcc,hf⟩:=Kd.R_elem h SH.nil (i:Int) (by omega) (by omega);rw[Int.toNat_natCast]at hM hcc hf;have e4:hs.getD i SH.nil=hs[i]'hi:=by simp[List.getD_eq_getElem?_getD,List.getElem?_eq_getElem hi]
 rw[e4]at hM;obtain rfl:cc=[.slice (hs[i]'hi).A (hs[i]'hi).n (hs[i]'hi).c]:=hM;have h1:=hcc 0 _ rfl;have h2:=hf 0;simp only[show kH.sz=1 from rfl,Nat.mul_one,Nat.add_zero]at h1 h2;exact⟨h1,h2,hn⟩
theorem HRow.put {w:World} {B g n c:Nat} {hs:List SH} (h:HRow w B g n c hs) (i:Nat) (hi:i<hs.length) (x:SH):HRow (w.setCell ⟨g,i,none⟩ (.slice x.A x.n x.c)) B g n c (hs.set i x):=by
 have hn:=(Kd.R_reads' h).1;obtain⟨cc,hcl,hM,hcc,hf⟩:=Kd.R_elem h SH.nil (i:Int) (by omega) (by omega);have e4:hs.getD (i:Int).toNat SH.nil=hs[i]'hi:=by simp[List.getD_eq_getElem?_getD,List.getElem?_eq_getElem hi]
 rw[e4]at hM;obtain rfl:cc=[.slice (hs[i]'hi).A (hs[i]'hi).n (hs[i]'hi).c]:=hM;have h3:=Kd.R_seg (okp:=fun _=>False) h (i:Int) (by omega) (by omega) (c:=[.slice (hs[i]'hi).A (hs[i]'hi).n (hs[i]'hi).c]) (seg:=[.slice x.A x.n x.c]) (j:=0) (x':=x) hcl hcc (by show 0+1≤1;omega) rfl (fun _ h=>h.elim);rw[Int.toNat_natCast]at h3;have h4:=h3.1;simp only[show kH.sz=1 from rfl,Nat.mul_one,Nat.add_zero]at h4;exact h4
structure TabAt (Mt:Nat→Prop) (B:Nat) (w:World) (g n c:Nat) (hs:List SH) (ess:List (List Ev)):Prop where
 row:HRow w B g n c hs
 len:hs.length=ess.length
 el:∀(i:Nat) (h:SH) (es:List Ev),hs[i]?=some h→ess[i]?=some es→OwnEv (Mtab Mt g hs) B w h es
 apart:∀(i j:Nat) (h h':SH),i≠j→hs[i]?=some h→hs[j]?=some h'→∀k,h.own=some k→h'.own≠some k
section
variable {Mt Mt':Nat→Prop} {B:Nat} {w w':World} {g n c:Nat} {hs:List SH} {ess:List (List Ev)}
theorem TabAt.own (h:TabAt Mt B w g n c hs ess) (x:SH) (hx:x∈hs) (k:Nat) (hk:x.own=some k):(∃cells,w.heap[k]?=some (Obj.cells cells 49 (0,0)))∧B≤k∧k<w.heap.size:=by
 obtain⟨i,hi,h1⟩:=List.mem_iff_getElem.1 hx;have h2:hs[i]?=some x:=by rw[List.getElem?_eq_getElem hi,h1]
 have h3:ess[i]?=some (ess[i]'(by rw[←h.len];exact hi)):=List.getElem?_eq_getElem _;exact(h.el i x _ h2 h3).typed k hk
theorem TabAt.lt (h:TabAt Mt B w g n c hs ess) (hM:∀k,Mt k→k<w.heap.size) (k:Nat) (hk:Mtab Mt g hs k):k<w.heap.size:=by
 rcases hk with hk|rfl|⟨x,hx,hk⟩
 ·exact hM k hk
 ·exact h.row.typed.2.2
 ·exact(h.own x hx k hk).2.2
theorem TabAt.fresh (h:TabAt Mt B w g n c hs ess) (k:Keep Mt w w') (hg:w'.heap[g]?=w.heap[g]?) (ho:∀x∈hs,∀j,x.own=some j→w'.heap[j]?=w.heap[j]?) (hm:∀k,k<w.heap.size→Mt' k→Mt k):TabAt Mt' B w' g n c hs ess:=
 ⟨h.row.stay hg,h.len,fun i x es h1 h2=>(h.el i x es h1 h2).stay (k.mono fun _ _ h=> .inl h) (fun j hj hm2=>by
  rcases hm2 with h3|h3
  ·exact .inl (hm j hj h3)
  ·exact .inr h3) (fun j hj=>ho x (List.mem_of_getElem? h1) j hj),h.apart⟩
theorem TabAt.more (h:TabAt Mt B w g n c hs ess) (k:Below w.heap.size w w') (hm:∀k,k<w.heap.size→Mt' k→Mt k):TabAt Mt' B w' g n c hs ess:=
 h.fresh (Keep.of_below k) (k.block g h.row.typed.2.2) (fun x hx j hj=>k.block j (h.own x hx j hj).2.2) hm
structure TabTo (w:World) (g:Nat) (hs:List SH) (w':World) (hs':List SH):Prop where
 keep:Keep (Mtab (fun _=>False) g hs) w w'
 old:∀k,k<w.heap.size→Mtab (fun _=>False) g hs' k→Mtab (fun _=>False) g hs k
 os:w'.os=w.os
 tape:w'.tape=w.tape
 output:w'.output=w.output
theorem Mtab.wide {k:Nat} (h:Mtab (fun _=>False) g hs k):Mtab Mt g hs k:=by
 rcases h with h|h
 ·exact h.elim
 ·exact .inr h
theorem TabTo.keepM {hs':List SH} (h:TabTo w g hs w' hs'):Keep (Mtab Mt g hs) w w':=h.keep.mono fun _ _ h=>h.wide
theorem TabTo.oldM {hs':List SH} (h:TabTo w g hs w' hs') (k:Nat) (hk:k<w.heap.size) (hm:Mtab Mt g hs' k):Mtab Mt g hs k:=by
 rcases hm with hm|hm
 ·exact .inl hm
 ·exact(h.old k hk (.inr hm)).wide
theorem TabTo.refl:TabTo w g hs w hs:=⟨Keep.refl _ _,fun _ _ h=>h,rfl,rfl,rfl⟩
theorem TabTo.trans {hs' hs2:List SH} {w2:World} (h:TabTo w g hs w' hs') (k:TabTo w' g hs' w2 hs2):TabTo w g hs w2 hs2:=
 ⟨⟨Nat.le_trans h.keep.size k.keep.size,fun j hj hm=>(k.keep.block j (Nat.lt_of_lt_of_le hj h.keep.size) (fun h2=>hm (h.old j hj h2))).trans (h.keep.block j hj hm)⟩,
  fun j hj hm=>h.old j hj (k.old j (Nat.lt_of_lt_of_le hj h.keep.size) hm),k.os.trans h.os,k.tape.trans h.tape,k.output.trans h.output⟩
theorem TabTo.more (k:Below w.heap.size w w'):TabTo w g hs w' hs:=⟨Keep.of_below k,fun _ _ h=>h,k.os,k.tape,k.output⟩
theorem TabAt.push (h:TabAt Mt B w g n c hs ess) (i:Nat) {hh:SH} {es:List Ev} (hi:hs[i]?=some hh) (he:ess[i]?=some es) {ss:List SE} (hss:All2 (EvAt (Mtab Mt g hs) w) ss es) {s:SE} {e:Ev} (hse:EvAt (Mtab Mt g hs) w s e) {w5:World} {A:Option Addr} {m d:Nat}
  (hv:Kd.R kE 49 w5 B (fun _=>True) (.slice A m d) (ss++[s])) (hg:w.grownBy w5 hh.own) (hat:(SH.mk A m d).own=hh.own∨∃k,(SH.mk A m d).own=some k∧w.heap.size≤k):
  TabAt Mt B (w5.setCell ⟨g,i,none⟩ (.slice A m d)) g n c (hs.set i ⟨A,m,d⟩) (ess.set i (es++[e]))∧TabTo w g hs (w5.setCell ⟨g,i,none⟩ (.slice A m d)) (hs.set i ⟨A,m,d⟩)∧w5.heap[g]?=w.heap[g]?:=by
 have hmem:hh∈hs:=List.mem_of_getElem? hi;have hil:i<hs.length:=(List.getElem?_eq_some_iff.1 hi).1;obtain⟨⟨gc,hgc⟩,hgB,hgl⟩:=h.row.typed;have hne:hh.own≠some g:=fun e1=>by
  obtain⟨⟨cc,hc⟩,_⟩:=h.own hh hmem g e1;rw[hgc]at hc;cases hc
 have hg5:w5.heap[g]?=w.heap[g]?:=hg.block g hgl (fun e1=>hne e1.symm);have hk1:Keep (Mtab (fun _=>False) g hs) w w5:=Keep.grown hg fun k hk=> .inr (.inr ⟨hh,hmem,hk⟩);have hk2:Keep (Mtab (fun _=>False) g hs) w5 (w5.setCell ⟨g,i,none⟩ (.slice A m d)):=Keep.set (b:=g) (.inr (.inl rfl)) _;have hk:=hk1.trans hk2;have hold:∀k,k<w.heap.size→Mtab (fun _=>False) g (hs.set i ⟨A,m,d⟩) k→Mtab (fun _=>False) g hs k:=fun k hkl hm=>by
  rcases hm with hm|hm|⟨x,hx,hm⟩
  ·exact hm.elim
  ·exact .inr (.inl hm)
  ·rcases List.mem_or_eq_of_mem_set hx with h1|rfl
   ·exact .inr (.inr ⟨x,h1,hm⟩)
   ·rcases hat with h1|⟨j,h1,h2⟩
    ·exact .inr (.inr ⟨hh,hmem,h1▸hm⟩)
    ·rw[h1]at hm
     injection hm with hm
     omega
 have hto:TabTo w g hs (w5.setCell ⟨g,i,none⟩ (.slice A m d)) (hs.set i ⟨A,m,d⟩):=⟨hk,hold,hg.os,hg.tape,hg.output⟩;refine⟨⟨(h.row.stay hg5).put i hil ⟨A,m,d⟩,by rw[List.length_set,List.length_set];exact h.len,fun j x es2 h1 h2=> ?_,fun j1 j2 x1 x2 hj h1 h2 k hk1 hk2=> ?_⟩,hto,hg5⟩
 ·by_cases hj:i=j
  ·subst hj;rw[List.getElem?_set_self hil]at h1;rw[List.getElem?_set_self (by rw[←h.len];exact hil)]at h2;cases h1;cases h2;refine⟨ss++[s],R_stay hv rfl fun k hk3=>Below.heap_setCell w5 ⟨g,i,none⟩ _ k fun e1=> ?_,(hss.imp fun _ _ h=>h.fresh hto.keepM hto.oldM).append (.cons (hse.fresh hto.keepM hto.oldM) .nil)⟩;obtain⟨cc,hc⟩:=Kd.R_typed hv k hk3;simp only at e1;rw[e1,hg5,hgc]at hc;cases hc
  ·rw[List.getElem?_set_ne hj]at h1 h2;refine(h.el j x es2 h1 h2).stay hto.keepM hto.oldM fun k hk3=> ?_;obtain⟨⟨cc,hc⟩,_,h3⟩:=h.own x (List.mem_of_getElem? h1) k hk3;refine(Below.heap_setCell w5 ⟨g,i,none⟩ _ k fun e1=> ?_).trans (hg.block k h3 fun e1=>h.apart i j hh x hj hi h1 k e1.symm hk3);simp only at e1;rw[e1,hgc]at hc;cases hc
 ·have hnew:∀(j:Nat) (x:SH),j≠i→hs[j]?=some x→∀k,x.own=some k→(SH.mk A m d).own≠some k:=fun j x hji hx k hk3 hk4=>by
   rcases hat with h3|⟨j2,h3,h4⟩
   ·exact h.apart j i x hh hji hx hi k hk3 (h3▸hk4)
   ·rw[h3]at hk4
    injection hk4 with hk4
    have:=(h.own x (List.mem_of_getElem? hx) k hk3).2.2;omega
  by_cases e1:i=j1
  ·subst e1;rw[List.getElem?_set_self hil]at h1;cases h1;rw[List.getElem?_set_ne hj]at h2;exact hnew j2 x2 (Ne.symm hj) h2 k hk2 hk1
  ·rw[List.getElem?_set_ne e1]at h1;by_cases e2:i=j2
   ·subst e2;rw[List.getElem?_set_self hil]at h2;cases h2;exact hnew j1 x1 hj h1 k hk1 hk2
   ·rw[List.getElem?_set_ne e2]at h2;exact h.apart j1 j2 x1 x2 hj h1 h2 k hk1 hk2
theorem TabAt.read (h:TabAt Mt B w g n c hs ess) (hm:∀k,k<w.heap.size→Mt' k→Mtab Mt g hs k) (hg:¬Mt' g) (ho:∀x∈hs,∀k,x.own=some k→¬Mt' k):Rd kH Mt' w ⟨some ⟨g,0,none⟩,n,c⟩ hs∧All2 (EvsAt Mt' w) hs ess:=by
 refine⟨Rd.of_R rfl h.row (fun k hk hm2=> ?_),All2.of_get h.len fun i h1 h2=> ?_⟩
 ·cases hk;exact hg hm2
 ·obtain⟨ss,h3,h4⟩:=h.el i hs[i] ess[i] (List.getElem?_eq_getElem h1) (List.getElem?_eq_getElem h2);exact⟨ss,Rd.of_R rfl h3 (fun k hk=>ho _ (List.getElem_mem h1) k hk),h4.imp fun _ _ h=>h.fresh (Keep.refl _ _) hm⟩
end
end
end Go.Proofs.YtfnimdhghglanaaGreat.Hand
end
