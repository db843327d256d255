/- TopScheduleIndependent, part 6 of 27; no condition.  -/
import Derived.Test.YtfnimdhghglanaaGreatQsAE
set_option maxRecDepth 100000
set_option maxHeartbeats 8000000
set_option linter.unusedVariables false
set_option linter.unusedSimpArgs false
section
namespace Go.Proofs.YtfnimdhghglanaaGreat.Hand
open Go.RowKit Go.Proofs.YtfnimdhghglanaaGreatW PrintWords PrintLast PrintMore
attribute [local go_sem] max2_int min2_int max_two min_two max_three min_three max_four min_four
theorem merge_left {W:World} {base g N cap:Nat} {l:List SE} {cmp:SE→SE→Int} (h:Row W base g N cap l) (hc:Cmp W g l cmp) (a m b:Nat) (ham:a<m) (hmb:m<b) (hb:b≤l.length) (hs:l.length≤1000000) (h1:SortedOn cmp l a m) (h2:SortedOn cmp l m b) (h3:m-a=1):
  Calls Tryz.prog 134 #[.slice (some ⟨g,0,none⟩) N cap,.int .i64 a,.int .i64 m,.int .i64 b,.func (.func 103) #[] #[]] W fun e w'=>e= .returned (.tuple #[])∧∃l',RowTo W w' base g N cap l'∧Seg l l' a b∧SortedOn cmp l' a b:=by
 have hN:=h.len;have H:=am (RowTo.refl h);have HC:=am hc;have HW:=am hc.weak;have HS1:=am h1;have HS2:=am h2;have ws:IntKind.i64.wrap ((m:Int)-(a:Int))=((m-a:Nat):Int):=(i64_w _).trans (by unfold Go.RowKit.wrap64;omega);clear h hc h1 h2;subst hN;rw[h3]at ws;go_enter Tryz.func134,Tryz.ntmps134
 go_wp2_with (fail)
 go_loopw [10,11] (fun iv jv w'=>∃i j:Nat,m≤i∧i≤j∧j≤b∧iv= .int .i64 i∧jv= .int .i64 j∧∃l',Aside0 (RowTo W w' base g l.length cap l')∧Aside0 (l'=l)∧Aside0 (∀k,m≤k→k<i→cmp (l.getD k SE.zero) (l.getD a SE.zero)<0)∧Aside0 (∀k,j≤k→k<b→¬cmp (l.getD k SE.zero) (l.getD a SE.zero)<0)) (fun iv jv _=>(intOf jv).toNat-(intOf iv).toNat)
 case atStart=>exact⟨m,b,Nat.le_refl _,by omega,Nat.le_refl _,rfl,rfl,l,H,⟨rfl⟩,⟨fun k h1 h2=>by omega⟩,⟨fun k h1 h2=>by omega⟩⟩
 case round=>
  clear H;obtain⟨i,j,hi1,hi2,hi3,rfl,rfl,l2,HR,HE,HA,HBB⟩:=hrel;by_cases hij:i<j
  ·have d1:decide ((i:Int)<(j:Int))=true:=dt (by omega);have w3:IntKind.i64.wrap ((i:Int)+(j:Int))=((i+j:Nat):Int):=(i64_w _).trans (by unfold Go.RowKit.wrap64;omega);obtain⟨hf,hh,hh1,hh2⟩:∃hf:Nat,((i:Int)+(j:Int)) / 2=(hf:Int)∧i≤hf∧hf<j:=⟨(i+j) / 2,by omega,by omega,by omega⟩;have HS:Aside0 (Seg l l2 a b):=⟨by rw[HE.out];exact Seg.refl _ _ _⟩;have wi:IntKind.i64.wrap ((hf:Int)+1)=((hf+1:Nat):Int):=(i64_w _).trans (by unfold Go.RowKit.wrap64;omega);have m1:(hf:Int)<(l.length:Nat):=by omega
   have m2:(a:Int)<(l.length:Nat):=by omega
   have hl:=HS.out.len;obtain⟨p0,p1,p2,p3,p4,p5⟩:=HR.out.row.cells (hf) (by omega);obtain⟨q0,q1,q2,q3,q4,q5⟩:=HR.out.row.cells (a) (by omega);have fr:=HR.out.row.free;have HX:=am (getD_at l2 (hf) (by omega) SE.zero);have HY:=am (getD_at l2 (a) (by omega) SE.zero);have hm1:l2[hf]∈l:=HS.out.perm.subset (List.getElem_mem _);have hm2:l2[a]∈l:=HS.out.perm.subset (List.getElem_mem _);have hcall:=HC.out.call wr.drew (HR.out.drew.keep) _ _ hm1 hm2;clear hm1 hm2;generalize l2[hf]=x at p0 p1 p2 p3 p4 p5 HX hcall;generalize l2[a]=y at q0 q1 q2 q3 q4 q5 HY hcall
   obtain⟨c,hcc⟩:∃c,cmp x y=c:=⟨_,rfl⟩;rw[hcc]at hcall;have HCC:=am hcc;clear hcc;obtain⟨xt,⟨xA,xn,xc⟩,xl,xd,xp,xa⟩:=x;obtain⟨yt,⟨yA,yn,yc⟩,yl,yd,yp,ya⟩:=y;simp only[SE.v]at p0 p1 p2 p3 p4 p5 q0 q1 q2 q3 q4 q5 hcall;have HCALL:=am hcall;have HL:=am hl;clear hcall hl;have HLT:=am (show∀wx,Below wr.drew.heap.size wr.drew wx→∀j,wx.cell? ⟨g,j,none⟩=wr.cell? ⟨g,j,none⟩from fun wx hb j=>hb.cell (p:=⟨g,j,none⟩) (Kd.R_lt HR.out.drew.row g (by simp[Value.ownBlock])));have hcx:cmp (l.getD hf SE.zero) (l.getD a SE.zero)=c:=by rw[←HCC.out,←HX.out,←HY.out,HE.out]
   have HCX:=am hcx;clear hcx;by_cases hlt:c<0
   ·have d3:decide (c<0)=true:=decide_eq_true hlt;go_upto_region 5 with (fail)
    go_region_held3 (fun w'=>w'.cell? ⟨g,hf*6,none⟩=some (.int .i64 xt)∧w'.cell? ⟨g,hf*6+1,none⟩=some (.slice xA xn xc)∧w'.cell? ⟨g,hf*6+2,none⟩=some (.int .i64 xl)∧w'.cell? ⟨g,hf*6+3,none⟩=some (.int .i64 xd)∧w'.cell? ⟨g,hf*6+4,none⟩=some (.int .i64 xp)∧w'.cell? ⟨g,hf*6+5,none⟩=some (.int .i64 xa)∧w'.cell? ⟨g,a*6,none⟩=some (.int .i64 yt)∧w'.cell? ⟨g,a*6+1,none⟩=some (.slice yA yn yc)∧w'.cell? ⟨g,a*6+2,none⟩=some (.int .i64 yl)∧w'.cell? ⟨g,a*6+3,none⟩=some (.int .i64 yd)∧w'.cell? ⟨g,a*6+4,none⟩=some (.int .i64 yp)∧w'.cell? ⟨g,a*6+5,none⟩=some (.int .i64 ya)) (go_keep) (first|(go_at_call 103;(with_reducible refine HCALL.out.mono ?_);rintro e wx ⟨rfl,hb⟩;have HB:=am hb;have hcl:=HLT.out wx hb;clear hb))
    clear p0 p1 p2 p3 p4 p5 q0 q1 q2 q3 q4 q5 fr hcl
    go_wp2_with (fail)
    go_roundw
    case rel=>
     refine⟨hf+1,j,by omega,by omega,hi3,rfl,rfl,l2,⟨HR.out.drew.more HB.out⟩,HE,⟨fun k g1 g2=> ?_⟩,⟨fun k g1 g2=>by have:=HBB.out k g1 g2;omega⟩⟩;by_cases e:k=hf
     ·rw[e,HCX.out];exact hlt
     ·refine Classical.byContradiction fun hn=> ?_;have:=HW.out.trans _ _ _ hn (HS2.out k hf g1 (by omega) (by omega));rw[HCX.out]at this;exact this hlt
    case measure=>simp[intOf];omega
   ·have d3:decide (c<0)=false:=decide_eq_false hlt;go_upto_region 5 with (fail)
    go_region_held3 (fun w'=>w'.cell? ⟨g,hf*6,none⟩=some (.int .i64 xt)∧w'.cell? ⟨g,hf*6+1,none⟩=some (.slice xA xn xc)∧w'.cell? ⟨g,hf*6+2,none⟩=some (.int .i64 xl)∧w'.cell? ⟨g,hf*6+3,none⟩=some (.int .i64 xd)∧w'.cell? ⟨g,hf*6+4,none⟩=some (.int .i64 xp)∧w'.cell? ⟨g,hf*6+5,none⟩=some (.int .i64 xa)∧w'.cell? ⟨g,a*6,none⟩=some (.int .i64 yt)∧w'.cell? ⟨g,a*6+1,none⟩=some (.slice yA yn yc)∧w'.cell? ⟨g,a*6+2,none⟩=some (.int .i64 yl)∧w'.cell? ⟨g,a*6+3,none⟩=some (.int .i64 yd)∧w'.cell? ⟨g,a*6+4,none⟩=some (.int .i64 yp)∧w'.cell? ⟨g,a*6+5,none⟩=some (.int .i64 ya)) (go_keep) (first|(go_at_call 103;(with_reducible refine HCALL.out.mono ?_);rintro e wx ⟨rfl,hb⟩;have HB:=am hb;have hcl:=HLT.out wx hb;clear hb))
    clear p0 p1 p2 p3 p4 p5 q0 q1 q2 q3 q4 q5 fr hcl
    go_wp2_with (fail)
    go_roundw
    case rel=>
     refine⟨i,hf,hi1,by omega,by omega,rfl,rfl,l2,⟨HR.out.drew.more HB.out⟩,HE,HA,⟨fun k g1 g2=> ?_⟩⟩;by_cases e:k=hf
     ·rw[e,HCX.out];omega
     ·exact HW.out.trans _ _ _ (by rw[HCX.out];omega) (HS2.out hf k (by omega) (by omega) g2)
    case measure=>simp[intOf];omega
  ·obtain rfl:i=j:=by omega
   have d1:decide ((i:Int)<(i:Int))=false:=df (by omega);have wj:IntKind.i64.wrap ((i:Int)-1)=((i-1:Nat):Int):=(i64_w _).trans (by unfold Go.RowKit.wrap64;omega)
   go_wp2_with (fail)
   go_loopw [13] (fun kv w'=>∃k:Nat,a≤k∧k<i∧kv= .int .i64 k∧∃l',Aside0 (RowTo W w' base g l.length cap l')∧Aside0 (Seg l l' a b)∧Aside0 (l'=rotL l a (a+1) (k+1))) (fun kv _=>i-(intOf kv).toNat)
   case atStart=>exact⟨a,Nat.le_refl _,by omega,rfl,l2,HR,⟨by rw[HE.out];exact Seg.refl _ _ _⟩,⟨by rw[HE.out,rotL_same (.inr rfl) (by omega) (by omega)]⟩⟩
   case round=>
    clear HR HE;obtain⟨k,hk1,hk2,rfl,l3,HR,HS,HE⟩:=hrel;by_cases hki:k<i-1
    ·have d2:decide ((k:Int)<((i-1:Nat):Int))=true:=dt (by omega);have w5:IntKind.i64.wrap ((k:Int)+1)=((k+1:Nat):Int):=(i64_w _).trans (by unfold Go.RowKit.wrap64;omega);have m1:(k:Int)<(l.length:Nat):=by omega
     have m2:((k+1:Nat):Int)<(l.length:Nat):=by omega
     have hl:=HS.out.len;obtain⟨p0,p1,p2,p3,p4,p5⟩:=HR.out.row.cells (k) (by omega);obtain⟨q0,q1,q2,q3,q4,q5⟩:=HR.out.row.cells (k+1) (by omega);have fr:=HR.out.row.free;have HX:=am (getD_at l3 (k) (by omega) SE.zero);have HY:=am (getD_at l3 (k+1) (by omega) SE.zero);generalize l3[k]=x at p0 p1 p2 p3 p4 p5 HX;generalize l3[k+1]=y at q0 q1 q2 q3 q4 q5 HY;obtain⟨xt,⟨xA,xn,xc⟩,xl,xd,xp,xa⟩:=x;obtain⟨yt,⟨yA,yn,yc⟩,yl,yd,yp,ya⟩:=y;simp only at p0 p1 p2 p3 p4 p5 q0 q1 q2 q3 q4 q5;have HL:=am hl;clear hl;go_upto_region 11 with (fail)
     go_region_with (fail)
     all_goals clear p0 p1 p2 p3 p4 p5 q0 q1 q2 q3 q4 q5 fr
     all_goals go_wp2_with (fail)
     all_goals go_roundw
     all_goals first
      |(simp[intOf];omega;done)
      |(exact(fun HT=>⟨k+1,by omega,by omega,rfl,_,⟨HT⟩,⟨HS.out.trans (Seg.swp (by omega) (by omega) (by omega) (by omega) (by rw[HL.out];exact hb))⟩,⟨by rw[HE.out];exact shift_up l a k hk1 (by omega)⟩⟩) (HR.out.trans (HR.out.row.swap (k) (k+1) (by rw[HL.out];omega) (by rw[HL.out];omega) _ _ HX.out.symm HY.out.symm).drew))
      |(exact(fun HT=>⟨k+1,by omega,by omega,rfl,_,⟨HT⟩,⟨HS.out.trans (Seg.swp (by omega) (by omega) (by omega) (by omega) (by rw[HL.out];exact hb))⟩,⟨by rw[HE.out];exact shift_up l a k hk1 (by omega)⟩⟩) (HR.out.trans (HR.out.row.swap' (k) (k+1) (by rw[HL.out];omega) (by rw[HL.out];omega) (by omega) _ _ HX.out.symm HY.out.symm).drew))
    ·have d2:decide ((k:Int)<((i-1:Nat):Int))=false:=df (by omega)
     go_wp2_with (fail)
     ((try simp only[Exit.inBlock,Exit.then]);refine bodyPost_ret (results_none rfl _ _ _) rfl ?_)
     refine⟨rfl,l3,HR.out,HS.out,?_⟩;obtain rfl:k+1=i:=by omega
     have hsp:Split cmp l a a (a+1) (k+1) b:=⟨fun p q h1 h2 h3=>by omega,fun p q h1 h2 h3=>HS2.out p q (by omega) h2 h3,by omega,by omega,by omega,by omega,fun p q h1 h2=>by omega,fun p q g1 g2 g3 g4=>by
      obtain rfl:p=a:=by omega
      exact HW.out.asym _ _ (HA.out q (by omega) g4)⟩
     rw[HE.out];refine SortedOn.join (c:=a+(k+1-(a+1))) (hsp.p2 hb) (SortedOn.join (c:=k+1) (hsp.p3 hb) (hsp.p4 hb) fun p q g1 g2 g3 g4=> ?_) (fun p q g1 g2 g3 g4=>hsp.cross hb p q g1 g2 g3 g4);obtain rfl:p=k:=by omega
     unfold leA;rw[rot_at hsp hb p (by omega),rot_at hsp hb q (by omega),if_neg (show¬(a≤p∧p<a+(p+1-(a+1)))by omega),if_pos (show a+(p+1-(a+1))≤p∧p<p+1 by omega),if_neg (show¬(a≤q∧q<a+(p+1-(a+1)))by omega),if_neg (show¬(a+(p+1-(a+1))≤q∧q<p+1)by omega),show p-(p+1-(a+1))=a by omega];have:=HBB.out q g3 g4;omega
theorem merge_right {W:World} {base g N cap:Nat} {l:List SE} {cmp:SE→SE→Int} (h:Row W base g N cap l) (hc:Cmp W g l cmp) (a m b:Nat) (ham:a<m) (hmb:m<b) (hb:b≤l.length) (hs:l.length≤1000000) (h1:SortedOn cmp l a m) (h2:SortedOn cmp l m b) (h0:m-a≠1) (h3:b-m=1):
  Calls Tryz.prog 134 #[.slice (some ⟨g,0,none⟩) N cap,.int .i64 a,.int .i64 m,.int .i64 b,.func (.func 103) #[] #[]] W fun e w'=>e= .returned (.tuple #[])∧∃l',RowTo W w' base g N cap l'∧Seg l l' a b∧SortedOn cmp l' a b:=by
 have hN:=h.len;have H:=am (RowTo.refl h);have HC:=am hc;have HW:=am hc.weak;have HS1:=am h1;have HS2:=am h2;have ws:IntKind.i64.wrap ((m:Int)-(a:Int))=((m-a:Nat):Int):=(i64_w _).trans (by unfold Go.RowKit.wrap64;omega);clear h hc h1 h2;subst hN;have ws2:IntKind.i64.wrap ((b:Int)-(m:Int))=1:=(i64_w _).trans (by unfold Go.RowKit.wrap64;omega);have d0:(((m-a:Nat):Int)==1)=false:=beq_eq_false_iff_ne.2 (by omega);go_enter Tryz.func134,Tryz.ntmps134
 go_wp2_with (fail)
 go_loopw [14,15] (fun iv jv w'=>∃i j:Nat,a≤i∧i≤j∧j≤m∧iv= .int .i64 i∧jv= .int .i64 j∧∃l',Aside0 (RowTo W w' base g l.length cap l')∧Aside0 (l'=l)∧Aside0 (∀k,a≤k→k<i→¬cmp (l.getD m SE.zero) (l.getD k SE.zero)<0)∧Aside0 (∀k,j≤k→k<m→cmp (l.getD m SE.zero) (l.getD k SE.zero)<0)) (fun iv jv _=>(intOf jv).toNat-(intOf iv).toNat)
 case atStart=>exact⟨a,m,Nat.le_refl _,by omega,Nat.le_refl _,rfl,rfl,l,H,⟨rfl⟩,⟨fun k h1 h2=>by omega⟩,⟨fun k h1 h2=>by omega⟩⟩
 case round=>
  clear H ws ws2 d0;obtain⟨i,j,hi1,hi2,hi3,rfl,rfl,l2,HR,HE,HA,HBB⟩:=hrel;by_cases hij:i<j
  ·have d1:decide ((i:Int)<(j:Int))=true:=dt (by omega);have w3:IntKind.i64.wrap ((i:Int)+(j:Int))=((i+j:Nat):Int):=(i64_w _).trans (by unfold Go.RowKit.wrap64;omega);obtain⟨hf,hh,hh1,hh2⟩:∃hf:Nat,((i:Int)+(j:Int)) / 2=(hf:Int)∧i≤hf∧hf<j:=⟨(i+j) / 2,by omega,by omega,by omega⟩;have HS:Aside0 (Seg l l2 a b):=⟨by rw[HE.out];exact Seg.refl _ _ _⟩;have wi:IntKind.i64.wrap ((hf:Int)+1)=((hf+1:Nat):Int):=(i64_w _).trans (by unfold Go.RowKit.wrap64;omega);have m1:(hf:Int)<(l.length:Nat):=by omega
   have m2:(m:Int)<(l.length:Nat):=by omega
   have hl:=HS.out.len;obtain⟨p0,p1,p2,p3,p4,p5⟩:=HR.out.row.cells (m) (by omega);obtain⟨q0,q1,q2,q3,q4,q5⟩:=HR.out.row.cells (hf) (by omega);have fr:=HR.out.row.free;have HX:=am (getD_at l2 (m) (by omega) SE.zero);have HY:=am (getD_at l2 (hf) (by omega) SE.zero);have hm1:l2[m]∈l:=HS.out.perm.subset (List.getElem_mem _);have hm2:l2[hf]∈l:=HS.out.perm.subset (List.getElem_mem _);have hcall:=HC.out.call wr.drew (HR.out.drew.keep) _ _ hm1 hm2;clear hm1 hm2;generalize l2[m]=x at p0 p1 p2 p3 p4 p5 HX hcall;generalize l2[hf]=y at q0 q1 q2 q3 q4 q5 HY hcall
   obtain⟨c,hcc⟩:∃c,cmp x y=c:=⟨_,rfl⟩;rw[hcc]at hcall;have HCC:=am hcc;clear hcc;obtain⟨xt,⟨xA,xn,xc⟩,xl,xd,xp,xa⟩:=x;obtain⟨yt,⟨yA,yn,yc⟩,yl,yd,yp,ya⟩:=y;simp only[SE.v]at p0 p1 p2 p3 p4 p5 q0 q1 q2 q3 q4 q5 hcall;have HCALL:=am hcall;have HL:=am hl;clear hcall hl;have HLT:=am (show∀wx,Below wr.drew.heap.size wr.drew wx→∀j,wx.cell? ⟨g,j,none⟩=wr.cell? ⟨g,j,none⟩from fun wx hb j=>hb.cell (p:=⟨g,j,none⟩) (Kd.R_lt HR.out.drew.row g (by simp[Value.ownBlock])));have hcx:cmp (l.getD m SE.zero) (l.getD hf SE.zero)=c:=by rw[←HCC.out,←HX.out,←HY.out,HE.out]
   have HCX:=am hcx;clear hcx;by_cases hlt:c<0
   ·have d3:decide (c<0)=true:=decide_eq_true hlt;go_upto_region 17 with (fail)
    go_region_held3 (fun w'=>w'.cell? ⟨g,m*6,none⟩=some (.int .i64 xt)∧w'.cell? ⟨g,m*6+1,none⟩=some (.slice xA xn xc)∧w'.cell? ⟨g,m*6+2,none⟩=some (.int .i64 xl)∧w'.cell? ⟨g,m*6+3,none⟩=some (.int .i64 xd)∧w'.cell? ⟨g,m*6+4,none⟩=some (.int .i64 xp)∧w'.cell? ⟨g,m*6+5,none⟩=some (.int .i64 xa)∧w'.cell? ⟨g,hf*6,none⟩=some (.int .i64 yt)∧w'.cell? ⟨g,hf*6+1,none⟩=some (.slice yA yn yc)∧w'.cell? ⟨g,hf*6+2,none⟩=some (.int .i64 yl)∧w'.cell? ⟨g,hf*6+3,none⟩=some (.int .i64 yd)∧w'.cell? ⟨g,hf*6+4,none⟩=some (.int .i64 yp)∧w'.cell? ⟨g,hf*6+5,none⟩=some (.int .i64 ya)) (go_keep) (first|(go_at_call 103;(with_reducible refine HCALL.out.mono ?_);rintro e wx ⟨rfl,hb⟩;have HB:=am hb;have hcl:=HLT.out wx hb;clear hb))
    clear p0 p1 p2 p3 p4 p5 q0 q1 q2 q3 q4 q5 fr hcl
    go_wp2_with (fail)
    go_roundw
    case rel=>
     refine⟨i,hf,hi1,by omega,by omega,rfl,rfl,l2,⟨HR.out.drew.more HB.out⟩,HE,⟨fun k g1 g2=>by have:=HA.out k g1 g2;omega⟩,⟨fun k g1 g2=> ?_⟩⟩;by_cases e:k=hf
     ·rw[e,HCX.out];exact hlt
     ·refine Classical.byContradiction fun hn=> ?_;have:=HW.out.trans _ _ _ (HS1.out hf k (by omega) (by omega) g2) hn;rw[HCX.out]at this;exact this hlt
    case measure=>simp[intOf];omega
   ·have d3:decide (c<0)=false:=decide_eq_false hlt;go_upto_region 17 with (fail)
    go_region_held3 (fun w'=>w'.cell? ⟨g,m*6,none⟩=some (.int .i64 xt)∧w'.cell? ⟨g,m*6+1,none⟩=some (.slice xA xn xc)∧w'.cell? ⟨g,m*6+2,none⟩=some (.int .i64 xl)∧w'.cell? ⟨g,m*6+3,none⟩=some (.int .i64 xd)∧w'.cell? ⟨g,m*6+4,none⟩=some (.int .i64 xp)∧w'.cell? ⟨g,m*6+5,none⟩=some (.int .i64 xa)∧w'.cell? ⟨g,hf*6,none⟩=some (.int .i64 yt)∧w'.cell? ⟨g,hf*6+1,none⟩=some (.slice yA yn yc)∧w'.cell? ⟨g,hf*6+2,none⟩=some (.int .i64 yl)∧w'.cell? ⟨g,hf*6+3,none⟩=some (.int .i64 yd)∧w'.cell? ⟨g,hf*6+4,none⟩=some (.int .i64 yp)∧w'.cell? ⟨g,hf*6+5,none⟩=some (.int .i64 ya)) (go_keep) (first|(go_at_call 103;(with_reducible refine HCALL.out.mono ?_);rintro e wx ⟨rfl,hb⟩;have HB:=am hb;have hcl:=HLT.out wx hb;clear hb))
    clear p0 p1 p2 p3 p4 p5 q0 q1 q2 q3 q4 q5 fr hcl
    go_wp2_with (fail)
    go_roundw
    case rel=>
     refine⟨hf+1,j,by omega,by omega,hi3,rfl,rfl,l2,⟨HR.out.drew.more HB.out⟩,HE,⟨fun k g1 g2=> ?_⟩,HBB⟩;by_cases e:k=hf
     ·rw[e,HCX.out];omega
     ·exact HW.out.trans _ _ _ (HS1.out k hf g1 (by omega) (by omega)) (by rw[HCX.out];omega)
    case measure=>simp[intOf];omega
  ·obtain rfl:i=j:=by omega
   have d1:decide ((i:Int)<(i:Int))=false:=df (by omega)
   go_wp2_with (fail)
   go_loopw [17] (fun kv w'=>∃k:Nat,i≤k∧k≤m∧kv= .int .i64 k∧∃l',Aside0 (RowTo W w' base g l.length cap l')∧Aside0 (Seg l l' a b)∧Aside0 (l'=rotL l k m (m+1))) (fun kv _=>(intOf kv).toNat)
   case atStart=>exact⟨m,by omega,Nat.le_refl _,rfl,l2,HR,⟨by rw[HE.out];exact Seg.refl _ _ _⟩,⟨by rw[HE.out,rotL_same (.inl rfl) (by omega) (by omega)]⟩⟩
   case round=>
    clear HR HE;obtain⟨k,hk1,hk2,rfl,l3,HR,HS,HE⟩:=hrel;by_cases hki:i<k
    ·have d2:decide ((i:Int)<(k:Int))=true:=dt (by omega);have w5:IntKind.i64.wrap ((k:Int)-1)=((k-1:Nat):Int):=(i64_w _).trans (by unfold Go.RowKit.wrap64;omega);have m1:(k:Int)<(l.length:Nat):=by omega
     have m2:((k-1:Nat):Int)<(l.length:Nat):=by omega
     have hl:=HS.out.len;obtain⟨p0,p1,p2,p3,p4,p5⟩:=HR.out.row.cells (k) (by omega);obtain⟨q0,q1,q2,q3,q4,q5⟩:=HR.out.row.cells (k-1) (by omega);have fr:=HR.out.row.free;have HX:=am (getD_at l3 (k) (by omega) SE.zero);have HY:=am (getD_at l3 (k-1) (by omega) SE.zero);generalize l3[k]=x at p0 p1 p2 p3 p4 p5 HX;generalize l3[k-1]=y at q0 q1 q2 q3 q4 q5 HY;obtain⟨xt,⟨xA,xn,xc⟩,xl,xd,xp,xa⟩:=x;obtain⟨yt,⟨yA,yn,yc⟩,yl,yd,yp,ya⟩:=y;simp only at p0 p1 p2 p3 p4 p5 q0 q1 q2 q3 q4 q5;have HL:=am hl;clear hl;go_upto_region 23 with (fail)
     go_region_with (fail)
     all_goals clear p0 p1 p2 p3 p4 p5 q0 q1 q2 q3 q4 q5 fr
     all_goals go_wp2_with (fail)
     all_goals go_roundw
     all_goals first
      |(simp[intOf];omega;done)
      |(exact(fun HT=>⟨k-1,by omega,by omega,rfl,_,⟨HT⟩,⟨HS.out.trans (Seg.swp (by omega) (by omega) (by omega) (by omega) (by rw[HL.out];exact hb))⟩,⟨by rw[HE.out];exact shift_down l m k (by omega) (by omega) (by omega)⟩⟩) (HR.out.trans (HR.out.row.swap (k) (k-1) (by rw[HL.out];omega) (by rw[HL.out];omega) _ _ HX.out.symm HY.out.symm).drew))
      |(exact(fun HT=>⟨k-1,by omega,by omega,rfl,_,⟨HT⟩,⟨HS.out.trans (Seg.swp (by omega) (by omega) (by omega) (by omega) (by rw[HL.out];exact hb))⟩,⟨by rw[HE.out];exact shift_down l m k (by omega) (by omega) (by omega)⟩⟩) (HR.out.trans (HR.out.row.swap' (k) (k-1) (by rw[HL.out];omega) (by rw[HL.out];omega) (by omega) _ _ HX.out.symm HY.out.symm).drew))
    ·have d2:decide ((i:Int)<(k:Int))=false:=df (by omega)
     go_wp2_with (fail)
     ((try simp only[Exit.inBlock,Exit.then]);refine bodyPost_ret (results_none rfl _ _ _) rfl ?_)
     refine⟨rfl,l3,HR.out,HS.out,?_⟩;obtain rfl:k=i:=by omega
     obtain rfl:b=m+1:=by omega
     have hsp:Split cmp l a k m (m+1) (m+1):=⟨HS1.out,HS2.out,by omega,by omega,by omega,by omega,fun p q h1 h2=>by omega,fun p q g1 g2 g3 g4=>by
      obtain rfl:q=m:=by omega
      exact HW.out.asym _ _ (HBB.out p g1 g2)⟩
     rw[HE.out];refine SortedOn.join (c:=k+(m+1-m)) (SortedOn.join (c:=k) (hsp.p1 hb) (hsp.p2 hb) fun p q g1 g2 g3 g4=> ?_) (hsp.p3 hb) (fun p q g1 g2 g3 g4=>hsp.cross hb p q g1 g2 g3 g4);obtain rfl:q=k:=by omega
     unfold leA;rw[rot_at hsp hb p (by omega),rot_at hsp hb q (by omega),if_neg (show¬(q≤p∧p<q+(m+1-m))by omega),if_neg (show¬(q+(m+1-m)≤p∧p<m+1)by omega),if_pos (show q≤q∧q<q+(m+1-m)by omega),show q+(m-q)=m by omega];have:=HA.out p g1 g2;omega
end Go.Proofs.YtfnimdhghglanaaGreat.Hand
end
