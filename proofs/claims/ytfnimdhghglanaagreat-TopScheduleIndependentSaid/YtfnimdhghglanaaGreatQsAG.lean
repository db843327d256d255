/- TopScheduleIndependent, part 7 of 27; no condition.  -/
import Derived.Test.YtfnimdhghglanaaGreatQsAF
set_option maxRecDepth 100000
set_option maxHeartbeats 8000000
set_option linter.unusedVariables false
set_option linter.unusedSimpArgs false
section
namespace Go.Proofs.YtfnimdhghglanaaGreat.Hand
open Go.RowKit Go.Proofs.YtfnimdhghglanaaGreatW PrintWords PrintLast PrintMore
attribute [local go_sem] max2_int min2_int max_two min_two max_three min_three max_four min_four
theorem Cmp.to {W W2:World} {base g n cap:Nat} {l l2:List SE} {cmp:SE→SE→Int} (h:Cmp W g l cmp) (r:RowTo W W2 base g n cap l2) (p:l2.Perm l):Cmp W2 g l2 cmp:=
 ⟨h.weak,fun W' k x y hx hy=>h.call W' (r.keep.trans k) x y (p.subset hx) (p.subset hy)⟩
structure Srch (cmp:SE→SE→Int) (l:List SE) (n s0 r0 i j:Nat):Prop where
 lo:∀k,s0≤k→k<i→¬cmp (l.getD (n-1-k) SE.zero) (l.getD k SE.zero)<0
 hi:∀k,j≤k→k<r0→cmp (l.getD (n-1-k) SE.zero) (l.getD k SE.zero)<0
structure Rng (a m b mid s0 r0:Nat):Prop where
 le:s0≤r0
 a0:a≤s0
 rm:r0≤m
 rmid:r0≤mid
 sb:mid+m-s0≤b
 lo:s0=a∨mid+m-s0=b
 hi:r0=m∨r0=mid
theorem Srch.less {cmp:SE→SE→Int} {l:List SE} {a m b mid s0 r0 i j h:Nat} (hw:Weak cmp) (g:Rng a m b mid s0 r0) (s1:SortedOn cmp l a m) (s2:SortedOn cmp l m b) (s:Srch cmp l (mid+m) s0 r0 i j) (h0:s0≤h) (h1:i≤h) (h2:h<j) (h3:j≤r0) (hc:cmp (l.getD (mid+m-1-h) SE.zero) (l.getD h SE.zero)<0):Srch cmp l (mid+m) s0 r0 i h:=by
 have g1:=g.le;have g2:=g.a0;have g3:=g.rm;have g4:=g.rmid;have g5:=g.sb;refine⟨s.lo,fun k k1 k2=> ?_⟩;by_cases e:k=h
 ·rw[e];exact hc
 ·by_cases e2:j≤k
  ·exact s.hi k e2 k2
  ·refine Classical.byContradiction fun hn=> ?_;have x1:=hw.trans _ _ _ (s1 h k (by omega) (by omega) (by omega)) hn;exact hw.trans _ _ _ x1 (s2 (mid+m-1-k) (mid+m-1-h) (by omega) (by omega) (by omega)) hc
theorem Srch.more {cmp:SE→SE→Int} {l:List SE} {a m b mid s0 r0 i j h:Nat} (hw:Weak cmp) (g:Rng a m b mid s0 r0) (s1:SortedOn cmp l a m) (s2:SortedOn cmp l m b) (s:Srch cmp l (mid+m) s0 r0 i j) (h0:s0≤i) (h1:i≤h) (h2:h<j) (h3:j≤r0) (hc:¬cmp (l.getD (mid+m-1-h) SE.zero) (l.getD h SE.zero)<0):Srch cmp l (mid+m) s0 r0 (h+1) j:=by
 have g1:=g.le;have g2:=g.a0;have g3:=g.rm;have g4:=g.rmid;have g5:=g.sb;refine⟨fun k k1 k2=> ?_,s.hi⟩;by_cases e:k=h
 ·rw[e];exact hc
 ·exact hw.trans _ _ _ (hw.trans _ _ _ (s1 k h (by omega) (by omega) (by omega)) hc) (s2 (mid+m-1-h) (mid+m-1-k) (by omega) (by omega) (by omega))
theorem sm_end {cmp:SE→SE→Int} {l0 l1 l4 l5:List SE} {a mid b:Nat} (hs:Seg l0 l1 a b) (h4:Seg l1 l4 a mid) (h5:Seg l4 l5 mid b) (t4:SortedOn cmp l4 a mid) (t5:SortedOn cmp l5 mid b) (hx:∀p q,a≤p→p<mid→mid≤q→q<b→leA cmp l1 p q) (g1:a≤mid:=by omega) (g2:mid≤b:=by omega):Seg l0 l5 a b∧SortedOn cmp l5 a b:=
 ⟨hs.trans ((h4.wide (Nat.le_refl _) g2).trans (h5.wide g1 (Nat.le_refl _))),SortedOn.join (c:=mid) (t4.away h5 (.inl (Nat.le_refl _))) t5 (cross_seg (cross_seg hx (.inl h4)) (.inr h5))⟩
theorem Srch.split {cmp:SE→SE→Int} {l:List SE} {a m b mid s0 r0 i:Nat} (hw:Weak cmp) (g:Rng a m b mid s0 r0) (s1:SortedOn cmp l a m) (s2:SortedOn cmp l m b) (s:Srch cmp l (mid+m) s0 r0 i i) (h0:s0≤i) (h3:i≤r0):Split cmp l a i m (mid+m-i) b:=by
 have g1:=g.le;have g2:=g.a0;have g3:=g.rm;have g4:=g.rmid;have g5:=g.sb;refine⟨s1,s2,by omega,by omega,by omega,by omega,fun p q h1 h2 h3 h4=> ?_,fun p q h1 h2 h3 h4=> ?_⟩
 ·have g6:=g.lo;have x:=s.lo (i-1) (by omega) (by omega);rw[show mid+m-1-(i-1)=mid+m-i by omega]at x;have y:¬cmp (l.getD (mid+m-i) SE.zero) (l.getD p SE.zero)<0:=by
   by_cases e:p=i-1
   ·rw[e];exact x
   ·exact hw.trans _ _ _ (s1 p (i-1) h1 (by omega) (by omega)) x
  by_cases e:q=mid+m-i
  ·unfold leA;rw[e];exact y
  ·exact hw.trans _ _ _ y (s2 (mid+m-i) q (by omega) (by omega) h4)
 ·have g6:=g.hi;have x:=s.hi i (Nat.le_refl _) (by omega);have y:¬cmp (l.getD i SE.zero) (l.getD q SE.zero)<0:=by
   by_cases e:q=mid+m-1-i
   ·rw[e];exact hw.asym _ _ x
   ·exact hw.trans _ _ _ (s2 q (mid+m-1-i) (by omega) (by omega) (by omega)) (hw.asym _ _ x)
  by_cases e:p=i
  ·unfold leA;rw[e];exact y
  ·exact hw.trans _ _ _ y (s1 i p (by omega) (by omega) h2)
theorem symMerge_calls {cmp:SE→SE→Int} (n:Nat):∀{W:World} {base g N cap:Nat} {l:List SE} (h:Row W base g N cap l) (hc:Cmp W g l cmp) (a m b:Nat) (hn:b-a≤n) (ham:a<m) (hmb:m<b) (hb:b≤l.length) (hs:l.length≤1000000) (h1:SortedOn cmp l a m) (h2:SortedOn cmp l m b),
  Calls Tryz.prog 134 #[.slice (some ⟨g,0,none⟩) N cap,.int .i64 a,.int .i64 m,.int .i64 b,.func (.func 103) #[] #[]] W fun e w'=>e= .returned (.tuple #[])∧∃l',RowTo W w' base g N cap l'∧Seg l l' a b∧SortedOn cmp l' a b:=by
 induction n with
 |zero=>
  intro W base g N cap l h hc a m b hn ham hmb;omega
 |succ n ih=>
  intro W base g N cap l h hc a m b hn ham hmb hb hs h1 h2;by_cases e1:m-a=1
  ·exact merge_left h hc a m b ham hmb hb hs h1 h2 e1
  by_cases e2:b-m=1
  ·exact merge_right h hc a m b ham hmb hb hs h1 h2 e1 e2
  have hN:=h.len;have H:=am (RowTo.refl h);have HC:=am hc;have HW:=am hc.weak;have HS1:=am h1;have HS2:=am h2;have IH:=am @ih;clear ih;have ws:IntKind.i64.wrap ((m:Int)-(a:Int))=((m-a:Nat):Int):=(i64_w _).trans (by unfold Go.RowKit.wrap64;omega);have ws2:IntKind.i64.wrap ((b:Int)-(m:Int))=((b-m:Nat):Int):=(i64_w _).trans (by unfold Go.RowKit.wrap64;omega);have d0:(((m-a:Nat):Int)==1)=false:=beq_eq_false_iff_ne.2 (by omega);have d00:(((b-m:Nat):Int)==1)=false:=beq_eq_false_iff_ne.2 (by omega)
  have ws3:IntKind.i64.wrap ((a:Int)+(b:Int))=((a+b:Nat):Int):=(i64_w _).trans (by unfold Go.RowKit.wrap64;omega);obtain⟨mid,hmd,hmd1,hmd2⟩:∃mid:Nat,((a:Int)+(b:Int)) / 2=(mid:Int)∧2*mid≤a+b∧a+b≤2*mid+1:=⟨(a+b) / 2,by omega,by omega,by omega⟩;have ws4:IntKind.i64.wrap ((mid:Int)+(m:Int))=((mid+m:Nat):Int):=(i64_w _).trans (by unfold Go.RowKit.wrap64;omega);obtain⟨p,hp⟩:∃p:Nat,p+1=mid+m:=⟨mid+m-1,by omega⟩;have ws5:IntKind.i64.wrap ((mid:Int)+(m:Int)-1)=(p:Int):=(i64_w _).trans (by unfold Go.RowKit.wrap64;omega);clear h hc h1 h2;subst hN;by_cases hm:mid<m
  ·have dm:decide ((mid:Int)<(m:Int))=true:=dt (by omega);obtain⟨s0,hs0⟩:∃s0:Nat,s0+b=mid+m:=⟨mid+m-b,by omega⟩;have ws6:IntKind.i64.wrap ((mid:Int)+(m:Int)-(b:Int))=(s0:Int):=(i64_w _).trans (by unfold Go.RowKit.wrap64;omega);have HG:=am (⟨by omega,by omega,by omega,by omega,by omega,.inr (by omega),.inr rfl⟩:Rng a m b mid s0 mid);go_enter Tryz.func134,Tryz.ntmps134
   go_wp2_with (fail)
   go_loopw [20,21] (fun iv jv w'=>∃i j:Nat,s0≤i∧i≤j∧j≤mid∧iv= .int .i64 i∧jv= .int .i64 j∧∃l',Aside0 (RowTo W w' base g l.length cap l')∧Aside0 (l'=l)∧Aside0 (Srch cmp l (mid+m) s0 mid i j)) (fun iv jv _=>(intOf jv).toNat-(intOf iv).toNat)
   case atStart=>exact⟨s0,mid,Nat.le_refl _,HG.out.le,Nat.le_refl _,rfl,rfl,l,H,⟨rfl⟩,⟨⟨fun k h1 h2=>by omega,fun k h1 h2=>by omega⟩⟩⟩
   case round=>
    clear H ws ws2 ws3 ws4 ws5 d0 d00 hmd;obtain⟨i,j,hi1,hi2,hi3,rfl,rfl,l2,HR,HE,HSR⟩:=hrel;have g1:=HG.out.le;have g2:=HG.out.a0;have g3:=HG.out.rm;have g4:=HG.out.rmid;have g5:=HG.out.sb;by_cases hij:i<j
    ·have d1:decide ((i:Int)<(j:Int))=true:=dt (by omega);have w3:IntKind.i64.wrap ((i:Int)+(j:Int))=((i+j:Nat):Int):=(i64_w _).trans (by unfold Go.RowKit.wrap64;omega);obtain⟨hf,hh,hh1,hh2⟩:∃hf:Nat,((i:Int)+(j:Int)) / 2=(hf:Int)∧i≤hf∧hf<j:=⟨(i+j) / 2,by omega,by omega,by omega⟩;obtain⟨hq,hq1⟩:∃hq:Nat,hq+hf=p:=⟨p-hf,by omega⟩;have HS:Aside0 (Seg l l2 a b):=⟨by rw[HE.out];exact Seg.refl _ _ _⟩;have wi:IntKind.i64.wrap ((hf:Int)+1)=((hf+1:Nat):Int):=(i64_w _).trans (by unfold Go.RowKit.wrap64;omega)
     have wq:IntKind.i64.wrap ((p:Int)-(hf:Int))=((hq:Nat):Int):=(i64_w _).trans (by unfold Go.RowKit.wrap64;omega);have m1:(hf:Int)<(l.length:Nat):=by omega
     have m2:(hq:Int)<(l.length:Nat):=by omega
     have hl:=HS.out.len;obtain⟨p0,p1,p2,p3,p4,p5⟩:=HR.out.row.cells (hq) (by omega);obtain⟨q0,q1,q2,q3,q4,q5⟩:=HR.out.row.cells (hf) (by omega);have fr:=HR.out.row.free;have HX:=am (getD_at l2 (hq) (by omega) SE.zero);have HY:=am (getD_at l2 (hf) (by omega) SE.zero);have hm1:l2[hq]∈l:=HS.out.perm.subset (List.getElem_mem _);have hm2:l2[hf]∈l:=HS.out.perm.subset (List.getElem_mem _);have hcall:=HC.out.call wr.drew (HR.out.drew.keep) _ _ hm1 hm2;clear hm1 hm2;generalize l2[hq]=x at p0 p1 p2 p3 p4 p5 HX hcall;generalize l2[hf]=y at q0 q1 q2 q3 q4 q5 HY hcall
     obtain⟨c,hcc⟩:∃c,cmp x y=c:=⟨_,rfl⟩;rw[hcc]at hcall;have HCC:=am hcc;clear hcc;obtain⟨xt,⟨xA,xn,xc⟩,xl,xd,xp,xa⟩:=x;obtain⟨yt,⟨yA,yn,yc⟩,yl,yd,yp,ya⟩:=y;simp only[SE.v]at p0 p1 p2 p3 p4 p5 q0 q1 q2 q3 q4 q5 hcall;have HCALL:=am hcall;have HL:=am hl;clear hcall hl;have HLT:=am (show∀wx,Below wr.drew.heap.size wr.drew wx→∀j,wx.cell? ⟨g,j,none⟩=wr.cell? ⟨g,j,none⟩from fun wx hb j=>hb.cell (p:=⟨g,j,none⟩) (Kd.R_lt HR.out.drew.row g (by simp[Value.ownBlock])))
     have hcx:cmp (l.getD (mid+m-1-hf) SE.zero) (l.getD hf SE.zero)=c:=by rw[show mid+m-1-hf=hq by omega,←HCC.out,←HX.out,←HY.out,HE.out]
     have HCX:=am hcx;have HQ:=am hq1;have HP:=am hp;clear hcx hq1 hp;by_cases hlt:c<0
     ·have d3:decide (c<0)=true:=decide_eq_true hlt;go_upto_region 35 with (fail)
      go_region_held3 (fun w'=>w'.cell? ⟨g,hq*6,none⟩=some (.int .i64 xt)∧w'.cell? ⟨g,hq*6+1,none⟩=some (.slice xA xn xc)∧w'.cell? ⟨g,hq*6+2,none⟩=some (.int .i64 xl)∧w'.cell? ⟨g,hq*6+3,none⟩=some (.int .i64 xd)∧w'.cell? ⟨g,hq*6+4,none⟩=some (.int .i64 xp)∧w'.cell? ⟨g,hq*6+5,none⟩=some (.int .i64 xa)∧w'.cell? ⟨g,hf*6,none⟩=some (.int .i64 yt)∧w'.cell? ⟨g,hf*6+1,none⟩=some (.slice yA yn yc)∧w'.cell? ⟨g,hf*6+2,none⟩=some (.int .i64 yl)∧w'.cell? ⟨g,hf*6+3,none⟩=some (.int .i64 yd)∧w'.cell? ⟨g,hf*6+4,none⟩=some (.int .i64 yp)∧w'.cell? ⟨g,hf*6+5,none⟩=some (.int .i64 ya)) (go_keep) (first|(go_at_call 103;(with_reducible refine HCALL.out.mono ?_);rintro e wx ⟨rfl,hb⟩;have HB:=am hb;have hcl:=HLT.out wx hb;clear hb))
      clear p0 p1 p2 p3 p4 p5 q0 q1 q2 q3 q4 q5 fr hcl
      go_wp2_with (fail)
      go_roundw
      case rel=>exact⟨i,hf,hi1,by omega,by omega,rfl,rfl,l2,⟨HR.out.drew.more HB.out⟩,HE,⟨HSR.out.less HW.out HG.out HS1.out HS2.out (by omega) hh1 hh2 hi3 (by rw[HCX.out];exact hlt)⟩⟩
      case measure=>simp[intOf];omega
     ·have d3:decide (c<0)=false:=decide_eq_false hlt;go_upto_region 35 with (fail)
      go_region_held3 (fun w'=>w'.cell? ⟨g,hq*6,none⟩=some (.int .i64 xt)∧w'.cell? ⟨g,hq*6+1,none⟩=some (.slice xA xn xc)∧w'.cell? ⟨g,hq*6+2,none⟩=some (.int .i64 xl)∧w'.cell? ⟨g,hq*6+3,none⟩=some (.int .i64 xd)∧w'.cell? ⟨g,hq*6+4,none⟩=some (.int .i64 xp)∧w'.cell? ⟨g,hq*6+5,none⟩=some (.int .i64 xa)∧w'.cell? ⟨g,hf*6,none⟩=some (.int .i64 yt)∧w'.cell? ⟨g,hf*6+1,none⟩=some (.slice yA yn yc)∧w'.cell? ⟨g,hf*6+2,none⟩=some (.int .i64 yl)∧w'.cell? ⟨g,hf*6+3,none⟩=some (.int .i64 yd)∧w'.cell? ⟨g,hf*6+4,none⟩=some (.int .i64 yp)∧w'.cell? ⟨g,hf*6+5,none⟩=some (.int .i64 ya)) (go_keep) (first|(go_at_call 103;(with_reducible refine HCALL.out.mono ?_);rintro e wx ⟨rfl,hb⟩;have HB:=am hb;have hcl:=HLT.out wx hb;clear hb))
      clear p0 p1 p2 p3 p4 p5 q0 q1 q2 q3 q4 q5 fr hcl
      go_wp2_with (fail)
      go_roundw
      case rel=>exact⟨hf+1,j,by omega,by omega,hi3,rfl,rfl,l2,⟨HR.out.drew.more HB.out⟩,HE,⟨HSR.out.more HW.out HG.out HS1.out HS2.out hi1 hh1 hh2 hi3 (by rw[HCX.out];omega)⟩⟩
      case measure=>simp[intOf];omega
    ·obtain rfl:i=j:=by omega
     have d1:decide ((i:Int)<(i:Int))=false:=df (by omega);obtain⟨e,he⟩:∃e:Nat,e+i=mid+m:=⟨mid+m-i,by omega⟩;have we:IntKind.i64.wrap ((mid:Int)+(m:Int)-(i:Int))=(e:Int):=(i64_w _).trans (by unfold Go.RowKit.wrap64;omega);have hsp:=HSR.out.split HW.out HG.out HS1.out HS2.out hi1 hi3;rw[show mid+m-i=e by omega]at hsp;have f1:=hsp.im;have f2:=hsp.mj;have f3:=hsp.jb;have f4:i+(e-m)=mid:=by omega
     have f5:i≤mid:=by omega
     have f6:mid≤e:=by omega
     have f7:a≤mid:=by omega
     have f8:mid≤b:=by omega
     have q1:=hsp.p1 hb;have q2:=hsp.p2 hb;have q3:=hsp.p3 hb;have q4:=hsp.p4 hb;have qx:=hsp.cross hb;rw[f4]at q2 q3 qx;have hr2:=HR.out;rw[HE.out]at hr2;have HR2:=am hr2;have hsg:=rotL_seg l a i m e b (by omega) f1 f2 f3 hb;have hll:(rotL l i m e).length=l.length:=rotL_length _ _ _ _;have HSEG:=am hsg;have HX0:=am (show∀p q,a≤p→p<mid→mid≤q→q<b→leA cmp (rotL l i m e) p q from fun p q g1 g2 g3 g4=>qx p q g1 g2 g3 g4)
     have HLEFT:=am (show a<i→i<mid→∀(wx:World),RowTo W wx base g l.length cap (rotL l i m e)→_ from fun y1 y2 wx hr=>IH.out hr.row (HC.out.to hr hsg.perm) a i mid (by omega) y1 y2 (by rw[hll];omega) (by rw[hll];exact hs) q1 q2);have HRIGHT:=am (show mid<e→e<b→∀(wy:World) (l4:List SE),RowTo W wy base g l.length cap l4→Seg (rotL l i m e) l4 a mid→_ from fun y1 y2 wy l4 hr hs4=>IH.out hr.row (HC.out.to hr (hs4.perm.trans hsg.perm)) mid e b (by omega) y1 y2 (by rw[hs4.len,hll];exact hb) (by rw[hs4.len,hll];exact hs) (q3.away hs4 (.inr (Nat.le_refl _))) (q4.away hs4 (.inr f6)))
     have HLS:=am (show¬(a<i∧i<mid)→SortedOn cmp (rotL l i m e) a mid from fun y=>by
      by_cases c1:a<i
      ·exact(show i=mid by omega)▸q1
      ·exact(show i=a by omega)▸q2)
     have HRS:=am (show∀l4,Seg (rotL l i m e) l4 a mid→¬(mid<e∧e<b)→SortedOn cmp l4 mid b from fun l4 hs4 y=>by
      by_cases c1:mid<e
      ·exact(show e=b by omega)▸(q3.away hs4 (.inr (Nat.le_refl _)))
      ·have:=q4.away hs4 (.inr f6)
       rwa [show e=mid by omega]at this)
     have HN:=am hn;clear hsp q1 q2 q3 q4 qx hr2 hsg hll HR HE HSR HG HS1 HS2 IH HC HW hn he hp g1 g2 g3 g4 g5;by_cases ra1:i<m
     ·have ra2:decide ((i:Int)<(m:Int))=true:=dt (by omega);by_cases ra3:m<e
      ·have ra4:decide ((m:Int)<(e:Int))=true:=dt (by omega);have HROT:=am (rotate_calls (.func (.func 103) #[] #[]) HR2.out.row i m e ra1 ra3 (by omega) hs);by_cases lb1:a<i
       ·have lb2:decide ((a:Int)<(i:Int))=true:=dt (by omega);by_cases lb3:i<mid
        ·have lb4:decide ((i:Int)<(mid:Int))=true:=dt (by omega);have HLEFT:=am (HLEFT.out lb1 lb3);by_cases rc1:mid<e
         ·have rc2:decide ((mid:Int)<(e:Int))=true:=dt (by omega);by_cases rc3:e<b
          ·have rc4:decide ((e:Int)<(b:Int))=true:=dt (by omega);have HRIGHT:=am (HRIGHT.out rc1 rc3)
           go_wp2_with (first|(go_at_call 150;(with_reducible refine HROT.out.mono ?_);rintro e wx ⟨rfl,hx⟩;have HR1:=am (HR2.out.trans hx);clear hx)|(go_at_call 134;(with_reducible refine(HLEFT.out _ HR1.out).mono ?_);rintro e wy ⟨rfl,l4,hx,hy,hz⟩;have HR4:=am (HR1.out.trans hx);have HS4:=am hy;have HT4:=am hz;clear hx hy hz)|(go_at_call 134;(with_reducible refine(HRIGHT.out _ _ HR4.out HS4.out).mono ?_);rintro e wz ⟨rfl,l5,hx,hy,hz⟩;have HR5:=am (HR4.out.trans hx);have HS5:=am hy;have HT5:=am hz;clear hx hy hz))
           go_end0
           exact⟨rfl,_,HR5.out,sm_end HSEG.out HS4.out HS5.out HT4.out HT5.out HX0.out⟩
          ·have rc4:decide ((e:Int)<(b:Int))=false:=df (by omega)
           go_wp2_with (first|(go_at_call 150;(with_reducible refine HROT.out.mono ?_);rintro e wx ⟨rfl,hx⟩;have HR1:=am (HR2.out.trans hx);clear hx)|(go_at_call 134;(with_reducible refine(HLEFT.out _ HR1.out).mono ?_);rintro e wy ⟨rfl,l4,hx,hy,hz⟩;have HR4:=am (HR1.out.trans hx);have HS4:=am hy;have HT4:=am hz;clear hx hy hz))
           go_end0
           have HR5:=am HR4.out;have HS5:=am (Seg.refl l4 mid b);have HT5:=am (HRS.out _ HS4.out (by omega));exact⟨rfl,_,HR5.out,sm_end HSEG.out HS4.out HS5.out HT4.out HT5.out HX0.out⟩
         ·have rc2:decide ((mid:Int)<(e:Int))=false:=df (by omega)
          go_wp2_with (first|(go_at_call 150;(with_reducible refine HROT.out.mono ?_);rintro e wx ⟨rfl,hx⟩;have HR1:=am (HR2.out.trans hx);clear hx)|(go_at_call 134;(with_reducible refine(HLEFT.out _ HR1.out).mono ?_);rintro e wy ⟨rfl,l4,hx,hy,hz⟩;have HR4:=am (HR1.out.trans hx);have HS4:=am hy;have HT4:=am hz;clear hx hy hz))
          go_end0
          have HR5:=am HR4.out;have HS5:=am (Seg.refl l4 mid b);have HT5:=am (HRS.out _ HS4.out (by omega));exact⟨rfl,_,HR5.out,sm_end HSEG.out HS4.out HS5.out HT4.out HT5.out HX0.out⟩
        ·have lb4:decide ((i:Int)<(mid:Int))=false:=df (by omega);by_cases rc1:mid<e
         ·have rc2:decide ((mid:Int)<(e:Int))=true:=dt (by omega);by_cases rc3:e<b
          ·have rc4:decide ((e:Int)<(b:Int))=true:=dt (by omega);have HRIGHT:=am (HRIGHT.out rc1 rc3)
           go_wp2_with (first|(go_at_call 150;(with_reducible refine HROT.out.mono ?_);rintro e wx ⟨rfl,hx⟩;have HR1:=am (HR2.out.trans hx);clear hx;have HR4:=am HR1.out;have HS4:=am (Seg.refl (rotL l i m e) a mid))|(go_at_call 134;(with_reducible refine(HRIGHT.out _ _ HR4.out HS4.out).mono ?_);rintro e wz ⟨rfl,l5,hx,hy,hz⟩;have HR5:=am (HR4.out.trans hx);have HS5:=am hy;have HT5:=am hz;clear hx hy hz))
           go_end0
           have HT4:=am (HLS.out (by omega));exact⟨rfl,_,HR5.out,sm_end HSEG.out HS4.out HS5.out HT4.out HT5.out HX0.out⟩
          ·have rc4:decide ((e:Int)<(b:Int))=false:=df (by omega)
           go_wp2_with (first|(go_at_call 150;(with_reducible refine HROT.out.mono ?_);rintro e wx ⟨rfl,hx⟩;have HR1:=am (HR2.out.trans hx);clear hx))
           go_end0
           exact⟨rfl,_,HR1.out,sm_end HSEG.out (Seg.refl _ _ _) (Seg.refl _ _ _) (HLS.out (by omega)) (HRS.out _ (Seg.refl _ _ _) (by omega)) HX0.out⟩
         ·have rc2:decide ((mid:Int)<(e:Int))=false:=df (by omega)
          go_wp2_with (first|(go_at_call 150;(with_reducible refine HROT.out.mono ?_);rintro e wx ⟨rfl,hx⟩;have HR1:=am (HR2.out.trans hx);clear hx))
          go_end0
          exact⟨rfl,_,HR1.out,sm_end HSEG.out (Seg.refl _ _ _) (Seg.refl _ _ _) (HLS.out (by omega)) (HRS.out _ (Seg.refl _ _ _) (by omega)) HX0.out⟩
       ·have lb2:decide ((a:Int)<(i:Int))=false:=df (by omega);by_cases rc1:mid<e
        ·have rc2:decide ((mid:Int)<(e:Int))=true:=dt (by omega);by_cases rc3:e<b
         ·have rc4:decide ((e:Int)<(b:Int))=true:=dt (by omega);have HRIGHT:=am (HRIGHT.out rc1 rc3)
          go_wp2_with (first|(go_at_call 150;(with_reducible refine HROT.out.mono ?_);rintro e wx ⟨rfl,hx⟩;have HR1:=am (HR2.out.trans hx);clear hx;have HR4:=am HR1.out;have HS4:=am (Seg.refl (rotL l i m e) a mid))|(go_at_call 134;(with_reducible refine(HRIGHT.out _ _ HR4.out HS4.out).mono ?_);rintro e wz ⟨rfl,l5,hx,hy,hz⟩;have HR5:=am (HR4.out.trans hx);have HS5:=am hy;have HT5:=am hz;clear hx hy hz))
          go_end0
          have HT4:=am (HLS.out (by omega));exact⟨rfl,_,HR5.out,sm_end HSEG.out HS4.out HS5.out HT4.out HT5.out HX0.out⟩
         ·have rc4:decide ((e:Int)<(b:Int))=false:=df (by omega)
          go_wp2_with (first|(go_at_call 150;(with_reducible refine HROT.out.mono ?_);rintro e wx ⟨rfl,hx⟩;have HR1:=am (HR2.out.trans hx);clear hx))
          go_end0
          exact⟨rfl,_,HR1.out,sm_end HSEG.out (Seg.refl _ _ _) (Seg.refl _ _ _) (HLS.out (by omega)) (HRS.out _ (Seg.refl _ _ _) (by omega)) HX0.out⟩
        ·have rc2:decide ((mid:Int)<(e:Int))=false:=df (by omega)
         go_wp2_with (first|(go_at_call 150;(with_reducible refine HROT.out.mono ?_);rintro e wx ⟨rfl,hx⟩;have HR1:=am (HR2.out.trans hx);clear hx))
         go_end0
         exact⟨rfl,_,HR1.out,sm_end HSEG.out (Seg.refl _ _ _) (Seg.refl _ _ _) (HLS.out (by omega)) (HRS.out _ (Seg.refl _ _ _) (by omega)) HX0.out⟩
      ·have ra4:decide ((m:Int)<(e:Int))=false:=df (by omega);have HR3:=am (show RowTo W wr base g l.length cap (rotL l i m e)by rw[rotL_same (by omega) f1 f2];exact HR2.out);by_cases lb1:a<i
       ·have lb2:decide ((a:Int)<(i:Int))=true:=dt (by omega);by_cases lb3:i<mid
        ·have lb4:decide ((i:Int)<(mid:Int))=true:=dt (by omega);have HLEFT:=am (HLEFT.out lb1 lb3);by_cases rc1:mid<e
         ·have rc2:decide ((mid:Int)<(e:Int))=true:=dt (by omega);by_cases rc3:e<b
          ·have rc4:decide ((e:Int)<(b:Int))=true:=dt (by omega);have HRIGHT:=am (HRIGHT.out rc1 rc3);have HR1:=am HR3.out
           go_wp2_with (first|(go_at_call 134;(with_reducible refine(HLEFT.out _ HR1.out).mono ?_);rintro e wy ⟨rfl,l4,hx,hy,hz⟩;have HR4:=am (HR1.out.trans hx);have HS4:=am hy;have HT4:=am hz;clear hx hy hz)|(go_at_call 134;(with_reducible refine(HRIGHT.out _ _ HR4.out HS4.out).mono ?_);rintro e wz ⟨rfl,l5,hx,hy,hz⟩;have HR5:=am (HR4.out.trans hx);have HS5:=am hy;have HT5:=am hz;clear hx hy hz))
           go_end0
           exact⟨rfl,_,HR5.out,sm_end HSEG.out HS4.out HS5.out HT4.out HT5.out HX0.out⟩
          ·have rc4:decide ((e:Int)<(b:Int))=false:=df (by omega);have HR1:=am HR3.out
           go_wp2_with (first|(go_at_call 134;(with_reducible refine(HLEFT.out _ HR1.out).mono ?_);rintro e wy ⟨rfl,l4,hx,hy,hz⟩;have HR4:=am (HR1.out.trans hx);have HS4:=am hy;have HT4:=am hz;clear hx hy hz))
           go_end0
           have HR5:=am HR4.out;have HS5:=am (Seg.refl l4 mid b);have HT5:=am (HRS.out _ HS4.out (by omega));exact⟨rfl,_,HR5.out,sm_end HSEG.out HS4.out HS5.out HT4.out HT5.out HX0.out⟩
         ·have rc2:decide ((mid:Int)<(e:Int))=false:=df (by omega);have HR1:=am HR3.out
          go_wp2_with (first|(go_at_call 134;(with_reducible refine(HLEFT.out _ HR1.out).mono ?_);rintro e wy ⟨rfl,l4,hx,hy,hz⟩;have HR4:=am (HR1.out.trans hx);have HS4:=am hy;have HT4:=am hz;clear hx hy hz))
          go_end0
          have HR5:=am HR4.out;have HS5:=am (Seg.refl l4 mid b);have HT5:=am (HRS.out _ HS4.out (by omega));exact⟨rfl,_,HR5.out,sm_end HSEG.out HS4.out HS5.out HT4.out HT5.out HX0.out⟩
        ·have lb4:decide ((i:Int)<(mid:Int))=false:=df (by omega);by_cases rc1:mid<e
         ·have rc2:decide ((mid:Int)<(e:Int))=true:=dt (by omega);by_cases rc3:e<b
          ·have rc4:decide ((e:Int)<(b:Int))=true:=dt (by omega);have HRIGHT:=am (HRIGHT.out rc1 rc3);have HR1:=am HR3.out;have HR4:=am HR1.out;have HS4:=am (Seg.refl (rotL l i m e) a mid)
           go_wp2_with (first|(go_at_call 134;(with_reducible refine(HRIGHT.out _ _ HR4.out HS4.out).mono ?_);rintro e wz ⟨rfl,l5,hx,hy,hz⟩;have HR5:=am (HR4.out.trans hx);have HS5:=am hy;have HT5:=am hz;clear hx hy hz))
           go_end0
           have HT4:=am (HLS.out (by omega));exact⟨rfl,_,HR5.out,sm_end HSEG.out HS4.out HS5.out HT4.out HT5.out HX0.out⟩
          ·have rc4:decide ((e:Int)<(b:Int))=false:=df (by omega);have HR1:=am HR3.out
           go_wp2_with (fail)
           go_end0
           exact⟨rfl,_,HR1.out,sm_end HSEG.out (Seg.refl _ _ _) (Seg.refl _ _ _) (HLS.out (by omega)) (HRS.out _ (Seg.refl _ _ _) (by omega)) HX0.out⟩
         ·have rc2:decide ((mid:Int)<(e:Int))=false:=df (by omega);have HR1:=am HR3.out
          go_wp2_with (fail)
          go_end0
          exact⟨rfl,_,HR1.out,sm_end HSEG.out (Seg.refl _ _ _) (Seg.refl _ _ _) (HLS.out (by omega)) (HRS.out _ (Seg.refl _ _ _) (by omega)) HX0.out⟩
       ·have lb2:decide ((a:Int)<(i:Int))=false:=df (by omega);by_cases rc1:mid<e
        ·have rc2:decide ((mid:Int)<(e:Int))=true:=dt (by omega);by_cases rc3:e<b
         ·have rc4:decide ((e:Int)<(b:Int))=true:=dt (by omega);have HRIGHT:=am (HRIGHT.out rc1 rc3);have HR1:=am HR3.out;have HR4:=am HR1.out;have HS4:=am (Seg.refl (rotL l i m e) a mid)
          go_wp2_with (first|(go_at_call 134;(with_reducible refine(HRIGHT.out _ _ HR4.out HS4.out).mono ?_);rintro e wz ⟨rfl,l5,hx,hy,hz⟩;have HR5:=am (HR4.out.trans hx);have HS5:=am hy;have HT5:=am hz;clear hx hy hz))
          go_end0
          have HT4:=am (HLS.out (by omega));exact⟨rfl,_,HR5.out,sm_end HSEG.out HS4.out HS5.out HT4.out HT5.out HX0.out⟩
         ·have rc4:decide ((e:Int)<(b:Int))=false:=df (by omega);have HR1:=am HR3.out
          go_wp2_with (fail)
          go_end0
          exact⟨rfl,_,HR1.out,sm_end HSEG.out (Seg.refl _ _ _) (Seg.refl _ _ _) (HLS.out (by omega)) (HRS.out _ (Seg.refl _ _ _) (by omega)) HX0.out⟩
        ·have rc2:decide ((mid:Int)<(e:Int))=false:=df (by omega);have HR1:=am HR3.out
         go_wp2_with (fail)
         go_end0
         exact⟨rfl,_,HR1.out,sm_end HSEG.out (Seg.refl _ _ _) (Seg.refl _ _ _) (HLS.out (by omega)) (HRS.out _ (Seg.refl _ _ _) (by omega)) HX0.out⟩
     ·have ra2:decide ((i:Int)<(m:Int))=false:=df (by omega);have HR3:=am (show RowTo W wr base g l.length cap (rotL l i m e)by rw[rotL_same (by omega) f1 f2];exact HR2.out);by_cases lb1:a<i
      ·have lb2:decide ((a:Int)<(i:Int))=true:=dt (by omega);by_cases lb3:i<mid
       ·have lb4:decide ((i:Int)<(mid:Int))=true:=dt (by omega);have HLEFT:=am (HLEFT.out lb1 lb3);by_cases rc1:mid<e
        ·have rc2:decide ((mid:Int)<(e:Int))=true:=dt (by omega);by_cases rc3:e<b
         ·have rc4:decide ((e:Int)<(b:Int))=true:=dt (by omega);have HRIGHT:=am (HRIGHT.out rc1 rc3);have HR1:=am HR3.out
          go_wp2_with (first|(go_at_call 134;(with_reducible refine(HLEFT.out _ HR1.out).mono ?_);rintro e wy ⟨rfl,l4,hx,hy,hz⟩;have HR4:=am (HR1.out.trans hx);have HS4:=am hy;have HT4:=am hz;clear hx hy hz)|(go_at_call 134;(with_reducible refine(HRIGHT.out _ _ HR4.out HS4.out).mono ?_);rintro e wz ⟨rfl,l5,hx,hy,hz⟩;have HR5:=am (HR4.out.trans hx);have HS5:=am hy;have HT5:=am hz;clear hx hy hz))
          go_end0
          exact⟨rfl,_,HR5.out,sm_end HSEG.out HS4.out HS5.out HT4.out HT5.out HX0.out⟩
         ·have rc4:decide ((e:Int)<(b:Int))=false:=df (by omega);have HR1:=am HR3.out
          go_wp2_with (first|(go_at_call 134;(with_reducible refine(HLEFT.out _ HR1.out).mono ?_);rintro e wy ⟨rfl,l4,hx,hy,hz⟩;have HR4:=am (HR1.out.trans hx);have HS4:=am hy;have HT4:=am hz;clear hx hy hz))
          go_end0
          have HR5:=am HR4.out;have HS5:=am (Seg.refl l4 mid b);have HT5:=am (HRS.out _ HS4.out (by omega));exact⟨rfl,_,HR5.out,sm_end HSEG.out HS4.out HS5.out HT4.out HT5.out HX0.out⟩
        ·have rc2:decide ((mid:Int)<(e:Int))=false:=df (by omega);have HR1:=am HR3.out
         go_wp2_with (first|(go_at_call 134;(with_reducible refine(HLEFT.out _ HR1.out).mono ?_);rintro e wy ⟨rfl,l4,hx,hy,hz⟩;have HR4:=am (HR1.out.trans hx);have HS4:=am hy;have HT4:=am hz;clear hx hy hz))
         go_end0
         have HR5:=am HR4.out;have HS5:=am (Seg.refl l4 mid b);have HT5:=am (HRS.out _ HS4.out (by omega));exact⟨rfl,_,HR5.out,sm_end HSEG.out HS4.out HS5.out HT4.out HT5.out HX0.out⟩
       ·have lb4:decide ((i:Int)<(mid:Int))=false:=df (by omega);by_cases rc1:mid<e
        ·have rc2:decide ((mid:Int)<(e:Int))=true:=dt (by omega);by_cases rc3:e<b
         ·have rc4:decide ((e:Int)<(b:Int))=true:=dt (by omega);have HRIGHT:=am (HRIGHT.out rc1 rc3);have HR1:=am HR3.out;have HR4:=am HR1.out;have HS4:=am (Seg.refl (rotL l i m e) a mid)
          go_wp2_with (first|(go_at_call 134;(with_reducible refine(HRIGHT.out _ _ HR4.out HS4.out).mono ?_);rintro e wz ⟨rfl,l5,hx,hy,hz⟩;have HR5:=am (HR4.out.trans hx);have HS5:=am hy;have HT5:=am hz;clear hx hy hz))
          go_end0
          have HT4:=am (HLS.out (by omega));exact⟨rfl,_,HR5.out,sm_end HSEG.out HS4.out HS5.out HT4.out HT5.out HX0.out⟩
         ·have rc4:decide ((e:Int)<(b:Int))=false:=df (by omega);have HR1:=am HR3.out
          go_wp2_with (fail)
          go_end0
          exact⟨rfl,_,HR1.out,sm_end HSEG.out (Seg.refl _ _ _) (Seg.refl _ _ _) (HLS.out (by omega)) (HRS.out _ (Seg.refl _ _ _) (by omega)) HX0.out⟩
        ·have rc2:decide ((mid:Int)<(e:Int))=false:=df (by omega);have HR1:=am HR3.out
         go_wp2_with (fail)
         go_end0
         exact⟨rfl,_,HR1.out,sm_end HSEG.out (Seg.refl _ _ _) (Seg.refl _ _ _) (HLS.out (by omega)) (HRS.out _ (Seg.refl _ _ _) (by omega)) HX0.out⟩
      ·have lb2:decide ((a:Int)<(i:Int))=false:=df (by omega);by_cases rc1:mid<e
       ·have rc2:decide ((mid:Int)<(e:Int))=true:=dt (by omega);by_cases rc3:e<b
        ·have rc4:decide ((e:Int)<(b:Int))=true:=dt (by omega);have HRIGHT:=am (HRIGHT.out rc1 rc3);have HR1:=am HR3.out;have HR4:=am HR1.out;have HS4:=am (Seg.refl (rotL l i m e) a mid)
         go_wp2_with (first|(go_at_call 134;(with_reducible refine(HRIGHT.out _ _ HR4.out HS4.out).mono ?_);rintro e wz ⟨rfl,l5,hx,hy,hz⟩;have HR5:=am (HR4.out.trans hx);have HS5:=am hy;have HT5:=am hz;clear hx hy hz))
         go_end0
         have HT4:=am (HLS.out (by omega));exact⟨rfl,_,HR5.out,sm_end HSEG.out HS4.out HS5.out HT4.out HT5.out HX0.out⟩
        ·have rc4:decide ((e:Int)<(b:Int))=false:=df (by omega);have HR1:=am HR3.out
         go_wp2_with (fail)
         go_end0
         exact⟨rfl,_,HR1.out,sm_end HSEG.out (Seg.refl _ _ _) (Seg.refl _ _ _) (HLS.out (by omega)) (HRS.out _ (Seg.refl _ _ _) (by omega)) HX0.out⟩
       ·have rc2:decide ((mid:Int)<(e:Int))=false:=df (by omega);have HR1:=am HR3.out
        go_wp2_with (fail)
        go_end0
        exact⟨rfl,_,HR1.out,sm_end HSEG.out (Seg.refl _ _ _) (Seg.refl _ _ _) (HLS.out (by omega)) (HRS.out _ (Seg.refl _ _ _) (by omega)) HX0.out⟩
  ·have dm:decide ((mid:Int)<(m:Int))=false:=df (by omega);have HG:=am (⟨by omega,by omega,by omega,by omega,by omega,.inl rfl,.inl rfl⟩:Rng a m b mid a m);go_enter Tryz.func134,Tryz.ntmps134
   go_wp2_with (fail)
   go_loopw [20,21] (fun iv jv w'=>∃i j:Nat,a≤i∧i≤j∧j≤m∧iv= .int .i64 i∧jv= .int .i64 j∧∃l',Aside0 (RowTo W w' base g l.length cap l')∧Aside0 (l'=l)∧Aside0 (Srch cmp l (mid+m) a m i j)) (fun iv jv _=>(intOf jv).toNat-(intOf iv).toNat)
   case atStart=>exact⟨a,m,Nat.le_refl _,HG.out.le,Nat.le_refl _,rfl,rfl,l,H,⟨rfl⟩,⟨⟨fun k h1 h2=>by omega,fun k h1 h2=>by omega⟩⟩⟩
   case round=>
    clear H ws ws2 ws3 ws4 ws5 d0 d00 hmd;obtain⟨i,j,hi1,hi2,hi3,rfl,rfl,l2,HR,HE,HSR⟩:=hrel;have g1:=HG.out.le;have g2:=HG.out.a0;have g3:=HG.out.rm;have g4:=HG.out.rmid;have g5:=HG.out.sb;by_cases hij:i<j
    ·have d1:decide ((i:Int)<(j:Int))=true:=dt (by omega);have w3:IntKind.i64.wrap ((i:Int)+(j:Int))=((i+j:Nat):Int):=(i64_w _).trans (by unfold Go.RowKit.wrap64;omega);obtain⟨hf,hh,hh1,hh2⟩:∃hf:Nat,((i:Int)+(j:Int)) / 2=(hf:Int)∧i≤hf∧hf<j:=⟨(i+j) / 2,by omega,by omega,by omega⟩;obtain⟨hq,hq1⟩:∃hq:Nat,hq+hf=p:=⟨p-hf,by omega⟩;have HS:Aside0 (Seg l l2 a b):=⟨by rw[HE.out];exact Seg.refl _ _ _⟩;have wi:IntKind.i64.wrap ((hf:Int)+1)=((hf+1:Nat):Int):=(i64_w _).trans (by unfold Go.RowKit.wrap64;omega)
     have wq:IntKind.i64.wrap ((p:Int)-(hf:Int))=((hq:Nat):Int):=(i64_w _).trans (by unfold Go.RowKit.wrap64;omega);have m1:(hf:Int)<(l.length:Nat):=by omega
     have m2:(hq:Int)<(l.length:Nat):=by omega
     have hl:=HS.out.len;obtain⟨p0,p1,p2,p3,p4,p5⟩:=HR.out.row.cells (hq) (by omega);obtain⟨q0,q1,q2,q3,q4,q5⟩:=HR.out.row.cells (hf) (by omega);have fr:=HR.out.row.free;have HX:=am (getD_at l2 (hq) (by omega) SE.zero);have HY:=am (getD_at l2 (hf) (by omega) SE.zero);have hm1:l2[hq]∈l:=HS.out.perm.subset (List.getElem_mem _);have hm2:l2[hf]∈l:=HS.out.perm.subset (List.getElem_mem _);have hcall:=HC.out.call wr.drew (HR.out.drew.keep) _ _ hm1 hm2;clear hm1 hm2;generalize l2[hq]=x at p0 p1 p2 p3 p4 p5 HX hcall;generalize l2[hf]=y at q0 q1 q2 q3 q4 q5 HY hcall
     obtain⟨c,hcc⟩:∃c,cmp x y=c:=⟨_,rfl⟩;rw[hcc]at hcall;have HCC:=am hcc;clear hcc;obtain⟨xt,⟨xA,xn,xc⟩,xl,xd,xp,xa⟩:=x;obtain⟨yt,⟨yA,yn,yc⟩,yl,yd,yp,ya⟩:=y;simp only[SE.v]at p0 p1 p2 p3 p4 p5 q0 q1 q2 q3 q4 q5 hcall;have HCALL:=am hcall;have HL:=am hl;clear hcall hl;have HLT:=am (show∀wx,Below wr.drew.heap.size wr.drew wx→∀j,wx.cell? ⟨g,j,none⟩=wr.cell? ⟨g,j,none⟩from fun wx hb j=>hb.cell (p:=⟨g,j,none⟩) (Kd.R_lt HR.out.drew.row g (by simp[Value.ownBlock])))
     have hcx:cmp (l.getD (mid+m-1-hf) SE.zero) (l.getD hf SE.zero)=c:=by rw[show mid+m-1-hf=hq by omega,←HCC.out,←HX.out,←HY.out,HE.out]
     have HCX:=am hcx;have HQ:=am hq1;have HP:=am hp;clear hcx hq1 hp;by_cases hlt:c<0
     ·have d3:decide (c<0)=true:=decide_eq_true hlt;go_upto_region 35 with (fail)
      go_region_held3 (fun w'=>w'.cell? ⟨g,hq*6,none⟩=some (.int .i64 xt)∧w'.cell? ⟨g,hq*6+1,none⟩=some (.slice xA xn xc)∧w'.cell? ⟨g,hq*6+2,none⟩=some (.int .i64 xl)∧w'.cell? ⟨g,hq*6+3,none⟩=some (.int .i64 xd)∧w'.cell? ⟨g,hq*6+4,none⟩=some (.int .i64 xp)∧w'.cell? ⟨g,hq*6+5,none⟩=some (.int .i64 xa)∧w'.cell? ⟨g,hf*6,none⟩=some (.int .i64 yt)∧w'.cell? ⟨g,hf*6+1,none⟩=some (.slice yA yn yc)∧w'.cell? ⟨g,hf*6+2,none⟩=some (.int .i64 yl)∧w'.cell? ⟨g,hf*6+3,none⟩=some (.int .i64 yd)∧w'.cell? ⟨g,hf*6+4,none⟩=some (.int .i64 yp)∧w'.cell? ⟨g,hf*6+5,none⟩=some (.int .i64 ya)) (go_keep) (first|(go_at_call 103;(with_reducible refine HCALL.out.mono ?_);rintro e wx ⟨rfl,hb⟩;have HB:=am hb;have hcl:=HLT.out wx hb;clear hb))
      clear p0 p1 p2 p3 p4 p5 q0 q1 q2 q3 q4 q5 fr hcl
      go_wp2_with (fail)
      go_roundw
      case rel=>exact⟨i,hf,hi1,by omega,by omega,rfl,rfl,l2,⟨HR.out.drew.more HB.out⟩,HE,⟨HSR.out.less HW.out HG.out HS1.out HS2.out (by omega) hh1 hh2 hi3 (by rw[HCX.out];exact hlt)⟩⟩
      case measure=>simp[intOf];omega
     ·have d3:decide (c<0)=false:=decide_eq_false hlt;go_upto_region 35 with (fail)
      go_region_held3 (fun w'=>w'.cell? ⟨g,hq*6,none⟩=some (.int .i64 xt)∧w'.cell? ⟨g,hq*6+1,none⟩=some (.slice xA xn xc)∧w'.cell? ⟨g,hq*6+2,none⟩=some (.int .i64 xl)∧w'.cell? ⟨g,hq*6+3,none⟩=some (.int .i64 xd)∧w'.cell? ⟨g,hq*6+4,none⟩=some (.int .i64 xp)∧w'.cell? ⟨g,hq*6+5,none⟩=some (.int .i64 xa)∧w'.cell? ⟨g,hf*6,none⟩=some (.int .i64 yt)∧w'.cell? ⟨g,hf*6+1,none⟩=some (.slice yA yn yc)∧w'.cell? ⟨g,hf*6+2,none⟩=some (.int .i64 yl)∧w'.cell? ⟨g,hf*6+3,none⟩=some (.int .i64 yd)∧w'.cell? ⟨g,hf*6+4,none⟩=some (.int .i64 yp)∧w'.cell? ⟨g,hf*6+5,none⟩=some (.int .i64 ya)) (go_keep) (first|(go_at_call 103;(with_reducible refine HCALL.out.mono ?_);rintro e wx ⟨rfl,hb⟩;have HB:=am hb;have hcl:=HLT.out wx hb;clear hb))
      clear p0 p1 p2 p3 p4 p5 q0 q1 q2 q3 q4 q5 fr hcl
      go_wp2_with (fail)
      go_roundw
      case rel=>exact⟨hf+1,j,by omega,by omega,hi3,rfl,rfl,l2,⟨HR.out.drew.more HB.out⟩,HE,⟨HSR.out.more HW.out HG.out HS1.out HS2.out hi1 hh1 hh2 hi3 (by rw[HCX.out];omega)⟩⟩
      case measure=>simp[intOf];omega
    ·obtain rfl:i=j:=by omega
     have d1:decide ((i:Int)<(i:Int))=false:=df (by omega);obtain⟨e,he⟩:∃e:Nat,e+i=mid+m:=⟨mid+m-i,by omega⟩;have we:IntKind.i64.wrap ((mid:Int)+(m:Int)-(i:Int))=(e:Int):=(i64_w _).trans (by unfold Go.RowKit.wrap64;omega);have hsp:=HSR.out.split HW.out HG.out HS1.out HS2.out hi1 hi3;rw[show mid+m-i=e by omega]at hsp;have f1:=hsp.im;have f2:=hsp.mj;have f3:=hsp.jb;have f4:i+(e-m)=mid:=by omega
     have f5:i≤mid:=by omega
     have f6:mid≤e:=by omega
     have f7:a≤mid:=by omega
     have f8:mid≤b:=by omega
     have q1:=hsp.p1 hb;have q2:=hsp.p2 hb;have q3:=hsp.p3 hb;have q4:=hsp.p4 hb;have qx:=hsp.cross hb;rw[f4]at q2 q3 qx;have hr2:=HR.out;rw[HE.out]at hr2;have HR2:=am hr2;have hsg:=rotL_seg l a i m e b (by omega) f1 f2 f3 hb;have hll:(rotL l i m e).length=l.length:=rotL_length _ _ _ _;have HSEG:=am hsg;have HX0:=am (show∀p q,a≤p→p<mid→mid≤q→q<b→leA cmp (rotL l i m e) p q from fun p q g1 g2 g3 g4=>qx p q g1 g2 g3 g4)
     have HLEFT:=am (show a<i→i<mid→∀(wx:World),RowTo W wx base g l.length cap (rotL l i m e)→_ from fun y1 y2 wx hr=>IH.out hr.row (HC.out.to hr hsg.perm) a i mid (by omega) y1 y2 (by rw[hll];omega) (by rw[hll];exact hs) q1 q2);have HRIGHT:=am (show mid<e→e<b→∀(wy:World) (l4:List SE),RowTo W wy base g l.length cap l4→Seg (rotL l i m e) l4 a mid→_ from fun y1 y2 wy l4 hr hs4=>IH.out hr.row (HC.out.to hr (hs4.perm.trans hsg.perm)) mid e b (by omega) y1 y2 (by rw[hs4.len,hll];exact hb) (by rw[hs4.len,hll];exact hs) (q3.away hs4 (.inr (Nat.le_refl _))) (q4.away hs4 (.inr f6)))
     have HLS:=am (show¬(a<i∧i<mid)→SortedOn cmp (rotL l i m e) a mid from fun y=>by
      by_cases c1:a<i
      ·exact(show i=mid by omega)▸q1
      ·exact(show i=a by omega)▸q2)
     have HRS:=am (show∀l4,Seg (rotL l i m e) l4 a mid→¬(mid<e∧e<b)→SortedOn cmp l4 mid b from fun l4 hs4 y=>by
      by_cases c1:mid<e
      ·exact(show e=b by omega)▸(q3.away hs4 (.inr (Nat.le_refl _)))
      ·have:=q4.away hs4 (.inr f6)
       rwa [show e=mid by omega]at this)
     have HN:=am hn;clear hsp q1 q2 q3 q4 qx hr2 hsg hll HR HE HSR HG HS1 HS2 IH HC HW hn he hp g1 g2 g3 g4 g5;by_cases ra1:i<m
     ·have ra2:decide ((i:Int)<(m:Int))=true:=dt (by omega);by_cases ra3:m<e
      ·have ra4:decide ((m:Int)<(e:Int))=true:=dt (by omega);have HROT:=am (rotate_calls (.func (.func 103) #[] #[]) HR2.out.row i m e ra1 ra3 (by omega) hs);by_cases lb1:a<i
       ·have lb2:decide ((a:Int)<(i:Int))=true:=dt (by omega);by_cases lb3:i<mid
        ·have lb4:decide ((i:Int)<(mid:Int))=true:=dt (by omega);have HLEFT:=am (HLEFT.out lb1 lb3);by_cases rc1:mid<e
         ·have rc2:decide ((mid:Int)<(e:Int))=true:=dt (by omega);by_cases rc3:e<b
          ·have rc4:decide ((e:Int)<(b:Int))=true:=dt (by omega);have HRIGHT:=am (HRIGHT.out rc1 rc3)
           go_wp2_with (first|(go_at_call 150;(with_reducible refine HROT.out.mono ?_);rintro e wx ⟨rfl,hx⟩;have HR1:=am (HR2.out.trans hx);clear hx)|(go_at_call 134;(with_reducible refine(HLEFT.out _ HR1.out).mono ?_);rintro e wy ⟨rfl,l4,hx,hy,hz⟩;have HR4:=am (HR1.out.trans hx);have HS4:=am hy;have HT4:=am hz;clear hx hy hz)|(go_at_call 134;(with_reducible refine(HRIGHT.out _ _ HR4.out HS4.out).mono ?_);rintro e wz ⟨rfl,l5,hx,hy,hz⟩;have HR5:=am (HR4.out.trans hx);have HS5:=am hy;have HT5:=am hz;clear hx hy hz))
           go_end0
           exact⟨rfl,_,HR5.out,sm_end HSEG.out HS4.out HS5.out HT4.out HT5.out HX0.out⟩
          ·have rc4:decide ((e:Int)<(b:Int))=false:=df (by omega)
           go_wp2_with (first|(go_at_call 150;(with_reducible refine HROT.out.mono ?_);rintro e wx ⟨rfl,hx⟩;have HR1:=am (HR2.out.trans hx);clear hx)|(go_at_call 134;(with_reducible refine(HLEFT.out _ HR1.out).mono ?_);rintro e wy ⟨rfl,l4,hx,hy,hz⟩;have HR4:=am (HR1.out.trans hx);have HS4:=am hy;have HT4:=am hz;clear hx hy hz))
           go_end0
           have HR5:=am HR4.out;have HS5:=am (Seg.refl l4 mid b);have HT5:=am (HRS.out _ HS4.out (by omega));exact⟨rfl,_,HR5.out,sm_end HSEG.out HS4.out HS5.out HT4.out HT5.out HX0.out⟩
         ·have rc2:decide ((mid:Int)<(e:Int))=false:=df (by omega)
          go_wp2_with (first|(go_at_call 150;(with_reducible refine HROT.out.mono ?_);rintro e wx ⟨rfl,hx⟩;have HR1:=am (HR2.out.trans hx);clear hx)|(go_at_call 134;(with_reducible refine(HLEFT.out _ HR1.out).mono ?_);rintro e wy ⟨rfl,l4,hx,hy,hz⟩;have HR4:=am (HR1.out.trans hx);have HS4:=am hy;have HT4:=am hz;clear hx hy hz))
          go_end0
          have HR5:=am HR4.out;have HS5:=am (Seg.refl l4 mid b);have HT5:=am (HRS.out _ HS4.out (by omega));exact⟨rfl,_,HR5.out,sm_end HSEG.out HS4.out HS5.out HT4.out HT5.out HX0.out⟩
        ·have lb4:decide ((i:Int)<(mid:Int))=false:=df (by omega);by_cases rc1:mid<e
         ·have rc2:decide ((mid:Int)<(e:Int))=true:=dt (by omega);by_cases rc3:e<b
          ·have rc4:decide ((e:Int)<(b:Int))=true:=dt (by omega);have HRIGHT:=am (HRIGHT.out rc1 rc3)
           go_wp2_with (first|(go_at_call 150;(with_reducible refine HROT.out.mono ?_);rintro e wx ⟨rfl,hx⟩;have HR1:=am (HR2.out.trans hx);clear hx;have HR4:=am HR1.out;have HS4:=am (Seg.refl (rotL l i m e) a mid))|(go_at_call 134;(with_reducible refine(HRIGHT.out _ _ HR4.out HS4.out).mono ?_);rintro e wz ⟨rfl,l5,hx,hy,hz⟩;have HR5:=am (HR4.out.trans hx);have HS5:=am hy;have HT5:=am hz;clear hx hy hz))
           go_end0
           have HT4:=am (HLS.out (by omega));exact⟨rfl,_,HR5.out,sm_end HSEG.out HS4.out HS5.out HT4.out HT5.out HX0.out⟩
          ·have rc4:decide ((e:Int)<(b:Int))=false:=df (by omega)
           go_wp2_with (first|(go_at_call 150;(with_reducible refine HROT.out.mono ?_);rintro e wx ⟨rfl,hx⟩;have HR1:=am (HR2.out.trans hx);clear hx))
           go_end0
           exact⟨rfl,_,HR1.out,sm_end HSEG.out (Seg.refl _ _ _) (Seg.refl _ _ _) (HLS.out (by omega)) (HRS.out _ (Seg.refl _ _ _) (by omega)) HX0.out⟩
         ·have rc2:decide ((mid:Int)<(e:Int))=false:=df (by omega)
          go_wp2_with (first|(go_at_call 150;(with_reducible refine HROT.out.mono ?_);rintro e wx ⟨rfl,hx⟩;have HR1:=am (HR2.out.trans hx);clear hx))
          go_end0
          exact⟨rfl,_,HR1.out,sm_end HSEG.out (Seg.refl _ _ _) (Seg.refl _ _ _) (HLS.out (by omega)) (HRS.out _ (Seg.refl _ _ _) (by omega)) HX0.out⟩
       ·have lb2:decide ((a:Int)<(i:Int))=false:=df (by omega);by_cases rc1:mid<e
        ·have rc2:decide ((mid:Int)<(e:Int))=true:=dt (by omega);by_cases rc3:e<b
         ·have rc4:decide ((e:Int)<(b:Int))=true:=dt (by omega);have HRIGHT:=am (HRIGHT.out rc1 rc3)
          go_wp2_with (first|(go_at_call 150;(with_reducible refine HROT.out.mono ?_);rintro e wx ⟨rfl,hx⟩;have HR1:=am (HR2.out.trans hx);clear hx;have HR4:=am HR1.out;have HS4:=am (Seg.refl (rotL l i m e) a mid))|(go_at_call 134;(with_reducible refine(HRIGHT.out _ _ HR4.out HS4.out).mono ?_);rintro e wz ⟨rfl,l5,hx,hy,hz⟩;have HR5:=am (HR4.out.trans hx);have HS5:=am hy;have HT5:=am hz;clear hx hy hz))
          go_end0
          have HT4:=am (HLS.out (by omega));exact⟨rfl,_,HR5.out,sm_end HSEG.out HS4.out HS5.out HT4.out HT5.out HX0.out⟩
         ·have rc4:decide ((e:Int)<(b:Int))=false:=df (by omega)
          go_wp2_with (first|(go_at_call 150;(with_reducible refine HROT.out.mono ?_);rintro e wx ⟨rfl,hx⟩;have HR1:=am (HR2.out.trans hx);clear hx))
          go_end0
          exact⟨rfl,_,HR1.out,sm_end HSEG.out (Seg.refl _ _ _) (Seg.refl _ _ _) (HLS.out (by omega)) (HRS.out _ (Seg.refl _ _ _) (by omega)) HX0.out⟩
        ·have rc2:decide ((mid:Int)<(e:Int))=false:=df (by omega)
         go_wp2_with (first|(go_at_call 150;(with_reducible refine HROT.out.mono ?_);rintro e wx ⟨rfl,hx⟩;have HR1:=am (HR2.out.trans hx);clear hx))
         go_end0
         exact⟨rfl,_,HR1.out,sm_end HSEG.out (Seg.refl _ _ _) (Seg.refl _ _ _) (HLS.out (by omega)) (HRS.out _ (Seg.refl _ _ _) (by omega)) HX0.out⟩
      ·have ra4:decide ((m:Int)<(e:Int))=false:=df (by omega);have HR3:=am (show RowTo W wr base g l.length cap (rotL l i m e)by rw[rotL_same (by omega) f1 f2];exact HR2.out);by_cases lb1:a<i
       ·have lb2:decide ((a:Int)<(i:Int))=true:=dt (by omega);by_cases lb3:i<mid
        ·have lb4:decide ((i:Int)<(mid:Int))=true:=dt (by omega);have HLEFT:=am (HLEFT.out lb1 lb3);by_cases rc1:mid<e
         ·have rc2:decide ((mid:Int)<(e:Int))=true:=dt (by omega);by_cases rc3:e<b
          ·have rc4:decide ((e:Int)<(b:Int))=true:=dt (by omega);have HRIGHT:=am (HRIGHT.out rc1 rc3);have HR1:=am HR3.out
           go_wp2_with (first|(go_at_call 134;(with_reducible refine(HLEFT.out _ HR1.out).mono ?_);rintro e wy ⟨rfl,l4,hx,hy,hz⟩;have HR4:=am (HR1.out.trans hx);have HS4:=am hy;have HT4:=am hz;clear hx hy hz)|(go_at_call 134;(with_reducible refine(HRIGHT.out _ _ HR4.out HS4.out).mono ?_);rintro e wz ⟨rfl,l5,hx,hy,hz⟩;have HR5:=am (HR4.out.trans hx);have HS5:=am hy;have HT5:=am hz;clear hx hy hz))
           go_end0
           exact⟨rfl,_,HR5.out,sm_end HSEG.out HS4.out HS5.out HT4.out HT5.out HX0.out⟩
          ·have rc4:decide ((e:Int)<(b:Int))=false:=df (by omega);have HR1:=am HR3.out
           go_wp2_with (first|(go_at_call 134;(with_reducible refine(HLEFT.out _ HR1.out).mono ?_);rintro e wy ⟨rfl,l4,hx,hy,hz⟩;have HR4:=am (HR1.out.trans hx);have HS4:=am hy;have HT4:=am hz;clear hx hy hz))
           go_end0
           have HR5:=am HR4.out;have HS5:=am (Seg.refl l4 mid b);have HT5:=am (HRS.out _ HS4.out (by omega));exact⟨rfl,_,HR5.out,sm_end HSEG.out HS4.out HS5.out HT4.out HT5.out HX0.out⟩
         ·have rc2:decide ((mid:Int)<(e:Int))=false:=df (by omega);have HR1:=am HR3.out
          go_wp2_with (first|(go_at_call 134;(with_reducible refine(HLEFT.out _ HR1.out).mono ?_);rintro e wy ⟨rfl,l4,hx,hy,hz⟩;have HR4:=am (HR1.out.trans hx);have HS4:=am hy;have HT4:=am hz;clear hx hy hz))
          go_end0
          have HR5:=am HR4.out;have HS5:=am (Seg.refl l4 mid b);have HT5:=am (HRS.out _ HS4.out (by omega));exact⟨rfl,_,HR5.out,sm_end HSEG.out HS4.out HS5.out HT4.out HT5.out HX0.out⟩
        ·have lb4:decide ((i:Int)<(mid:Int))=false:=df (by omega);by_cases rc1:mid<e
         ·have rc2:decide ((mid:Int)<(e:Int))=true:=dt (by omega);by_cases rc3:e<b
          ·have rc4:decide ((e:Int)<(b:Int))=true:=dt (by omega);have HRIGHT:=am (HRIGHT.out rc1 rc3);have HR1:=am HR3.out;have HR4:=am HR1.out;have HS4:=am (Seg.refl (rotL l i m e) a mid)
           go_wp2_with (first|(go_at_call 134;(with_reducible refine(HRIGHT.out _ _ HR4.out HS4.out).mono ?_);rintro e wz ⟨rfl,l5,hx,hy,hz⟩;have HR5:=am (HR4.out.trans hx);have HS5:=am hy;have HT5:=am hz;clear hx hy hz))
           go_end0
           have HT4:=am (HLS.out (by omega));exact⟨rfl,_,HR5.out,sm_end HSEG.out HS4.out HS5.out HT4.out HT5.out HX0.out⟩
          ·have rc4:decide ((e:Int)<(b:Int))=false:=df (by omega);have HR1:=am HR3.out
           go_wp2_with (fail)
           go_end0
           exact⟨rfl,_,HR1.out,sm_end HSEG.out (Seg.refl _ _ _) (Seg.refl _ _ _) (HLS.out (by omega)) (HRS.out _ (Seg.refl _ _ _) (by omega)) HX0.out⟩
         ·have rc2:decide ((mid:Int)<(e:Int))=false:=df (by omega);have HR1:=am HR3.out
          go_wp2_with (fail)
          go_end0
          exact⟨rfl,_,HR1.out,sm_end HSEG.out (Seg.refl _ _ _) (Seg.refl _ _ _) (HLS.out (by omega)) (HRS.out _ (Seg.refl _ _ _) (by omega)) HX0.out⟩
       ·have lb2:decide ((a:Int)<(i:Int))=false:=df (by omega);by_cases rc1:mid<e
        ·have rc2:decide ((mid:Int)<(e:Int))=true:=dt (by omega);by_cases rc3:e<b
         ·have rc4:decide ((e:Int)<(b:Int))=true:=dt (by omega);have HRIGHT:=am (HRIGHT.out rc1 rc3);have HR1:=am HR3.out;have HR4:=am HR1.out;have HS4:=am (Seg.refl (rotL l i m e) a mid)
          go_wp2_with (first|(go_at_call 134;(with_reducible refine(HRIGHT.out _ _ HR4.out HS4.out).mono ?_);rintro e wz ⟨rfl,l5,hx,hy,hz⟩;have HR5:=am (HR4.out.trans hx);have HS5:=am hy;have HT5:=am hz;clear hx hy hz))
          go_end0
          have HT4:=am (HLS.out (by omega));exact⟨rfl,_,HR5.out,sm_end HSEG.out HS4.out HS5.out HT4.out HT5.out HX0.out⟩
         ·have rc4:decide ((e:Int)<(b:Int))=false:=df (by omega);have HR1:=am HR3.out
          go_wp2_with (fail)
          go_end0
          exact⟨rfl,_,HR1.out,sm_end HSEG.out (Seg.refl _ _ _) (Seg.refl _ _ _) (HLS.out (by omega)) (HRS.out _ (Seg.refl _ _ _) (by omega)) HX0.out⟩
        ·have rc2:decide ((mid:Int)<(e:Int))=false:=df (by omega);have HR1:=am HR3.out
         go_wp2_with (fail)
         go_end0
         exact⟨rfl,_,HR1.out,sm_end HSEG.out (Seg.refl _ _ _) (Seg.refl _ _ _) (HLS.out (by omega)) (HRS.out _ (Seg.refl _ _ _) (by omega)) HX0.out⟩
     ·have ra2:decide ((i:Int)<(m:Int))=false:=df (by omega);have HR3:=am (show RowTo W wr base g l.length cap (rotL l i m e)by rw[rotL_same (by omega) f1 f2];exact HR2.out);by_cases lb1:a<i
      ·have lb2:decide ((a:Int)<(i:Int))=true:=dt (by omega);by_cases lb3:i<mid
       ·have lb4:decide ((i:Int)<(mid:Int))=true:=dt (by omega);have HLEFT:=am (HLEFT.out lb1 lb3);by_cases rc1:mid<e
        ·have rc2:decide ((mid:Int)<(e:Int))=true:=dt (by omega);by_cases rc3:e<b
         ·have rc4:decide ((e:Int)<(b:Int))=true:=dt (by omega);have HRIGHT:=am (HRIGHT.out rc1 rc3);have HR1:=am HR3.out
          go_wp2_with (first|(go_at_call 134;(with_reducible refine(HLEFT.out _ HR1.out).mono ?_);rintro e wy ⟨rfl,l4,hx,hy,hz⟩;have HR4:=am (HR1.out.trans hx);have HS4:=am hy;have HT4:=am hz;clear hx hy hz)|(go_at_call 134;(with_reducible refine(HRIGHT.out _ _ HR4.out HS4.out).mono ?_);rintro e wz ⟨rfl,l5,hx,hy,hz⟩;have HR5:=am (HR4.out.trans hx);have HS5:=am hy;have HT5:=am hz;clear hx hy hz))
          go_end0
          exact⟨rfl,_,HR5.out,sm_end HSEG.out HS4.out HS5.out HT4.out HT5.out HX0.out⟩
         ·have rc4:decide ((e:Int)<(b:Int))=false:=df (by omega);have HR1:=am HR3.out
          go_wp2_with (first|(go_at_call 134;(with_reducible refine(HLEFT.out _ HR1.out).mono ?_);rintro e wy ⟨rfl,l4,hx,hy,hz⟩;have HR4:=am (HR1.out.trans hx);have HS4:=am hy;have HT4:=am hz;clear hx hy hz))
          go_end0
          have HR5:=am HR4.out;have HS5:=am (Seg.refl l4 mid b);have HT5:=am (HRS.out _ HS4.out (by omega));exact⟨rfl,_,HR5.out,sm_end HSEG.out HS4.out HS5.out HT4.out HT5.out HX0.out⟩
        ·have rc2:decide ((mid:Int)<(e:Int))=false:=df (by omega);have HR1:=am HR3.out
         go_wp2_with (first|(go_at_call 134;(with_reducible refine(HLEFT.out _ HR1.out).mono ?_);rintro e wy ⟨rfl,l4,hx,hy,hz⟩;have HR4:=am (HR1.out.trans hx);have HS4:=am hy;have HT4:=am hz;clear hx hy hz))
         go_end0
         have HR5:=am HR4.out;have HS5:=am (Seg.refl l4 mid b);have HT5:=am (HRS.out _ HS4.out (by omega));exact⟨rfl,_,HR5.out,sm_end HSEG.out HS4.out HS5.out HT4.out HT5.out HX0.out⟩
       ·have lb4:decide ((i:Int)<(mid:Int))=false:=df (by omega);by_cases rc1:mid<e
        ·have rc2:decide ((mid:Int)<(e:Int))=true:=dt (by omega);by_cases rc3:e<b
         ·have rc4:decide ((e:Int)<(b:Int))=true:=dt (by omega);have HRIGHT:=am (HRIGHT.out rc1 rc3);have HR1:=am HR3.out;have HR4:=am HR1.out;have HS4:=am (Seg.refl (rotL l i m e) a mid)
          go_wp2_with (first|(go_at_call 134;(with_reducible refine(HRIGHT.out _ _ HR4.out HS4.out).mono ?_);rintro e wz ⟨rfl,l5,hx,hy,hz⟩;have HR5:=am (HR4.out.trans hx);have HS5:=am hy;have HT5:=am hz;clear hx hy hz))
          go_end0
          have HT4:=am (HLS.out (by omega));exact⟨rfl,_,HR5.out,sm_end HSEG.out HS4.out HS5.out HT4.out HT5.out HX0.out⟩
         ·have rc4:decide ((e:Int)<(b:Int))=false:=df (by omega);have HR1:=am HR3.out
          go_wp2_with (fail)
          go_end0
          exact⟨rfl,_,HR1.out,sm_end HSEG.out (Seg.refl _ _ _) (Seg.refl _ _ _) (HLS.out (by omega)) (HRS.out _ (Seg.refl _ _ _) (by omega)) HX0.out⟩
        ·have rc2:decide ((mid:Int)<(e:Int))=false:=df (by omega);have HR1:=am HR3.out
         go_wp2_with (fail)
         go_end0
         exact⟨rfl,_,HR1.out,sm_end HSEG.out (Seg.refl _ _ _) (Seg.refl _ _ _) (HLS.out (by omega)) (HRS.out _ (Seg.refl _ _ _) (by omega)) HX0.out⟩
      ·have lb2:decide ((a:Int)<(i:Int))=false:=df (by omega);by_cases rc1:mid<e
       ·have rc2:decide ((mid:Int)<(e:Int))=true:=dt (by omega);by_cases rc3:e<b
        ·have rc4:decide ((e:Int)<(b:Int))=true:=dt (by omega);have HRIGHT:=am (HRIGHT.out rc1 rc3);have HR1:=am HR3.out;have HR4:=am HR1.out;have HS4:=am (Seg.refl (rotL l i m e) a mid)
         go_wp2_with (first|(go_at_call 134;(with_reducible refine(HRIGHT.out _ _ HR4.out HS4.out).mono ?_);rintro e wz ⟨rfl,l5,hx,hy,hz⟩;have HR5:=am (HR4.out.trans hx);have HS5:=am hy;have HT5:=am hz;clear hx hy hz))
         go_end0
         have HT4:=am (HLS.out (by omega));exact⟨rfl,_,HR5.out,sm_end HSEG.out HS4.out HS5.out HT4.out HT5.out HX0.out⟩
        ·have rc4:decide ((e:Int)<(b:Int))=false:=df (by omega);have HR1:=am HR3.out
         go_wp2_with (fail)
         go_end0
         exact⟨rfl,_,HR1.out,sm_end HSEG.out (Seg.refl _ _ _) (Seg.refl _ _ _) (HLS.out (by omega)) (HRS.out _ (Seg.refl _ _ _) (by omega)) HX0.out⟩
       ·have rc2:decide ((mid:Int)<(e:Int))=false:=df (by omega);have HR1:=am HR3.out
        go_wp2_with (fail)
        go_end0
        exact⟨rfl,_,HR1.out,sm_end HSEG.out (Seg.refl _ _ _) (Seg.refl _ _ _) (HLS.out (by omega)) (HRS.out _ (Seg.refl _ _ _) (by omega)) HX0.out⟩
section
def Blk (cmp:SE→SE→Int) (l:List SE) (n k a:Nat):Prop:=∀c,k∣c→c<a→SortedOn cmp l c (min (c+k) n)
def BlkFrom (cmp:SE→SE→Int) (l:List SE) (n k a:Nat):Prop:=∀c,k∣c→a≤c→c<n→SortedOn cmp l c (min (c+k) n)
theorem dvd_next {k c a:Nat} (h1:k∣c) (h2:k∣a) (h:c<a):c+k≤a:=by
 obtain⟨p,rfl⟩:=h1;obtain⟨q,rfl⟩:=h2;have:p<q:=Nat.lt_of_mul_lt_mul_left h
 calc k*p+k=k*(p+1):=by rw[Nat.mul_succ]
  _≤k*q:=Nat.mul_le_mul_left _ this
theorem dvd_here {k c a:Nat} (h1:k∣c) (h2:k∣a) (h:a≤c) (h3:c<a+k):c=a:=by
 by_cases e:c=a
 ·exact e
 ·have:=dvd_next h2 h1 (by omega);omega
section
variable {cmp:SE→SE→Int} {l l':List SE} {n k a:Nat}
theorem Blk.step (h:Blk cmp l n k a) (hk:k∣a) (s:Seg l l' a (min (a+k) n)) (t:SortedOn cmp l' a (min (a+k) n)):Blk cmp l' n k (a+k):=by
 intro c h1 h2;by_cases e:c<a
 ·have:=dvd_next h1 hk e;exact(h c h1 e).away s (.inl (by omega))
 ·obtain rfl:=dvd_here h1 hk (by omega) h2;exact t
theorem BlkFrom.step {k2:Nat} (h:BlkFrom cmp l n k a) (hk2:k+k=k2) (hk:k2∣a) (hp:0<k) (s:Seg l l' a (min (a+k2) n)):BlkFrom cmp l' n k (a+k2):=by
 intro c h1 h2 h3;exact(h c h1 (by omega) h3).away s (.inr (by omega))
theorem Blk.from (h:Blk cmp l n k n):BlkFrom cmp l n k 0:=fun c h1 _ h3=>h c h1 h3
end
theorem stable_calls {W:World} {base g N cap:Nat} {l:List SE} {cmp:SE→SE→Int} (h:Row W base g N cap l) (hc:Cmp W g l cmp) (hs:l.length≤1000000):
  Calls Tryz.prog 119 #[.slice (some ⟨g,0,none⟩) N cap,.int .i64 N,.func (.func 103) #[] #[]] W fun e w'=>e= .returned (.tuple #[])∧∃l',RowTo W w' base g N cap l'∧l'.Perm l∧SortedOn cmp l' 0 l'.length:=by
 have hN:=h.len;have H:=am (RowTo.refl h);have HC:=am hc;clear h hc;subst hN;go_enter Tryz.func119,Tryz.ntmps119
 go_wp2_with (fail)
 go_loopw [7,8] (fun av bv w'=>∃a b:Nat,20∣a∧a+20=b∧a≤l.length∧av= .int .i64 a∧bv= .int .i64 b∧∃l',Aside0 (RowTo W w' base g l.length cap l')∧Aside0 (Seg l l' 0 l.length)∧Aside0 (Blk cmp l' l.length 20 a)) (fun av _ _=>l.length+20-(intOf av).toNat)
 case atStart=>exact⟨0,20,⟨0,rfl⟩,rfl,Nat.zero_le _,rfl,rfl,l,H,⟨Seg.refl _ _ _⟩,⟨fun c _ h=>absurd h (Nat.not_lt_zero _)⟩⟩
 case round=>
  clear H;obtain⟨a,b,ha,hab,han,rfl,rfl,l1,HR,HS,HB⟩:=hrel;have hl1:=HS.out.len;by_cases hbn:b≤l.length
  ·have d1:decide ((b:Int)≤(l.length:Nat))=true:=dt (by omega);have w1:IntKind.i64.wrap ((b:Int)+20)=((b+20:Nat):Int):=(i64_w _).trans (by unfold Go.RowKit.wrap64;omega);have HI:=am (insertion_calls HR.out.row (HC.out.to HR.out HS.out.perm) a b (by omega) (by omega) (by omega))
   go_wp2_with (first|(go_at_call 133;(with_reducible refine HI.out.mono ?_);rintro e wx ⟨rfl,hx⟩;have HX:=am hx;clear hx))
   go_roundw
   case rel=>
    obtain⟨l2,r2,s2,t2⟩:=HX.out;have hm:min (a+20) l.length=b:=by omega
    exact⟨b,b+20,by obtain⟨q,rfl⟩:=ha;exact⟨q+1,by omega⟩,rfl,hbn,rfl,rfl,l2,⟨HR.out.trans r2⟩,⟨HS.out.trans (s2.wide (Nat.zero_le _) hbn)⟩,⟨by
     have:=HB.out.step ha (by rw[hm];exact s2) (by rw[hm];exact t2)
     rwa [hab]at this⟩⟩
   case measure=>simp[intOf];omega
  ·have d1:decide ((b:Int)≤(l.length:Nat))=false:=df (by omega);have HI:=am (insertion_calls HR.out.row (HC.out.to HR.out HS.out.perm) a l.length (by omega) (by omega) (by omega))
   go_wp2_with (first|(go_at_call 133;(with_reducible refine HI.out.mono ?_);rintro e wx ⟨rfl,hx⟩;have HX:=am hx;clear hx))
   obtain⟨l2,r2,s2,t2⟩:=HX.out;have HR2:=am (HR.out.trans r2);have HS2:=am (HS.out.trans (s2.wide (Nat.zero_le _) (Nat.le_refl _)));have hm:min (a+20) l.length=l.length:=by omega
   have HB2:Aside0 (Blk cmp l2 l.length 20 l.length):=⟨fun c h1 h2=>HB.out.step ha (by rw[hm];exact s2) (by rw[hm];exact t2) c h1 (by omega)⟩;clear HI HX HR HS HB hm hl1 r2 s2 t2
   go_loopw [6] (fun kv w'=>∃k:Nat,20≤k∧k≤20+l.length+l.length∧kv= .int .i64 k∧∃l',Aside0 (RowTo W w' base g l.length cap l')∧Aside0 (Seg l l' 0 l.length)∧Aside0 (Blk cmp l' l.length k l.length)) (fun kv _=>l.length-(intOf kv).toNat)
   case atStart=>exact⟨20,Nat.le_refl _,by omega,rfl,l2,HR2,HS2,HB2⟩
   case round=>
    clear HR2 HS2 HB2 d1;obtain⟨k,hk1,hk2,rfl,l3,HR,HS,HB⟩:=hrel;obtain⟨k2,hkk⟩:∃k2,k+k=k2:=⟨_,rfl⟩;have w2:IntKind.i64.wrap (2*(k:Int))=(k2:Int):=(i64_w _).trans (by unfold Go.RowKit.wrap64;omega);have w3:IntKind.i64.wrap ((k:Int)*2)=(k2:Int):=(i64_w _).trans (by unfold Go.RowKit.wrap64;omega);by_cases hkn:k<l.length
    ·have d2:decide ((k:Int)<(l.length:Nat))=true:=dt (by omega)
     go_wp2_with (fail)
     go_loopw [7,8] (fun av bv w'=>∃a b:Nat,k2∣a∧a+k2=b∧a≤l.length∧av= .int .i64 a∧bv= .int .i64 b∧∃l',Aside0 (RowTo W w' base g l.length cap l')∧Aside0 (Seg l l' 0 l.length)∧Aside0 (Blk cmp l' l.length k2 a)∧Aside0 (BlkFrom cmp l' l.length k a)) (fun av _ _=>l.length+k2-(intOf av).toNat)
     case atStart=>exact⟨0,k2,⟨0,rfl⟩,by omega,Nat.zero_le _,rfl,rfl,l3,HR,HS,⟨fun c _ h=>absurd h (Nat.not_lt_zero _)⟩,⟨HB.out.from⟩⟩
     case round=>
      clear HR HS HB;obtain⟨c,d,hc1,hcd,hcn,rfl,rfl,l4,HR,HS,HB,HF⟩:=hrel;have hl1:=HS.out.len;obtain⟨m,hcm⟩:∃m,c+k=m:=⟨_,rfl⟩;have hkd:k∣k2:=⟨2,by omega⟩;have hkc:k∣c:=Nat.dvd_trans hkd hc1;have w4:IntKind.i64.wrap ((c:Int)+(k:Int))=(m:Int):=(i64_w _).trans (by unfold Go.RowKit.wrap64;omega);by_cases hdn:d≤l.length
      ·have d3:decide ((d:Int)≤(l.length:Nat))=true:=dt (by omega);have w5:IntKind.i64.wrap ((d:Int)+(k2:Int))=((d+k2:Nat):Int):=(i64_w _).trans (by unfold Go.RowKit.wrap64;omega);have HI:=am (symMerge_calls (d-c) HR.out.row (HC.out.to HR.out HS.out.perm) c m d (Nat.le_refl _) (by omega) (by omega) (by omega) (by omega)
        (by have:=HF.out c hkc (Nat.le_refl _) (by omega);rwa [show min (c+k) l.length=m by omega]at this)
        (by have:=HF.out m (by rw[←hcm];exact Nat.dvd_add hkc (Nat.dvd_refl _)) (by omega) (by omega);rwa [show min (m+k) l.length=d by omega]at this))
       go_wp2_with (first|(go_at_call 134;(with_reducible refine HI.out.mono ?_);rintro e wx ⟨rfl,hx⟩;have HX:=am hx;clear hx))
       go_roundw
       case rel=>
        obtain⟨l5,r2,s2,t2⟩:=HX.out;have hm:min (c+k2) l.length=d:=by omega
        exact⟨d,d+k2,by rw[←hcd];exact Nat.dvd_add hc1 (Nat.dvd_refl _),rfl,hdn,rfl,rfl,l5,⟨HR.out.trans r2⟩,⟨HS.out.trans (s2.wide (Nat.zero_le _) hdn)⟩,⟨by
         have:=HB.out.step hc1 (by rw[hm];exact s2) (by rw[hm];exact t2)
         rwa [hcd]at this⟩,⟨by
         have:=HF.out.step hkk hc1 (by omega) (by rw[hm];exact s2)
         rwa [hcd]at this⟩⟩
       case measure=>simp[intOf];omega
      ·have d3:decide ((d:Int)≤(l.length:Nat))=false:=df (by omega);have hm:min (c+k2) l.length=l.length:=by omega
       by_cases hmn:m<l.length
       ·have d4:decide ((m:Int)<(l.length:Nat))=true:=dt (by omega);have HI:=am (symMerge_calls (l.length-c) HR.out.row (HC.out.to HR.out HS.out.perm) c m l.length (Nat.le_refl _) (by omega) (by omega) (by omega) (by omega)
         (by have:=HF.out c hkc (Nat.le_refl _) (by omega);rwa [show min (c+k) l.length=m by omega]at this)
         (by have:=HF.out m (by rw[←hcm];exact Nat.dvd_add hkc (Nat.dvd_refl _)) (by omega) (by omega);rwa [show min (m+k) l.length=l.length by omega]at this))
        go_wp2_with (first|(go_at_call 134;(with_reducible refine HI.out.mono ?_);rintro e wx ⟨rfl,hx⟩;have HX:=am hx;clear hx))
        go_roundw
        case rel=>
         obtain⟨l5,r2,s2,t2⟩:=HX.out;exact⟨k2,by omega,by omega,rfl,l5,⟨HR.out.trans r2⟩,⟨HS.out.trans (s2.wide (Nat.zero_le _) (Nat.le_refl _))⟩,⟨fun p h1 h2=>HB.out.step hc1 (by rw[hm];exact s2) (by rw[hm];exact t2) p h1 (by omega)⟩⟩
        case measure=>simp[intOf];omega
       ·have d4:decide ((m:Int)<(l.length:Nat))=false:=df (by omega)
        go_wp2_with (fail)
        go_roundw
        case rel=>
         refine⟨k2,by omega,by omega,rfl,l4,HR,HS,⟨fun p h1 h2=> ?_⟩⟩;by_cases e:p<c
         ·exact HB.out p h1 e
         ·obtain rfl:=dvd_here h1 hc1 (by omega) (by omega);have:=HF.out p hkc (Nat.le_refl _) h2;rw[hm]
          rwa [show min (p+k) l.length=l.length by omega]at this
        case measure=>simp[intOf];omega
    ·have d2:decide ((k:Int)<(l.length:Nat))=false:=df (by omega)
     go_wp2_with (fail)
     go_end0
     refine⟨rfl,l3,HR.out,HS.out.perm,?_⟩;have hl1:=HS.out.len;by_cases e:l.length=0
     ·exact fun p q h1 h2 h3=>by omega
     ·have:=HB.out 0 ⟨0,rfl⟩ (by omega)
      rwa [show min (0+k) l.length=l3.length by omega]at this
end
end Go.Proofs.YtfnimdhghglanaaGreat.Hand
end
