/- TopErrorPrefix, part 8 of 41; no condition. (Printed from the session's own texts: what is not used left out, spaces spared.) -/
import Derived.Test.YtfnimdhghglanaaGreatQeAG
set_option maxRecDepth 100000
set_option maxHeartbeats 8000000
set_option linter.unusedVariables false
set_option linter.unusedSimpArgs false
section
namespace Go.Proofs.YtfnimdhghglanaaGreat.Hand
open Go.RowKit Go.Proofs.YtfnimdhghglanaaGreatW.PrintWords Go.Proofs.YtfnimdhghglanaaGreatW.PrintLast Go.Proofs.YtfnimdhghglanaaGreatW.PrintMore
attribute [local go_sem] max2_int min2_int max_two min_two max_three min_three max_four min_four
theorem Cmp.to {W W2:World} {base g n cap:Nat} {l l2:List SE} {cmp:SE→SE→Int} (h:Cmp W g l cmp) (r:RowTo W W2 base g n cap l2) (p:l2.Perm l):Cmp W2 g l2 cmp:=
 ⟨h.weak,fun W' k x y hx hy=>h.call W' (r.keep.trans k) x y (p.subset hx) (p.subset hy)⟩
structure Srch (cmp:SE→SE→Int) (l:List SE) (n s0 r0 i j:Nat):Prop where
 lo:∀k,s0≤k→k<i→¬cmp (l.getD (n-1-k) SE.zero) (l.getD k SE.zero)<0
 hi:∀k,j≤k→k<r0→cmp (l.getD (n-1-k) SE.zero) (l.getD k SE.zero)<0
structure Rng (a m b mid s0 r0:Nat):Prop where
 le:s0≤r0
 a0:a≤s0
 rm:r0≤m
 rmid:r0≤mid
 sb:mid+m-s0≤b
 lo:s0=a∨mid+m-s0=b
 hi:r0=m∨r0=mid
theorem Srch.less {cmp:SE→SE→Int} {l:List SE} {a m b mid s0 r0 i j h:Nat} (hw:Weak cmp) (g:Rng a m b mid s0 r0) (s1:SortedOn cmp l a m) (s2:SortedOn cmp l m b) (s:Srch cmp l (mid+m) s0 r0 i j) (h0:s0≤h) (h1:i≤h) (h2:h<j) (h3:j≤r0) (hc:cmp (l.getD (mid+m-1-h) SE.zero) (l.getD h SE.zero)<0):Srch cmp l (mid+m) s0 r0 i h:=by
 have g1:=g.le;have g2:=g.a0;have g3:=g.rm;have g4:=g.rmid;have g5:=g.sb;refine⟨s.lo,fun k k1 k2=> ?_⟩;by_cases e:k=h
 ·rw[e];exact hc
 ·by_cases e2:j≤k
  ·exact s.hi k e2 k2
  ·refine Classical.byContradiction fun hn=> ?_;have x1:=hw.trans _ _ _ (s1 h k (by omega) (by omega) (by omega)) hn;exact hw.trans _ _ _ x1 (s2 (mid+m-1-k) (mid+m-1-h) (by omega) (by omega) (by omega)) hc
theorem Srch.more {cmp:SE→SE→Int} {l:List SE} {a m b mid s0 r0 i j h:Nat} (hw:Weak cmp) (g:Rng a m b mid s0 r0) (s1:SortedOn cmp l a m) (s2:SortedOn cmp l m b) (s:Srch cmp l (mid+m) s0 r0 i j) (h0:s0≤i) (h1:i≤h) (h2:h<j) (h3:j≤r0) (hc:¬cmp (l.getD (mid+m-1-h) SE.zero) (l.getD h SE.zero)<0):Srch cmp l (mid+m) s0 r0 (h+1) j:=by
 have g1:=g.le;have g2:=g.a0;have g3:=g.rm;have g4:=g.rmid;have g5:=g.sb;refine⟨fun k k1 k2=> ?_,s.hi⟩;by_cases e:k=h
 ·rw[e];exact hc
 ·exact hw.trans _ _ _ (hw.trans _ _ _ (s1 k h (by omega) (by omega) (by omega)) hc) (s2 (mid+m-1-h) (mid+m-1-k) (by omega) (by omega) (by omega))
theorem Srch.split {cmp:SE→SE→Int} {l:List SE} {a m b mid s0 r0 i:Nat} (hw:Weak cmp) (g:Rng a m b mid s0 r0) (s1:SortedOn cmp l a m) (s2:SortedOn cmp l m b) (s:Srch cmp l (mid+m) s0 r0 i i) (h0:s0≤i) (h3:i≤r0):Split cmp l a i m (mid+m-i) b:=by
 have g1:=g.le;have g2:=g.a0;have g3:=g.rm;have g4:=g.rmid;have g5:=g.sb;refine⟨s1,s2,by omega,by omega,by omega,by omega,fun p q h1 h2 h3 h4=> ?_,fun p q h1 h2 h3 h4=> ?_⟩
 ·have g6:=g.lo;have x:=s.lo (i-1) (by omega) (by omega);rw[show mid+m-1-(i-1)=mid+m-i by omega]at x;have y:¬cmp (l.getD (mid+m-i) SE.zero) (l.getD p SE.zero)<0:=by
   by_cases e:p=i-1
   ·rw[e];exact x
   ·exact hw.trans _ _ _ (s1 p (i-1) h1 (by omega) (by omega)) x
  by_cases e:q=mid+m-i
  ·unfold leA;rw[e];exact y
  ·exact hw.trans _ _ _ y (s2 (mid+m-i) q (by omega) (by omega) h4)
 ·have g6:=g.hi;have x:=s.hi i (Nat.le_refl _) (by omega);have y:¬cmp (l.getD i SE.zero) (l.getD q SE.zero)<0:=by
   by_cases e:q=mid+m-1-i
   ·rw[e];exact hw.asym _ _ x
   ·exact hw.trans _ _ _ (s2 q (mid+m-1-i) (by omega) (by omega) (by omega)) (hw.asym _ _ x)
  by_cases e:p=i
  ·unfold leA;rw[e];exact y
  ·exact hw.trans _ _ _ y (s1 i p (by omega) (by omega) h2)
theorem symMerge_calls {cmp:SE→SE→Int} (n:Nat):∀{W:World} {base g N cap:Nat} {l:List SE} (h:Row W base g N cap l) (hc:Cmp W g l cmp) (a m b:Nat) (hn:b-a≤n) (ham:a<m) (hmb:m<b) (hb:b≤l.length) (hs:l.length≤1000000) (h1:SortedOn cmp l a m) (h2:SortedOn cmp l m b),
  Calls Tryz.prog 134 #[.slice (some ⟨g,0,none⟩) N cap,.int .i64 a,.int .i64 m,.int .i64 b,.func (.func 103) #[] #[]] W fun e w'=>e= .returned (.tuple #[])∧∃l',RowTo W w' base g N cap l'∧Seg l l' a b∧SortedOn cmp l' a b:=by
 induction n with
 |zero=>
  intro W base g N cap l h hc a m b hn ham hmb;omega
 |succ n ih=>
  intro W base g N cap l h hc a m b hn ham hmb hb hs h1 h2;by_cases e1:m-a=1
  ·exact merge_left h hc a m b ham hmb hb hs h1 h2 e1
  by_cases e2:b-m=1
  ·exact merge_right h hc a m b ham hmb hb hs h1 h2 e1 e2
  have hN:=h.len;have H:=am (RowTo.refl h);have HC:=am hc;have HW:=am hc.weak;have HS1:=am h1;have HS2:=am h2;have IH:=am @ih;clear ih;have ws:IntKind.i64.wrap ((m:Int)-(a:Int))=((m-a:Nat):Int):=(i64_w _).trans (by unfold Go.RowKit.wrap64;omega);have ws2:IntKind.i64.wrap ((b:Int)-(m:Int))=((b-m:Nat):Int):=(i64_w _).trans (by unfold Go.RowKit.wrap64;omega);have d0:(((m-a:Nat):Int)==1)=false:=beq_eq_false_iff_ne.2 (by omega);have d00:(((b-m:Nat):Int)==1)=false:=beq_eq_false_iff_ne.2 (by omega)
  have ws3:IntKind.i64.wrap ((a:Int)+(b:Int))=((a+b:Nat):Int):=(i64_w _).trans (by unfold Go.RowKit.wrap64;omega);obtain⟨mid,hmd,hmd1,hmd2⟩:∃mid:Nat,((a:Int)+(b:Int)) / 2=(mid:Int)∧2*mid≤a+b∧a+b≤2*mid+1:=⟨(a+b) / 2,by omega,by omega,by omega⟩;have ws4:IntKind.i64.wrap ((mid:Int)+(m:Int))=((mid+m:Nat):Int):=(i64_w _).trans (by unfold Go.RowKit.wrap64;omega);obtain⟨p,hp⟩:∃p:Nat,p+1=mid+m:=⟨mid+m-1,by omega⟩;have ws5:IntKind.i64.wrap ((mid:Int)+(m:Int)-1)=(p:Int):=(i64_w _).trans (by unfold Go.RowKit.wrap64;omega);clear h hc h1 h2;subst hN;by_cases hm:mid<m
  ·have dm:decide ((mid:Int)<(m:Int))=true:=decide_eq_true (by omega);obtain⟨s0,hs0⟩:∃s0:Nat,s0+b=mid+m:=⟨mid+m-b,by omega⟩;have ws6:IntKind.i64.wrap ((mid:Int)+(m:Int)-(b:Int))=(s0:Int):=(i64_w _).trans (by unfold Go.RowKit.wrap64;omega);have HG:=am (⟨by omega,by omega,by omega,by omega,by omega,.inr (by omega),.inr rfl⟩:Rng a m b mid s0 mid);go_enter Tryz.func134,Tryz.ntmps134
   go_wp2_with (fail)
   go_loopw [20,21] (fun iv jv w'=>∃i j:Nat,s0≤i∧i≤j∧j≤mid∧iv= .int .i64 i∧jv= .int .i64 j∧∃l',Aside0 (RowTo W w' base g l.length cap l')∧Aside0 (l'=l)∧Aside0 (Srch cmp l (mid+m) s0 mid i j)) (fun iv jv _=>(intOf jv).toNat-(intOf iv).toNat)
   case atStart=>exact⟨s0,mid,Nat.le_refl _,HG.out.le,Nat.le_refl _,rfl,rfl,l,H,⟨rfl⟩,⟨⟨fun k h1 h2=>by omega,fun k h1 h2=>by omega⟩⟩⟩
   case round=>
    clear H ws ws2 ws3 ws4 ws5 d0 d00 hmd;obtain⟨i,j,hi1,hi2,hi3,rfl,rfl,l2,HR,HE,HSR⟩:=hrel;have g1:=HG.out.le;have g2:=HG.out.a0;have g3:=HG.out.rm;have g4:=HG.out.rmid;have g5:=HG.out.sb;by_cases hij:i<j
    ·have d1:decide ((i:Int)<(j:Int))=true:=decide_eq_true (by omega);have w3:IntKind.i64.wrap ((i:Int)+(j:Int))=((i+j:Nat):Int):=(i64_w _).trans (by unfold Go.RowKit.wrap64;omega);obtain⟨hf,hh,hh1,hh2⟩:∃hf:Nat,((i:Int)+(j:Int)) / 2=(hf:Int)∧i≤hf∧hf<j:=⟨(i+j) / 2,by omega,by omega,by omega⟩;obtain⟨hq,hq1⟩:∃hq:Nat,hq+hf=p:=⟨p-hf,by omega⟩;have HS:Aside0 (Seg l l2 a b):=⟨by rw[HE.out];exact Seg.refl _ _ _⟩;have wi:IntKind.i64.wrap ((hf:Int)+1)=((hf+1:Nat):Int):=(i64_w _).trans (by unfold Go.RowKit.wrap64;omega)
     have wq:IntKind.i64.wrap ((p:Int)-(hf:Int))=((hq:Nat):Int):=(i64_w _).trans (by unfold Go.RowKit.wrap64;omega);have m1:(hf:Int)<(l.length:Nat):=by omega
     have m2:(hq:Int)<(l.length:Nat):=by omega
     have hl:=HS.out.len;obtain⟨p0,p1,p2,p3,p4,p5⟩:=HR.out.row.cells (hq) (by omega);obtain⟨q0,q1,q2,q3,q4,q5⟩:=HR.out.row.cells (hf) (by omega);have fr:=HR.out.row.free;have HX:=am (getD_at l2 (hq) (by omega) SE.zero);have HY:=am (getD_at l2 (hf) (by omega) SE.zero);have hm1:l2[hq]∈l:=HS.out.perm.subset (List.getElem_mem _);have hm2:l2[hf]∈l:=HS.out.perm.subset (List.getElem_mem _);have hcall:=HC.out.call wr.drew (HR.out.drew.keep) _ _ hm1 hm2;clear hm1 hm2;generalize l2[hq]=x at p0 p1 p2 p3 p4 p5 HX hcall;generalize l2[hf]=y at q0 q1 q2 q3 q4 q5 HY hcall
     obtain⟨c,hcc⟩:∃c,cmp x y=c:=⟨_,rfl⟩;rw[hcc]at hcall;have HCC:=am hcc;clear hcc;obtain⟨xt,⟨xA,xn,xc⟩,xl,xd,xp,xa⟩:=x;obtain⟨yt,⟨yA,yn,yc⟩,yl,yd,yp,ya⟩:=y;simp only[SE.v]at p0 p1 p2 p3 p4 p5 q0 q1 q2 q3 q4 q5 hcall;have HCALL:=am hcall;have HL:=am hl;clear hcall hl;have HLT:=am (show∀wx,Below wr.drew.heap.size wr.drew wx→∀j,wx.cell? ⟨g,j,none⟩=wr.cell? ⟨g,j,none⟩from fun wx hb j=>hb.cell (p:=⟨g,j,none⟩) (Kd.R_lt HR.out.drew.row g (by simp[Value.ownBlock])))
     have hcx:cmp (l.getD (mid+m-1-hf) SE.zero) (l.getD hf SE.zero)=c:=by rw[show mid+m-1-hf=hq by omega,←HCC.out,←HX.out,←HY.out,HE.out]
     have HCX:=am hcx;have HQ:=am hq1;have HP:=am hp;clear hcx hq1 hp;by_cases hlt:c<0
     ·have d3:decide (c<0)=true:=decide_eq_true hlt;go_upto_region 35 with (fail)
      go_region_held3 (fun w'=>w'.cell? ⟨g,hq*6,none⟩=some (.int .i64 xt)∧w'.cell? ⟨g,hq*6+1,none⟩=some (.slice xA xn xc)∧w'.cell? ⟨g,hq*6+2,none⟩=some (.int .i64 xl)∧w'.cell? ⟨g,hq*6+3,none⟩=some (.int .i64 xd)∧w'.cell? ⟨g,hq*6+4,none⟩=some (.int .i64 xp)∧w'.cell? ⟨g,hq*6+5,none⟩=some (.int .i64 xa)∧w'.cell? ⟨g,hf*6,none⟩=some (.int .i64 yt)∧w'.cell? ⟨g,hf*6+1,none⟩=some (.slice yA yn yc)∧w'.cell? ⟨g,hf*6+2,none⟩=some (.int .i64 yl)∧w'.cell? ⟨g,hf*6+3,none⟩=some (.int .i64 yd)∧w'.cell? ⟨g,hf*6+4,none⟩=some (.int .i64 yp)∧w'.cell? ⟨g,hf*6+5,none⟩=some (.int .i64 ya)) (go_keep) (first|(go_at_call 103;(with_reducible refine HCALL.out.mono ?_);rintro e wx ⟨rfl,hb⟩;have HB:=am hb;have hcl:=HLT.out wx hb;clear hb))
      clear p0 p1 p2 p3 p4 p5 q0 q1 q2 q3 q4 q5 fr hcl
      go_wp2_with (fail)
      go_roundw
      case rel=>exact⟨i,hf,hi1,by omega,by omega,rfl,rfl,l2,⟨HR.out.drew.more HB.out⟩,HE,⟨HSR.out.less HW.out HG.out HS1.out HS2.out (by omega) hh1 hh2 hi3 (by rw[HCX.out];exact hlt)⟩⟩
      case measure=>simp[intOf];omega
     ·have d3:decide (c<0)=false:=decide_eq_false hlt;go_upto_region 35 with (fail)
      go_region_held3 (fun w'=>w'.cell? ⟨g,hq*6,none⟩=some (.int .i64 xt)∧w'.cell? ⟨g,hq*6+1,none⟩=some (.slice xA xn xc)∧w'.cell? ⟨g,hq*6+2,none⟩=some (.int .i64 xl)∧w'.cell? ⟨g,hq*6+3,none⟩=some (.int .i64 xd)∧w'.cell? ⟨g,hq*6+4,none⟩=some (.int .i64 xp)∧w'.cell? ⟨g,hq*6+5,none⟩=some (.int .i64 xa)∧w'.cell? ⟨g,hf*6,none⟩=some (.int .i64 yt)∧w'.cell? ⟨g,hf*6+1,none⟩=some (.slice yA yn yc)∧w'.cell? ⟨g,hf*6+2,none⟩=some (.int .i64 yl)∧w'.cell? ⟨g,hf*6+3,none⟩=some (.int .i64 yd)∧w'.cell? ⟨g,hf*6+4,none⟩=some (.int .i64 yp)∧w'.cell? ⟨g,hf*6+5,none⟩=some (.int .i64 ya)) (go_keep) (first|(go_at_call 103;(with_reducible refine HCALL.out.mono ?_);rintro e wx ⟨rfl,hb⟩;have HB:=am hb;have hcl:=HLT.out wx hb;clear hb))
      clear p0 p1 p2 p3 p4 p5 q0 q1 q2 q3 q4 q5 fr hcl
      go_wp2_with (fail)
      go_roundw
      case rel=>exact⟨hf+1,j,by omega,by omega,hi3,rfl,rfl,l2,⟨HR.out.drew.more HB.out⟩,HE,⟨HSR.out.more HW.out HG.out HS1.out HS2.out hi1 hh1 hh2 hi3 (by rw[HCX.out];omega)⟩⟩
      case measure=>simp[intOf];omega
    ·obtain rfl:i=j:=by omega
     have d1:decide ((i:Int)<(i:Int))=false:=decide_eq_false (by omega);obtain⟨e,he⟩:∃e:Nat,e+i=mid+m:=⟨mid+m-i,by omega⟩;have we:IntKind.i64.wrap ((mid:Int)+(m:Int)-(i:Int))=(e:Int):=(i64_w _).trans (by unfold Go.RowKit.wrap64;omega);have hsp:=HSR.out.split HW.out HG.out HS1.out HS2.out hi1 hi3;rw[show mid+m-i=e by omega]at hsp;have f1:=hsp.im;have f2:=hsp.mj;have f3:=hsp.jb;have f4:i+(e-m)=mid:=by omega
     have f5:i≤mid:=by omega
     have f6:mid≤e:=by omega
     have f7:a≤mid:=by omega
     have f8:mid≤b:=by omega
     have q1:=hsp.p1 hb;have q2:=hsp.p2 hb;have q3:=hsp.p3 hb;have q4:=hsp.p4 hb;have qx:=hsp.cross hb;rw[f4]at q2 q3 qx;have hr2:=HR.out;rw[HE.out]at hr2;have HR2:=am hr2;have hsg:=rotL_seg l a i m e b (by omega) f1 f2 f3 hb;have hll:(rotL l i m e).length=l.length:=rotL_length _ _ _ _;have HSEG:=am hsg;have HX0:=am (show∀p q,a≤p→p<mid→mid≤q→q<b→leA cmp (rotL l i m e) p q from fun p q g1 g2 g3 g4=>qx p q g1 g2 g3 g4)
     have HLEFT:=am (show a<i→i<mid→∀(wx:World),RowTo W wx base g l.length cap (rotL l i m e)→_ from fun y1 y2 wx hr=>IH.out hr.row (HC.out.to hr hsg.perm) a i mid (by omega) y1 y2 (by rw[hll];omega) (by rw[hll];exact hs) q1 q2);have HRIGHT:=am (show mid<e→e<b→∀(wy:World) (l4:List SE),RowTo W wy base g l.length cap l4→Seg (rotL l i m e) l4 a mid→_ from fun y1 y2 wy l4 hr hs4=>IH.out hr.row (HC.out.to hr (hs4.perm.trans hsg.perm)) mid e b (by omega) y1 y2 (by rw[hs4.len,hll];exact hb) (by rw[hs4.len,hll];exact hs) (q3.away hs4 (.inr (Nat.le_refl _))) (q4.away hs4 (.inr f6)))
     have HLS:=am (show¬(a<i∧i<mid)→SortedOn cmp (rotL l i m e) a mid from fun y=>by
      by_cases c1:a<i
      ·exact(show i=mid by omega)▸q1
      ·exact(show i=a by omega)▸q2)
     have HRS:=am (show∀l4,Seg (rotL l i m e) l4 a mid→¬(mid<e∧e<b)→SortedOn cmp l4 mid b from fun l4 hs4 y=>by
      by_cases c1:mid<e
      ·exact(show e=b by omega)▸(q3.away hs4 (.inr (Nat.le_refl _)))
      ·have:=q4.away hs4 (.inr f6)
       rwa [show e=mid by omega]at this)
     have HN:=am hn;clear hsp q1 q2 q3 q4 qx hr2 hsg hll HR HE HSR HG HS1 HS2 IH HC HW hn he hp g1 g2 g3 g4 g5;by_cases ra1:i<m
     ·have ra2:decide ((i:Int)<(m:Int))=true:=decide_eq_true (by omega);by_cases ra3:m<e
      ·have ra4:decide ((m:Int)<(e:Int))=true:=decide_eq_true (by omega);have HROT:=am (rotate_calls (.func (.func 103) #[] #[]) HR2.out.row i m e ra1 ra3 (by omega) hs);by_cases lb1:a<i
       ·have lb2:decide ((a:Int)<(i:Int))=true:=decide_eq_true (by omega);by_cases lb3:i<mid
        ·have lb4:decide ((i:Int)<(mid:Int))=true:=decide_eq_true (by omega);have HLEFT:=am (HLEFT.out lb1 lb3);by_cases rc1:mid<e
         ·have rc2:decide ((mid:Int)<(e:Int))=true:=decide_eq_true (by omega);by_cases rc3:e<b
          ·have rc4:decide ((e:Int)<(b:Int))=true:=decide_eq_true (by omega);have HRIGHT:=am (HRIGHT.out rc1 rc3)
           go_wp2_with (first|(go_at_call 150;(with_reducible refine HROT.out.mono ?_);rintro e wx ⟨rfl,hx⟩;have HR1:=am (HR2.out.trans hx);clear hx)|(go_at_call 134;(with_reducible refine(HLEFT.out _ HR1.out).mono ?_);rintro e wy ⟨rfl,l4,hx,hy,hz⟩;have HR4:=am (HR1.out.trans hx);have HS4:=am hy;have HT4:=am hz;clear hx hy hz)|(go_at_call 134;(with_reducible refine(HRIGHT.out _ _ HR4.out HS4.out).mono ?_);rintro e wz ⟨rfl,l5,hx,hy,hz⟩;have HR5:=am (HR4.out.trans hx);have HS5:=am hy;have HT5:=am hz;clear hx hy hz))
           go_end0
           exact⟨rfl,_,HR5.out,HSEG.out.trans ((HS4.out.wide (Nat.le_refl _) (by omega)).trans (HS5.out.wide (by omega) (Nat.le_refl _))),SortedOn.join (c:=mid) (HT4.out.away HS5.out (.inl (Nat.le_refl _))) HT5.out (cross_seg (cross_seg HX0.out (.inl HS4.out)) (.inr HS5.out))⟩
          ·have rc4:decide ((e:Int)<(b:Int))=false:=decide_eq_false (by omega)
           go_wp2_with (first|(go_at_call 150;(with_reducible refine HROT.out.mono ?_);rintro e wx ⟨rfl,hx⟩;have HR1:=am (HR2.out.trans hx);clear hx)|(go_at_call 134;(with_reducible refine(HLEFT.out _ HR1.out).mono ?_);rintro e wy ⟨rfl,l4,hx,hy,hz⟩;have HR4:=am (HR1.out.trans hx);have HS4:=am hy;have HT4:=am hz;clear hx hy hz))
           go_end0
           have HR5:=am HR4.out;have HS5:=am (Seg.refl l4 mid b);have HT5:=am (HRS.out _ HS4.out (by omega));exact⟨rfl,_,HR5.out,HSEG.out.trans ((HS4.out.wide (Nat.le_refl _) (by omega)).trans (HS5.out.wide (by omega) (Nat.le_refl _))),SortedOn.join (c:=mid) (HT4.out.away HS5.out (.inl (Nat.le_refl _))) HT5.out (cross_seg (cross_seg HX0.out (.inl HS4.out)) (.inr HS5.out))⟩
         ·have rc2:decide ((mid:Int)<(e:Int))=false:=decide_eq_false (by omega)
          go_wp2_with (first|(go_at_call 150;(with_reducible refine HROT.out.mono ?_);rintro e wx ⟨rfl,hx⟩;have HR1:=am (HR2.out.trans hx);clear hx)|(go_at_call 134;(with_reducible refine(HLEFT.out _ HR1.out).mono ?_);rintro e wy ⟨rfl,l4,hx,hy,hz⟩;have HR4:=am (HR1.out.trans hx);have HS4:=am hy;have HT4:=am hz;clear hx hy hz))
          go_end0
          have HR5:=am HR4.out;have HS5:=am (Seg.refl l4 mid b);have HT5:=am (HRS.out _ HS4.out (by omega));exact⟨rfl,_,HR5.out,HSEG.out.trans ((HS4.out.wide (Nat.le_refl _) (by omega)).trans (HS5.out.wide (by omega) (Nat.le_refl _))),SortedOn.join (c:=mid) (HT4.out.away HS5.out (.inl (Nat.le_refl _))) HT5.out (cross_seg (cross_seg HX0.out (.inl HS4.out)) (.inr HS5.out))⟩
        ·have lb4:decide ((i:Int)<(mid:Int))=false:=decide_eq_false (by omega);by_cases rc1:mid<e
         ·have rc2:decide ((mid:Int)<(e:Int))=true:=decide_eq_true (by omega);by_cases rc3:e<b
          ·have rc4:decide ((e:Int)<(b:Int))=true:=decide_eq_true (by omega);have HRIGHT:=am (HRIGHT.out rc1 rc3)
           go_wp2_with (first|(go_at_call 150;(with_reducible refine HROT.out.mono ?_);rintro e wx ⟨rfl,hx⟩;have HR1:=am (HR2.out.trans hx);clear hx;have HR4:=am HR1.out;have HS4:=am (Seg.refl (rotL l i m e) a mid))|(go_at_call 134;(with_reducible refine(HRIGHT.out _ _ HR4.out HS4.out).mono ?_);rintro e wz ⟨rfl,l5,hx,hy,hz⟩;have HR5:=am (HR4.out.trans hx);have HS5:=am hy;have HT5:=am hz;clear hx hy hz))
           go_end0
           have HT4:=am (HLS.out (by omega));exact⟨rfl,_,HR5.out,HSEG.out.trans ((HS4.out.wide (Nat.le_refl _) (by omega)).trans (HS5.out.wide (by omega) (Nat.le_refl _))),SortedOn.join (c:=mid) (HT4.out.away HS5.out (.inl (Nat.le_refl _))) HT5.out (cross_seg (cross_seg HX0.out (.inl HS4.out)) (.inr HS5.out))⟩
          ·have rc4:decide ((e:Int)<(b:Int))=false:=decide_eq_false (by omega)
           go_wp2_with (first|(go_at_call 150;(with_reducible refine HROT.out.mono ?_);rintro e wx ⟨rfl,hx⟩;have HR1:=am (HR2.out.trans hx);clear hx))
           go_end0
           have HR4:=am HR1.out;have HS4:=am (Seg.refl (rotL l i m e) a mid);have HT4:=am (HLS.out (by omega));have HR5:=am HR4.out;have HS5:=am (Seg.refl (rotL l i m e) mid b);have HT5:=am (HRS.out _ HS4.out (by omega));exact⟨rfl,_,HR5.out,HSEG.out.trans ((HS4.out.wide (Nat.le_refl _) (by omega)).trans (HS5.out.wide (by omega) (Nat.le_refl _))),SortedOn.join (c:=mid) (HT4.out.away HS5.out (.inl (Nat.le_refl _))) HT5.out (cross_seg (cross_seg HX0.out (.inl HS4.out)) (.inr HS5.out))⟩
         ·have rc2:decide ((mid:Int)<(e:Int))=false:=decide_eq_false (by omega)
          go_wp2_with (first|(go_at_call 150;(with_reducible refine HROT.out.mono ?_);rintro e wx ⟨rfl,hx⟩;have HR1:=am (HR2.out.trans hx);clear hx))
          go_end0
          have HR4:=am HR1.out;have HS4:=am (Seg.refl (rotL l i m e) a mid);have HT4:=am (HLS.out (by omega));have HR5:=am HR4.out;have HS5:=am (Seg.refl (rotL l i m e) mid b);have HT5:=am (HRS.out _ HS4.out (by omega));exact⟨rfl,_,HR5.out,HSEG.out.trans ((HS4.out.wide (Nat.le_refl _) (by omega)).trans (HS5.out.wide (by omega) (Nat.le_refl _))),SortedOn.join (c:=mid) (HT4.out.away HS5.out (.inl (Nat.le_refl _))) HT5.out (cross_seg (cross_seg HX0.out (.inl HS4.out)) (.inr HS5.out))⟩
       ·have lb2:decide ((a:Int)<(i:Int))=false:=decide_eq_false (by omega);by_cases rc1:mid<e
        ·have rc2:decide ((mid:Int)<(e:Int))=true:=decide_eq_true (by omega);by_cases rc3:e<b
         ·have rc4:decide ((e:Int)<(b:Int))=true:=decide_eq_true (by omega);have HRIGHT:=am (HRIGHT.out rc1 rc3)
          go_wp2_with (first|(go_at_call 150;(with_reducible refine HROT.out.mono ?_);rintro e wx ⟨rfl,hx⟩;have HR1:=am (HR2.out.trans hx);clear hx;have HR4:=am HR1.out;have HS4:=am (Seg.refl (rotL l i m e) a mid))|(go_at_call 134;(with_reducible refine(HRIGHT.out _ _ HR4.out HS4.out).mono ?_);rintro e wz ⟨rfl,l5,hx,hy,hz⟩;have HR5:=am (HR4.out.trans hx);have HS5:=am hy;have HT5:=am hz;clear hx hy hz))
          go_end0
          have HT4:=am (HLS.out (by omega));exact⟨rfl,_,HR5.out,HSEG.out.trans ((HS4.out.wide (Nat.le_refl _) (by omega)).trans (HS5.out.wide (by omega) (Nat.le_refl _))),SortedOn.join (c:=mid) (HT4.out.away HS5.out (.inl (Nat.le_refl _))) HT5.out (cross_seg (cross_seg HX0.out (.inl HS4.out)) (.inr HS5.out))⟩
         ·have rc4:decide ((e:Int)<(b:Int))=false:=decide_eq_false (by omega)
          go_wp2_with (first|(go_at_call 150;(with_reducible refine HROT.out.mono ?_);rintro e wx ⟨rfl,hx⟩;have HR1:=am (HR2.out.trans hx);clear hx))
          go_end0
          have HR4:=am HR1.out;have HS4:=am (Seg.refl (rotL l i m e) a mid);have HT4:=am (HLS.out (by omega));have HR5:=am HR4.out;have HS5:=am (Seg.refl (rotL l i m e) mid b);have HT5:=am (HRS.out _ HS4.out (by omega));exact⟨rfl,_,HR5.out,HSEG.out.trans ((HS4.out.wide (Nat.le_refl _) (by omega)).trans (HS5.out.wide (by omega) (Nat.le_refl _))),SortedOn.join (c:=mid) (HT4.out.away HS5.out (.inl (Nat.le_refl _))) HT5.out (cross_seg (cross_seg HX0.out (.inl HS4.out)) (.inr HS5.out))⟩
        ·have rc2:decide ((mid:Int)<(e:Int))=false:=decide_eq_false (by omega)
         go_wp2_with (first|(go_at_call 150;(with_reducible refine HROT.out.mono ?_);rintro e wx ⟨rfl,hx⟩;have HR1:=am (HR2.out.trans hx);clear hx))
         go_end0
         have HR4:=am HR1.out;have HS4:=am (Seg.refl (rotL l i m e) a mid);have HT4:=am (HLS.out (by omega));have HR5:=am HR4.out;have HS5:=am (Seg.refl (rotL l i m e) mid b);have HT5:=am (HRS.out _ HS4.out (by omega));exact⟨rfl,_,HR5.out,HSEG.out.trans ((HS4.out.wide (Nat.le_refl _) (by omega)).trans (HS5.out.wide (by omega) (Nat.le_refl _))),SortedOn.join (c:=mid) (HT4.out.away HS5.out (.inl (Nat.le_refl _))) HT5.out (cross_seg (cross_seg HX0.out (.inl HS4.out)) (.inr HS5.out))⟩
      ·have ra4:decide ((m:Int)<(e:Int))=false:=decide_eq_false (by omega);have HR3:=am (show RowTo W wr base g l.length cap (rotL l i m e)by rw[rotL_same (by omega) f1 f2];exact HR2.out);by_cases lb1:a<i
       ·have lb2:decide ((a:Int)<(i:Int))=true:=decide_eq_true (by omega);by_cases lb3:i<mid
        ·have lb4:decide ((i:Int)<(mid:Int))=true:=decide_eq_true (by omega);have HLEFT:=am (HLEFT.out lb1 lb3);by_cases rc1:mid<e
         ·have rc2:decide ((mid:Int)<(e:Int))=true:=decide_eq_true (by omega);by_cases rc3:e<b
          ·have rc4:decide ((e:Int)<(b:Int))=true:=decide_eq_true (by omega);have HRIGHT:=am (HRIGHT.out rc1 rc3);have HR1:=am HR3.out
           go_wp2_with (first|(go_at_call 134;(with_reducible refine(HLEFT.out _ HR1.out).mono ?_);rintro e wy ⟨rfl,l4,hx,hy,hz⟩;have HR4:=am (HR1.out.trans hx);have HS4:=am hy;have HT4:=am hz;clear hx hy hz)|(go_at_call 134;(with_reducible refine(HRIGHT.out _ _ HR4.out HS4.out).mono ?_);rintro e wz ⟨rfl,l5,hx,hy,hz⟩;have HR5:=am (HR4.out.trans hx);have HS5:=am hy;have HT5:=am hz;clear hx hy hz))
           go_end0
           exact⟨rfl,_,HR5.out,HSEG.out.trans ((HS4.out.wide (Nat.le_refl _) (by omega)).trans (HS5.out.wide (by omega) (Nat.le_refl _))),SortedOn.join (c:=mid) (HT4.out.away HS5.out (.inl (Nat.le_refl _))) HT5.out (cross_seg (cross_seg HX0.out (.inl HS4.out)) (.inr HS5.out))⟩
          ·have rc4:decide ((e:Int)<(b:Int))=false:=decide_eq_false (by omega);have HR1:=am HR3.out
           go_wp2_with (first|(go_at_call 134;(with_reducible refine(HLEFT.out _ HR1.out).mono ?_);rintro e wy ⟨rfl,l4,hx,hy,hz⟩;have HR4:=am (HR1.out.trans hx);have HS4:=am hy;have HT4:=am hz;clear hx hy hz))
           go_end0
           have HR5:=am HR4.out;have HS5:=am (Seg.refl l4 mid b);have HT5:=am (HRS.out _ HS4.out (by omega));exact⟨rfl,_,HR5.out,HSEG.out.trans ((HS4.out.wide (Nat.le_refl _) (by omega)).trans (HS5.out.wide (by omega) (Nat.le_refl _))),SortedOn.join (c:=mid) (HT4.out.away HS5.out (.inl (Nat.le_refl _))) HT5.out (cross_seg (cross_seg HX0.out (.inl HS4.out)) (.inr HS5.out))⟩
         ·have rc2:decide ((mid:Int)<(e:Int))=false:=decide_eq_false (by omega);have HR1:=am HR3.out
          go_wp2_with (first|(go_at_call 134;(with_reducible refine(HLEFT.out _ HR1.out).mono ?_);rintro e wy ⟨rfl,l4,hx,hy,hz⟩;have HR4:=am (HR1.out.trans hx);have HS4:=am hy;have HT4:=am hz;clear hx hy hz))
          go_end0
          have HR5:=am HR4.out;have HS5:=am (Seg.refl l4 mid b);have HT5:=am (HRS.out _ HS4.out (by omega));exact⟨rfl,_,HR5.out,HSEG.out.trans ((HS4.out.wide (Nat.le_refl _) (by omega)).trans (HS5.out.wide (by omega) (Nat.le_refl _))),SortedOn.join (c:=mid) (HT4.out.away HS5.out (.inl (Nat.le_refl _))) HT5.out (cross_seg (cross_seg HX0.out (.inl HS4.out)) (.inr HS5.out))⟩
        ·have lb4:decide ((i:Int)<(mid:Int))=false:=decide_eq_false (by omega);by_cases rc1:mid<e
         ·have rc2:decide ((mid:Int)<(e:Int))=true:=decide_eq_true (by omega);by_cases rc3:e<b
          ·have rc4:decide ((e:Int)<(b:Int))=true:=decide_eq_true (by omega);have HRIGHT:=am (HRIGHT.out rc1 rc3);have HR1:=am HR3.out;have HR4:=am HR1.out;have HS4:=am (Seg.refl (rotL l i m e) a mid)
           go_wp2_with (first|(go_at_call 134;(with_reducible refine(HRIGHT.out _ _ HR4.out HS4.out).mono ?_);rintro e wz ⟨rfl,l5,hx,hy,hz⟩;have HR5:=am (HR4.out.trans hx);have HS5:=am hy;have HT5:=am hz;clear hx hy hz))
           go_end0
           have HT4:=am (HLS.out (by omega));exact⟨rfl,_,HR5.out,HSEG.out.trans ((HS4.out.wide (Nat.le_refl _) (by omega)).trans (HS5.out.wide (by omega) (Nat.le_refl _))),SortedOn.join (c:=mid) (HT4.out.away HS5.out (.inl (Nat.le_refl _))) HT5.out (cross_seg (cross_seg HX0.out (.inl HS4.out)) (.inr HS5.out))⟩
          ·have rc4:decide ((e:Int)<(b:Int))=false:=decide_eq_false (by omega);have HR1:=am HR3.out
           go_wp2_with (fail)
           go_end0
           have HR4:=am HR1.out;have HS4:=am (Seg.refl (rotL l i m e) a mid);have HT4:=am (HLS.out (by omega));have HR5:=am HR4.out;have HS5:=am (Seg.refl (rotL l i m e) mid b);have HT5:=am (HRS.out _ HS4.out (by omega));exact⟨rfl,_,HR5.out,HSEG.out.trans ((HS4.out.wide (Nat.le_refl _) (by omega)).trans (HS5.out.wide (by omega) (Nat.le_refl _))),SortedOn.join (c:=mid) (HT4.out.away HS5.out (.inl (Nat.le_refl _))) HT5.out (cross_seg (cross_seg HX0.out (.inl HS4.out)) (.inr HS5.out))⟩
         ·have rc2:decide ((mid:Int)<(e:Int))=false:=decide_eq_false (by omega);have HR1:=am HR3.out
          go_wp2_with (fail)
          go_end0
          have HR4:=am HR1.out;have HS4:=am (Seg.refl (rotL l i m e) a mid);have HT4:=am (HLS.out (by omega));have HR5:=am HR4.out;have HS5:=am (Seg.refl (rotL l i m e) mid b);have HT5:=am (HRS.out _ HS4.out (by omega));exact⟨rfl,_,HR5.out,HSEG.out.trans ((HS4.out.wide (Nat.le_refl _) (by omega)).trans (HS5.out.wide (by omega) (Nat.le_refl _))),SortedOn.join (c:=mid) (HT4.out.away HS5.out (.inl (Nat.le_refl _))) HT5.out (cross_seg (cross_seg HX0.out (.inl HS4.out)) (.inr HS5.out))⟩
       ·have lb2:decide ((a:Int)<(i:Int))=false:=decide_eq_false (by omega);by_cases rc1:mid<e
        ·have rc2:decide ((mid:Int)<(e:Int))=true:=decide_eq_true (by omega);by_cases rc3:e<b
         ·have rc4:decide ((e:Int)<(b:Int))=true:=decide_eq_true (by omega);have HRIGHT:=am (HRIGHT.out rc1 rc3);have HR1:=am HR3.out;have HR4:=am HR1.out;have HS4:=am (Seg.refl (rotL l i m e) a mid)
          go_wp2_with (first|(go_at_call 134;(with_reducible refine(HRIGHT.out _ _ HR4.out HS4.out).mono ?_);rintro e wz ⟨rfl,l5,hx,hy,hz⟩;have HR5:=am (HR4.out.trans hx);have HS5:=am hy;have HT5:=am hz;clear hx hy hz))
          go_end0
          have HT4:=am (HLS.out (by omega));exact⟨rfl,_,HR5.out,HSEG.out.trans ((HS4.out.wide (Nat.le_refl _) (by omega)).trans (HS5.out.wide (by omega) (Nat.le_refl _))),SortedOn.join (c:=mid) (HT4.out.away HS5.out (.inl (Nat.le_refl _))) HT5.out (cross_seg (cross_seg HX0.out (.inl HS4.out)) (.inr HS5.out))⟩
         ·have rc4:decide ((e:Int)<(b:Int))=false:=decide_eq_false (by omega);have HR1:=am HR3.out
          go_wp2_with (fail)
          go_end0
          have HR4:=am HR1.out;have HS4:=am (Seg.refl (rotL l i m e) a mid);have HT4:=am (HLS.out (by omega));have HR5:=am HR4.out;have HS5:=am (Seg.refl (rotL l i m e) mid b);have HT5:=am (HRS.out _ HS4.out (by omega));exact⟨rfl,_,HR5.out,HSEG.out.trans ((HS4.out.wide (Nat.le_refl _) (by omega)).trans (HS5.out.wide (by omega) (Nat.le_refl _))),SortedOn.join (c:=mid) (HT4.out.away HS5.out (.inl (Nat.le_refl _))) HT5.out (cross_seg (cross_seg HX0.out (.inl HS4.out)) (.inr HS5.out))⟩
        ·have rc2:decide ((mid:Int)<(e:Int))=false:=decide_eq_false (by omega);have HR1:=am HR3.out
         go_wp2_with (fail)
         go_end0
         have HR4:=am HR1.out;have HS4:=am (Seg.refl (rotL l i m e) a mid);have HT4:=am (HLS.out (by omega));have HR5:=am HR4.out;have HS5:=am (Seg.refl (rotL l i m e) mid b);have HT5:=am (HRS.out _ HS4.out (by omega));exact⟨rfl,_,HR5.out,HSEG.out.trans ((HS4.out.wide (Nat.le_refl _) (by omega)).trans (HS5.out.wide (by omega) (Nat.le_refl _))),SortedOn.join (c:=mid) (HT4.out.away HS5.out (.inl (Nat.le_refl _))) HT5.out (cross_seg (cross_seg HX0.out (.inl HS4.out)) (.inr HS5.out))⟩
     ·have ra2:decide ((i:Int)<(m:Int))=false:=decide_eq_false (by omega);have HR3:=am (show RowTo W wr base g l.length cap (rotL l i m e)by rw[rotL_same (by omega) f1 f2];exact HR2.out);by_cases lb1:a<i
      ·have lb2:decide ((a:Int)<(i:Int))=true:=decide_eq_true (by omega);by_cases lb3:i<mid
       ·have lb4:decide ((i:Int)<(mid:Int))=true:=decide_eq_true (by omega);have HLEFT:=am (HLEFT.out lb1 lb3);by_cases rc1:mid<e
        ·have rc2:decide ((mid:Int)<(e:Int))=true:=decide_eq_true (by omega);by_cases rc3:e<b
         ·have rc4:decide ((e:Int)<(b:Int))=true:=decide_eq_true (by omega);have HRIGHT:=am (HRIGHT.out rc1 rc3);have HR1:=am HR3.out
          go_wp2_with (first|(go_at_call 134;(with_reducible refine(HLEFT.out _ HR1.out).mono ?_);rintro e wy ⟨rfl,l4,hx,hy,hz⟩;have HR4:=am (HR1.out.trans hx);have HS4:=am hy;have HT4:=am hz;clear hx hy hz)|(go_at_call 134;(with_reducible refine(HRIGHT.out _ _ HR4.out HS4.out).mono ?_);rintro e wz ⟨rfl,l5,hx,hy,hz⟩;have HR5:=am (HR4.out.trans hx);have HS5:=am hy;have HT5:=am hz;clear hx hy hz))
          go_end0
          exact⟨rfl,_,HR5.out,HSEG.out.trans ((HS4.out.wide (Nat.le_refl _) (by omega)).trans (HS5.out.wide (by omega) (Nat.le_refl _))),SortedOn.join (c:=mid) (HT4.out.away HS5.out (.inl (Nat.le_refl _))) HT5.out (cross_seg (cross_seg HX0.out (.inl HS4.out)) (.inr HS5.out))⟩
         ·have rc4:decide ((e:Int)<(b:Int))=false:=decide_eq_false (by omega);have HR1:=am HR3.out
          go_wp2_with (first|(go_at_call 134;(with_reducible refine(HLEFT.out _ HR1.out).mono ?_);rintro e wy ⟨rfl,l4,hx,hy,hz⟩;have HR4:=am (HR1.out.trans hx);have HS4:=am hy;have HT4:=am hz;clear hx hy hz))
          go_end0
          have HR5:=am HR4.out;have HS5:=am (Seg.refl l4 mid b);have HT5:=am (HRS.out _ HS4.out (by omega));exact⟨rfl,_,HR5.out,HSEG.out.trans ((HS4.out.wide (Nat.le_refl _) (by omega)).trans (HS5.out.wide (by omega) (Nat.le_refl _))),SortedOn.join (c:=mid) (HT4.out.away HS5.out (.inl (Nat.le_refl _))) HT5.out (cross_seg (cross_seg HX0.out (.inl HS4.out)) (.inr HS5.out))⟩
        ·have rc2:decide ((mid:Int)<(e:Int))=false:=decide_eq_false (by omega);have HR1:=am HR3.out
         go_wp2_with (first|(go_at_call 134;(with_reducible refine(HLEFT.out _ HR1.out).mono ?_);rintro e wy ⟨rfl,l4,hx,hy,hz⟩;have HR4:=am (HR1.out.trans hx);have HS4:=am hy;have HT4:=am hz;clear hx hy hz))
         go_end0
         have HR5:=am HR4.out;have HS5:=am (Seg.refl l4 mid b);have HT5:=am (HRS.out _ HS4.out (by omega));exact⟨rfl,_,HR5.out,HSEG.out.trans ((HS4.out.wide (Nat.le_refl _) (by omega)).trans (HS5.out.wide (by omega) (Nat.le_refl _))),SortedOn.join (c:=mid) (HT4.out.away HS5.out (.inl (Nat.le_refl _))) HT5.out (cross_seg (cross_seg HX0.out (.inl HS4.out)) (.inr HS5.out))⟩
       ·have lb4:decide ((i:Int)<(mid:Int))=false:=decide_eq_false (by omega);by_cases rc1:mid<e
        ·have rc2:decide ((mid:Int)<(e:Int))=true:=decide_eq_true (by omega);by_cases rc3:e<b
         ·have rc4:decide ((e:Int)<(b:Int))=true:=decide_eq_true (by omega);have HRIGHT:=am (HRIGHT.out rc1 rc3);have HR1:=am HR3.out;have HR4:=am HR1.out;have HS4:=am (Seg.refl (rotL l i m e) a mid)
          go_wp2_with (first|(go_at_call 134;(with_reducible refine(HRIGHT.out _ _ HR4.out HS4.out).mono ?_);rintro e wz ⟨rfl,l5,hx,hy,hz⟩;have HR5:=am (HR4.out.trans hx);have HS5:=am hy;have HT5:=am hz;clear hx hy hz))
          go_end0
          have HT4:=am (HLS.out (by omega));exact⟨rfl,_,HR5.out,HSEG.out.trans ((HS4.out.wide (Nat.le_refl _) (by omega)).trans (HS5.out.wide (by omega) (Nat.le_refl _))),SortedOn.join (c:=mid) (HT4.out.away HS5.out (.inl (Nat.le_refl _))) HT5.out (cross_seg (cross_seg HX0.out (.inl HS4.out)) (.inr HS5.out))⟩
         ·have rc4:decide ((e:Int)<(b:Int))=false:=decide_eq_false (by omega);have HR1:=am HR3.out
          go_wp2_with (fail)
          go_end0
          have HR4:=am HR1.out;have HS4:=am (Seg.refl (rotL l i m e) a mid);have HT4:=am (HLS.out (by omega));have HR5:=am HR4.out;have HS5:=am (Seg.refl (rotL l i m e) mid b);have HT5:=am (HRS.out _ HS4.out (by omega));exact⟨rfl,_,HR5.out,HSEG.out.trans ((HS4.out.wide (Nat.le_refl _) (by omega)).trans (HS5.out.wide (by omega) (Nat.le_refl _))),SortedOn.join (c:=mid) (HT4.out.away HS5.out (.inl (Nat.le_refl _))) HT5.out (cross_seg (cross_seg HX0.out (.inl HS4.out)) (.inr HS5.out))⟩
        ·have rc2:decide ((mid:Int)<(e:Int))=false:=decide_eq_false (by omega);have HR1:=am HR3.out
         go_wp2_with (fail)
         go_end0
         have HR4:=am HR1.out;have HS4:=am (Seg.refl (rotL l i m e) a mid);have HT4:=am (HLS.out (by omega));have HR5:=am HR4.out;have HS5:=am (Seg.refl (rotL l i m e) mid b);have HT5:=am (HRS.out _ HS4.out (by omega));exact⟨rfl,_,HR5.out,HSEG.out.trans ((HS4.out.wide (Nat.le_refl _) (by omega)).trans (HS5.out.wide (by omega) (Nat.le_refl _))),SortedOn.join (c:=mid) (HT4.out.away HS5.out (.inl (Nat.le_refl _))) HT5.out (cross_seg (cross_seg HX0.out (.inl HS4.out)) (.inr HS5.out))⟩
      ·have lb2:decide ((a:Int)<(i:Int))=false:=decide_eq_false (by omega);by_cases rc1:mid<e
       ·have rc2:decide ((mid:Int)<(e:Int))=true:=decide_eq_true (by omega);by_cases rc3:e<b
        ·have rc4:decide ((e:Int)<(b:Int))=true:=decide_eq_true (by omega);have HRIGHT:=am (HRIGHT.out rc1 rc3);have HR1:=am HR3.out;have HR4:=am HR1.out;have HS4:=am (Seg.refl (rotL l i m e) a mid)
         go_wp2_with (first|(go_at_call 134;(with_reducible refine(HRIGHT.out _ _ HR4.out HS4.out).mono ?_);rintro e wz ⟨rfl,l5,hx,hy,hz⟩;have HR5:=am (HR4.out.trans hx);have HS5:=am hy;have HT5:=am hz;clear hx hy hz))
         go_end0
         have HT4:=am (HLS.out (by omega));exact⟨rfl,_,HR5.out,HSEG.out.trans ((HS4.out.wide (Nat.le_refl _) (by omega)).trans (HS5.out.wide (by omega) (Nat.le_refl _))),SortedOn.join (c:=mid) (HT4.out.away HS5.out (.inl (Nat.le_refl _))) HT5.out (cross_seg (cross_seg HX0.out (.inl HS4.out)) (.inr HS5.out))⟩
        ·have rc4:decide ((e:Int)<(b:Int))=false:=decide_eq_false (by omega);have HR1:=am HR3.out
         go_wp2_with (fail)
         go_end0
         have HR4:=am HR1.out;have HS4:=am (Seg.refl (rotL l i m e) a mid);have HT4:=am (HLS.out (by omega));have HR5:=am HR4.out;have HS5:=am (Seg.refl (rotL l i m e) mid b);have HT5:=am (HRS.out _ HS4.out (by omega));exact⟨rfl,_,HR5.out,HSEG.out.trans ((HS4.out.wide (Nat.le_refl _) (by omega)).trans (HS5.out.wide (by omega) (Nat.le_refl _))),SortedOn.join (c:=mid) (HT4.out.away HS5.out (.inl (Nat.le_refl _))) HT5.out (cross_seg (cross_seg HX0.out (.inl HS4.out)) (.inr HS5.out))⟩
       ·have rc2:decide ((mid:Int)<(e:Int))=false:=decide_eq_false (by omega);have HR1:=am HR3.out
        go_wp2_with (fail)
        go_end0
        have HR4:=am HR1.out;have HS4:=am (Seg.refl (rotL l i m e) a mid);have HT4:=am (HLS.out (by omega));have HR5:=am HR4.out;have HS5:=am (Seg.refl (rotL l i m e) mid b);have HT5:=am (HRS.out _ HS4.out (by omega));exact⟨rfl,_,HR5.out,HSEG.out.trans ((HS4.out.wide (Nat.le_refl _) (by omega)).trans (HS5.out.wide (by omega) (Nat.le_refl _))),SortedOn.join (c:=mid) (HT4.out.away HS5.out (.inl (Nat.le_refl _))) HT5.out (cross_seg (cross_seg HX0.out (.inl HS4.out)) (.inr HS5.out))⟩
  ·have dm:decide ((mid:Int)<(m:Int))=false:=decide_eq_false (by omega);have HG:=am (⟨by omega,by omega,by omega,by omega,by omega,.inl rfl,.inl rfl⟩:Rng a m b mid a m);go_enter Tryz.func134,Tryz.ntmps134
   go_wp2_with (fail)
   go_loopw [20,21] (fun iv jv w'=>∃i j:Nat,a≤i∧i≤j∧j≤m∧iv= .int .i64 i∧jv= .int .i64 j∧∃l',Aside0 (RowTo W w' base g l.length cap l')∧Aside0 (l'=l)∧Aside0 (Srch cmp l (mid+m) a m i j)) (fun iv jv _=>(intOf jv).toNat-(intOf iv).toNat)
   case atStart=>exact⟨a,m,Nat.le_refl _,HG.out.le,Nat.le_refl _,rfl,rfl,l,H,⟨rfl⟩,⟨⟨fun k h1 h2=>by omega,fun k h1 h2=>by omega⟩⟩⟩
   case round=>
    clear H ws ws2 ws3 ws4 ws5 d0 d00 hmd;obtain⟨i,j,hi1,hi2,hi3,rfl,rfl,l2,HR,HE,HSR⟩:=hrel;have g1:=HG.out.le;have g2:=HG.out.a0;have g3:=HG.out.rm;have g4:=HG.out.rmid;have g5:=HG.out.sb;by_cases hij:i<j
    ·have d1:decide ((i:Int)<(j:Int))=true:=decide_eq_true (by omega);have w3:IntKind.i64.wrap ((i:Int)+(j:Int))=((i+j:Nat):Int):=(i64_w _).trans (by unfold Go.RowKit.wrap64;omega);obtain⟨hf,hh,hh1,hh2⟩:∃hf:Nat,((i:Int)+(j:Int)) / 2=(hf:Int)∧i≤hf∧hf<j:=⟨(i+j) / 2,by omega,by omega,by omega⟩;obtain⟨hq,hq1⟩:∃hq:Nat,hq+hf=p:=⟨p-hf,by omega⟩;have HS:Aside0 (Seg l l2 a b):=⟨by rw[HE.out];exact Seg.refl _ _ _⟩;have wi:IntKind.i64.wrap ((hf:Int)+1)=((hf+1:Nat):Int):=(i64_w _).trans (by unfold Go.RowKit.wrap64;omega)
     have wq:IntKind.i64.wrap ((p:Int)-(hf:Int))=((hq:Nat):Int):=(i64_w _).trans (by unfold Go.RowKit.wrap64;omega);have m1:(hf:Int)<(l.length:Nat):=by omega
     have m2:(hq:Int)<(l.length:Nat):=by omega
     have hl:=HS.out.len;obtain⟨p0,p1,p2,p3,p4,p5⟩:=HR.out.row.cells (hq) (by omega);obtain⟨q0,q1,q2,q3,q4,q5⟩:=HR.out.row.cells (hf) (by omega);have fr:=HR.out.row.free;have HX:=am (getD_at l2 (hq) (by omega) SE.zero);have HY:=am (getD_at l2 (hf) (by omega) SE.zero);have hm1:l2[hq]∈l:=HS.out.perm.subset (List.getElem_mem _);have hm2:l2[hf]∈l:=HS.out.perm.subset (List.getElem_mem _);have hcall:=HC.out.call wr.drew (HR.out.drew.keep) _ _ hm1 hm2;clear hm1 hm2;generalize l2[hq]=x at p0 p1 p2 p3 p4 p5 HX hcall;generalize l2[hf]=y at q0 q1 q2 q3 q4 q5 HY hcall
     obtain⟨c,hcc⟩:∃c,cmp x y=c:=⟨_,rfl⟩;rw[hcc]at hcall;have HCC:=am hcc;clear hcc;obtain⟨xt,⟨xA,xn,xc⟩,xl,xd,xp,xa⟩:=x;obtain⟨yt,⟨yA,yn,yc⟩,yl,yd,yp,ya⟩:=y;simp only[SE.v]at p0 p1 p2 p3 p4 p5 q0 q1 q2 q3 q4 q5 hcall;have HCALL:=am hcall;have HL:=am hl;clear hcall hl;have HLT:=am (show∀wx,Below wr.drew.heap.size wr.drew wx→∀j,wx.cell? ⟨g,j,none⟩=wr.cell? ⟨g,j,none⟩from fun wx hb j=>hb.cell (p:=⟨g,j,none⟩) (Kd.R_lt HR.out.drew.row g (by simp[Value.ownBlock])))
     have hcx:cmp (l.getD (mid+m-1-hf) SE.zero) (l.getD hf SE.zero)=c:=by rw[show mid+m-1-hf=hq by omega,←HCC.out,←HX.out,←HY.out,HE.out]
     have HCX:=am hcx;have HQ:=am hq1;have HP:=am hp;clear hcx hq1 hp;by_cases hlt:c<0
     ·have d3:decide (c<0)=true:=decide_eq_true hlt;go_upto_region 35 with (fail)
      go_region_held3 (fun w'=>w'.cell? ⟨g,hq*6,none⟩=some (.int .i64 xt)∧w'.cell? ⟨g,hq*6+1,none⟩=some (.slice xA xn xc)∧w'.cell? ⟨g,hq*6+2,none⟩=some (.int .i64 xl)∧w'.cell? ⟨g,hq*6+3,none⟩=some (.int .i64 xd)∧w'.cell? ⟨g,hq*6+4,none⟩=some (.int .i64 xp)∧w'.cell? ⟨g,hq*6+5,none⟩=some (.int .i64 xa)∧w'.cell? ⟨g,hf*6,none⟩=some (.int .i64 yt)∧w'.cell? ⟨g,hf*6+1,none⟩=some (.slice yA yn yc)∧w'.cell? ⟨g,hf*6+2,none⟩=some (.int .i64 yl)∧w'.cell? ⟨g,hf*6+3,none⟩=some (.int .i64 yd)∧w'.cell? ⟨g,hf*6+4,none⟩=some (.int .i64 yp)∧w'.cell? ⟨g,hf*6+5,none⟩=some (.int .i64 ya)) (go_keep) (first|(go_at_call 103;(with_reducible refine HCALL.out.mono ?_);rintro e wx ⟨rfl,hb⟩;have HB:=am hb;have hcl:=HLT.out wx hb;clear hb))
      clear p0 p1 p2 p3 p4 p5 q0 q1 q2 q3 q4 q5 fr hcl
      go_wp2_with (fail)
      go_roundw
      case rel=>exact⟨i,hf,hi1,by omega,by omega,rfl,rfl,l2,⟨HR.out.drew.more HB.out⟩,HE,⟨HSR.out.less HW.out HG.out HS1.out HS2.out (by omega) hh1 hh2 hi3 (by rw[HCX.out];exact hlt)⟩⟩
      case measure=>simp[intOf];omega
     ·have d3:decide (c<0)=false:=decide_eq_false hlt;go_upto_region 35 with (fail)
      go_region_held3 (fun w'=>w'.cell? ⟨g,hq*6,none⟩=some (.int .i64 xt)∧w'.cell? ⟨g,hq*6+1,none⟩=some (.slice xA xn xc)∧w'.cell? ⟨g,hq*6+2,none⟩=some (.int .i64 xl)∧w'.cell? ⟨g,hq*6+3,none⟩=some (.int .i64 xd)∧w'.cell? ⟨g,hq*6+4,none⟩=some (.int .i64 xp)∧w'.cell? ⟨g,hq*6+5,none⟩=some (.int .i64 xa)∧w'.cell? ⟨g,hf*6,none⟩=some (.int .i64 yt)∧w'.cell? ⟨g,hf*6+1,none⟩=some (.slice yA yn yc)∧w'.cell? ⟨g,hf*6+2,none⟩=some (.int .i64 yl)∧w'.cell? ⟨g,hf*6+3,none⟩=some (.int .i64 yd)∧w'.cell? ⟨g,hf*6+4,none⟩=some (.int .i64 yp)∧w'.cell? ⟨g,hf*6+5,none⟩=some (.int .i64 ya)) (go_keep) (first|(go_at_call 103;(with_reducible refine HCALL.out.mono ?_);rintro e wx ⟨rfl,hb⟩;have HB:=am hb;have hcl:=HLT.out wx hb;clear hb))
      clear p0 p1 p2 p3 p4 p5 q0 q1 q2 q3 q4 q5 fr hcl
      go_wp2_with (fail)
      go_roundw
      case rel=>exact⟨hf+1,j,by omega,by omega,hi3,rfl,rfl,l2,⟨HR.out.drew.more HB.out⟩,HE,⟨HSR.out.more HW.out HG.out HS1.out HS2.out hi1 hh1 hh2 hi3 (by rw[HCX.out];omega)⟩⟩
      case measure=>simp[intOf];omega
    ·obtain rfl:i=j:=by omega
     have d1:decide ((i:Int)<(i:Int))=false:=decide_eq_false (by omega);obtain⟨e,he⟩:∃e:Nat,e+i=mid+m:=⟨mid+m-i,by omega⟩;have we:IntKind.i64.wrap ((mid:Int)+(m:Int)-(i:Int))=(e:Int):=(i64_w _).trans (by unfold Go.RowKit.wrap64;omega);have hsp:=HSR.out.split HW.out HG.out HS1.out HS2.out hi1 hi3;rw[show mid+m-i=e by omega]at hsp;have f1:=hsp.im;have f2:=hsp.mj;have f3:=hsp.jb;have f4:i+(e-m)=mid:=by omega
     have f5:i≤mid:=by omega
     have f6:mid≤e:=by omega
     have f7:a≤mid:=by omega
     have f8:mid≤b:=by omega
     have q1:=hsp.p1 hb;have q2:=hsp.p2 hb;have q3:=hsp.p3 hb;have q4:=hsp.p4 hb;have qx:=hsp.cross hb;rw[f4]at q2 q3 qx;have hr2:=HR.out;rw[HE.out]at hr2;have HR2:=am hr2;have hsg:=rotL_seg l a i m e b (by omega) f1 f2 f3 hb;have hll:(rotL l i m e).length=l.length:=rotL_length _ _ _ _;have HSEG:=am hsg;have HX0:=am (show∀p q,a≤p→p<mid→mid≤q→q<b→leA cmp (rotL l i m e) p q from fun p q g1 g2 g3 g4=>qx p q g1 g2 g3 g4)
     have HLEFT:=am (show a<i→i<mid→∀(wx:World),RowTo W wx base g l.length cap (rotL l i m e)→_ from fun y1 y2 wx hr=>IH.out hr.row (HC.out.to hr hsg.perm) a i mid (by omega) y1 y2 (by rw[hll];omega) (by rw[hll];exact hs) q1 q2);have HRIGHT:=am (show mid<e→e<b→∀(wy:World) (l4:List SE),RowTo W wy base g l.length cap l4→Seg (rotL l i m e) l4 a mid→_ from fun y1 y2 wy l4 hr hs4=>IH.out hr.row (HC.out.to hr (hs4.perm.trans hsg.perm)) mid e b (by omega) y1 y2 (by rw[hs4.len,hll];exact hb) (by rw[hs4.len,hll];exact hs) (q3.away hs4 (.inr (Nat.le_refl _))) (q4.away hs4 (.inr f6)))
     have HLS:=am (show¬(a<i∧i<mid)→SortedOn cmp (rotL l i m e) a mid from fun y=>by
      by_cases c1:a<i
      ·exact(show i=mid by omega)▸q1
      ·exact(show i=a by omega)▸q2)
     have HRS:=am (show∀l4,Seg (rotL l i m e) l4 a mid→¬(mid<e∧e<b)→SortedOn cmp l4 mid b from fun l4 hs4 y=>by
      by_cases c1:mid<e
      ·exact(show e=b by omega)▸(q3.away hs4 (.inr (Nat.le_refl _)))
      ·have:=q4.away hs4 (.inr f6)
       rwa [show e=mid by omega]at this)
     have HN:=am hn;clear hsp q1 q2 q3 q4 qx hr2 hsg hll HR HE HSR HG HS1 HS2 IH HC HW hn he hp g1 g2 g3 g4 g5;by_cases ra1:i<m
     ·have ra2:decide ((i:Int)<(m:Int))=true:=decide_eq_true (by omega);by_cases ra3:m<e
      ·have ra4:decide ((m:Int)<(e:Int))=true:=decide_eq_true (by omega);have HROT:=am (rotate_calls (.func (.func 103) #[] #[]) HR2.out.row i m e ra1 ra3 (by omega) hs);by_cases lb1:a<i
       ·have lb2:decide ((a:Int)<(i:Int))=true:=decide_eq_true (by omega);by_cases lb3:i<mid
        ·have lb4:decide ((i:Int)<(mid:Int))=true:=decide_eq_true (by omega);have HLEFT:=am (HLEFT.out lb1 lb3);by_cases rc1:mid<e
         ·have rc2:decide ((mid:Int)<(e:Int))=true:=decide_eq_true (by omega);by_cases rc3:e<b
          ·have rc4:decide ((e:Int)<(b:Int))=true:=decide_eq_true (by omega);have HRIGHT:=am (HRIGHT.out rc1 rc3)
           go_wp2_with (first|(go_at_call 150;(with_reducible refine HROT.out.mono ?_);rintro e wx ⟨rfl,hx⟩;have HR1:=am (HR2.out.trans hx);clear hx)|(go_at_call 134;(with_reducible refine(HLEFT.out _ HR1.out).mono ?_);rintro e wy ⟨rfl,l4,hx,hy,hz⟩;have HR4:=am (HR1.out.trans hx);have HS4:=am hy;have HT4:=am hz;clear hx hy hz)|(go_at_call 134;(with_reducible refine(HRIGHT.out _ _ HR4.out HS4.out).mono ?_);rintro e wz ⟨rfl,l5,hx,hy,hz⟩;have HR5:=am (HR4.out.trans hx);have HS5:=am hy;have HT5:=am hz;clear hx hy hz))
           go_end0
           exact⟨rfl,_,HR5.out,HSEG.out.trans ((HS4.out.wide (Nat.le_refl _) (by omega)).trans (HS5.out.wide (by omega) (Nat.le_refl _))),SortedOn.join (c:=mid) (HT4.out.away HS5.out (.inl (Nat.le_refl _))) HT5.out (cross_seg (cross_seg HX0.out (.inl HS4.out)) (.inr HS5.out))⟩
          ·have rc4:decide ((e:Int)<(b:Int))=false:=decide_eq_false (by omega)
           go_wp2_with (first|(go_at_call 150;(with_reducible refine HROT.out.mono ?_);rintro e wx ⟨rfl,hx⟩;have HR1:=am (HR2.out.trans hx);clear hx)|(go_at_call 134;(with_reducible refine(HLEFT.out _ HR1.out).mono ?_);rintro e wy ⟨rfl,l4,hx,hy,hz⟩;have HR4:=am (HR1.out.trans hx);have HS4:=am hy;have HT4:=am hz;clear hx hy hz))
           go_end0
           have HR5:=am HR4.out;have HS5:=am (Seg.refl l4 mid b);have HT5:=am (HRS.out _ HS4.out (by omega));exact⟨rfl,_,HR5.out,HSEG.out.trans ((HS4.out.wide (Nat.le_refl _) (by omega)).trans (HS5.out.wide (by omega) (Nat.le_refl _))),SortedOn.join (c:=mid) (HT4.out.away HS5.out (.inl (Nat.le_refl _))) HT5.out (cross_seg (cross_seg HX0.out (.inl HS4.out)) (.inr HS5.out))⟩
         ·have rc2:decide ((mid:Int)<(e:Int))=false:=decide_eq_false (by omega)
          go_wp2_with (first|(go_at_call 150;(with_reducible refine HROT.out.mono ?_);rintro e wx ⟨rfl,hx⟩;have HR1:=am (HR2.out.trans hx);clear hx)|(go_at_call 134;(with_reducible refine(HLEFT.out _ HR1.out).mono ?_);rintro e wy ⟨rfl,l4,hx,hy,hz⟩;have HR4:=am (HR1.out.trans hx);have HS4:=am hy;have HT4:=am hz;clear hx hy hz))
          go_end0
          have HR5:=am HR4.out;have HS5:=am (Seg.refl l4 mid b);have HT5:=am (HRS.out _ HS4.out (by omega));exact⟨rfl,_,HR5.out,HSEG.out.trans ((HS4.out.wide (Nat.le_refl _) (by omega)).trans (HS5.out.wide (by omega) (Nat.le_refl _))),SortedOn.join (c:=mid) (HT4.out.away HS5.out (.inl (Nat.le_refl _))) HT5.out (cross_seg (cross_seg HX0.out (.inl HS4.out)) (.inr HS5.out))⟩
        ·have lb4:decide ((i:Int)<(mid:Int))=false:=decide_eq_false (by omega);by_cases rc1:mid<e
         ·have rc2:decide ((mid:Int)<(e:Int))=true:=decide_eq_true (by omega);by_cases rc3:e<b
          ·have rc4:decide ((e:Int)<(b:Int))=true:=decide_eq_true (by omega);have HRIGHT:=am (HRIGHT.out rc1 rc3)
           go_wp2_with (first|(go_at_call 150;(with_reducible refine HROT.out.mono ?_);rintro e wx ⟨rfl,hx⟩;have HR1:=am (HR2.out.trans hx);clear hx;have HR4:=am HR1.out;have HS4:=am (Seg.refl (rotL l i m e) a mid))|(go_at_call 134;(with_reducible refine(HRIGHT.out _ _ HR4.out HS4.out).mono ?_);rintro e wz ⟨rfl,l5,hx,hy,hz⟩;have HR5:=am (HR4.out.trans hx);have HS5:=am hy;have HT5:=am hz;clear hx hy hz))
           go_end0
           have HT4:=am (HLS.out (by omega));exact⟨rfl,_,HR5.out,HSEG.out.trans ((HS4.out.wide (Nat.le_refl _) (by omega)).trans (HS5.out.wide (by omega) (Nat.le_refl _))),SortedOn.join (c:=mid) (HT4.out.away HS5.out (.inl (Nat.le_refl _))) HT5.out (cross_seg (cross_seg HX0.out (.inl HS4.out)) (.inr HS5.out))⟩
          ·have rc4:decide ((e:Int)<(b:Int))=false:=decide_eq_false (by omega)
           go_wp2_with (first|(go_at_call 150;(with_reducible refine HROT.out.mono ?_);rintro e wx ⟨rfl,hx⟩;have HR1:=am (HR2.out.trans hx);clear hx))
           go_end0
           have HR4:=am HR1.out;have HS4:=am (Seg.refl (rotL l i m e) a mid);have HT4:=am (HLS.out (by omega));have HR5:=am HR4.out;have HS5:=am (Seg.refl (rotL l i m e) mid b);have HT5:=am (HRS.out _ HS4.out (by omega));exact⟨rfl,_,HR5.out,HSEG.out.trans ((HS4.out.wide (Nat.le_refl _) (by omega)).trans (HS5.out.wide (by omega) (Nat.le_refl _))),SortedOn.join (c:=mid) (HT4.out.away HS5.out (.inl (Nat.le_refl _))) HT5.out (cross_seg (cross_seg HX0.out (.inl HS4.out)) (.inr HS5.out))⟩
         ·have rc2:decide ((mid:Int)<(e:Int))=false:=decide_eq_false (by omega)
          go_wp2_with (first|(go_at_call 150;(with_reducible refine HROT.out.mono ?_);rintro e wx ⟨rfl,hx⟩;have HR1:=am (HR2.out.trans hx);clear hx))
          go_end0
          have HR4:=am HR1.out;have HS4:=am (Seg.refl (rotL l i m e) a mid);have HT4:=am (HLS.out (by omega));have HR5:=am HR4.out;have HS5:=am (Seg.refl (rotL l i m e) mid b);have HT5:=am (HRS.out _ HS4.out (by omega));exact⟨rfl,_,HR5.out,HSEG.out.trans ((HS4.out.wide (Nat.le_refl _) (by omega)).trans (HS5.out.wide (by omega) (Nat.le_refl _))),SortedOn.join (c:=mid) (HT4.out.away HS5.out (.inl (Nat.le_refl _))) HT5.out (cross_seg (cross_seg HX0.out (.inl HS4.out)) (.inr HS5.out))⟩
       ·have lb2:decide ((a:Int)<(i:Int))=false:=decide_eq_false (by omega);by_cases rc1:mid<e
        ·have rc2:decide ((mid:Int)<(e:Int))=true:=decide_eq_true (by omega);by_cases rc3:e<b
         ·have rc4:decide ((e:Int)<(b:Int))=true:=decide_eq_true (by omega);have HRIGHT:=am (HRIGHT.out rc1 rc3)
          go_wp2_with (first|(go_at_call 150;(with_reducible refine HROT.out.mono ?_);rintro e wx ⟨rfl,hx⟩;have HR1:=am (HR2.out.trans hx);clear hx;have HR4:=am HR1.out;have HS4:=am (Seg.refl (rotL l i m e) a mid))|(go_at_call 134;(with_reducible refine(HRIGHT.out _ _ HR4.out HS4.out).mono ?_);rintro e wz ⟨rfl,l5,hx,hy,hz⟩;have HR5:=am (HR4.out.trans hx);have HS5:=am hy;have HT5:=am hz;clear hx hy hz))
          go_end0
          have HT4:=am (HLS.out (by omega));exact⟨rfl,_,HR5.out,HSEG.out.trans ((HS4.out.wide (Nat.le_refl _) (by omega)).trans (HS5.out.wide (by omega) (Nat.le_refl _))),SortedOn.join (c:=mid) (HT4.out.away HS5.out (.inl (Nat.le_refl _))) HT5.out (cross_seg (cross_seg HX0.out (.inl HS4.out)) (.inr HS5.out))⟩
         ·have rc4:decide ((e:Int)<(b:Int))=false:=decide_eq_false (by omega)
          go_wp2_with (first|(go_at_call 150;(with_reducible refine HROT.out.mono ?_);rintro e wx ⟨rfl,hx⟩;have HR1:=am (HR2.out.trans hx);clear hx))
          go_end0
          have HR4:=am HR1.out;have HS4:=am (Seg.refl (rotL l i m e) a mid);have HT4:=am (HLS.out (by omega));have HR5:=am HR4.out;have HS5:=am (Seg.refl (rotL l i m e) mid b);have HT5:=am (HRS.out _ HS4.out (by omega));exact⟨rfl,_,HR5.out,HSEG.out.trans ((HS4.out.wide (Nat.le_refl _) (by omega)).trans (HS5.out.wide (by omega) (Nat.le_refl _))),SortedOn.join (c:=mid) (HT4.out.away HS5.out (.inl (Nat.le_refl _))) HT5.out (cross_seg (cross_seg HX0.out (.inl HS4.out)) (.inr HS5.out))⟩
        ·have rc2:decide ((mid:Int)<(e:Int))=false:=decide_eq_false (by omega)
         go_wp2_with (first|(go_at_call 150;(with_reducible refine HROT.out.mono ?_);rintro e wx ⟨rfl,hx⟩;have HR1:=am (HR2.out.trans hx);clear hx))
         go_end0
         have HR4:=am HR1.out;have HS4:=am (Seg.refl (rotL l i m e) a mid);have HT4:=am (HLS.out (by omega));have HR5:=am HR4.out;have HS5:=am (Seg.refl (rotL l i m e) mid b);have HT5:=am (HRS.out _ HS4.out (by omega));exact⟨rfl,_,HR5.out,HSEG.out.trans ((HS4.out.wide (Nat.le_refl _) (by omega)).trans (HS5.out.wide (by omega) (Nat.le_refl _))),SortedOn.join (c:=mid) (HT4.out.away HS5.out (.inl (Nat.le_refl _))) HT5.out (cross_seg (cross_seg HX0.out (.inl HS4.out)) (.inr HS5.out))⟩
      ·have ra4:decide ((m:Int)<(e:Int))=false:=decide_eq_false (by omega);have HR3:=am (show RowTo W wr base g l.length cap (rotL l i m e)by rw[rotL_same (by omega) f1 f2];exact HR2.out);by_cases lb1:a<i
       ·have lb2:decide ((a:Int)<(i:Int))=true:=decide_eq_true (by omega);by_cases lb3:i<mid
        ·have lb4:decide ((i:Int)<(mid:Int))=true:=decide_eq_true (by omega);have HLEFT:=am (HLEFT.out lb1 lb3);by_cases rc1:mid<e
         ·have rc2:decide ((mid:Int)<(e:Int))=true:=decide_eq_true (by omega);by_cases rc3:e<b
          ·have rc4:decide ((e:Int)<(b:Int))=true:=decide_eq_true (by omega);have HRIGHT:=am (HRIGHT.out rc1 rc3);have HR1:=am HR3.out
           go_wp2_with (first|(go_at_call 134;(with_reducible refine(HLEFT.out _ HR1.out).mono ?_);rintro e wy ⟨rfl,l4,hx,hy,hz⟩;have HR4:=am (HR1.out.trans hx);have HS4:=am hy;have HT4:=am hz;clear hx hy hz)|(go_at_call 134;(with_reducible refine(HRIGHT.out _ _ HR4.out HS4.out).mono ?_);rintro e wz ⟨rfl,l5,hx,hy,hz⟩;have HR5:=am (HR4.out.trans hx);have HS5:=am hy;have HT5:=am hz;clear hx hy hz))
           go_end0
           exact⟨rfl,_,HR5.out,HSEG.out.trans ((HS4.out.wide (Nat.le_refl _) (by omega)).trans (HS5.out.wide (by omega) (Nat.le_refl _))),SortedOn.join (c:=mid) (HT4.out.away HS5.out (.inl (Nat.le_refl _))) HT5.out (cross_seg (cross_seg HX0.out (.inl HS4.out)) (.inr HS5.out))⟩
          ·have rc4:decide ((e:Int)<(b:Int))=false:=decide_eq_false (by omega);have HR1:=am HR3.out
           go_wp2_with (first|(go_at_call 134;(with_reducible refine(HLEFT.out _ HR1.out).mono ?_);rintro e wy ⟨rfl,l4,hx,hy,hz⟩;have HR4:=am (HR1.out.trans hx);have HS4:=am hy;have HT4:=am hz;clear hx hy hz))
           go_end0
           have HR5:=am HR4.out;have HS5:=am (Seg.refl l4 mid b);have HT5:=am (HRS.out _ HS4.out (by omega));exact⟨rfl,_,HR5.out,HSEG.out.trans ((HS4.out.wide (Nat.le_refl _) (by omega)).trans (HS5.out.wide (by omega) (Nat.le_refl _))),SortedOn.join (c:=mid) (HT4.out.away HS5.out (.inl (Nat.le_refl _))) HT5.out (cross_seg (cross_seg HX0.out (.inl HS4.out)) (.inr HS5.out))⟩
         ·have rc2:decide ((mid:Int)<(e:Int))=false:=decide_eq_false (by omega);have HR1:=am HR3.out
          go_wp2_with (first|(go_at_call 134;(with_reducible refine(HLEFT.out _ HR1.out).mono ?_);rintro e wy ⟨rfl,l4,hx,hy,hz⟩;have HR4:=am (HR1.out.trans hx);have HS4:=am hy;have HT4:=am hz;clear hx hy hz))
          go_end0
          have HR5:=am HR4.out;have HS5:=am (Seg.refl l4 mid b);have HT5:=am (HRS.out _ HS4.out (by omega));exact⟨rfl,_,HR5.out,HSEG.out.trans ((HS4.out.wide (Nat.le_refl _) (by omega)).trans (HS5.out.wide (by omega) (Nat.le_refl _))),SortedOn.join (c:=mid) (HT4.out.away HS5.out (.inl (Nat.le_refl _))) HT5.out (cross_seg (cross_seg HX0.out (.inl HS4.out)) (.inr HS5.out))⟩
        ·have lb4:decide ((i:Int)<(mid:Int))=false:=decide_eq_false (by omega);by_cases rc1:mid<e
         ·have rc2:decide ((mid:Int)<(e:Int))=true:=decide_eq_true (by omega);by_cases rc3:e<b
          ·have rc4:decide ((e:Int)<(b:Int))=true:=decide_eq_true (by omega);have HRIGHT:=am (HRIGHT.out rc1 rc3);have HR1:=am HR3.out;have HR4:=am HR1.out;have HS4:=am (Seg.refl (rotL l i m e) a mid)
           go_wp2_with (first|(go_at_call 134;(with_reducible refine(HRIGHT.out _ _ HR4.out HS4.out).mono ?_);rintro e wz ⟨rfl,l5,hx,hy,hz⟩;have HR5:=am (HR4.out.trans hx);have HS5:=am hy;have HT5:=am hz;clear hx hy hz))
           go_end0
           have HT4:=am (HLS.out (by omega));exact⟨rfl,_,HR5.out,HSEG.out.trans ((HS4.out.wide (Nat.le_refl _) (by omega)).trans (HS5.out.wide (by omega) (Nat.le_refl _))),SortedOn.join (c:=mid) (HT4.out.away HS5.out (.inl (Nat.le_refl _))) HT5.out (cross_seg (cross_seg HX0.out (.inl HS4.out)) (.inr HS5.out))⟩
          ·have rc4:decide ((e:Int)<(b:Int))=false:=decide_eq_false (by omega);have HR1:=am HR3.out
           go_wp2_with (fail)
           go_end0
           have HR4:=am HR1.out;have HS4:=am (Seg.refl (rotL l i m e) a mid);have HT4:=am (HLS.out (by omega));have HR5:=am HR4.out;have HS5:=am (Seg.refl (rotL l i m e) mid b);have HT5:=am (HRS.out _ HS4.out (by omega));exact⟨rfl,_,HR5.out,HSEG.out.trans ((HS4.out.wide (Nat.le_refl _) (by omega)).trans (HS5.out.wide (by omega) (Nat.le_refl _))),SortedOn.join (c:=mid) (HT4.out.away HS5.out (.inl (Nat.le_refl _))) HT5.out (cross_seg (cross_seg HX0.out (.inl HS4.out)) (.inr HS5.out))⟩
         ·have rc2:decide ((mid:Int)<(e:Int))=false:=decide_eq_false (by omega);have HR1:=am HR3.out
          go_wp2_with (fail)
          go_end0
          have HR4:=am HR1.out;have HS4:=am (Seg.refl (rotL l i m e) a mid);have HT4:=am (HLS.out (by omega));have HR5:=am HR4.out;have HS5:=am (Seg.refl (rotL l i m e) mid b);have HT5:=am (HRS.out _ HS4.out (by omega));exact⟨rfl,_,HR5.out,HSEG.out.trans ((HS4.out.wide (Nat.le_refl _) (by omega)).trans (HS5.out.wide (by omega) (Nat.le_refl _))),SortedOn.join (c:=mid) (HT4.out.away HS5.out (.inl (Nat.le_refl _))) HT5.out (cross_seg (cross_seg HX0.out (.inl HS4.out)) (.inr HS5.out))⟩
       ·have lb2:decide ((a:Int)<(i:Int))=false:=decide_eq_false (by omega);by_cases rc1:mid<e
        ·have rc2:decide ((mid:Int)<(e:Int))=true:=decide_eq_true (by omega);by_cases rc3:e<b
         ·have rc4:decide ((e:Int)<(b:Int))=true:=decide_eq_true (by omega);have HRIGHT:=am (HRIGHT.out rc1 rc3);have HR1:=am HR3.out;have HR4:=am HR1.out;have HS4:=am (Seg.refl (rotL l i m e) a mid)
          go_wp2_with (first|(go_at_call 134;(with_reducible refine(HRIGHT.out _ _ HR4.out HS4.out).mono ?_);rintro e wz ⟨rfl,l5,hx,hy,hz⟩;have HR5:=am (HR4.out.trans hx);have HS5:=am hy;have HT5:=am hz;clear hx hy hz))
          go_end0
          have HT4:=am (HLS.out (by omega));exact⟨rfl,_,HR5.out,HSEG.out.trans ((HS4.out.wide (Nat.le_refl _) (by omega)).trans (HS5.out.wide (by omega) (Nat.le_refl _))),SortedOn.join (c:=mid) (HT4.out.away HS5.out (.inl (Nat.le_refl _))) HT5.out (cross_seg (cross_seg HX0.out (.inl HS4.out)) (.inr HS5.out))⟩
         ·have rc4:decide ((e:Int)<(b:Int))=false:=decide_eq_false (by omega);have HR1:=am HR3.out
          go_wp2_with (fail)
          go_end0
          have HR4:=am HR1.out;have HS4:=am (Seg.refl (rotL l i m e) a mid);have HT4:=am (HLS.out (by omega));have HR5:=am HR4.out;have HS5:=am (Seg.refl (rotL l i m e) mid b);have HT5:=am (HRS.out _ HS4.out (by omega));exact⟨rfl,_,HR5.out,HSEG.out.trans ((HS4.out.wide (Nat.le_refl _) (by omega)).trans (HS5.out.wide (by omega) (Nat.le_refl _))),SortedOn.join (c:=mid) (HT4.out.away HS5.out (.inl (Nat.le_refl _))) HT5.out (cross_seg (cross_seg HX0.out (.inl HS4.out)) (.inr HS5.out))⟩
        ·have rc2:decide ((mid:Int)<(e:Int))=false:=decide_eq_false (by omega);have HR1:=am HR3.out
         go_wp2_with (fail)
         go_end0
         have HR4:=am HR1.out;have HS4:=am (Seg.refl (rotL l i m e) a mid);have HT4:=am (HLS.out (by omega));have HR5:=am HR4.out;have HS5:=am (Seg.refl (rotL l i m e) mid b);have HT5:=am (HRS.out _ HS4.out (by omega));exact⟨rfl,_,HR5.out,HSEG.out.trans ((HS4.out.wide (Nat.le_refl _) (by omega)).trans (HS5.out.wide (by omega) (Nat.le_refl _))),SortedOn.join (c:=mid) (HT4.out.away HS5.out (.inl (Nat.le_refl _))) HT5.out (cross_seg (cross_seg HX0.out (.inl HS4.out)) (.inr HS5.out))⟩
     ·have ra2:decide ((i:Int)<(m:Int))=false:=decide_eq_false (by omega);have HR3:=am (show RowTo W wr base g l.length cap (rotL l i m e)by rw[rotL_same (by omega) f1 f2];exact HR2.out);by_cases lb1:a<i
      ·have lb2:decide ((a:Int)<(i:Int))=true:=decide_eq_true (by omega);by_cases lb3:i<mid
       ·have lb4:decide ((i:Int)<(mid:Int))=true:=decide_eq_true (by omega);have HLEFT:=am (HLEFT.out lb1 lb3);by_cases rc1:mid<e
        ·have rc2:decide ((mid:Int)<(e:Int))=true:=decide_eq_true (by omega);by_cases rc3:e<b
         ·have rc4:decide ((e:Int)<(b:Int))=true:=decide_eq_true (by omega);have HRIGHT:=am (HRIGHT.out rc1 rc3);have HR1:=am HR3.out
          go_wp2_with (first|(go_at_call 134;(with_reducible refine(HLEFT.out _ HR1.out).mono ?_);rintro e wy ⟨rfl,l4,hx,hy,hz⟩;have HR4:=am (HR1.out.trans hx);have HS4:=am hy;have HT4:=am hz;clear hx hy hz)|(go_at_call 134;(with_reducible refine(HRIGHT.out _ _ HR4.out HS4.out).mono ?_);rintro e wz ⟨rfl,l5,hx,hy,hz⟩;have HR5:=am (HR4.out.trans hx);have HS5:=am hy;have HT5:=am hz;clear hx hy hz))
          go_end0
          exact⟨rfl,_,HR5.out,HSEG.out.trans ((HS4.out.wide (Nat.le_refl _) (by omega)).trans (HS5.out.wide (by omega) (Nat.le_refl _))),SortedOn.join (c:=mid) (HT4.out.away HS5.out (.inl (Nat.le_refl _))) HT5.out (cross_seg (cross_seg HX0.out (.inl HS4.out)) (.inr HS5.out))⟩
         ·have rc4:decide ((e:Int)<(b:Int))=false:=decide_eq_false (by omega);have HR1:=am HR3.out
          go_wp2_with (first|(go_at_call 134;(with_reducible refine(HLEFT.out _ HR1.out).mono ?_);rintro e wy ⟨rfl,l4,hx,hy,hz⟩;have HR4:=am (HR1.out.trans hx);have HS4:=am hy;have HT4:=am hz;clear hx hy hz))
          go_end0
          have HR5:=am HR4.out;have HS5:=am (Seg.refl l4 mid b);have HT5:=am (HRS.out _ HS4.out (by omega));exact⟨rfl,_,HR5.out,HSEG.out.trans ((HS4.out.wide (Nat.le_refl _) (by omega)).trans (HS5.out.wide (by omega) (Nat.le_refl _))),SortedOn.join (c:=mid) (HT4.out.away HS5.out (.inl (Nat.le_refl _))) HT5.out (cross_seg (cross_seg HX0.out (.inl HS4.out)) (.inr HS5.out))⟩
        ·have rc2:decide ((mid:Int)<(e:Int))=false:=decide_eq_false (by omega);have HR1:=am HR3.out
         go_wp2_with (first|(go_at_call 134;(with_reducible refine(HLEFT.out _ HR1.out).mono ?_);rintro e wy ⟨rfl,l4,hx,hy,hz⟩;have HR4:=am (HR1.out.trans hx);have HS4:=am hy;have HT4:=am hz;clear hx hy hz))
         go_end0
         have HR5:=am HR4.out;have HS5:=am (Seg.refl l4 mid b);have HT5:=am (HRS.out _ HS4.out (by omega));exact⟨rfl,_,HR5.out,HSEG.out.trans ((HS4.out.wide (Nat.le_refl _) (by omega)).trans (HS5.out.wide (by omega) (Nat.le_refl _))),SortedOn.join (c:=mid) (HT4.out.away HS5.out (.inl (Nat.le_refl _))) HT5.out (cross_seg (cross_seg HX0.out (.inl HS4.out)) (.inr HS5.out))⟩
       ·have lb4:decide ((i:Int)<(mid:Int))=false:=decide_eq_false (by omega);by_cases rc1:mid<e
        ·have rc2:decide ((mid:Int)<(e:Int))=true:=decide_eq_true (by omega);by_cases rc3:e<b
         ·have rc4:decide ((e:Int)<(b:Int))=true:=decide_eq_true (by omega);have HRIGHT:=am (HRIGHT.out rc1 rc3);have HR1:=am HR3.out;have HR4:=am HR1.out;have HS4:=am (Seg.refl (rotL l i m e) a mid)
          go_wp2_with (first|(go_at_call 134;(with_reducible refine(HRIGHT.out _ _ HR4.out HS4.out).mono ?_);rintro e wz ⟨rfl,l5,hx,hy,hz⟩;have HR5:=am (HR4.out.trans hx);have HS5:=am hy;have HT5:=am hz;clear hx hy hz))
          go_end0
          have HT4:=am (HLS.out (by omega));exact⟨rfl,_,HR5.out,HSEG.out.trans ((HS4.out.wide (Nat.le_refl _) (by omega)).trans (HS5.out.wide (by omega) (Nat.le_refl _))),SortedOn.join (c:=mid) (HT4.out.away HS5.out (.inl (Nat.le_refl _))) HT5.out (cross_seg (cross_seg HX0.out (.inl HS4.out)) (.inr HS5.out))⟩
         ·have rc4:decide ((e:Int)<(b:Int))=false:=decide_eq_false (by omega);have HR1:=am HR3.out
          go_wp2_with (fail)
          go_end0
          have HR4:=am HR1.out;have HS4:=am (Seg.refl (rotL l i m e) a mid);have HT4:=am (HLS.out (by omega));have HR5:=am HR4.out;have HS5:=am (Seg.refl (rotL l i m e) mid b);have HT5:=am (HRS.out _ HS4.out (by omega));exact⟨rfl,_,HR5.out,HSEG.out.trans ((HS4.out.wide (Nat.le_refl _) (by omega)).trans (HS5.out.wide (by omega) (Nat.le_refl _))),SortedOn.join (c:=mid) (HT4.out.away HS5.out (.inl (Nat.le_refl _))) HT5.out (cross_seg (cross_seg HX0.out (.inl HS4.out)) (.inr HS5.out))⟩
        ·have rc2:decide ((mid:Int)<(e:Int))=false:=decide_eq_false (by omega);have HR1:=am HR3.out
         go_wp2_with (fail)
         go_end0
         have HR4:=am HR1.out;have HS4:=am (Seg.refl (rotL l i m e) a mid);have HT4:=am (HLS.out (by omega));have HR5:=am HR4.out;have HS5:=am (Seg.refl (rotL l i m e) mid b);have HT5:=am (HRS.out _ HS4.out (by omega));exact⟨rfl,_,HR5.out,HSEG.out.trans ((HS4.out.wide (Nat.le_refl _) (by omega)).trans (HS5.out.wide (by omega) (Nat.le_refl _))),SortedOn.join (c:=mid) (HT4.out.away HS5.out (.inl (Nat.le_refl _))) HT5.out (cross_seg (cross_seg HX0.out (.inl HS4.out)) (.inr HS5.out))⟩
      ·have lb2:decide ((a:Int)<(i:Int))=false:=decide_eq_false (by omega);by_cases rc1:mid<e
       ·have rc2:decide ((mid:Int)<(e:Int))=true:=decide_eq_true (by omega);by_cases rc3:e<b
        ·have rc4:decide ((e:Int)<(b:Int))=true:=decide_eq_true (by omega);have HRIGHT:=am (HRIGHT.out rc1 rc3);have HR1:=am HR3.out;have HR4:=am HR1.out;have HS4:=am (Seg.refl (rotL l i m e) a mid)
         go_wp2_with (first|(go_at_call 134;(with_reducible refine(HRIGHT.out _ _ HR4.out HS4.out).mono ?_);rintro e wz ⟨rfl,l5,hx,hy,hz⟩;have HR5:=am (HR4.out.trans hx);have HS5:=am hy;have HT5:=am hz;clear hx hy hz))
         go_end0
         have HT4:=am (HLS.out (by omega));exact⟨rfl,_,HR5.out,HSEG.out.trans ((HS4.out.wide (Nat.le_refl _) (by omega)).trans (HS5.out.wide (by omega) (Nat.le_refl _))),SortedOn.join (c:=mid) (HT4.out.away HS5.out (.inl (Nat.le_refl _))) HT5.out (cross_seg (cross_seg HX0.out (.inl HS4.out)) (.inr HS5.out))⟩
        ·have rc4:decide ((e:Int)<(b:Int))=false:=decide_eq_false (by omega);have HR1:=am HR3.out
         go_wp2_with (fail)
         go_end0
         have HR4:=am HR1.out;have HS4:=am (Seg.refl (rotL l i m e) a mid);have HT4:=am (HLS.out (by omega));have HR5:=am HR4.out;have HS5:=am (Seg.refl (rotL l i m e) mid b);have HT5:=am (HRS.out _ HS4.out (by omega));exact⟨rfl,_,HR5.out,HSEG.out.trans ((HS4.out.wide (Nat.le_refl _) (by omega)).trans (HS5.out.wide (by omega) (Nat.le_refl _))),SortedOn.join (c:=mid) (HT4.out.away HS5.out (.inl (Nat.le_refl _))) HT5.out (cross_seg (cross_seg HX0.out (.inl HS4.out)) (.inr HS5.out))⟩
       ·have rc2:decide ((mid:Int)<(e:Int))=false:=decide_eq_false (by omega);have HR1:=am HR3.out
        go_wp2_with (fail)
        go_end0
        have HR4:=am HR1.out;have HS4:=am (Seg.refl (rotL l i m e) a mid);have HT4:=am (HLS.out (by omega));have HR5:=am HR4.out;have HS5:=am (Seg.refl (rotL l i m e) mid b);have HT5:=am (HRS.out _ HS4.out (by omega));exact⟨rfl,_,HR5.out,HSEG.out.trans ((HS4.out.wide (Nat.le_refl _) (by omega)).trans (HS5.out.wide (by omega) (Nat.le_refl _))),SortedOn.join (c:=mid) (HT4.out.away HS5.out (.inl (Nat.le_refl _))) HT5.out (cross_seg (cross_seg HX0.out (.inl HS4.out)) (.inr HS5.out))⟩
end Go.Proofs.YtfnimdhghglanaaGreat.Hand
end
