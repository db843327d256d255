/- TopErrorPrefix, part 18 of 41; no condition. (Printed from the session's own texts: what is not used left out, spaces spared.) -/
import Derived.Test.YtfnimdhghglanaaGreatQeAN
import Derived.Test.YtfnimdhghglanaaGreatQeAQ
import Derived.Deep.DeepMust
import Derived.BigRegion
set_option maxRecDepth 100000
set_option maxHeartbeats 8000000
set_option linter.unusedVariables false
set_option linter.unusedSimpArgs false
section
namespace Go.Proofs.YtfnimdhghglanaaGreat.Hand
open Go.RowKit Go.Shelf Go.Proofs.YtfnimdhghglanaaGreatW.PrintWords Go.Proofs.YtfnimdhghglanaaGreatW.PrintLast Go.Proofs.YtfnimdhghglanaaGreatW.PrintMore
attribute [local go_sem] max2_int min2_int max_two min_two max_three min_three max_four min_four
def runExP (pgs:List (List OpC)) (l:Lp) (e:Ev):Ex:=(exStart l e).wake.act (pgs.getD (exStart l e).wake.self.pg.toNat []) 16
theorem runExP_of {pgs:List (List OpC)} {l:Lp} {e:Ev} {y z:Ex} {j:Nat} {prog:List OpC} (h1:(exStart l e).wake=y) (h2:y.self.pg=(j:Int)) (h3:pgs[j]?=some prog) (h4:y.act prog 16=z):runExP pgs l e=z:=by
 unfold runExP;rw[h1,h2,Int.toNat_natCast,List.getD_eq_getElem?_getD,h3];exact h4
theorem blk_put_some {w:World} {g:Nat} {t:TypeId} {gc:Array Value} (h:w.heap[g]?=some (.cells gc t (0,0))) (j:Nat) (u:Value):∃cells,(w.setCell ⟨g,j,none⟩ u).heap[g]?=some (.cells cells t (0,0)):=⟨_,blk_put h j u rfl⟩
theorem wake_one {x:Ex} (h:x.ev.kd=1):x.wake=x:=by unfold Ex.wake;rw[if_neg (by omega)]
theorem setSelf_self {x:Ex} (h:Here x) (p:Pc):(x.setSelf p).self=p:=by
 have h1:=h.hi;simp[Ex.setSelf,Ex.self,List.getD_eq_getElem?_getD,h1]
theorem wake_two {x:Ex} {k:List Int} {v:Int} (hh:Here x) (h2:x.ev.kd=2) (hk:x.ev.k=k) (hv:x.ev.ar=v):x.wake=if (x.setSelf {x.self with pc:=v}).self.tm=k then(x.setSelf {x.self with pc:=v}).setSelf {(x.setSelf {x.self with pc:=v}).self with tm:=[]}else x.setSelf {x.self with pc:=v}:=by
 subst hk hv;unfold Ex.wake;rw[if_pos h2];rw[setSelf_self hh]
theorem Here.setSelf {x:Ex} (h:Here x) (p:Pc):Here (x.setSelf p):=⟨h.lo,by simpa [Ex.setSelf]using h.hi⟩
theorem execRun_calls {Mt:Nat→Prop} {w:World} (hM:∀k,Mt k→k<w.heap.size) (c:SCf) (x:SLp) (e:SE) {lp:Lp} {ev:Ev} {progs:List (List OpC)} (hx:LpAt Mt w x lp) (he:EvAt Mt w e ev) (hc:PgsAt Mt w c.pgs progs)
  (hkd:ev.kd=1∨ev.kd=2) (h0:0≤ev.pr) (h1:ev.pr.toNat<lp.ps.length) (hal:(exStart lp ev).self.al=true) (h8:lp.ps.length≤8) (hpc:∀p∈lp.ps,0≤p.pc) (hkl:ev.k.length≤900000) (har:ev.kd=2→0≤ev.ar) (htm:∀p∈lp.ps,p.tm.length≤1000000)
  (hok:∀l∈progs,l.length≤1000000∧∀o∈l,OpOk o) (hpg:∀p∈lp.ps,0≤p.pg∧p.pg<progs.length) (hpl:progs.length≤1000000):
  Calls Tryz.prog 84 #[c.v,x.v,e.v] w fun r w'=>RunTo Mt w w' (runExP progs lp ev) r:=by
 obtain⟨ss,hss,hsa⟩:=hx.ps;have hn:x.ps.n=lp.ps.length:=hx.ps.len;obtain⟨⟨lA,ln,lc⟩,⟨pA,pn,pc⟩,la,en,cp⟩:=c;obtain⟨r0,r1,⟨sA,sn,sc⟩,sum⟩:=x;obtain⟨et,⟨eA,eN,ec⟩,el,ek,ep,ea⟩:=e;obtain⟨l0,l1,ps,sm⟩:=lp;obtain⟨t,ky,lq,kd,pr,ar⟩:=ev;obtain⟨i,hi⟩:∃i:Nat,pr=(i:Int):=⟨pr.toNat,by simp only at h0;omega⟩;subst hi;obtain rfl:r0=l0:=hx.r0;obtain rfl:r1=l1:=hx.r1;obtain rfl:sum=sm:=hx.sum;obtain rfl:et=t:=he.t;obtain rfl:el=lq:=he.lp;obtain rfl:ek=kd:=he.kd;obtain rfl:ep=(i:Int):=he.pr;obtain rfl:ea=ar:=he.ar;have hk3:=hkd;simp only at hn hk3 h1;have hin:i<sn:=by omega
 obtain⟨ad,p,e0,⟨hp1,hp2⟩,q0,q⟩:=flat_cells hss.here i hin;simp only at e0;subst e0;have hpa:p.al=true:=by
  have h9:=hsa.get i hp1 (by simp only;omega);rw[hp2]at h9;rw[h9.al];have e9:(exStart ⟨r0,r1,ps,sum⟩ ⟨et,ky,el,ek,(i:Int),ea⟩).self=ps[i]'(by simp only[Int.toNat_natCast]at h1;exact h1):=by
   simp only[Int.toNat_natCast]at h1;simp[Ex.self,exStart,List.getD_eq_getElem?_getD,h1]
  rw[e9]at hal;exact hal
 have q2:=q 2 (.bool p.al) (by decide) rfl;rw[hpa]at q2;have hlt:(ad.add (i*4)).block<w.heap.size:=World.block_lt_of_cell? w ⟨(ad.add (i*4)).block,(ad.add (i*4)).off+2,none⟩ q2;have q3:∀o1 o2 o3 o4,((((w.alloc o1).alloc o2).alloc o3).alloc o4).cell? ⟨(ad.add (i*4)).block,(ad.add (i*4)).off+2,none⟩=some (.bool true):=fun o1 o2 o3 o4=>(Below.cell (p:=⟨(ad.add (i*4)).block,(ad.add (i*4)).off+2,none⟩) (below_alloc (below_alloc (below_alloc (below_alloc (Below.refl w.heap.size w) o1) o2) o3) o4) hlt).trans q2
 have hb4:∀o1 o2 o3 o4,Below w.heap.size w ((((w.alloc o1).alloc o2).alloc o3).alloc o4):=fun o1 o2 o3 o4=>below_alloc (below_alloc (below_alloc (below_alloc (Below.refl w.heap.size w) o1) o2) o3) o4;have HCL:=am (fun o1 o2 o3 o4=>cloneProc_calls (some ad) sc sn ss ((((w.alloc o1).alloc o2).alloc o3).alloc o4) ((hss.below (hb4 o1 o2 o3 o4)).here) hss.len.symm (by simp only at h8;omega));have HM:=am hM;have HX:=am hx;have HE:=am he;have HC:=am hc;have HSS:=am hss;have HSA:=am hsa;have HB4:=am hb4
 clear hM hx he hc hss hsa hb4 q q0 q2 hp1 hp2;have HN:=am hn;clear hn;have d1:decide ((i:Int)<0)=false:=decide_eq_false (by omega);have d2:decide ((sn:Int)≤(i:Int))=false:=decide_eq_false (by omega);have d3:decide (sn≤i)=false:=decide_eq_false (by omega);have m1:(i:Int)<(sn:Nat):=by omega
 have m0:(0:Int)≤(i:Int):=by omega
 have HHK:=am (And.intro hkd (And.intro h0 (And.intro h1 (And.intro hal (And.intro h8 (And.intro hpc (And.intro hkl (And.intro har htm))))))));have HOK:=am (And.intro hok (And.intro hpg hpl));clear hkd h0 h1 hal h8 hpc hkl har htm hok hpg hpl;simp only[SCf.v,SLp.v,SE.v];go_enter Tryz.func84,Tryz.ntmps84;rcases hk3 with rfl|rfl
 focus
  go_upto_region 10 with (first|(go_at_call 107;(with_reducible refine(HCL.out _ _ _ _).mono ?_);rintro e w1 ⟨v,rfl,hR,hb⟩;obtain⟨A2,n2,c2,hn2,rfl⟩:=R_slice3 hR;have HR:=am hR;have HB:=am hb;go_must (obtain⟨⟨f0,f1,f2,f3⟩,fs⟩:=box4 hb);go_must (have x2:w1.cell? ⟨w.heap.size+1,2,none⟩=some (.slice (some ad) sn sc):=by simp[World.cell?,f1]);go_must (have x2f:w1.frozen? ⟨w.heap.size+1,2,none⟩=false:=blk_frozen f1 2);have F0:=am f0;have F1:=am f1;have F2:=am f2;have F3:=am f3;have FS:=am fs;have HN2:=am hn2;clear hR hb hn2 f0 f1 f2 f3 fs))
  obtain⟨w2,hw2⟩:∃w2,w1.setCell ⟨w.heap.size+1,2,none⟩ (.slice A2 n2 c2)=w2:=⟨_,rfl⟩;rw[hw2];have hf2:∀k,k≠w.heap.size+1→w2.heap[k]?=w1.heap[k]?:=fun k hk=>by rw[←hw2];exact Below.heap_setCell w1 ⟨w.heap.size+1,2,none⟩ _ k hk
  have g1:w2.heap[w.heap.size+1]?=some (.cells #[.int .i64 r0,.int .i64 r1,.slice A2 n2 c2,.int .i64 sum] 91 (0,0)):=by rw[←hw2];exact blk_put F1.out 2 _ rfl
  have g2:=(hf2 _ (by omega)).trans F2.out;have g0:=(hf2 _ (by omega)).trans F0.out;have g3:=(hf2 _ (by omega)).trans F3.out;have hs2:w2.heap.size=w1.heap.size:=by rw[←hw2];simp[World.setCell]
  have a0:w2.cell? ⟨w.heap.size+1,0,none⟩=some (.int .i64 r0):=by simp[World.cell?,g1]
  have a1:w2.cell? ⟨w.heap.size+1,1,none⟩=some (.int .i64 r1):=by simp[World.cell?,g1]
  have a2:w2.cell? ⟨w.heap.size+1,2,none⟩=some (.slice A2 n2 c2):=by simp[World.cell?,g1]
  have a3:w2.cell? ⟨w.heap.size+1,3,none⟩=some (.int .i64 sum):=by simp[World.cell?,g1]
  have b0:w2.cell? ⟨w.heap.size+1+1,0,none⟩=some (.int .i64 et):=by simp[World.cell?,g2]
  have b1:w2.cell? ⟨w.heap.size+1+1,1,none⟩=some (.slice eA eN ec):=by simp[World.cell?,g2]
  have b2:w2.cell? ⟨w.heap.size+1+1,2,none⟩=some (.int .i64 el):=by simp[World.cell?,g2]
  have b3:w2.cell? ⟨w.heap.size+1+1,3,none⟩=some (.int .i64 1):=by simp[World.cell?,g2]
  have b4:w2.cell? ⟨w.heap.size+1+1,4,none⟩=some (.int .i64 (i:Int)):=by simp[World.cell?,g2]
  have b5:w2.cell? ⟨w.heap.size+1+1,5,none⟩=some (.int .i64 ea):=by simp[World.cell?,g2]
  have HW2:=am hw2;have G0:=am g0;have G2:=am g2;have G3:=am g3;have HS2:=am hs2;clear hw2 hf2 g0 g1 g2 g3 hs2 x2 x2f;go_upto_region 11 with (fail)
  obtain⟨w3,hw3⟩:∃w3,w2.alloc (.cells #[.int .i64 r0,.int .i64 r1,.slice A2 n2 c2,.int .i64 sum,.int .i64 et,.slice eA eN ec,.int .i64 el,.int .i64 1,.int .i64 (i:Int),.int .i64 ea,.slice none 0 0,.int .i64 0,.slice none 0 0,.bool false] TExec)=w3:=⟨_,rfl⟩;obtain⟨b,hbe⟩:∃b,w2.heap.size=b:=⟨_,rfl⟩;have hb23:Below w2.heap.size w2 w3:=by rw[←hw3];exact below_alloc (Below.refl _ _) _
  have hblk:w3.heap[b]?=some (.cells (exCells ⟨eA,eN,ec⟩ ⟨A2,n2,c2⟩ .nil .nil (exStart ⟨r0,r1,ps,sum⟩ ⟨et,ky,el,1,(i:Int),ea⟩)) TExec (0,0)):=by
   rw[←hw3,←hbe];exact World.alloc_heap_new _ _
  have hb01:Below w.heap.size w w1:=(HB4.out _ _ _ _).trans (HB.out.mono (by simp only[World.size_alloc];omega));have hb12:Below w.heap.size w1 w2:=by rw[←HW2.out];exact(Below.refl w.heap.size w1).setCell (p:=⟨w.heap.size+1,2,none⟩) (Nat.le_succ _) _
  have hsz:w.heap.size+4≤w2.heap.size:=by rw[HS2.out];exact FS.out
  have hb03:Below w.heap.size w w3:=(hb01.trans hb12).trans (hb23.mono (by omega));have hR3:Kd.R kPr 114 w3 w.heap.size (fun _=>True) (.slice A2 n2 c2) ss:=R_stay (Kd.R_lower HR.out (by simp only[World.size_alloc];omega)) rfl fun k hk=>by
   obtain⟨cells,hc⟩:=Kd.R_typed HR.out k hk;have hne:k≠w.heap.size+1:=fun e=>by
    rw[e,F1.out]at hc;cases hc
   have h1:w2.heap[k]?=w1.heap[k]?:=by rw[←HW2.out];exact Below.heap_setCell w1 ⟨w.heap.size+1,2,none⟩ _ k hne
   exact(hb23.block k (blk_lt (h1.trans hc))).trans h1
  have HX3:=am (ex_start (Mt:=Mt) (kh:=⟨eA,eN,ec⟩) (ph:=⟨A2,n2,c2⟩) hb03 (by omega) hblk HE.out.k hR3 HSA.out);have K0:=am (box_more hb23 G0.out);have K3:=am (box_more hb23 G3.out);have K2:=am (box_more hb23 G2.out);rw[hw3,hbe];clear hw3 hbe hb23 hblk hb01 hb12 hsz hb03 hR3;have hfew:Few 0 (exStart ⟨r0,r1,ps,sum⟩ ⟨et,ky,el,1,(i:Int),ea⟩):=by
   obtain⟨_,q0,q1,_,q8,qpc,qkl,_⟩:=HHK.out;exact⟨qkl,Nat.le_refl _,Nat.le_refl _,Nat.le_refl _,q8,⟨q0,q1⟩,qpc⟩
  obtain⟨y,hy⟩:∃y,exStart ⟨r0,r1,ps,sum⟩ ⟨et,ky,el,1,(i:Int),ea⟩=y:=⟨_,rfl⟩;have hyp:y.ev.pr.toNat=i:=by rw[←hy];rfl
  rw[hy]at HX3 hfew;obtain⟨g,i2,hA,hi2,s2,s8,hin2,z0,z1,z2,zf,hgt,hgb⟩:=HX3.out.spot hfew.here;obtain rfl:i2=i:=hi2.symm.trans hyp;have HSELF:=am (self_calls (w:=w3) (b:=b) (g:=g) i2 s2 s8 hin2);have HFEW:=am hfew;have HHY:=am hy;have HA0:=am hA;have HI0:=am hi2;have HSM:=am (show y.self∈ps by
   have:=Ex.self_mem hfew.here;rw[←hy]at this ⊢;exact this)
  have HL3:=am (show∀w',Below w3.heap.size w3 w'→w'.cell? ⟨w.heap.size+1+1,1,none⟩=some (.slice eA eN ec)∧w'.cell? ⟨w.heap.size+1+1,3,none⟩=some (.int .i64 1)∧w'.cell? ⟨w.heap.size+1+1,5,none⟩=some (.int .i64 ea)from fun w' hb=>by
   have:=box_more hb K2.out;refine⟨?_,?_,?_⟩<;>simp[World.cell?,this])
  clear hA hi2 s2 s8 hin2 z0 z1 z2 zf hgt hgb hfew hy hyp a0 a1 a2 a3 b0 b1 b2 b3 b4 b5;go_upto_region 16 with (first|(go_at_call 108;(with_reducible refine HSELF.out.mono ?_);rintro e wz ⟨rfl,hb⟩;obtain⟨t1,t3,t5⟩:=HL3.out wz hb;have HZ:=am hb;clear hb))
  have HEZ:=am (HX3.out.more HM.out HZ.out);have HFEWZ:=HFEW;have HYW:=am (show(exStart ⟨r0,r1,ps,sum⟩ ⟨et,ky,el,1,(i2:Int),ea⟩).wake=y by rw[wake_one rfl];exact HHY.out);have HPGY:=am (HOK.out.2.1 _ HSM.out);have K0z:=am (box_more HZ.out K0.out);have K3z:=am (box_more HZ.out K3.out);have HI:=am (show y.ev.pr.toNat=i2 from HI0.out);clear t1 t3 t5
 rotate_left
 focus
  go_upto_region 10 with (first|(go_at_call 107;(with_reducible refine(HCL.out _ _ _ _).mono ?_);rintro e w1 ⟨v,rfl,hR,hb⟩;obtain⟨A2,n2,c2,hn2,rfl⟩:=R_slice3 hR;have HR:=am hR;have HB:=am hb;go_must (obtain⟨⟨f0,f1,f2,f3⟩,fs⟩:=box4 hb);go_must (have x2:w1.cell? ⟨w.heap.size+1,2,none⟩=some (.slice (some ad) sn sc):=by simp[World.cell?,f1]);go_must (have x2f:w1.frozen? ⟨w.heap.size+1,2,none⟩=false:=blk_frozen f1 2);have F0:=am f0;have F1:=am f1;have F2:=am f2;have F3:=am f3;have FS:=am fs;have HN2:=am hn2;clear hR hb hn2 f0 f1 f2 f3 fs))
  obtain⟨w2,hw2⟩:∃w2,w1.setCell ⟨w.heap.size+1,2,none⟩ (.slice A2 n2 c2)=w2:=⟨_,rfl⟩;rw[hw2];have hf2:∀k,k≠w.heap.size+1→w2.heap[k]?=w1.heap[k]?:=fun k hk=>by rw[←hw2];exact Below.heap_setCell w1 ⟨w.heap.size+1,2,none⟩ _ k hk
  have g1:w2.heap[w.heap.size+1]?=some (.cells #[.int .i64 r0,.int .i64 r1,.slice A2 n2 c2,.int .i64 sum] 91 (0,0)):=by rw[←hw2];exact blk_put F1.out 2 _ rfl
  have g2:=(hf2 _ (by omega)).trans F2.out;have g0:=(hf2 _ (by omega)).trans F0.out;have g3:=(hf2 _ (by omega)).trans F3.out;have hs2:w2.heap.size=w1.heap.size:=by rw[←hw2];simp[World.setCell]
  have a0:w2.cell? ⟨w.heap.size+1,0,none⟩=some (.int .i64 r0):=by simp[World.cell?,g1]
  have a1:w2.cell? ⟨w.heap.size+1,1,none⟩=some (.int .i64 r1):=by simp[World.cell?,g1]
  have a2:w2.cell? ⟨w.heap.size+1,2,none⟩=some (.slice A2 n2 c2):=by simp[World.cell?,g1]
  have a3:w2.cell? ⟨w.heap.size+1,3,none⟩=some (.int .i64 sum):=by simp[World.cell?,g1]
  have b0:w2.cell? ⟨w.heap.size+1+1,0,none⟩=some (.int .i64 et):=by simp[World.cell?,g2]
  have b1:w2.cell? ⟨w.heap.size+1+1,1,none⟩=some (.slice eA eN ec):=by simp[World.cell?,g2]
  have b2:w2.cell? ⟨w.heap.size+1+1,2,none⟩=some (.int .i64 el):=by simp[World.cell?,g2]
  have b3:w2.cell? ⟨w.heap.size+1+1,3,none⟩=some (.int .i64 2):=by simp[World.cell?,g2]
  have b4:w2.cell? ⟨w.heap.size+1+1,4,none⟩=some (.int .i64 (i:Int)):=by simp[World.cell?,g2]
  have b5:w2.cell? ⟨w.heap.size+1+1,5,none⟩=some (.int .i64 ea):=by simp[World.cell?,g2]
  have HW2:=am hw2;have G0:=am g0;have G2:=am g2;have G3:=am g3;have HS2:=am hs2;clear hw2 hf2 g0 g1 g2 g3 hs2 x2 x2f;go_upto_region 11 with (fail)
  obtain⟨w3,hw3⟩:∃w3,w2.alloc (.cells #[.int .i64 r0,.int .i64 r1,.slice A2 n2 c2,.int .i64 sum,.int .i64 et,.slice eA eN ec,.int .i64 el,.int .i64 2,.int .i64 (i:Int),.int .i64 ea,.slice none 0 0,.int .i64 0,.slice none 0 0,.bool false] TExec)=w3:=⟨_,rfl⟩;obtain⟨b,hbe⟩:∃b,w2.heap.size=b:=⟨_,rfl⟩;have hb23:Below w2.heap.size w2 w3:=by rw[←hw3];exact below_alloc (Below.refl _ _) _
  have hblk:w3.heap[b]?=some (.cells (exCells ⟨eA,eN,ec⟩ ⟨A2,n2,c2⟩ .nil .nil (exStart ⟨r0,r1,ps,sum⟩ ⟨et,ky,el,2,(i:Int),ea⟩)) TExec (0,0)):=by
   rw[←hw3,←hbe];exact World.alloc_heap_new _ _
  have hb01:Below w.heap.size w w1:=(HB4.out _ _ _ _).trans (HB.out.mono (by simp only[World.size_alloc];omega));have hb12:Below w.heap.size w1 w2:=by rw[←HW2.out];exact(Below.refl w.heap.size w1).setCell (p:=⟨w.heap.size+1,2,none⟩) (Nat.le_succ _) _
  have hsz:w.heap.size+4≤w2.heap.size:=by rw[HS2.out];exact FS.out
  have hb03:Below w.heap.size w w3:=(hb01.trans hb12).trans (hb23.mono (by omega));have hR3:Kd.R kPr 114 w3 w.heap.size (fun _=>True) (.slice A2 n2 c2) ss:=R_stay (Kd.R_lower HR.out (by simp only[World.size_alloc];omega)) rfl fun k hk=>by
   obtain⟨cells,hc⟩:=Kd.R_typed HR.out k hk;have hne:k≠w.heap.size+1:=fun e=>by
    rw[e,F1.out]at hc;cases hc
   have h1:w2.heap[k]?=w1.heap[k]?:=by rw[←HW2.out];exact Below.heap_setCell w1 ⟨w.heap.size+1,2,none⟩ _ k hne
   exact(hb23.block k (blk_lt (h1.trans hc))).trans h1
  have HX3:=am (ex_start (Mt:=Mt) (kh:=⟨eA,eN,ec⟩) (ph:=⟨A2,n2,c2⟩) hb03 (by omega) hblk HE.out.k hR3 HSA.out);have K0:=am (box_more hb23 G0.out);have K3:=am (box_more hb23 G3.out);have K2:=am (box_more hb23 G2.out);rw[hw3,hbe];clear hw3 hbe hb23 hblk hb01 hb12 hsz hb03 hR3;have hfew:Few 0 (exStart ⟨r0,r1,ps,sum⟩ ⟨et,ky,el,2,(i:Int),ea⟩):=by
   obtain⟨_,q0,q1,_,q8,qpc,qkl,_⟩:=HHK.out;exact⟨qkl,Nat.le_refl _,Nat.le_refl _,Nat.le_refl _,q8,⟨q0,q1⟩,qpc⟩
  obtain⟨ya,hy⟩:∃y,exStart ⟨r0,r1,ps,sum⟩ ⟨et,ky,el,2,(i:Int),ea⟩=y:=⟨_,rfl⟩;have hyp:ya.ev.pr.toNat=i:=by rw[←hy];rfl
  rw[hy]at HX3 hfew;obtain⟨g,i2,hA,hi2,s2,s8,hin2,z0,z1,z2,zf,hgt,hgb⟩:=HX3.out.spot hfew.here;obtain rfl:i2=i:=hi2.symm.trans hyp;have HSELF:=am (self_calls (w:=w3) (b:=b) (g:=g) i2 s2 s8 hin2);have HFEW:=am hfew;have HHY:=am hy;have HA0:=am hA;have HI0:=am hi2;have HSM:=am (show ya.self∈ps by
   have:=Ex.self_mem hfew.here;rw[←hy]at this ⊢;exact this)
  have HL3:=am (show∀w',Below w3.heap.size w3 w'→w'.cell? ⟨w.heap.size+1+1,1,none⟩=some (.slice eA eN ec)∧w'.cell? ⟨w.heap.size+1+1,3,none⟩=some (.int .i64 2)∧w'.cell? ⟨w.heap.size+1+1,5,none⟩=some (.int .i64 ea)from fun w' hb=>by
   have:=box_more hb K2.out;refine⟨?_,?_,?_⟩<;>simp[World.cell?,this])
  clear hA hi2 s2 s8 hin2 z0 z1 z2 zf hgt hgb hfew hy hyp a0 a1 a2 a3 b0 b1 b2 b3 b4 b5;have hfr:∀w',Below w3.heap.size w3 w'→(∀j,w'.frozen? ⟨g,j,none⟩=false)∧∃u,w'.cell? ⟨g,i2*4+1,none⟩=some u:=fun w' hb=>by
   obtain⟨g0,i0,hA0,hi0,q2,q8,qin,y0,y1,y2,yf,qgt,qgb⟩:=(HX3.out.more HM.out hb).spot HFEW.out.here;obtain rfl:i0=i2:=hi0.symm.trans HI0.out;have hg0:=hA0.symm.trans HA0.out
   injection hg0 with hg0
   injection hg0 with hg0
   subst hg0;exact⟨yf,_,y1⟩
  have HFR:=am hfr;clear hfr;go_upto_region 14 with (first|(go_at_call 108;(with_reducible refine HSELF.out.mono ?_);rintro e wa ⟨rfl,hb⟩;obtain⟨t1,t3,t5⟩:=HL3.out wa hb;obtain⟨fz,uu,uz⟩:=HFR.out wa hb;have HZ:=am hb;clear hb))
  clear t1 t3 t5 fz uz;have hEA:=HX3.out.more HM.out HZ.out;obtain⟨g0,i0,hA0,hi0,q2,q8,qin,y0,y1,y2,yf,qgt,qgb⟩:=hEA.spot HFEW.out.here;obtain rfl:i0=i2:=hi0.symm.trans HI0.out;have hg0:g0=g:=by
   have hg0:=hA0.symm.trans HA0.out
   injection hg0 with hg0
   injection hg0
  subst hg0;have h13:=hEA.pcTo HM.out HFEW.out.here hA0 hi0 qgt ea;have hg2:g0≠w.heap.size+1+1:=fun e=>by
   obtain⟨gc,hgc⟩:=qgt;have:=box_more HZ.out K2.out;rw[←e,hgc]at this;cases this
  obtain⟨w4,hw4⟩:∃w4,wa.setCell ⟨g0,i0*4+1,none⟩ (.int .i64 ea)=w4:=⟨_,rfl⟩;rw[hw4]at h13 ⊢;have hsame:∀k,k≠g0→w4.heap[k]?=wa.heap[k]?:=fun k hk=>by rw[←hw4];exact Below.heap_setCell wa ⟨g0,i0*4+1,none⟩ _ k hk
  have k2:=(hsame _ (Ne.symm hg2)).trans (box_more HZ.out K2.out);have hg00:g0≠w.heap.size:=fun e=>by
   obtain⟨gc,hgc⟩:=qgt;have:=box_more HZ.out K0.out;rw[←e,hgc]at this;cases this
  have hg03:g0≠w.heap.size+1+1+1:=fun e=>by
   obtain⟨gc,hgc⟩:=qgt;have:=box_more HZ.out K3.out;rw[←e,hgc]at this;cases this
  have k0:=(hsame _ (Ne.symm hg00)).trans (box_more HZ.out K0.out);have k3:=(hsame _ (Ne.symm hg03)).trans (box_more HZ.out K3.out);obtain⟨yb,hyb⟩:∃yb,ya.setSelf {ya.self with pc:=ea}=yb:=⟨_,rfl⟩;have hE4:=h13.1;rw[hyb]at hE4;have hfb:Few 0 yb:=by
   rw[←hyb];exact HFEW.out.setSelf _ (by have h:=HHK.out.2.2.2.2.2.2.2.1;simpa using h)
  have hyi:yb.ev.pr.toNat=i0:=by rw[←hyb];exact hi0
  have hgt4:∃cells,w4.heap[g0]?=some (.cells cells 114 (0,0)):=by
   obtain⟨gc,hgc⟩:=qgt;rw[←hw4];exact blk_put_some hgc _ _
  obtain⟨tm,y3,hTM⟩:=hE4.spotT hfb.here hA0 hyi;have hself:yb.self={ya.self with pc:=ea}:=by rw[←hyb];exact setSelf_self HFEW.out.here _
  have htmn:tm.n≤1000000:=by
   have:=hTM.len;rw[hself]at this;simp only at this;rw[this];exact HHK.out.2.2.2.2.2.2.2.2 _ HSM.out
  have hky:eN=ky.length:=HE.out.k.len;have hevk:yb.ev.k=ky:=by rw[←hyb,←HHY.out];rfl
  have hKE:=hE4.p.key;rw[hevk]at hKE;have HEQ:=am (fun(w0:World) (hb:Below w4.heap.size w4 w0)=>eqKeys_calls tm.A eA tm.n eN tm.c ec yb.self.tm ky w0 ((hTM.below hb).here) ((hKE.below hb).here) htmn (by have h:ky.length≤900000:=HHK.out.2.2.2.2.2.2.1;omega));have z1:w4.cell? ⟨w.heap.size+1+1,1,none⟩=some (.slice eA eN ec):=by simp[World.cell?,k2]
  have hgl:g0<w4.heap.size:=by
   obtain⟨gc,hgc⟩:=hgt4;exact blk_lt hgc
  have yf4:=fun j=>(show w4.frozen? ⟨g0,j,none⟩=false by
   obtain⟨gc,hgc⟩:=hgt4;exact blk_frozen hgc j)
  have HL4:=am (show∀w',Below w4.heap.size w4 w'→w'.cell? ⟨g0,i0*4+3,none⟩=some (.slice tm.A tm.n tm.c)∧w'.cell? ⟨w.heap.size+1+1,1,none⟩=some (.slice eA eN ec)∧(∀j,w'.frozen? ⟨g0,j,none⟩=false)from fun w' hb=>
   ⟨(hb.cell (p:=⟨g0,i0*4+3,none⟩) hgl).trans y3,(hb.cell (p:=⟨w.heap.size+1+1,1,none⟩) (blk_lt k2)).trans z1,fun j=>(hb.frozen (p:=⟨g0,j,none⟩) hgl).trans (yf4 j)⟩)
  have HE4:=am hE4;have HFB:=am hfb;have HYI:=am hyi;have HYB:=am hyb;have HA4:=am hA0;have HG4:=am hgt4;have H0:=am k0;have H3:=am k3;have HSF:=am hself;have HPA:=am (HOK.out.2.1 _ HSM.out);have HWK:=am (show(exStart ⟨r0,r1,ps,sum⟩ ⟨et,ky,el,2,(i0:Int),ea⟩).wake=if yb.self.tm=ky then yb.setSelf {yb.self with tm:=[]}else yb by
   rw[HHY.out,←hyb];exact wake_two HFEW.out.here (by rw[←HHY.out];rfl) (by rw[←HHY.out];rfl) (by rw[←HHY.out];rfl))
  clear hEA q2 q8 qin y0 y1 y2 yf qgt qgb h13 hg2 hw4 hsame k2 hg00 hg03 k0 k3 hyb hE4 hfb hgt4 hTM hself hky hevk hKE hgl yf4 hA0 hi0 htmn;by_cases hq:yb.self.tm=ky
  focus
   have dq:decide (yb.self.tm=ky)=true:=decide_eq_true hq
  rotate_left
  focus
   have dq:decide (yb.self.tm=ky)=false:=decide_eq_false hq
  rotate_left
  all_goals
   have HQ:=am hq;clear hq
   go_region_held3 (fun w'=>w'.cell? ⟨g0,i0*4+3,none⟩=some (.slice tm.A tm.n tm.c)∧w'.cell? ⟨w.heap.size+1+1,1,none⟩=some (.slice eA eN ec)) (exact⟨by assumption,by assumption⟩)
    (first|((go_at_call 88;(with_reducible refine(HEQ.out _ (below_drew (Below.refl _ _))).mono ?_);rintro e w5 ⟨rfl,hb⟩;have hb1:=(below_drew (Below.refl w4.heap.size w4)).trans hb;obtain⟨r3,r1,rf⟩:=HL4.out w5 hb1;have HB5:=am hb1;clear hb hb1)))
   go_upto_region 16 with (fail)
  focus
   have hE5:=HE4.out.more HM.out HB5.out;have hgt5:∃cells,w5.heap[g0]?=some (.cells cells 114 (0,0)):=by
    obtain⟨gc,hgc⟩:=HG4.out;exact⟨gc,box_more HB5.out hgc⟩
   have h15:=hE5.tmNil HM.out HFB.out.here HA4.out HYI.out hgt5;have hk:∀(k:Nat) (o:Obj),w5.heap[k]?=some o→(∀gc,o≠Obj.cells gc 114 (0,0))→(w5.setCell ⟨g0,i0*4+3,none⟩ (.slice none 0 0)).heap[k]?=some o:=fun k o ho hne=>by
    refine(Below.heap_setCell w5 ⟨g0,i0*4+3,none⟩ _ k fun e=> ?_).trans ho;obtain⟨gc,hgc⟩:=hgt5;simp only at e;rw[e,hgc]at ho
    injection ho with ho
    exact hne gc ho.symm
   have j0:=hk _ _ (box_more HB5.out H0.out) (fun gc e=>by cases e);have j3:=hk _ _ (box_more HB5.out H3.out) (fun gc e=>by cases e);obtain⟨wz,hwz⟩:∃wz,w5.setCell ⟨g0,i0*4+3,none⟩ (.slice none 0 0)=wz:=⟨_,rfl⟩;rw[hwz]at h15 j0 j3 ⊢;obtain⟨y,hy⟩:∃y,yb.setSelf {yb.self with tm:=[]}=y:=⟨_,rfl⟩;have HEZ:=am (hy▸h15.1);have HFEWZ:=am (hy▸HFB.out.setSelf {yb.self with tm:=[]} (stop_self_pc HFB.out));have HYW:=am (HWK.out.trans (by rw[if_pos HQ.out,hy]));have HPGY:=am (show 0≤y.self.pg∧y.self.pg<progs.length by rw[←hy,setSelf_self HFB.out.here,HSF.out];exact HPA.out)
   have K0z:=am j0;have K3z:=am j3;have HI:=am (show y.ev.pr.toNat=i0 by rw[←hy];exact HYI.out);clear hE5 hgt5 h15 hk j0 j3 hwz hy r3 r1 rf y3 z1 dq
  rotate_left
  focus
   obtain⟨wz,hwz⟩:∃wz,w5=wz:=⟨_,rfl⟩;rw[hwz]at HB5 ⊢;obtain⟨y,hy⟩:∃y,yb=y:=⟨_,rfl⟩;have HEZ:=am (hy▸HE4.out.more HM.out HB5.out);have HFEWZ:=am (hy▸HFB.out);have HYW:=am (HWK.out.trans (by rw[if_neg HQ.out,hy]));have HPGY:=am (show 0≤y.self.pg∧y.self.pg<progs.length by rw[←hy,HSF.out];exact HPA.out);have K0z:=am (box_more HB5.out H0.out);have K3z:=am (box_more HB5.out H3.out);have HI:=am (show y.ev.pr.toNat=i0 by rw[←hy];exact HYI.out);clear hwz hy r3 r1 rf y3 z1 dq
 all_goals
  have hEZ:=HEZ.out;obtain⟨g',i',hA,hi2,s2,s8,hin2,z0,z1,z2,zf,hgt,hgb⟩:=hEZ.spot HFEWZ.out.here;obtain⟨hok,hpg,hpl⟩:=HOK.out;obtain⟨hj0,hj1⟩:=HPGY.out;obtain⟨j,hj⟩:∃j:Nat,y.self.pg=(j:Int):=⟨y.self.pg.toNat,by omega⟩;rw[hj]at hj1 z0;obtain⟨hs,hhs,hha⟩:=HC.out;have hbz:Below w.heap.size w wz:=hEZ.p.below;have hpn:pn=progs.length:=hhs.len.trans hha.len;have hjn:j<pn:=by omega
  obtain⟨ad2,sh,e2,⟨hjl,hsh⟩,hcell⟩:=hd_cells (hhs.below hbz).here j hjn;simp only at e2;subst e2;have hjp:j<progs.length:=by omega
  have hRl:Rd kOp Mt w sh progs[j]:=by
   rw[←hsh];exact hha.get j hjl hjp
  obtain⟨hl1,hok1⟩:=hok _ (List.getElem_mem hjp);obtain⟨prog,hprog⟩:∃prog,progs[j]=prog:=⟨_,rfl⟩;rw[hprog]at hRl hl1 hok1;have HPROG:=am (show progs[j]?=some prog by rw[List.getElem?_eq_getElem hjp,hprog]);clear hprog;obtain⟨shA,shn,shc⟩:=sh;have hq1:wz.cell? ⟨w.heap.size,1,none⟩=some (.slice (some ad2) pn pc):=by
   have:=K0z.out;simp[World.cell?,this]
  have HACT:=am (fun(w0:World) (hb:Below wz.heap.size wz w0)=>activate_calls (hEZ.more HM.out hb) HM.out HFEWZ.out hRl hok1 (by have:=hRl.len;simp only at this;omega));have HSELFZ:=am (fun(w0:World) (h2:w0.cell? ⟨b,2,none⟩=some (.slice (some ⟨g',0,none⟩) n2 c2)) (h8:w0.cell? ⟨b,8,none⟩=some (.int .i64 (i':Int)))=>self_calls (w:=w0) (b:=b) (g:=g') i' h2 h8 hin2);have HSD:=am (HSELFZ.out wz.drew s2 s8);have hgl:g'<wz.heap.size:=by
   obtain⟨gc,hgc⟩:=hgt;exact blk_lt hgc
  have hal2:(ad2.add j).block<w.heap.size:=by
   obtain⟨ad3,sh3,e3,⟨_,hsh3⟩,hc3⟩:=hd_cells hhs.here j hjn;simp only[Option.some.injEq]at e3;subst e3;exact World.block_lt_of_cell? w _ hc3
  have hql:w.heap.size<wz.heap.size:=World.block_lt_of_cell? wz ⟨w.heap.size,1,none⟩ hq1;have HLZ:=am (show∀w',Below wz.heap.size wz w'→w'.cell? ⟨w.heap.size,1,none⟩=some (.slice (some ad2) pn pc)∧w'.cell? ⟨g',i'*4,none⟩=some (.int .i64 (j:Int))∧w'.cell? (ad2.add j)=some (.slice shA shn shc)from fun w' hb=>
   ⟨(hb.cell (p:=⟨w.heap.size,1,none⟩) hql).trans hq1,(hb.cell (p:=⟨g',i'*4,none⟩) hgl).trans z0,(hb.cell (p:=ad2.add j) (by omega)).trans hcell⟩)
  have m2:(j:Int)<(pn:Nat):=by omega
  have m3:(0:Int)≤(j:Int):=by omega
  have HJ:=am hj;have HPN:=am hpn;clear hA hi2 z1 z2 zf hgt hgb hok hpg hpl hj0 hj1 hj hhs hha hjl hsh hjp hRl hl1 hok1 hin2 hEZ hpn
  go_region_with (first
   |(go_at_call 108;(with_reducible refine HSD.out.mono ?_);rintro e w4 ⟨rfl,hb⟩;have hb1:Below wz.heap.size wz w4:=⟨hb.os,hb.tape,hb.output,hb.size,hb.block⟩;obtain⟨v1,v2,v3⟩:=HLZ.out w4 hb1;have HB4z:=am hb1;clear hb hb1)
   |(go_at_call 109;(with_reducible refine(HACT.out w4 HB4z.out).mono ?_);rintro e w5 ⟨rfl,hran⟩;have HRAN:=am hran;clear hran))
 all_goals
  obtain⟨⟨ph5,ch5,xh5,hE5⟩,hS5⟩:=HRAN.out;obtain⟨z,hz⟩:∃z,y.act prog 16=z:=⟨_,rfl⟩;rw[hz]at hE5;have n0:w5.cell? ⟨b,0,none⟩=some (.int .i64 z.lp.r0):=hE5.cells 0 _ rfl;have n1:w5.cell? ⟨b,1,none⟩=some (.int .i64 z.lp.r1):=hE5.cells 1 _ rfl;have n2:w5.cell? ⟨b,2,none⟩=some (.slice ph5.A ph5.n ph5.c):=hE5.cells 2 _ rfl;have n3:w5.cell? ⟨b,3,none⟩=some (.int .i64 z.lp.sum):=hE5.cells 3 _ rfl;have n10:w5.cell? ⟨b,10,none⟩=some (.slice ch5.A ch5.n ch5.c):=hE5.cells 10 _ rfl;have n12:w5.cell? ⟨b,12,none⟩=some (.slice xh5.A xh5.n xh5.c):=hE5.cells 12 _ rfl
  have n13:w5.cell? ⟨b,13,none⟩=some (.bool z.ov):=hE5.cells 13 _ rfl;have hq3b:w.heap.size+1+1+1≠b:=fun e=>by
   have h1:=K3z.out;rw[e,HEZ.out.blk]at h1
   injection h1 with h1
   injection h1 with _ h2 _
   exact absurd h2 (by decide)
  have k4:=box_more HB4z.out (K3z.out);have k5:=(hS5.2 _ _ _ k4 hq3b (by decide) (by decide) (by decide)).trans k4;have j0:w5.cell? ⟨w.heap.size+1+1+1,0,none⟩=some (.int .i64 0):=by simp[World.cell?,k5]
  have j1:w5.cell? ⟨w.heap.size+1+1+1,1,none⟩=some (.int .i64 0):=by simp[World.cell?,k5]
  have j2:w5.cell? ⟨w.heap.size+1+1+1,2,none⟩=some (.slice none 0 0):=by simp[World.cell?,k5]
  have j3:w5.cell? ⟨w.heap.size+1+1+1,3,none⟩=some (.int .i64 0):=by simp[World.cell?,k5]
  have jf0:w5.frozen? ⟨w.heap.size+1+1+1,0,none⟩=false:=blk_frozen k5 0;have jf1:w5.frozen? ⟨w.heap.size+1+1+1,1,none⟩=false:=blk_frozen k5 1;have jf2:w5.frozen? ⟨w.heap.size+1+1+1,2,none⟩=false:=blk_frozen k5 2;have jf3:w5.frozen? ⟨w.heap.size+1+1+1,3,none⟩=false:=blk_frozen k5 3;have hkb:∀(w':World) j u k,(w'.setCell ⟨w.heap.size+1+1+1,j,none⟩ u).cell? ⟨b,k,none⟩=w'.cell? ⟨b,k,none⟩:=fun w' j u k=>cell_far (p:=⟨w.heap.size+1+1+1,j,none⟩) (a:=⟨b,k,none⟩) hq3b.symm u;have HE5:=am hE5;have HK5:=am k5;have HZZ:=am hz;clear hE5 hS5 k4 k5 hz s2 s8 z0 hcell hq1 m2 m3 v1 v2 v3
 all_goals go_upto_region 17 with (fail)
 all_goals go_region
 all_goals
  obtain⟨w6,hw6⟩:∃w6,((((w5.setCell ⟨w.heap.size+1+1+1,0,none⟩ (.int .i64 z.lp.r0)).setCell ⟨w.heap.size+1+1+1,1,none⟩ (.int .i64 z.lp.r1)).setCell ⟨w.heap.size+1+1+1,2,none⟩ (.slice ph5.A ph5.n ph5.c)).setCell ⟨w.heap.size+1+1+1,3,none⟩ (.int .i64 z.lp.sum)).drew=w6:=⟨_,rfl⟩;rw[hw6];have p1:=blk_put HK5.out 0 (.int .i64 z.lp.r0) rfl;have p2:=blk_put p1 1 (.int .i64 z.lp.r1) rfl;have p3:=blk_put p2 2 (.slice ph5.A ph5.n ph5.c) rfl;have p4:=blk_put p3 3 (.int .i64 z.lp.sum) rfl
  have p5:w6.heap[w.heap.size+1+1+1]?=some (.cells #[.int .i64 z.lp.r0,.int .i64 z.lp.r1,.slice ph5.A ph5.n ph5.c,.int .i64 z.lp.sum] 91 (0,0)):=by rw[←hw6];exact p4
  have o0:w6.cell? ⟨w.heap.size+1+1+1,0,none⟩=some (.int .i64 z.lp.r0):=by simp[World.cell?,p5]
  have o1:w6.cell? ⟨w.heap.size+1+1+1,1,none⟩=some (.int .i64 z.lp.r1):=by simp[World.cell?,p5]
  have o2:w6.cell? ⟨w.heap.size+1+1+1,2,none⟩=some (.slice ph5.A ph5.n ph5.c):=by simp[World.cell?,p5]
  have o3:w6.cell? ⟨w.heap.size+1+1+1,3,none⟩=some (.int .i64 z.lp.sum):=by simp[World.cell?,p5]
  have hgr:w5.grownBy w6 (some (w.heap.size+1+1+1)):=by
   rw[←hw6];exact grown_trans (grown_cells [.int .i64 z.lp.r0,.int .i64 z.lp.r1,.slice ph5.A ph5.n ph5.c,.int .i64 z.lp.sum] w5 0) (grown_drew _ _)
  have hret:=HE5.out.ret HM.out (show w.heap.size≤w.heap.size+1+1+1 by omega) HK5.out hgr (s:=⟨z.lp.r0,z.lp.r1,ph5,z.lp.sum⟩) rfl rfl rfl rfl;have HZ2:=am (runExP_of HYW.out HJ.out HPROG.out HZZ.out);have HRET:=am hret;clear hw6 p1 p2 p3 p4 p5 hgr hret n0 n1 n2 n3 n10 n12 n13 j0 j1 j2 j3 jf0 jf1 jf2 jf3 hkb;rename_i Q9 K9 hK9;refine hK9 _ _ ?_;apply wp_ret;show bodyPost Tryz.prog Tryz.f84 _ Exit.ret _ _
  refine bodyPost_ret (v:= .tuple #[.agg #[.int .i64 z.lp.r0,.int .i64 z.lp.r1,.slice ph5.A ph5.n ph5.c,.int .i64 z.lp.sum],.slice ch5.A ch5.n ch5.c,.slice xh5.A xh5.n xh5.c,.bool z.ov]) (by simp[results,Tryz.results84,go_sem,o0,o1,o2,o3]) rfl ?_;rw[HZ2.out];exact HRET.out
end Go.Proofs.YtfnimdhghglanaaGreat.Hand
end
section
namespace Go.Proofs.YtfnimdhghglanaaGreat.Hand
theorem SortedE.head {e:Ev} {l:List Ev} (h:SortedE (e::l)):∀f∈l,cmpE e f≤0:=(List.pairwise_cons.1 h).1
theorem SortedE.tail {e:Ev} {l:List Ev} (h:SortedE (e::l)):SortedE l:=(List.pairwise_cons.1 h).2
theorem cmpE_time {a b:Ev} (h:cmpE a b≤0):a.t≤b.t:=by
 unfold cmpE at h
 split at h
 ·rename_i h1;have h2:= @cmpI_neg a.t b.t;omega
 ·rename_i h1;have h2:= @cmpI_zero a.t b.t;simp only[ne_eq,Decidable.not_not]at h1;have:=h2.1 h1;omega
abbrev KeysD (l:List Ev):Prop:=(l.map Ev.k).Nodup
theorem KeysD.perm {l m:List Ev} (h:KeysD l) (p:l.Perm m):KeysD m:=(p.map Ev.k).nodup h
theorem KeysD.sub {l m:List Ev} (h:KeysD l) (p:m.Sublist l):KeysD m:=(p.map Ev.k).nodup h
theorem KeysD.inj {l:List Ev} (h:KeysD l) {a b:Ev} (ha:a∈l) (hb:b∈l) (hk:a.k=b.k):a=b:=by
 induction l with
 |nil=>cases ha
 |cons x l ih=>
  have h1:=List.nodup_cons.1 h;rcases List.mem_cons.1 ha with ea|ha1<;>rcases List.mem_cons.1 hb with eb|hb1
  ·rw[ea,eb]
  ·exact absurd (ea▸hk▸List.mem_map_of_mem (f:=Ev.k) hb1) h1.1
  ·exact absurd (eb▸hk.symm▸List.mem_map_of_mem (f:=Ev.k) ha1) h1.1
  ·exact ih h1.2 ha1 hb1
theorem sorted_one {a b:List Ev} (ha:SortedE a) (hb:SortedE b) (hp:a.Perm b) (hk:KeysD a):a=b:=
 List.Perm.eq_of_pairwise (fun x y hx hy h1 h2=>hk.inj hx (hp.symm.subset hy) (cmpE_zero.1 (by have:=cmpE_swap x y;omega)).2) ha hb hp
theorem insE_perm (l:List Ev) (e:Ev):(insE l e).Perm (e::l):=by
 unfold insE;refine List.perm_middle.trans (List.Perm.cons e ?_);rw[List.takeWhile_append_dropWhile]
theorem insE_sorted {l:List Ev} (h:SortedE l) (e:Ev):SortedE (insE l e):=by
 unfold insE;have h1:=List.takeWhile_append_dropWhile (p:=fun a=>decide (cmpE a e<0)) (l:=l);have h2:SortedE (l.takeWhile (fun a=>decide (cmpE a e<0))++l.dropWhile (fun a=>decide (cmpE a e<0))):=by rw[h1];exact h
 obtain⟨s1,s2,s3⟩:=List.pairwise_append.1 h2;have hl:∀a∈l.takeWhile (fun a=>decide (cmpE a e<0)),cmpE a e≤0:=fun a ha=>by
  have:=List.all_eq_true.1 (List.all_takeWhile (p:=fun a=>decide (cmpE a e<0)) (l:=l)) a ha;simp at this;omega
 have hr:∀a∈l.dropWhile (fun a=>decide (cmpE a e<0)),cmpE e a≤0:=fun a ha=>by
  cases hd:l.dropWhile (fun a=>decide (cmpE a e<0))with
  |nil=>rw[hd]at ha;cases ha
  |cons b m=>
   have h4:=List.head?_dropWhile_not (fun a=>decide (cmpE a e<0)) l;rw[hd]at h4 s2 ha;have hb:cmpE e b≤0:=by
    have:=cmpE_swap b e;simp at h4;omega
   rcases List.mem_cons.1 ha with rfl|ha
   ·exact hb
   ·exact cmpE_le hb (SortedE.head s2 a ha)
 exact List.pairwise_append.2 ⟨s1,List.pairwise_cons.2 ⟨hr,s2⟩,fun a ha b hb=>by
  rcases List.mem_cons.1 hb with rfl|hb
  ·exact hl a ha
  ·exact s3 a ha b hb⟩
theorem mergeE_perm (a b:List Ev):(mergeE a b).Perm (a++b):=List.merge_perm_append _
theorem mergeE_sorted {a b:List Ev} (ha:SortedE a) (hb:SortedE b):SortedE (mergeE a b):=by
 have hle:∀x y:Ev,(!decide (cmpE y x<0))=true↔cmpE x y≤0:=fun x y=>by
  have:=cmpE_swap x y;simp;omega
 have h:=List.pairwise_merge (le:=fun x y=> !decide (cmpE y x<0)) (fun x y z h1 h2=>by
   rw[hle]at h1 h2 ⊢;exact cmpE_le h1 h2) (fun x y=>by
   have:=cmpE_swap x y;simp;omega) a b (ha.imp fun h=>(hle _ _).2 h) (hb.imp fun h=>(hle _ _).2 h)
 exact h.imp fun h=>(hle _ _).1 h
def sortC (l:List Ev):List Ev:=l.foldr (fun e m=>insE m e) []
theorem sortC_perm (l:List Ev):(sortC l).Perm l:=by
 induction l with
 |nil=>exact .refl _
 |cons e l ih=>exact(insE_perm _ e).trans (ih.cons e)
theorem sortC_sorted (l:List Ev):SortedE (sortC l):=by
 induction l with
 |nil=>exact .nil
 |cons e l ih=>exact insE_sorted ih e
theorem sortC_of {l m:List Ev} (hp:m.Perm l) (hs:SortedE m) (hk:KeysD l):m=sortC l:=
 sorted_one hs (sortC_sorted l) (hp.trans (sortC_perm l).symm) (hk.perm hp.symm)
theorem mergeE_of {a b m:List Ev} (ha:SortedE a) (hm:SortedE m) (hp:m.Perm b) (hk:KeysD (a++b)):mergeE a m=sortC (a++b):=
 sortC_of ((mergeE_perm a m).trans (hp.append_left a)) (mergeE_sorted ha hm) hk
theorem eraseP_key {l:List Ev} (hk:KeysD l) (k:List Int):l.eraseP (fun e=>decide (e.k=k))=l.filter (fun e=> !decide (e.k=k)):=by
 induction l with
 |nil=>rfl
 |cons x l ih=>
  have h1:=List.nodup_cons.1 hk;by_cases e:x.k=k
  ·rw[List.eraseP_cons_of_pos (by simpa using e),List.filter_cons_of_neg (by simpa using e)];refine(List.filter_eq_self.2 fun y hy=> ?_).symm;have:y.k≠x.k:=fun e2=>h1.1 (e2▸List.mem_map_of_mem (f:=Ev.k) hy);simp;exact fun e3=>this (e3.trans e.symm)
  ·rw[List.eraseP_cons_of_neg (by simpa using e),List.filter_cons_of_pos (by simpa using e),ih h1.2]
theorem eraseP_keys:∀(ks:List (List Int)) {l:List Ev},KeysD l→ks.foldl (fun l k=>l.eraseP (fun e=>decide (e.k=k))) l=l.filter (fun e=> !ks.contains e.k)
 | [],l,_=>by simp[List.filter_eq_self.2]
 |k::ks,l,h=>by
  rw[List.foldl_cons,eraseP_key h k,eraseP_keys ks (h.sub List.filter_sublist),List.filter_filter]
  congr 1
  funext e
  by_cases h1:e.k=k<;>simp[h1,List.contains_cons]
theorem SortedE.filter {l:List Ev} (h:SortedE l) (p:Ev→Bool):SortedE (l.filter p):=List.Pairwise.filter p h
end Go.Proofs.YtfnimdhghglanaaGreat.Hand
end
