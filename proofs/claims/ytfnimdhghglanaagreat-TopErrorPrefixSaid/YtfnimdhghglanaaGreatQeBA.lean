/- TopErrorPrefix, part 27 of 41; no condition. (Printed from the session's own texts: what is not used left out, spaces spared.) -/
import Derived.Test.YtfnimdhghglanaaGreatQeAY
set_option maxRecDepth 100000
set_option maxHeartbeats 8000000
set_option linter.unusedVariables false
set_option linter.unusedSimpArgs false
section
namespace Go.Proofs.YtfnimdhghglanaaGreat.Hand
open Go.RowKit Go.Shelf Go.Proofs.YtfnimdhghglanaaGreatW.PrintWords Go.Proofs.YtfnimdhghglanaaGreatW.PrintLast Go.Proofs.YtfnimdhghglanaaGreatW.PrintMore
section
abbrev TLP:TypeId:=91
abbrev TSt:TypeId:=64
abbrev LRow (w:World) (B g n c:Nat) (ss:List SLp):Prop:=Kd.R kLp TLP w B (fun _=>True) (.slice (some ⟨g,0,none⟩) n c) ss
theorem LRow.typed {w:World} {B g n c:Nat} {hs:List SLp} (h:LRow w B g n c hs):(∃cells,w.heap[g]?=some (Obj.cells cells TLP (0,0)))∧B≤g∧g<w.heap.size:=
 ⟨Kd.R_typed h g rfl,Kd.R_base h g rfl,Kd.R_lt h g rfl⟩
theorem LRow.stay {w w':World} {B g n c:Nat} {hs:List SLp} (h:LRow w B g n c hs) (hb:w'.heap[g]?=w.heap[g]?):LRow w' B g n c hs:=R_stay h rfl fun k hk=>by
 cases hk;exact hb
theorem LRow.put {w:World} {B g n c:Nat} {hs:List SLp} (h:LRow w B g n c hs) (i:Nat) (hi:i<hs.length) (x:SLp):LRow (w.setCells g (i*4) x.cells) B g n c (hs.set i x)∧w.grownBy (w.setCells g (i*4) x.cells) (some g):=by
 have hn:=(Kd.R_reads' h).1;obtain⟨cc,hcl,hM,hcc,hf⟩:=Kd.R_elem h SLp.zero (i:Int) (by omega) (by omega);have e4:hs.getD (i:Int).toNat SLp.zero=hs[i]'hi:=by simp[List.getD_eq_getElem?_getD,List.getElem?_eq_getElem hi]
 rw[e4]at hM;obtain rfl:cc=(hs[i]'hi).cells:=hM;have h3:=Kd.R_seg (okp:=fun _=>False) h (i:Int) (by omega) (by omega) (c:=(hs[i]'hi).cells) (seg:=x.cells) (j:=0) (x':=x) hcl hcc (by show 0+4≤4;omega) rfl (fun _ h=>h.elim);rw[Int.toNat_natCast]at h3;exact h3
theorem LRow.get {w:World} {B g n c:Nat} {hs:List SLp} (h:LRow w B g n c hs) (i:Nat) (hi:i<hs.length):(∀j,j<4→(w.cell? ⟨g,i*4+j,none⟩).isSome=true)∧(∀j,w.frozen? ⟨g,j,none⟩=false)∧n=hs.length:=by
 have hn:=(Kd.R_reads' h).1;obtain⟨cc,hcl,hM,hcc,hf⟩:=Kd.R_elem h SLp.zero (i:Int) (by omega) (by omega);obtain⟨⟨cells,hc⟩,_⟩:=h.typed;rw[Int.toNat_natCast]at hcc;refine⟨fun j hj=> ?_,fun j=>blk_frozen hc j,hn⟩;have h1:j<cc.length:=by rw[hcl];exact hj
 have h2:=hcc j cc[j] (List.getElem?_eq_getElem h1);simp only[show kLp.sz=4 from rfl]at h2;rw[h2];rfl
structure Mid where
 tr:List (List Ev)
 lps:List Lp
 bx:List (List Ev)
 sn:List (List Ev)
 ov:Bool
def M5 (Mt:Nat→Prop) (g1 gl g2 g3 qt k:Nat):Prop:=Mt k∨k=g1∨k=gl∨k=g2∨k=g3∨k=qt
def stCells (n g1 c1 gl cl g2 c2:Nat) (ov:Bool) (fl pr:SH):Array Value:= #[.slice (some ⟨g1,0,none⟩) n c1,.slice (some ⟨gl,0,none⟩) n cl,.slice (some ⟨g2,0,none⟩) n c2,.bool ov,.slice fl.A fl.n fl.c,.slice pr.A pr.n pr.c]
structure MidAt (Mt:Nat→Prop) (B:Nat) (w:World) (n g1 c1 gl cl g2 c2 g3 c3 qt:Nat) (fl pr:SH) (m:Mid):Prop where
 r1:∃hs,HRow w B g1 n c1 hs∧All2 (EvsAt (M5 Mt g1 gl g2 g3 qt) w) hs m.tr
 rl:∃ss,LRow w B gl n cl ss∧All2 (LpAt (M5 Mt g1 gl g2 g3 qt) w) ss m.lps
 r2:∃hs,HRow w B g2 n c2 hs∧All2 (EvsAt (M5 Mt g1 gl g2 g3 qt) w) hs m.bx
 r3:∃hs,HRow w B g3 n c3 hs∧All2 (EvsAt (M5 Mt g1 gl g2 g3 qt) w) hs m.sn
 blk:w.heap[qt]?=some (.cells (stCells n g1 c1 gl cl g2 c2 m.ov fl pr) TSt (0,0))
 hq:B≤qt
 n12:g1≠g2
 n13:g1≠g3
 n23:g2≠g3
section
variable {Mt:Nat→Prop} {B:Nat} {w w':World} {n g1 c1 gl cl g2 c2 g3 c3 qt:Nat} {fl pr:SH} {m:Mid}
theorem MidAt.moved (h:MidAt Mt B w n g1 c1 gl cl g2 c2 g3 c3 qt fl pr m) (k:Keep (M5 Mt g1 gl g2 g3 qt) w w') (h1:w'.heap[g1]?=w.heap[g1]?) (hl:w'.heap[gl]?=w.heap[gl]?) (h2:w'.heap[g2]?=w.heap[g2]?) (h3:w'.heap[g3]?=w.heap[g3]?) (hq:w'.heap[qt]?=w.heap[qt]?):MidAt Mt B w' n g1 c1 gl cl g2 c2 g3 c3 qt fl pr m:=by
 obtain⟨⟨a,a1,a2⟩,⟨b,b1,b2⟩,⟨c,e1,e2⟩,⟨d,d1,d2⟩,f1,f2,f3,f4,f5⟩:=h;exact⟨⟨a,a1.stay h1,a2.imp fun _ _ h=>h.keep k⟩,⟨b,b1.stay hl,b2.imp fun _ _ h=>h.keep k⟩,⟨c,e1.stay h2,e2.imp fun _ _ h=>h.keep k⟩,⟨d,d1.stay h3,d2.imp fun _ _ h=>h.keep k⟩,hq.trans f1,f2,f3,f4,f5⟩
theorem MidAt.lts (h:MidAt Mt B w n g1 c1 gl cl g2 c2 g3 c3 qt fl pr m):g1<w.heap.size∧gl<w.heap.size∧g2<w.heap.size∧g3<w.heap.size∧qt<w.heap.size:=by
 obtain⟨⟨a,a1,a2⟩,⟨b,b1,b2⟩,⟨c,e1,e2⟩,⟨d,d1,d2⟩,f1,f2,f3,f4,f5⟩:=h;exact⟨a1.typed.2.2,b1.typed.2.2,e1.typed.2.2,d1.typed.2.2,blk_lt f1⟩
theorem MidAt.bases (h:MidAt Mt B w n g1 c1 gl cl g2 c2 g3 c3 qt fl pr m):B≤g1∧B≤gl∧B≤g2∧B≤g3∧B≤qt:=by
 obtain⟨⟨a,a1,a2⟩,⟨b,b1,b2⟩,⟨c,e1,e2⟩,⟨d,d1,d2⟩,f1,f2,f3,f4,f5⟩:=h;exact⟨a1.typed.2.1,b1.typed.2.1,e1.typed.2.1,d1.typed.2.1,f2⟩
theorem MidAt.more (h:MidAt Mt B w n g1 c1 gl cl g2 c2 g3 c3 qt fl pr m) (k:Below w.heap.size w w'):MidAt Mt B w' n g1 c1 gl cl g2 c2 g3 c3 qt fl pr m:=by
 obtain⟨l1,l2,l3,l4,l5⟩:=h.lts;exact h.moved (Keep.of_below k) (k.block _ l1) (k.block _ l2) (k.block _ l3) (k.block _ l4) (k.block _ l5)
theorem MidAt.kinds (h:MidAt Mt B w n g1 c1 gl cl g2 c2 g3 c3 qt fl pr m):(gl≠g1∧gl≠g2∧gl≠g3)∧(qt≠g1∧qt≠g2∧qt≠g3)∧qt≠gl:=by
 obtain⟨⟨a,a1,a2⟩,⟨b,b1,b2⟩,⟨c,e1,e2⟩,⟨d,d1,d2⟩,f1,f2,f3,f4,f5⟩:=h;obtain⟨⟨_,t1⟩,_⟩:=a1.typed;obtain⟨⟨_,tl⟩,_⟩:=b1.typed;obtain⟨⟨_,t2⟩,_⟩:=e1.typed;obtain⟨⟨_,t3⟩,_⟩:=d1.typed;refine⟨⟨?_,?_,?_⟩,⟨?_,?_,?_⟩,?_⟩<;>intro e<;>subst e
 ·rw[tl]at t1;cases t1
 ·rw[tl]at t2;cases t2
 ·rw[tl]at t3;cases t3
 ·rw[f1]at t1;cases t1
 ·rw[f1]at t2;cases t2
 ·rw[f1]at t3;cases t3
 ·rw[f1]at tl;cases tl
theorem MidAt.put1 (h:MidAt Mt B w n g1 c1 gl cl g2 c2 g3 c3 qt fl pr m) (i:Nat) (hi:i<m.tr.length) {x:SH} {l:List Ev} (hx:EvsAt (M5 Mt g1 gl g2 g3 qt) w x l):MidAt Mt B (w.setCell ⟨g1,i,none⟩ (.slice x.A x.n x.c)) n g1 c1 gl cl g2 c2 g3 c3 qt fl pr {m with tr:=m.tr.set i l}:=by
 obtain⟨⟨k1,k2,k3⟩,⟨k4,k5,k6⟩,k7⟩:=h.kinds;have k:Keep (M5 Mt g1 gl g2 g3 qt) w (w.setCell ⟨g1,i,none⟩ (.slice x.A x.n x.c)):=Keep.set (b:=g1) (.inr (.inl rfl)) _;have f:∀j,j≠g1→(w.setCell ⟨g1,i,none⟩ (.slice x.A x.n x.c)).heap[j]?=w.heap[j]?:=fun j hj=>Below.heap_setCell w ⟨g1,i,none⟩ _ j hj;obtain⟨⟨a,a1,a2⟩,⟨b,b1,b2⟩,⟨c,e1,e2⟩,⟨d,d1,d2⟩,f1,f2,f3,f4,f5⟩:=h
 exact⟨⟨_,a1.put i (by rw[a2.len];exact hi) x,(a2.imp fun _ _ h=>h.keep k).set i (hx.keep k)⟩,⟨b,b1.stay (f _ k1),b2.imp fun _ _ h=>h.keep k⟩,⟨c,e1.stay (f _ f3.symm),e2.imp fun _ _ h=>h.keep k⟩,⟨d,d1.stay (f _ f4.symm),d2.imp fun _ _ h=>h.keep k⟩,(f _ k4).trans f1,f2,f3,f4,f5⟩
theorem MidAt.put2 (h:MidAt Mt B w n g1 c1 gl cl g2 c2 g3 c3 qt fl pr m) (i:Nat) (hi:i<m.bx.length) {x:SH} {l:List Ev} (hx:EvsAt (M5 Mt g1 gl g2 g3 qt) w x l):MidAt Mt B (w.setCell ⟨g2,i,none⟩ (.slice x.A x.n x.c)) n g1 c1 gl cl g2 c2 g3 c3 qt fl pr {m with bx:=m.bx.set i l}:=by
 obtain⟨⟨k1,k2,k3⟩,⟨k4,k5,k6⟩,k7⟩:=h.kinds;have k:Keep (M5 Mt g1 gl g2 g3 qt) w (w.setCell ⟨g2,i,none⟩ (.slice x.A x.n x.c)):=Keep.set (b:=g2) (.inr (.inr (.inr (.inl rfl)))) _;have f:∀j,j≠g2→(w.setCell ⟨g2,i,none⟩ (.slice x.A x.n x.c)).heap[j]?=w.heap[j]?:=fun j hj=>Below.heap_setCell w ⟨g2,i,none⟩ _ j hj;obtain⟨⟨a,a1,a2⟩,⟨b,b1,b2⟩,⟨c,e1,e2⟩,⟨d,d1,d2⟩,f1,f2,f3,f4,f5⟩:=h
 exact⟨⟨a,a1.stay (f _ f3),a2.imp fun _ _ h=>h.keep k⟩,⟨b,b1.stay (f _ k2),b2.imp fun _ _ h=>h.keep k⟩,⟨_,e1.put i (by rw[e2.len];exact hi) x,(e2.imp fun _ _ h=>h.keep k).set i (hx.keep k)⟩,⟨d,d1.stay (f _ f5.symm),d2.imp fun _ _ h=>h.keep k⟩,(f _ k5).trans f1,f2,f3,f4,f5⟩
theorem MidAt.put3 (h:MidAt Mt B w n g1 c1 gl cl g2 c2 g3 c3 qt fl pr m) (i:Nat) (hi:i<m.sn.length) {x:SH} {l:List Ev} (hx:EvsAt (M5 Mt g1 gl g2 g3 qt) w x l):MidAt Mt B (w.setCell ⟨g3,i,none⟩ (.slice x.A x.n x.c)) n g1 c1 gl cl g2 c2 g3 c3 qt fl pr {m with sn:=m.sn.set i l}:=by
 obtain⟨⟨k1,k2,k3⟩,⟨k4,k5,k6⟩,k7⟩:=h.kinds;have k:Keep (M5 Mt g1 gl g2 g3 qt) w (w.setCell ⟨g3,i,none⟩ (.slice x.A x.n x.c)):=Keep.set (b:=g3) (.inr (.inr (.inr (.inr (.inl rfl))))) _;have f:∀j,j≠g3→(w.setCell ⟨g3,i,none⟩ (.slice x.A x.n x.c)).heap[j]?=w.heap[j]?:=fun j hj=>Below.heap_setCell w ⟨g3,i,none⟩ _ j hj;obtain⟨⟨a,a1,a2⟩,⟨b,b1,b2⟩,⟨c,e1,e2⟩,⟨d,d1,d2⟩,f1,f2,f3,f4,f5⟩:=h
 exact⟨⟨a,a1.stay (f _ f4),a2.imp fun _ _ h=>h.keep k⟩,⟨b,b1.stay (f _ k3),b2.imp fun _ _ h=>h.keep k⟩,⟨c,e1.stay (f _ f5),e2.imp fun _ _ h=>h.keep k⟩,⟨_,d1.put i (by rw[d2.len];exact hi) x,(d2.imp fun _ _ h=>h.keep k).set i (hx.keep k)⟩,(f _ k6).trans f1,f2,f3,f4,f5⟩
theorem MidAt.putL (h:MidAt Mt B w n g1 c1 gl cl g2 c2 g3 c3 qt fl pr m) (i:Nat) (hi:i<m.lps.length) {x:SLp} {l:Lp} (hx:LpAt (M5 Mt g1 gl g2 g3 qt) w x l):MidAt Mt B (w.setCells gl (i*4) x.cells) n g1 c1 gl cl g2 c2 g3 c3 qt fl pr {m with lps:=m.lps.set i l}:=by
 obtain⟨⟨k1,k2,k3⟩,⟨k4,k5,k6⟩,k7⟩:=h.kinds;have hg:=grown_cells (g:=gl) x.cells w (i*4);have k:Keep (M5 Mt g1 gl g2 g3 qt) w (w.setCells gl (i*4) x.cells):=Keep.grown hg fun j hj=>by cases hj;exact .inr (.inr (.inl rfl))
 obtain⟨l1,l2,l3,l4,l5⟩:=h.lts;have f:∀j,j≠gl→j<w.heap.size→(w.setCells gl (i*4) x.cells).heap[j]?=w.heap[j]?:=fun j hj hl=>hg.block j hl (fun e=>by cases e;exact hj rfl);obtain⟨⟨a,a1,a2⟩,⟨b,b1,b2⟩,⟨c,e1,e2⟩,⟨d,d1,d2⟩,f1,f2,f3,f4,f5⟩:=h;exact⟨⟨a,a1.stay (f _ k1.symm l1),a2.imp fun _ _ h=>h.keep k⟩,⟨_,(b1.put i (by rw[b2.len];exact hi) x).1,(b2.imp fun _ _ h=>h.keep k).set i (hx.keep k)⟩,⟨c,e1.stay (f _ k2.symm l3),e2.imp fun _ _ h=>h.keep k⟩,⟨d,d1.stay (f _ k3.symm l4),d2.imp fun _ _ h=>h.keep k⟩,(f _ k7 l5).trans f1,f2,f3,f4,f5⟩
theorem MidAt.putOv (h:MidAt Mt B w n g1 c1 gl cl g2 c2 g3 c3 qt fl pr m) (v:Bool):MidAt Mt B (w.setCell ⟨qt,3,none⟩ (.bool v)) n g1 c1 gl cl g2 c2 g3 c3 qt fl pr {m with ov:=v}:=by
 obtain⟨⟨k1,k2,k3⟩,⟨k4,k5,k6⟩,k7⟩:=h.kinds;have k:Keep (M5 Mt g1 gl g2 g3 qt) w (w.setCell ⟨qt,3,none⟩ (.bool v)):=Keep.set (b:=qt) (.inr (.inr (.inr (.inr (.inr rfl))))) _;have f:∀j,j≠qt→(w.setCell ⟨qt,3,none⟩ (.bool v)).heap[j]?=w.heap[j]?:=fun j hj=>Below.heap_setCell w ⟨qt,3,none⟩ _ j hj;obtain⟨⟨a,a1,a2⟩,⟨b,b1,b2⟩,⟨c,e1,e2⟩,⟨d,d1,d2⟩,f1,f2,f3,f4,f5⟩:=h
 exact⟨⟨a,a1.stay (f _ k4.symm),a2.imp fun _ _ h=>h.keep k⟩,⟨b,b1.stay (f _ k7.symm),b2.imp fun _ _ h=>h.keep k⟩,⟨c,e1.stay (f _ k5.symm),e2.imp fun _ _ h=>h.keep k⟩,⟨d,d1.stay (f _ k6.symm),d2.imp fun _ _ h=>h.keep k⟩,blk_put f1 3 _ rfl,f2,f3,f4,f5⟩
theorem MidAt.cells (h:MidAt Mt B w n g1 c1 gl cl g2 c2 g3 c3 qt fl pr m):∀j u,(stCells n g1 c1 gl cl g2 c2 m.ov fl pr)[j]?=some u→w.cell? ⟨qt,j,none⟩=some u:=fun j u hu=>by
 simp only[World.cell?,h.blk];exact hu
theorem MidAt.mt (h:MidAt Mt B w n g1 c1 gl cl g2 c2 g3 c3 qt fl pr m) (hM:∀k,Mt k→k<w.heap.size) (k:Nat) (hk:M5 Mt g1 gl g2 g3 qt k):k<w.heap.size:=by
 obtain⟨l1,l2,l3,l4,l5⟩:=h.lts;rcases hk with hk|rfl|rfl|rfl|rfl|rfl
 ·exact hM k hk
 ·exact l1
 ·exact l2
 ·exact l3
 ·exact l4
 ·exact l5
end
def Mid.step (F:Nat→Oc) (m:Mid) (i:Nat):Mid:={tr:=m.tr.set i (m.tr.getD i []++(F i).com),lps:=m.lps.set i (F i).lp,bx:=m.bx.set i (F i).box,sn:=m.sn.set i (F i).sent,ov:=m.ov||(F i).ov}
end
def ocAt (progs:List (List OpC)) (hz:Int) (p:Ps) (i:Nat):Oc:=Oc.run progs hz 2000 (p.outs.getD i ⟨⟨0,0,[],0⟩,[],[],[],false⟩)
theorem set_self_map {α:Type} (l:List α) (i:Nat) (d:α) (f:α→α):(l.set i (f (l.getD i d)))[i]?=l[i]?.map f:=by
 rw[List.getElem?_set,if_pos rfl]
 split
 ·rename_i h;rw[List.getD_eq_getElem?_getD,List.getElem?_eq_getElem h];rfl
 ·rename_i h;rw[List.getElem?_eq_none (by omega)];rfl
theorem set_self_const {α:Type} (l:List α) (i:Nat) (x:α):(l.set i x)[i]?=l[i]?.map fun _=>x:=by
 rw[List.getElem?_set,if_pos rfl]
 split
 ·rename_i h;rw[List.getElem?_eq_getElem h];rfl
 ·rename_i h;rw[List.getElem?_eq_none (by omega)];rfl
theorem steps_at (F:Nat→Oc):∀(js:List Nat) (m:Mid),js.Nodup→(∀i,(js.foldl (Mid.step F) m).tr[i]?=if i∈js then m.tr[i]?.map (·++(F i).com)else m.tr[i]?)∧(∀i,(js.foldl (Mid.step F) m).lps[i]?=if i∈js then m.lps[i]?.map (fun _=>(F i).lp)else m.lps[i]?)∧
  (∀i,(js.foldl (Mid.step F) m).bx[i]?=if i∈js then m.bx[i]?.map (fun _=>(F i).box)else m.bx[i]?)∧(∀i,(js.foldl (Mid.step F) m).sn[i]?=if i∈js then m.sn[i]?.map (fun _=>(F i).sent)else m.sn[i]?)∧(js.foldl (Mid.step F) m).ov=(m.ov||js.any fun i=>(F i).ov)
 | [],m,_=>by simp
 |j::js,m,h=>by
  obtain⟨hj,hn⟩:=List.nodup_cons.1 h;obtain⟨a,b,c,d,e⟩:=steps_at F js (m.step F j) hn;simp only[List.foldl_cons];refine⟨fun i=> ?_,fun i=> ?_,fun i=> ?_,fun i=> ?_,?_⟩
  ·rw[a i];by_cases hij:j=i
   ·subst hij;rw[if_neg hj,if_pos List.mem_cons_self];exact set_self_map m.tr j [] (·++(F j).com)
   ·rw[show(m.step F j).tr[i]?=m.tr[i]?from List.getElem?_set_ne hij];simp only[List.mem_cons,Ne.symm hij,false_or]
  ·rw[b i];by_cases hij:j=i
   ·subst hij;rw[if_neg hj,if_pos List.mem_cons_self];exact set_self_const m.lps j _
   ·rw[show(m.step F j).lps[i]?=m.lps[i]?from List.getElem?_set_ne hij];simp only[List.mem_cons,Ne.symm hij,false_or]
  ·rw[c i];by_cases hij:j=i
   ·subst hij;rw[if_neg hj,if_pos List.mem_cons_self];exact set_self_const m.bx j _
   ·rw[show(m.step F j).bx[i]?=m.bx[i]?from List.getElem?_set_ne hij];simp only[List.mem_cons,Ne.symm hij,false_or]
  ·rw[d i];by_cases hij:j=i
   ·subst hij;rw[if_neg hj,if_pos List.mem_cons_self];exact set_self_const m.sn j _
   ·rw[show(m.step F j).sn[i]?=m.sn[i]?from List.getElem?_set_ne hij];simp only[List.mem_cons,Ne.symm hij,false_or]
  ·rw[e,List.any_cons,←Bool.or_assoc];rfl
theorem ends_range {progs:List (List OpC)} {hz:Int} {p:Ps} {n:Nat} (h:p.outs.length=n):p.ends progs hz=(List.range n).map (ocAt progs hz p):=by
 subst h;refine List.ext_getElem? fun i=> ?_;unfold Ps.ends ocAt;rw[List.getElem?_map,List.getElem?_map];by_cases hi:i<p.outs.length
 ·rw[List.getElem?_range hi,List.getElem?_eq_getElem hi];simp only[Option.map_some,List.getD_eq_getElem?_getD,List.getElem?_eq_getElem hi,Option.getD_some]
 ·rw[List.getElem?_eq_none (by omega),List.getElem?_eq_none (by simp;omega)];rfl
theorem steps_end {progs:List (List OpC)} {hz:Int} {p:Ps} {n:Nat} {prs:List (Int×Int)} (hn:p.outs.length=n) (ht:p.tr.length=n) (hl:p.lps.length=n) (hb:p.bx.length=n) (hnd:(prs.map Prod.fst).Nodup) (h0:∀x∈prs,0≤x.1∧x.1<n) (hall:∀i,i<n→∃x∈prs,x.1=(i:Int)) (ov:Bool):
  prs.foldl (fun m x=>Mid.step (ocAt progs hz p) m x.1.toNat) ⟨p.tr,p.lps,p.bx,List.replicate n [],ov⟩=
   ⟨List.zipWith (·++·) p.tr ((p.ends progs hz).map Oc.com),(p.ends progs hz).map Oc.lp,(p.ends progs hz).map Oc.box,(p.ends progs hz).map Oc.sent,ov||(p.ends progs hz).any Oc.ov⟩:=by
 obtain⟨js,hjs⟩:∃js,prs.map (fun x=>x.1.toNat)=js:=⟨_,rfl⟩;have hf:prs.foldl (fun m x=>Mid.step (ocAt progs hz p) m x.1.toNat) ⟨p.tr,p.lps,p.bx,List.replicate n [],ov⟩=js.foldl (Mid.step (ocAt progs hz p)) ⟨p.tr,p.lps,p.bx,List.replicate n [],ov⟩:=by rw[←hjs,List.foldl_map]
 have hjn:js.Nodup:=by
  rw[←hjs,List.nodup_iff_pairwise_ne,List.pairwise_map];rw[List.nodup_iff_pairwise_ne,List.pairwise_map]at hnd;refine List.Pairwise.imp_of_mem (fun{a b} ha hb h e=>h ?_) hnd;have:=h0 a ha;have:=h0 b hb;omega
 have hin:∀i,i∈js↔i<n:=fun i=>by
  rw[←hjs,List.mem_map];constructor
  ·rintro⟨x,hx,rfl⟩;have:=h0 x hx;omega
  ·intro hi;obtain⟨x,hx,e⟩:=hall i hi;exact⟨x,hx,by omega⟩
 obtain⟨a,b,c,d,e⟩:=steps_at (ocAt progs hz p) js ⟨p.tr,p.lps,p.bx,List.replicate n [],ov⟩ hjn;rw[hf];obtain⟨M,hM⟩:∃M,js.foldl (Mid.step (ocAt progs hz p)) ⟨p.tr,p.lps,p.bx,List.replicate n [],ov⟩=M:=⟨_,rfl⟩;rw[hM]at a b c d e ⊢;rw[ends_range hn];obtain⟨mt,ml,mb,ms,mo⟩:=M;simp only at a b c d e
 congr 1
 ·refine List.ext_getElem? fun i=> ?_;rw[a i,List.getElem?_zipWith,List.getElem?_map,List.getElem?_map];by_cases hi:i<n
  ·rw[if_pos ((hin i).2 hi),List.getElem?_eq_getElem (by omega:i<p.tr.length),List.getElem?_range hi];rfl
  ·rw[if_neg (fun h=>hi ((hin i).1 h)),List.getElem?_eq_none (by omega)]
 ·refine List.ext_getElem? fun i=> ?_;rw[b i,List.getElem?_map,List.getElem?_map];by_cases hi:i<n
  ·rw[if_pos ((hin i).2 hi),List.getElem?_eq_getElem (by omega:i<p.lps.length),List.getElem?_range hi];rfl
  ·rw[if_neg (fun h=>hi ((hin i).1 h)),List.getElem?_eq_none (by omega),List.getElem?_eq_none (by simp;omega)];rfl
 ·refine List.ext_getElem? fun i=> ?_;rw[c i,List.getElem?_map,List.getElem?_map];by_cases hi:i<n
  ·rw[if_pos ((hin i).2 hi),List.getElem?_eq_getElem (by omega:i<p.bx.length),List.getElem?_range hi];rfl
  ·rw[if_neg (fun h=>hi ((hin i).1 h)),List.getElem?_eq_none (by omega),List.getElem?_eq_none (by simp;omega)];rfl
 ·refine List.ext_getElem? fun i=> ?_;rw[d i,List.getElem?_map,List.getElem?_map];by_cases hi:i<n
  ·rw[if_pos ((hin i).2 hi),List.getElem?_replicate,if_pos hi,List.getElem?_range hi];rfl
  ·rw[if_neg (fun h=>hi ((hin i).1 h)),List.getElem?_eq_none (by simp;omega),List.getElem?_eq_none (by simp;omega)];rfl
 ·rw[e,List.any_map]
  congr 1
  rw[Bool.eq_iff_iff,List.any_eq_true,List.any_eq_true];constructor
  ·rintro⟨i,hi,h⟩;exact⟨i,List.mem_range.2 ((hin i).1 hi),h⟩
  ·rintro⟨i,hi,h⟩;exact⟨i,(hin i).2 (List.mem_range.1 hi),h⟩
theorem row_cells {α:Type} {d:Kd α} {enc:α→Value} (hs:d.sz=1) (hK:∀{w x cs},d.K w x cs→cs=[enc x]) {w:World} {A:Option Addr} {n:Nat} {xs:List α} (h:Kd.C d w A n xs):∀b,A=some b→∀j u,(xs.map enc)[j]?=some u→w.cell? (b.add j)=some u:=by
 intro b hb j u hu;rw[List.getElem?_map]at hu;cases hx:xs[j]?with
 |none=>rw[hx]at hu;cases hu
 |some x=>
  rw[hx]at hu;have hn:0<n:=by
   have h1:=h.1;have h2:=(List.getElem?_eq_some_iff.1 hx).1;omega
  obtain⟨ad,e,hc⟩:=h.2.2 hn;obtain⟨c,_,hk,hcell⟩:=hc j x hx;obtain rfl:=hK hk;have h3:=hcell 0 (enc x) rfl;rw[hs,Nat.mul_one,Nat.add_zero]at h3;rw[hb]at e;cases e;cases hu;exact h3
theorem append_clip {α:Type} {d:Kd α} {enc:α→Value} (hsz:d.sz=1) (hK:∀{w x cs},d.K w x cs→cs=[enc x]) (hM:∀w base ok x,d.M w base ok x [enc x]) {P:Program} {ops:Array Oper} {rest:List Oper} {o:Oper} {a:Act} {Q:Exit→Act→World→Prop} {W:World}
  (hg:o.guard=none) (s x:Operand) (t e:TypeId) (z:Value) (bytes:Nat) (ho:o.op= .call {callee:= .builtin .append,args:= #[s,x],argTypes:= #[t,t]}) (ht:P.underlying t=some (.slice e)) (hinfo:(P.info? e).map (fun i=>(i.zero,i.size,i.bytes))=some (some z,1,bytes)) (hz:z.cells.size=1)
  {A:Option Addr} {n:Nat} {xs:List α} (hr:Kd.C d W A n xs) (p:α) (h1:(enc p).oneCell'=true) (hs:a.eval s= .slice A n n) (hx:a.eval x= .slice (some ⟨W.heap.size,0,none⟩) 1 1) (hn:n≤1000000) (hby:bytes≤1000)
  (h:∀v1 w1,d.R e w1 W.heap.size (fun _=>True) v1 (xs++[p])→Below W.heap.size W w1→wpList P ops Q rest (a.put o.dst v1) w1):wpList P ops Q (o::rest) a (W.alloc (.cells #[enc p] e)):=by
 cases hi:P.info? e with
 |none=>rw[hi]at hinfo;cases hinfo
 |some i=>
  rw[hi]at hinfo;simp only[Option.map_some,Option.some.injEq,Prod.mk.injEq]at hinfo;obtain⟨i1,i2,i3⟩:=hinfo;have hlen:xs.length=n:=hr.1;have hb0:=below_alloc (Below.refl W.heap.size W) (.cells #[enc p] e);refine wpList_append_grows _ hg s x t ho e i z 1 bytes ht hi i1 i2 i3 hz (by omega) A n n (xs.map enc) hs (fun hA=> ?_) (by rw[List.length_map];omega) (row_cells hsz hK (Kd.C_below hr hb0)) ⟨W.heap.size,0,none⟩ 1 1 [enc p] hx rfl (fun j u hu=> ?_) (fun u hu=>by rw[List.mem_singleton.1 hu];exact h1) (by omega) (by unfold maxLen;omega) ?_ fun v' w' hown hgrow=> ?_
  ·rcases Nat.eq_zero_or_pos n with h3|h3
   ·exact⟨h3,h3⟩
   ·obtain⟨ad,e1,_⟩:=hr.2.2 h3;rw[hA]at e1;cases e1
  ·cases j with
   |succ j=>simp at hu
   |zero=>
    cases hu;have h9:=World.alloc_heap_new W (.cells #[enc p] e);show World.cell? _ ⟨W.heap.size,0,none⟩=some (enc p);simp only[World.cell?];rw[h9];rfl
  ·have:(n+1)*bytes≤(n+1)*1000:=Nat.mul_le_mul_left _ hby;omega
  ·have hb1:Below W.heap.size W w':=hb0.trans ⟨hgrow.os,hgrow.tape,hgrow.output,hgrow.size,fun k hk=>hgrow.block k (Nat.lt_of_lt_of_le hk hb0.size) (by simp)⟩;refine h v' w' ⟨fun _ _=>trivial,(xs++[p]).map enc,?_,?_⟩ hb1
   ·rw[hsz,List.length_append,List.length_singleton,hlen,List.map_append];exact own_weaken hown (by rw[World.size_alloc];omega)
   ·refine⟨by rw[hsz,List.length_map,Nat.mul_one],fun j q hq=> ?_⟩;rw[hsz,Nat.mul_one];have h5:((xs++[p]).map enc)[j]?=some (enc q):=by rw[List.getElem?_map,hq];rfl
    obtain⟨h6,h7⟩:=List.getElem?_eq_some_iff.1 h5;rw[List.drop_eq_getElem_cons h6,h7];exact hM _ _ _ _
end Go.Proofs.YtfnimdhghglanaaGreat.Hand
end
section
namespace Go.Proofs.YtfnimdhghglanaaGreat.Hand
open Go Go.Proofs.YtfnimdhghglanaaGreatW.PrintLast
section
def subs:List Nat→List (List Nat)
 | []=>[[]]
 |c::l=>subs l++(subs l).map (c::·)
theorem subs_filter (p:Nat→Bool):∀l:List Nat,l.filter p∈subs l
 | []=>by simp[subs]
 |c::l=>by
  have:=subs_filter p l;unfold subs;by_cases h:p c=true
  ·rw[List.filter_cons_of_pos h];exact List.mem_append.2 (.inr (List.mem_map.2 ⟨_,this,rfl⟩))
  ·rw[List.filter_cons_of_neg h];exact List.mem_append.2 (.inl this)
def mark (l:Array Bool) (D:Nat→Bool):Array Bool:=l.mapIdx fun i b=>b||D i
theorem mark_set {l:Array Bool} {D:Nat→Bool} {c:Nat}:(mark l D).setIfInBounds c true=mark l fun i=>i==c||D i:=by
 refine Array.ext (by simp[mark]) fun i h1 h2=> ?_;have hi:i<l.size:=by simpa [mark]using h2
 by_cases hc:c=i
 ·subst hc;simp[mark]
 ·rw[Array.getElem_setIfInBounds (by simpa [mark]using hi),if_neg hc];have:(i==c)=false:=by simpa using fun h=>hc h.symm
  simp[mark,this]
def compB (md:Region.Mode) (ops:Array Oper) (ds:List Nat) (l l':Array Bool) (Cs:List Nat) (deps:Nat→List Nat):Bool:=
 ((subs Cs).all fun D=> !(D.all fun c=>(deps c).all D.contains)||(D.length==Cs.length||((Region.ready md ops (mark l D.contains)).all fun i=>Cs.contains i&& !D.contains i&&(deps i).all D.contains)&& !(Region.ready md ops (mark l D.contains)).isEmpty))&&
 Cs.all (fun c=> !ds.contains c)&&mark l Cs.contains==l'&&mark l (fun _=>false)==l
theorem filter_less {D:Nat→Bool} {i:Nat} (hD:D i=false):∀{Cs:List Nat},Cs.Nodup→i∈Cs→(Cs.filter fun c=> !D c).length=(Cs.filter fun c=> !(c==i||D c)).length+1
 | [],_,hi=>by cases hi
 |c::l,hn,hi=>by
  obtain⟨h1,h2⟩:=List.nodup_cons.1 hn;by_cases hc:c=i
  ·subst hc;rw[List.filter_cons_of_pos (by simp[hD]),List.filter_cons_of_neg (by simp),List.length_cons]
   congr 2
   refine List.filter_congr fun b hb=> ?_;have:(b==c)=false:=by
    rw[beq_eq_false_iff_ne];rintro rfl;exact h1 hb
   rw[this,Bool.false_or]
  ·have ih:=filter_less hD h2 ((List.mem_cons.1 hi).resolve_left fun e=>hc e.symm);have hb:(c==i)=false:=by simpa using hc
   cases hDc:D c with
   |true=>rw[List.filter_cons_of_neg (by simp[hDc]),List.filter_cons_of_neg (by simp[hDc]),ih]
   |false=>rw[List.filter_cons_of_pos (by simp[hDc]),List.filter_cons_of_pos (by simp[hDc,hb]),List.length_cons,List.length_cons,ih]
def upd (x:Nat→Value) (c:Nat) (v:Value):Nat→Value:=fun i=>if i=c then v else x i
section
variable {P:Program} {ops:Array Oper} {Q:Exit→Act→World→Prop} {md:Region.Mode} {S:World→Prop} {ds:List Nat}
def CompStep (P:Program) (ops:Array Oper) (Q:Exit→Act→World→Prop) (deps:Nat→List Nat) (mk:(Nat→Value)→Act) (I:(Nat→Bool)→(Nat→Value)→World→Prop) (c:Nat):Prop:=
 ∃oi N,ops[c]?=some oi∧oi.dst=some N∧(∀x v,(mk x).put (some N) v=mk (upd x c v))∧∀D x w,I D x w→D c=false→(∀d∈deps c,D d=true)→∀K:Act→World→Prop,(∀v w',I (fun i=>i==c||D i) (upd x c v) w'→K ((mk x).put (some N) v) w')→
  if Region.wanted oi (yielded ops (mk x).tmps)=true then Oper.wp P oi (mk x) w K Q else K ((mk x).put (some N) undef) w
theorem comp_ {fuel:Nat} {l:Array Bool} {a:Act} {w:World} (l':Array Bool) (Cs:List Nat) (deps:Nat→List Nat) (mk:(Nat→Value)→Act) (x0:Nat→Value) (I:(Nat→Bool)→(Nat→Value)→World→Prop)
  (hc:compB md ops ds l l' Cs deps=true) (hn':Cs.Nodup) (ha:a=mk x0) (hB:∀D x w,I D x w→S w) (hw:I (fun _=>false) x0 w) (hs:∀c∈Cs,CompStep P ops Q deps mk I c)
  (hk:∀x w',I Cs.contains x w'→wpAnyLast P md ops Q S ds fuel l' (mk x) w'):wpAnyLast P md ops Q S ds (fuel+Cs.length) l a w:=by
 simp only[compB,Bool.and_eq_true,beq_iff_eq]at hc;obtain⟨⟨⟨h1,h2⟩,h3⟩,h4⟩:=hc;have key:∀(k:Nat) (D:Nat→Bool) (x:Nat→Value) (w:World),(Cs.filter fun c=> !D c).length=k→(∀c,D c=true→c∈Cs∧∀d∈deps c,D d=true)→I D x w→wpAnyLast P md ops Q S ds (fuel+k) (mark l D) (mk x) w:=by
  intro k
  induction k with
  |zero=>
   intro D x w hn hD hBw;have hall:∀c∈Cs,D c=true:=fun c hc=>by
    by_cases h:D c=true
    ·exact h
    ·have h5:c∈Cs.filter fun c=> !D c:=List.mem_filter.2 ⟨hc,by simpa using h⟩;rw[List.eq_nil_of_length_eq_zero hn]at h5;cases h5
   have hDe:D=Cs.contains:=by
    funext i
    rw[Bool.eq_iff_iff,List.contains_iff_mem];exact⟨fun h=>(hD i h).1,fun h=>hall i h⟩
   rw[hDe]at hBw ⊢;rw[h3];exact hk x w hBw
  |succ k ih=>
   intro D x w hn hD hBw;have hDe:(fun i=>(Cs.filter D).contains i)=D:=by
    funext i
    rw[Bool.eq_iff_iff,List.contains_iff_mem,List.mem_filter];exact⟨fun h=>h.2,fun h=>⟨(hD i h).1,h⟩⟩
   have h5:=List.all_eq_true.1 h1 _ (subs_filter D Cs);have h6:((Cs.filter D).all fun c=>(deps c).all (Cs.filter D).contains)=true:=List.all_eq_true.2 fun c hc=>List.all_eq_true.2 fun d hd=>by
    rw[show(Cs.filter D).contains d=D d from congrFun hDe d];exact(hD c (List.mem_filter.1 hc).2).2 d hd
   rw[h6]at h5;have hmk:mark l (Cs.filter D).contains=mark l D:=congrArg (mark l) hDe;simp only[Bool.not_true,Bool.false_or,Bool.and_eq_true,Bool.or_eq_true,hmk]at h5;have h9:(Cs.filter D).length+(Cs.filter fun c=> !D c).length=Cs.length:=by
    have:=(filter_split D Cs).length_eq;rw[List.length_append]at this;exact this
   obtain⟨h7,h8⟩:=h5.resolve_left fun h10=>by
    have h11:(Cs.filter D).length=Cs.length:=by simpa using h10
    omega
   have hne:Region.ready md ops (mark l D)≠[]:=fun h10=>by
    rw[h10]at h8;cases h8
   refine⟨fun h=>absurd h hne,fun i hi=> ?_⟩;have h9:=List.all_eq_true.1 h7 i hi;simp only[Bool.and_eq_true]at h9;obtain⟨⟨hiC,hiD⟩,hid⟩:=h9;rw[show(Cs.filter D).contains i=D i from congrFun hDe i]at hiD;have hiC':i∈Cs:=List.contains_iff_mem.1 hiC;have hiD':D i=false:=by simpa using hiD
   have hdd:∀d∈deps i,D d=true:=fun d hd=>by
    have:=List.all_eq_true.1 hid d hd
    rwa [show(Cs.filter D).contains d=D d from congrFun hDe d]at this
   obtain⟨oi,N,ho,hdst,hput,hstep⟩:=hs i hiC';refine wpOp_step ho fun K' hK'=> ?_;rw[hdst];refine hstep D x w hBw hiD' hdd K' fun v w' hB'=>hK' _ _ ⟨fun _ _=>hB _ _ w' hB',?_⟩;rw[hput,mark_set];refine ih _ _ _ ?_ (fun c hc=> ?_) hB'
   ·have:=filter_less hiD' hn' hiC';omega
   ·simp only[Bool.or_eq_true,beq_iff_eq]at hc ⊢;rcases hc with rfl|hc
    ·exact⟨hiC',fun d hd=> .inr (hdd d hd)⟩
    ·exact⟨(hD c hc).1,fun d hd=> .inr ((hD c hc).2 d hd)⟩
 have h0:=key Cs.length (fun _=>false) x0 w (by simp) (fun c hc=>by cases hc) hw;rw[h4]at h0;exact ha▸h0
theorem put_self (a:Act) (t:Tmp):a.put (some t) (a.tmps.getD t undef)=a:=by
 have h:a.tmps.setIfInBounds t (a.tmps.getD t undef)=a.tmps:=by
  refine Array.ext (by simp) fun i h1 h2=> ?_;rw[Array.getElem_setIfInBounds h2]
  split
  ·rename_i e;subst e;simp[h2]
  ·rfl
 show({a with tmps:=a.tmps.setIfInBounds t (a.tmps.getD t undef)}:Act)=a;rw[h]
theorem putAll_self (a:Act):∀L:List (Tmp×Value),(∀q∈L,q.2=a.tmps.getD q.1 undef)→putAll a L=a
 | [],_=>rfl
 |(t,v)::L,h=>by
  have h1:v=a.tmps.getD t undef:=h (t,v) List.mem_cons_self;show putAll (a.put (some t) v) L=a;rw[h1,put_self];exact putAll_self a L fun q hq=>h q (List.mem_cons_of_mem _ hq)
theorem putAll_put (N:Tmp) (v:Value):∀(L:List (Tmp×Value)) (a:Act),(∀q∈L,q.1≠N)→(putAll a L).put (some N) v=putAll (a.put (some N) v) L
 | [],_,_=>rfl
 |(t,u)::L,a,h=>by
  show(putAll (a.put (some t) u) L).put (some N) v=putAll ((a.put (some N) v).put (some t) u) L;rw[putAll_put N v L _ fun q hq=>h q (List.mem_cons_of_mem _ hq),Act.put_comm a u v fun d hd e=>h (t,u) List.mem_cons_self (by cases hd;cases e;rfl)]
theorem put_put (a:Act) (N:Tmp) (u v:Value):(a.put (some N) u).put (some N) v=a.put (some N) v:=by
 show({a with tmps:=(a.tmps.setIfInBounds N u).setIfInBounds N v}:Act)={a with tmps:=a.tmps.setIfInBounds N v};rw[Array.setIfInBounds_setIfInBounds]
abbrev mkA (a:Act) (sl:List (Nat×Tmp)) (x:Nat→Value):Act:=putAll a (sl.map fun p=>(p.2,x p.1))
theorem mkA_put {c:Nat} {N:Tmp} (x:Nat→Value) (v:Value):∀(sl:List (Nat×Tmp)) (a:Act),(sl.map Prod.fst).Nodup→(sl.map Prod.snd).Nodup→(c,N)∈sl→(mkA a sl x).put (some N) v=mkA a sl (upd x c v)
 | [],_,_,_,h=>by cases h
 |(d,t)::sl,a,h1,h2,h=>by
  obtain⟨n1,h1⟩:=List.nodup_cons.1 h1;obtain⟨n2,h2⟩:=List.nodup_cons.1 h2;rcases List.mem_cons.1 h with e|h
  ·cases e;have hu:sl.map (fun p=>(p.2,upd x c v p.1))=sl.map (fun p=>(p.2,x p.1)):=List.map_congr_left fun p hp=>by
    have:p.1≠c:=fun e=>n1 (List.mem_map.2 ⟨p,hp,e⟩);simp[upd,this]
   show(putAll (a.put (some N) (x c)) (sl.map fun p=>(p.2,x p.1))).put (some N) v=putAll (a.put (some N) (upd x c v c)) (sl.map fun p=>(p.2,upd x c v p.1));rw[putAll_put N v _ _ fun q hq=>by
    obtain⟨p,hp,rfl⟩:=List.mem_map.1 hq;exact fun e=>n2 (List.mem_map.2 ⟨p,hp,e⟩),put_put,hu]
   simp[upd]
  ·have hd:d≠c:=fun e=>n1 (List.mem_map.2 ⟨(c,N),h,e.symm⟩);show(mkA (a.put (some t) (x d)) sl x).put (some N) v=mkA (a.put (some t) (upd x c v d)) sl (upd x c v);rw[mkA_put x v sl _ h1 h2 h];simp[upd,hd]
def CompStepA (P:Program) (ops:Array Oper) (Q:Exit→Act→World→Prop) (deps:Nat→List Nat) (a:Act) (sl:List (Nat×Tmp)) (I:(Nat→Bool)→(Nat→Value)→World→Prop) (c:Nat):Prop:=
 ∃oi N,ops[c]?=some oi∧oi.dst=some N∧(c,N)∈sl∧∀D x w,I D x w→D c=false→(∀d∈deps c,D d=true)→∀a',a'=mkA a sl x→∀K:Act→World→Prop,(∀v w',I (fun i=>i==c||D i) (upd x c v) w'→K (a'.put (some N) v) w')→
  if Region.wanted oi (yielded ops a'.tmps)=true then Oper.wp P oi a' w K Q else K (a'.put (some N) undef) w
theorem compA_ {fuel:Nat} {l:Array Bool} {a:Act} {w:World} (l':Array Bool) (sl:List (Nat×Tmp)) (deps:Nat→List Nat) (I:(Nat→Bool)→(Nat→Value)→World→Prop)
  (hc:compB md ops ds l l' (sl.map Prod.fst) deps=true) (h1:(sl.map Prod.fst).Nodup) (h2:(sl.map Prod.snd).Nodup) (hB:∀D x w,I D x w→S w) (hw:∀x,I (fun _=>false) x w) (hs:∀c∈sl.map Prod.fst,CompStepA P ops Q deps a sl I c)
  (hk:∀x w',I (sl.map Prod.fst).contains x w'→wpAnyLast P md ops Q S ds fuel l' (mkA a sl x) w'):wpAnyLast P md ops Q S ds (fuel+sl.length) l a w:=by
 have h0:=comp_ (P:=P) (Q:=Q) (fuel:=fuel) (a:=a) (w:=w) l' (sl.map Prod.fst) deps (mkA a sl) (fun c=>match sl.find? fun p=>p.1==c with|some p=>a.tmps.getD p.2 undef|none=>undef) I hc h1 ?_ hB (hw _) (fun c hc=> ?_) hk
 ·rwa [List.length_map]at h0
 ·refine(putAll_self a _ fun q hq=> ?_).symm;obtain⟨p,hp,rfl⟩:=List.mem_map.1 hq;have:sl.find? (fun q=>q.1==p.1)=some p:=by
   clear hq hs hk hc h2
   induction sl with
   |nil=>cases hp
   |cons q sl ih=>
    obtain⟨n1,h1'⟩:=List.nodup_cons.1 h1;rcases List.mem_cons.1 hp with rfl|hp
    ·simp
    ·have hne:(q.1==p.1)=false:=by
      rw[beq_eq_false_iff_ne];exact fun e=>n1 (List.mem_map.2 ⟨p,hp,e.symm⟩)
     rw[List.find?_cons,hne];exact ih h1' hp
  simp only[this]
 ·obtain⟨oi,N,e1,e2,e3,e4⟩:=hs c hc;exact⟨oi,N,e1,e2,fun x v=>mkA_put x v sl a h1 h2 e3,fun D x w hI hD hd=>e4 D x w hI hD hd _ rfl⟩
end
end
end Go.Proofs.YtfnimdhghglanaaGreat.Hand
end
