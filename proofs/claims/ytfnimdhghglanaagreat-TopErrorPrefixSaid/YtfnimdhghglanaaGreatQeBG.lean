/- TopErrorPrefix, part 33 of 41; no condition. (Printed from the session's own texts: what is not used left out, spaces spared.) -/
import Derived.Test.YtfnimdhghglanaaGreatQeBA
set_option maxRecDepth 100000
set_option maxHeartbeats 8000000
set_option linter.unusedVariables false
set_option linter.unusedSimpArgs false
section
namespace Go.Proofs.YtfnimdhghglanaaGreat.Hand
open Go.RowKit Go.Shelf Go.Proofs.YtfnimdhghglanaaGreatW.PrintWords Go.Proofs.YtfnimdhghglanaaGreatW.PrintLast Go.Proofs.YtfnimdhghglanaaGreatW.PrintMore
theorem results_cell1 {P:Program} {fn:Func} {t:Tmp} {ty:TypeId} (h:fn.results= #[.cell t ty]) {tmps:Array Value} {w:World} {ad:Addr} {v:Value} (hp:tmps.getD t undef= .pointer (some ad)) (hl:(loadVar ty ad).run P w= .ok v w):(results fn tmps).run P w= .ok v w:=by
 have hp':tmps[t]?.getD undef= .pointer (some ad):=by rw[←hp,Array.getD_eq_getD_getElem?]
 simp[results,h,hp',asAddr,hl]
theorem wpList_load_var {P:Program} {ops:Array Oper} {rest:List Oper} {o:Oper} {a:Act} {Q:Exit→Act→World→Prop} {w:World} (N:Tmp) (hN:o.dst=some N) (hg:o.guard=none) (ty:TypeId) (x:Operand) (ho:o.op= .load ty x) {ad:Addr} {v:Value} (hx:a.eval x= .pointer (some ad)) (hl:(Instr.loadAt ty (.pointer (some ad))).run P w= .ok v w)
  (h:wpList P ops Q rest (a.put (some N) v) w):wpList P ops Q (o::rest) a w:=by
 refine wpList_plain hg fun K hK=> ?_;unfold Oper.wp;simp[execOp,ho,hx,hl,Result.andThen];exact hK _ _ (hN▸h)
theorem wpList_store_var {P:Program} {ops:Array Oper} {rest:List Oper} {o:Oper} {a:Act} {Q:Exit→Act→World→Prop} {w w1:World} (hd:o.dst=none) (hg:o.guard=none) (ty:TypeId) (p x:Operand) (ho:o.op= .store ty p x) {ad:Addr} {v:Value} (hp:a.eval p= .pointer (some ad)) (hx:a.eval x=v) (hl:(Instr.storeAt ty (.pointer (some ad)) v).run P w= .ok () w1)
  (h:wpList P ops Q rest a w1):wpList P ops Q (o::rest) a w:=by
 refine wpList_plain hg fun K hK=> ?_;unfold Oper.wp;simp[execOp,ho,hx,hp,hl,Result.andThen];refine hK _ _ ?_;rw[hd];exact h
theorem results_cell2 {P:Program} {fn:Func} {t u:Tmp} {ty:TypeId} (h:fn.results= #[.cell t ty,.tmp u]) {tmps:Array Value} {w:World} {ad:Addr} {v v2:Value} (hp:tmps.getD t undef= .pointer (some ad)) (hu:tmps.getD u undef=v2) (hl:(loadVar ty ad).run P w= .ok v w):(results fn tmps).run P w= .ok (.tuple #[v,v2]) w:=by
 have hp':tmps[t]?.getD undef= .pointer (some ad):=by rw[←hp,Array.getD_eq_getD_getElem?]
 have hu':tmps[u]?.getD undef=v2:=by rw[←hu,Array.getD_eq_getD_getElem?]
 simp[results,h,hp',hu',asAddr,hl]
theorem skip_store {P:Program} {ops:Array Oper} {oi:Oper} {a:Act} {Q:Exit→Act→World→Prop} {w w1:World} {K:Act→World→Prop} {ty:TypeId} {p x:Operand} (hw:Region.wanted oi (yielded ops a.tmps)=true) (hN:oi.dst=none) (ho:oi.op= .store ty p x) {ad:Addr} {v:Value} (hp:a.eval p= .pointer (some ad)) (hx:a.eval x=v) (hl:(Instr.storeAt ty (.pointer (some ad)) v).run P w= .ok () w1)
  (h:K a w1):if Region.wanted oi (yielded ops a.tmps)=true then Oper.wp P oi a w K Q else K (a.put none undef) w:=
 skip_ hw hN (by simp[execOp,ho,hx,hp,hl]) h
theorem st_load {w:World} {q:Nat} {tr lps bx fl pr:SH} {ov:Bool} (h:w.heap[q]?=some (.cells #[.slice tr.A tr.n tr.c,.slice lps.A lps.n lps.c,.slice bx.A bx.n bx.c,.bool ov,.slice fl.A fl.n fl.c,.slice pr.A pr.n pr.c] TSt (0,0))):
  (Instr.loadAt TSt (.pointer (some ⟨q,0,none⟩))).run Tryz.prog w= .ok (.agg #[.slice tr.A tr.n tr.c,.slice lps.A lps.n lps.c,.slice bx.A bx.n bx.c,.bool ov,.slice fl.A fl.n fl.c,.slice pr.A pr.n pr.c]) w∧(loadVar TSt ⟨q,0,none⟩).run Tryz.prog w= .ok (.agg #[.slice tr.A tr.n tr.c,.slice lps.A lps.n lps.c,.slice bx.A bx.n bx.c,.bool ov,.slice fl.A fl.n fl.c,.slice pr.A pr.n pr.c]) w:=by
 have o0:w.cell? ⟨q,0,none⟩=some (.slice tr.A tr.n tr.c):=by simp[World.cell?,h]
 have o1:w.cell? ⟨q,1,none⟩=some (.slice lps.A lps.n lps.c):=by simp[World.cell?,h]
 have o2:w.cell? ⟨q,2,none⟩=some (.slice bx.A bx.n bx.c):=by simp[World.cell?,h]
 have o3:w.cell? ⟨q,3,none⟩=some (.bool ov):=by simp[World.cell?,h]
 have o4:w.cell? ⟨q,4,none⟩=some (.slice fl.A fl.n fl.c):=by simp[World.cell?,h]
 have o5:w.cell? ⟨q,5,none⟩=some (.slice pr.A pr.n pr.c):=by simp[World.cell?,h]
 constructor
 ·simp[go_sem,o0,o1,o2,o3,o4,o5]
 ·simp[go_sem,o0,o1,o2,o3,o4,o5]
theorem st_store {w:World} {q:Nat} {cs:Array Value} (h:w.heap[q]?=some (.cells cs TSt (0,0))) (h6:cs.size=6) (tr lps bx fl pr:SH) (ov:Bool):
  ∃w',(Instr.storeAt TSt (.pointer (some ⟨q,0,none⟩)) (.agg #[.slice tr.A tr.n tr.c,.slice lps.A lps.n lps.c,.slice bx.A bx.n bx.c,.bool ov,.slice fl.A fl.n fl.c,.slice pr.A pr.n pr.c])).run Tryz.prog w= .ok () w'∧w.grownBy w' (some q)∧w'.heap[q]?=some (.cells #[.slice tr.A tr.n tr.c,.slice lps.A lps.n lps.c,.slice bx.A bx.n bx.c,.bool ov,.slice fl.A fl.n fl.c,.slice pr.A pr.n pr.c] TSt (0,0)):=by
 obtain⟨l,hl⟩:∃l,cs=l.toArray:=⟨cs.toList,by simp⟩;subst hl
 match l,h6 with
 | [a,b,c,d,e,f],_=>
  have o0:w.cell? ⟨q,0,none⟩=some a:=by simp[World.cell?,h]
  have o1:w.cell? ⟨q,1,none⟩=some b:=by simp[World.cell?,h]
  have o2:w.cell? ⟨q,2,none⟩=some c:=by simp[World.cell?,h]
  have o3:w.cell? ⟨q,3,none⟩=some d:=by simp[World.cell?,h]
  have o4:w.cell? ⟨q,4,none⟩=some e:=by simp[World.cell?,h]
  have o5:w.cell? ⟨q,5,none⟩=some f:=by simp[World.cell?,h]
  have z0:=blk_frozen h 0;have z1:=blk_frozen h 1;have z2:=blk_frozen h 2;have z3:=blk_frozen h 3;have z4:=blk_frozen h 4;have z5:=blk_frozen h 5;refine⟨(((((w.setCell ⟨q,0,none⟩ (.slice tr.A tr.n tr.c)).setCell ⟨q,1,none⟩ (.slice lps.A lps.n lps.c)).setCell ⟨q,2,none⟩ (.slice bx.A bx.n bx.c)).setCell ⟨q,3,none⟩ (.bool ov)).setCell ⟨q,4,none⟩ (.slice fl.A fl.n fl.c)).setCell ⟨q,5,none⟩ (.slice pr.A pr.n pr.c),?_,
   grown_cells [.slice tr.A tr.n tr.c,.slice lps.A lps.n lps.c,.slice bx.A bx.n bx.c,.bool ov,.slice fl.A fl.n fl.c,.slice pr.A pr.n pr.c] w 0,blk_put (blk_put (blk_put (blk_put (blk_put (blk_put h 0 _ rfl) 1 _ rfl) 2 _ rfl) 3 _ rfl) 4 _ rfl) 5 _ rfl⟩
  simp[go_sem,o0,o1,o2,o3,o4,o5,z0,z1,z2,z3,z4,z5]
end Go.Proofs.YtfnimdhghglanaaGreat.Hand
end
