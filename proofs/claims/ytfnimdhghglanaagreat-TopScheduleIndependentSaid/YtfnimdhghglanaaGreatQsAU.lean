/- TopScheduleIndependent, part 21 of 27; no condition.  -/
import Derived.Test.YtfnimdhghglanaaGreatQsAS
import Derived.Test.YtfnimdhghglanaaGreatQsAT
set_option maxRecDepth 100000
set_option maxHeartbeats 8000000
set_option linter.unusedVariables false
set_option linter.unusedSimpArgs false
section
namespace Go.Proofs.YtfnimdhghglanaaGreat.Hand
open Go.RowKit Go.Shelf Go.Proofs.YtfnimdhghglanaaGreatW PrintWords PrintLast PrintMore
structure PrsOk (n:Nat) (prs:List (Int×Int)):Prop where
 len:prs.length=n
 rng:∀x∈prs,0≤x.1∧x.1<n
 nd:(prs.map Prod.fst).Nodup
 all:∀i,i<n→∃x∈prs,x.1=(i:Int)
theorem nodup_le:∀(n:Nat) (l:List Nat),l.Nodup→(∀x∈l,x<n)→l.length≤n
 |0,l,_,h=>by
  cases l with
  |nil=>simp
  |cons x l=>exact absurd (h x List.mem_cons_self) (by omega)
 |n+1,l,hn,h=>by
  have h1:=nodup_le n (l.filter (fun x=> !(x==n))) (hn.sublist List.filter_sublist) fun x hx=>by
   have h2:=List.mem_filter.1 hx;have h3:=h x h2.1;have h4:x≠n:=by simpa using h2.2
   omega
  have h2:l.length≤(l.filter (fun x=> !(x==n))).length+1:=by
   have h3:=(filter_split (fun x=>x==n) l).length_eq;rw[List.length_append]at h3;have h4:(l.filter (fun x=>x==n)).length≤1:=by
    have h5:(l.filter (fun x=>x==n)).Nodup:=hn.sublist List.filter_sublist;cases hf:l.filter (fun x=>x==n)with
    |nil=>simp
    |cons a r=>
     cases r with
     |nil=>simp
     |cons b r=>
      rw[hf]at h5;have ha:a∈l.filter (fun x=>x==n):=hf▸List.mem_cons_self;have hb:b∈l.filter (fun x=>x==n):=hf▸List.mem_cons_of_mem _ List.mem_cons_self;have e1:a=n:=by simpa using (List.mem_filter.1 ha).2
      have e2:b=n:=by simpa using (List.mem_filter.1 hb).2
      have h6:=(List.nodup_cons.1 h5).1;rw[e1,e2]at h6;exact absurd List.mem_cons_self h6
   omega
  omega
theorem nodup_all {n:Nat} {l:List Nat} (hn:l.Nodup) (h:∀x∈l,x<n) (hl:l.length=n) (i:Nat) (hi:i<n):i∈l:=by
 by_cases hm:i∈l
 ·exact hm
 ·exfalso;have h1:=nodup_le n (i::l) (List.nodup_cons.2 ⟨hm,hn⟩) fun x hx=>by
   rcases List.mem_cons.1 hx with rfl|hx
   ·exact hi
   ·exact h x hx
  simp only[List.length_cons]at h1;omega
theorem finish_ok (n w:Nat) (l:List Int) (hn:n≤64) (hw0:1≤w) (hw:w≤64) (hl:l.length≤1000) (hr:∀p∈l,0≤p∧p<w):∃(prs:List (Int×Int)) (N:Nat),PrsOk n prs∧∀(A:Option Addr) (c:Nat) (W:World),Kd.C (Kd.int .i64) W A l.length l→
  Calls Tryz.prog 16 #[.int .i64 n,.int .i64 w,.slice A l.length c] W fun e w'=>∃v:SH,e= .returned (.tuple #[.slice v.A v.n v.c,.int .i64 N])∧Kd.R kP TPair w' W.heap.size (fun _=>True) (.slice v.A v.n v.c) prs∧Below W.heap.size W w':=by
 obtain⟨N,hN,hz,hlt⟩:=finish_ends n w l (by omega) hw0 hr;have hf:=pickAt_lt hw0 hr;have hi:=steps_inv (inv0 n w (by omega)) hf N;have ho:=steps_once (inv0 n w (by omega)) (once0 n w) hf N;have hN2:N≤80000:=by
  have h1:(2*(n:Int)+3*w+1)*w≤321*64:=by
   have h2:(2*(n:Int)+3*w+1)≤321:=by omega
   have h3:(w:Int)≤64:=by omega
   calc (2*(n:Int)+3*w+1)*w≤321*w:=Int.mul_le_mul_of_nonneg_right h2 (by omega)
    _≤321*64:=Int.mul_le_mul_of_nonneg_left h3 (by omega)
  omega
 obtain⟨prs,hprs⟩:∃prs,((ph0 n w).steps (pickAt l w) N).pairs=prs:=⟨_,rfl⟩;have hxn:((ph0 n w).steps (pickAt l w) N).n=n:=hi.2.2;have hlen:=ended_all hi.1 hw0 hz;have hrng:=ho.rng;have hinc:=ho.incr;rw[hprs]at hlen hrng hinc;rw[hxn]at hlen hrng;have hnd:(prs.map Prod.fst).Nodup:=by
  rw[List.nodup_iff_pairwise_ne,List.pairwise_map];exact hinc.imp fun h=>h.1
 have hln:prs.length=n:=by omega
 refine⟨prs,N,⟨hln,fun x hx=>⟨(hrng x hx).1,(hrng x hx).2.2.1⟩,hnd,fun i hi=> ?_⟩,fun A c W hC=> ?_⟩
 ·have h1:(prs.map fun x=>x.1.toNat).Nodup:=by
   rw[List.nodup_iff_pairwise_ne,List.pairwise_map];refine List.Pairwise.imp_of_mem (fun{a b} ha hb h e=>h.1 ?_) hinc;have:=hrng a ha;have:=hrng b hb;omega
  obtain⟨x,hx,e⟩:=List.mem_map.1 (nodup_all h1 (fun y hy=>by
   obtain⟨x,hx,rfl⟩:=List.mem_map.1 hy;have:=hrng x hx;omega) (by rw[List.length_map];exact hln) i hi)
  exact⟨x,hx,by have:=hrng x hx;omega⟩
 ·refine(finish_calls n w l A c W (by omega) (by omega) hw0 hw (by omega) hr hC N hN2 hz hlt).mono ?_;rintro e w' ⟨v,rfl,hv,hb⟩;rw[hprs]at hv;obtain⟨zA,zn,zc,hzn,rfl⟩:=R_slice3 hv;exact⟨⟨zA,zn,zc⟩,rfl,hv,hb⟩
theorem results_cell1 {P:Program} {fn:Func} {t:Tmp} {ty:TypeId} (h:fn.results= #[.cell t ty]) {tmps:Array Value} {w:World} {ad:Addr} {v:Value} (hp:tmps.getD t undef= .pointer (some ad)) (hl:(loadVar ty ad).run P w= .ok v w):(results fn tmps).run P w= .ok v w:=by
 have hp':tmps[t]?.getD undef= .pointer (some ad):=by rw[←hp,Array.getD_eq_getD_getElem?]
 simp[results,h,hp',asAddr,hl]
theorem wpList_load_var {P:Program} {ops:Array Oper} {rest:List Oper} {o:Oper} {a:Act} {Q:Exit→Act→World→Prop} {w:World} (N:Tmp) (hN:o.dst=some N) (hg:o.guard=none) (ty:TypeId) (x:Operand) (ho:o.op= .load ty x) {ad:Addr} {v:Value} (hx:a.eval x= .pointer (some ad)) (hl:(Instr.loadAt ty (.pointer (some ad))).run P w= .ok v w)
  (h:wpList P ops Q rest (a.put (some N) v) w):wpList P ops Q (o::rest) a w:=by
 refine wpList_plain hg fun K hK=> ?_;unfold Oper.wp;simp[execOp,ho,hx,hl,Result.andThen];exact hK _ _ (hN▸h)
theorem wpList_store_var {P:Program} {ops:Array Oper} {rest:List Oper} {o:Oper} {a:Act} {Q:Exit→Act→World→Prop} {w w1:World} (hd:o.dst=none) (hg:o.guard=none) (ty:TypeId) (p x:Operand) (ho:o.op= .store ty p x) {ad:Addr} {v:Value} (hp:a.eval p= .pointer (some ad)) (hx:a.eval x=v) (hl:(Instr.storeAt ty (.pointer (some ad)) v).run P w= .ok () w1)
  (h:wpList P ops Q rest a w1):wpList P ops Q (o::rest) a w:=by
 refine wpList_plain hg fun K hK=> ?_;unfold Oper.wp;simp[execOp,ho,hx,hp,hl,Result.andThen];refine hK _ _ ?_;rw[hd];exact h
theorem results_cell2 {P:Program} {fn:Func} {t u:Tmp} {ty:TypeId} (h:fn.results= #[.cell t ty,.tmp u]) {tmps:Array Value} {w:World} {ad:Addr} {v v2:Value} (hp:tmps.getD t undef= .pointer (some ad)) (hu:tmps.getD u undef=v2) (hl:(loadVar ty ad).run P w= .ok v w):(results fn tmps).run P w= .ok (.tuple #[v,v2]) w:=by
 have hp':tmps[t]?.getD undef= .pointer (some ad):=by rw[←hp,Array.getD_eq_getD_getElem?]
 have hu':tmps[u]?.getD undef=v2:=by rw[←hu,Array.getD_eq_getD_getElem?]
 simp[results,h,hp',hu',asAddr,hl]
theorem skip_store {P:Program} {ops:Array Oper} {oi:Oper} {a:Act} {Q:Exit→Act→World→Prop} {w w1:World} {K:Act→World→Prop} {ty:TypeId} {p x:Operand} (hw:Region.wanted oi (yielded ops a.tmps)=true) (hN:oi.dst=none) (ho:oi.op= .store ty p x) {ad:Addr} {v:Value} (hp:a.eval p= .pointer (some ad)) (hx:a.eval x=v) (hl:(Instr.storeAt ty (.pointer (some ad)) v).run P w= .ok () w1)
  (h:K a w1):if Region.wanted oi (yielded ops a.tmps)=true then Oper.wp P oi a w K Q else K (a.put none undef) w:=
 skip_ hw hN (by simp[execOp,ho,hx,hp,hl]) h
theorem st_load {w:World} {q:Nat} {tr lps bx fl pr:SH} {ov:Bool} (h:w.heap[q]?=some (.cells #[.slice tr.A tr.n tr.c,.slice lps.A lps.n lps.c,.slice bx.A bx.n bx.c,.bool ov,.slice fl.A fl.n fl.c,.slice pr.A pr.n pr.c] TSt (0,0))):
  (Instr.loadAt TSt (.pointer (some ⟨q,0,none⟩))).run Tryz.prog w= .ok (.agg #[.slice tr.A tr.n tr.c,.slice lps.A lps.n lps.c,.slice bx.A bx.n bx.c,.bool ov,.slice fl.A fl.n fl.c,.slice pr.A pr.n pr.c]) w∧(loadVar TSt ⟨q,0,none⟩).run Tryz.prog w= .ok (.agg #[.slice tr.A tr.n tr.c,.slice lps.A lps.n lps.c,.slice bx.A bx.n bx.c,.bool ov,.slice fl.A fl.n fl.c,.slice pr.A pr.n pr.c]) w:=by
 have o0:w.cell? ⟨q,0,none⟩=some (.slice tr.A tr.n tr.c):=by simp[World.cell?,h]
 have o1:w.cell? ⟨q,1,none⟩=some (.slice lps.A lps.n lps.c):=by simp[World.cell?,h]
 have o2:w.cell? ⟨q,2,none⟩=some (.slice bx.A bx.n bx.c):=by simp[World.cell?,h]
 have o3:w.cell? ⟨q,3,none⟩=some (.bool ov):=by simp[World.cell?,h]
 have o4:w.cell? ⟨q,4,none⟩=some (.slice fl.A fl.n fl.c):=by simp[World.cell?,h]
 have o5:w.cell? ⟨q,5,none⟩=some (.slice pr.A pr.n pr.c):=by simp[World.cell?,h]
 constructor
 ·simp[go_sem,o0,o1,o2,o3,o4,o5]
 ·simp[go_sem,o0,o1,o2,o3,o4,o5]
theorem st_store {w:World} {q:Nat} {cs:Array Value} (h:w.heap[q]?=some (.cells cs TSt (0,0))) (h6:cs.size=6) (tr lps bx fl pr:SH) (ov:Bool):
  ∃w',(Instr.storeAt TSt (.pointer (some ⟨q,0,none⟩)) (.agg #[.slice tr.A tr.n tr.c,.slice lps.A lps.n lps.c,.slice bx.A bx.n bx.c,.bool ov,.slice fl.A fl.n fl.c,.slice pr.A pr.n pr.c])).run Tryz.prog w= .ok () w'∧w.grownBy w' (some q)∧w'.heap[q]?=some (.cells #[.slice tr.A tr.n tr.c,.slice lps.A lps.n lps.c,.slice bx.A bx.n bx.c,.bool ov,.slice fl.A fl.n fl.c,.slice pr.A pr.n pr.c] TSt (0,0)):=by
 obtain⟨l,hl⟩:∃l,cs=l.toArray:=⟨cs.toList,by simp⟩;subst hl
 match l,h6 with
 | [a,b,c,d,e,f],_=>
  have o0:w.cell? ⟨q,0,none⟩=some a:=by simp[World.cell?,h]
  have o1:w.cell? ⟨q,1,none⟩=some b:=by simp[World.cell?,h]
  have o2:w.cell? ⟨q,2,none⟩=some c:=by simp[World.cell?,h]
  have o3:w.cell? ⟨q,3,none⟩=some d:=by simp[World.cell?,h]
  have o4:w.cell? ⟨q,4,none⟩=some e:=by simp[World.cell?,h]
  have o5:w.cell? ⟨q,5,none⟩=some f:=by simp[World.cell?,h]
  have z0:=blk_frozen h 0;have z1:=blk_frozen h 1;have z2:=blk_frozen h 2;have z3:=blk_frozen h 3;have z4:=blk_frozen h 4;have z5:=blk_frozen h 5;refine⟨(((((w.setCell ⟨q,0,none⟩ (.slice tr.A tr.n tr.c)).setCell ⟨q,1,none⟩ (.slice lps.A lps.n lps.c)).setCell ⟨q,2,none⟩ (.slice bx.A bx.n bx.c)).setCell ⟨q,3,none⟩ (.bool ov)).setCell ⟨q,4,none⟩ (.slice fl.A fl.n fl.c)).setCell ⟨q,5,none⟩ (.slice pr.A pr.n pr.c),?_,
   grown_cells [.slice tr.A tr.n tr.c,.slice lps.A lps.n lps.c,.slice bx.A bx.n bx.c,.bool ov,.slice fl.A fl.n fl.c,.slice pr.A pr.n pr.c] w 0,blk_put (blk_put (blk_put (blk_put (blk_put (blk_put h 0 _ rfl) 1 _ rfl) 2 _ rfl) 3 _ rfl) 4 _ rfl) 5 _ rfl⟩
  simp[go_sem,o0,o1,o2,o3,o4,o5,z0,z1,z2,z3,z4,z5]
end Go.Proofs.YtfnimdhghglanaaGreat.Hand
end
