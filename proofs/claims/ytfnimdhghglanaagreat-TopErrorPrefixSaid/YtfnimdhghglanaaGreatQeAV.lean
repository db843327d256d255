/- TopErrorPrefix, part 22 of 41; no condition. (Printed from the session's own texts: what is not used left out, spaces spared.) -/
import Derived.Test.YtfnimdhghglanaaGreatQeAB
import Derived.Test.YtfnimdhghglanaaGreatQeAN
import Derived.Test.YtfnimdhghglanaaGreatQeAU
import Derived.Handy
set_option maxRecDepth 100000
set_option maxHeartbeats 8000000
set_option linter.unusedVariables false
set_option linter.unusedSimpArgs false
section
namespace Go.Proofs.YtfnimdhghglanaaGreat.Hand
open Go.RowKit Go.Shelf Go.Proofs.YtfnimdhghglanaaGreatW.PrintWords Go.Proofs.YtfnimdhghglanaaGreatW.PrintLast Go.Proofs.YtfnimdhghglanaaGreatW.PrintMore
attribute [local go_sem] max2_int min2_int max_two min_two max_three min_three max_four min_four
def PutSafe {β:Type} (l:Nat) (I:β→World→Prop):Prop:=∀(s:β) (W:World) (o o':Obj),I s W→W.heap[l]?=some o→o.isCells=false→I s (W.putObj l o')
theorem range_put {F:Fence} {n:Nat} {P:Program} {σ:Type} {g:Operand} {ps:Array Tmp} {assign body:Code} {Q:Exit→Act→World→Prop} {a:Act} {w:World}
  (hro:F.round=none) (h1:1≤n) {gf:Nat} {lb:Array Value} (hg:a.eval g= .func (.func gf) #[] lb) (hFg:F.fn gf) (eg:∀args w,(callFunc gf args).run P w= .ok (.enter gf args) w)
  (args:σ→Array Value) (hps:∀s,(args s).size=ps.size)
  (Pre Post:σ→World→Prop) (Fin:World→Prop) (hPost:PutSafe (w.heap.size+1) Post) (hFin:PutSafe (w.heap.size+1) (fun(_:Unit) W=>Fin W))
  (hiter:∀(l:Nat) (Rc:World→Prop) (W1:World),Below w.heap.size w W1→w.heap.size+2≤W1.heap.size→(∀A B,Rc A→Keep (·<w.heap.size) A B→Rc B)→
   (∀s W,Pre s W→Rc W→YieldAt F (n-1-1) P l (args s) W fun e W'=>e= .returned (.bool true)∧Post s W'∧Rc W')→Rc W1→
   CallsIn F (n-1) P gf (#[.func (.yield l) #[] #[]]++lb) W1 fun e W'=>(∃v,e= .returned v)∧Fin W'∧Rc W')
  (Ax:σ→Act→World→Prop) (hAx:∀s a',PutSafe (w.heap.size+1) (fun(_:Unit) W=>Ax s a' W))
  (hassign:∀(l:Nat) (s:σ) (W:World) (K:Act→World→Prop),Pre s W→(∀a' W',KeepsFrom w.heap.size W W'→Ax s a' W'→K a' W')→
   assign.wpIn (F.inRound l) (n-1-1) P (Exit.then K (fun _ _ _=>False)) {tmps:=(ps.zip (args s)).foldl (fun t (p,v)=>t.setIfInBounds p v) a.tmps,defers:=[]} W)
  (hbody:∀(l:Nat) (s:σ) (a':Act) (W:World),Ax s a' W→body.wpIn (F.inRound l) (n-1-1) P (roundEnd w.heap.size Post s W) a' W)
  (hdone:∀(W:World),Fin W→W.heap[w.heap.size]?=some (.deferred (some []))→Q .normal {a with defers:={target:= .collected w.heap.size,args:= #[]}::a.defers} W):
  (Code.rangeFunc g ps assign body).wpIn F n P Q a w:=by
 refine wpIn_rangeFunc ?_;intro fn hfn;rw[hro];obtain⟨rec,hrec⟩:∃rec:LoopState→Option Code→Loop,rec=fun st pe=>{state:=st,pending:=pe,fn,tmps:=a.tmps,params:=ps,assign,body,defers:=w.heap.size}:=⟨_,rfl⟩;obtain⟨W1,hW1⟩:∃W1,(w.alloc (.deferred (some []))).alloc (.loop (rec .ready none))=W1:=⟨_,rfl⟩;have hL1:W1.heap[w.heap.size+1]?=some (.loop (rec .ready none)):=by
  rw[←hW1];have:=World.alloc_heap_new (w.alloc (.deferred (some []))) (.loop (rec .ready none));rwa [World.size_alloc]at this
 have hK1:W1.heap[w.heap.size]?=some (.deferred (some [])):=by
  rw[←hW1];exact(Below.heap_alloc _ _ _ (by simp)).trans (World.alloc_heap_new w _)
 have hb1:Below w.heap.size w W1:=by
  rw[←hW1];exact(((Below.refl _ w).alloc (Nat.le_refl _) _).alloc (by simp) _)
 refine⟨w.heap.size+1,[{target:= .collected w.heap.size,args:= #[]}],W1,{target:= .fn (.func gf) lb,args:= #[.func (.yield (w.heap.size+1)) #[] #[]]},W1,gf,
  #[.func (.yield (w.heap.size+1)) #[] #[]]++lb,W1,?_,?_,?_,?_,fun _=>h1,?_⟩
 ·rw[←hW1,hrec];exact run_enterLoop_outer _ _ _ _ _
 ·simp only[resolve,hg];simp[go_sem]
 ·intro f' hf';simp[Target.leads]at hf';subst hf';exact hFg
 ·simp[invoke,go_sem,eg]
 ·refine(hiter (w.heap.size+1)
   (fun W=>W.heap[w.heap.size+1]?=some (.loop (rec .ready none))∧W.heap[w.heap.size]?=some (.deferred (some [])))
   W1 hb1 (by rw[←hW1];simp only[World.size_alloc];omega)
   (fun A B hs hk=>⟨(hk.block _ (Array.getElem?_eq_some_iff.1 hs.1).1 (by omega)).trans hs.1,(hk.block _ (Array.getElem?_eq_some_iff.1 hs.2).1 (by omega)).trans hs.2⟩)
   ?_ ⟨hL1,hK1⟩).mono ?_
  ·rintro s W hi ⟨hl,hk⟩;have hlt:w.heap.size+1<W.heap.size:=(Array.getElem?_eq_some_iff.1 hl).1;have hy:=run_yield (P:=P) (args:=args s) hl (by rw[hrec];exact hps s);rw[hrec]at hy;refine⟨fn,_,assign,body,hy,roundIn_of_wpIn hfn (hassign _ s W _ hi ?_)⟩;clear hy;intro a' Wa hkfa hax
   replace hl:=hkfa.same _ _ (by omega) hl rfl
   replace hk:=hkfa.same _ _ (Nat.le_refl _) hk rfl
   replace hlt:w.heap.size+1<Wa.heap.size:=(Array.getElem?_eq_some_iff.1 hl).1
   clear hi;refine⟨_,run_beginRound hl (by rw[hrec]),?_⟩;have hl2:(Wa.putObj (w.heap.size+1) (.loop {rec .ready none with state:= .busy})).heap[w.heap.size+1]?=some (.loop {rec .ready none with state:= .busy}):=World.putObj_heap_same hlt;have hk2:(Wa.putObj (w.heap.size+1) (.loop {rec .ready none with state:= .busy})).heap[w.heap.size]?=some (.deferred (some [])):=(World.putObj_heap_other (by omega)).trans hk;refine wpIn_mono (hbody _ s a' _ (hAx s a' () _ _ _ hax hl rfl)) ?_;rintro e a3 W3 hp;cases e with
   |normal=>
    obtain⟨hk3,hi3⟩:=hp;have hl3:=hk3.same _ _ (by omega) hl2 rfl;have hr:=run_endRound (P:=P) none hl3;rw[hrec]at hr hl3;refine⟨_,_,hr,rfl,hPost _ _ _ _ hi3 hl3 rfl,?_,?_⟩
    ·rw[hrec];exact World.putObj_heap_same (Array.getElem?_eq_some_iff.1 hl3).1
    ·exact(World.putObj_heap_other (by omega)).trans (hk3.same _ _ (Nat.le_refl _) hk2 rfl)
   |ret=>exact hp.elim
   |exit id=>exact hp.elim
   |goto t=>exact hp.elim
   |panic ch=>exact hp.elim
   |outgrown=>exact hp.elim
  ·rintro e W2 ⟨⟨v,rfl⟩,hF,hl,hk⟩;exact⟨none,_,by have:=run_endLoop (P:=P) hl (by rw[hrec];simp);rw[hrec]at this;exact this,hdone _ (hFin () _ _ _ hF hl rfl) ((World.putObj_heap_other (by omega)).trans hk)⟩
end Go.Proofs.YtfnimdhghglanaaGreat.Hand
end
section
namespace Go.Proofs.YtfnimdhghglanaaGreat.Hand
open Go.RowKit Go.Shelf Go.Proofs.YtfnimdhghglanaaGreatW.PrintWords Go.Proofs.YtfnimdhghglanaaGreatW.PrintLast Go.Proofs.YtfnimdhghglanaaGreatW.PrintMore
attribute [local go_sem] max2_int min2_int max_two min_two max_three min_three max_four min_four
attribute [local go_sem] Oper.semAt_some
theorem Oc.run_add (pgs:List (List OpC)) (h:Int):∀(m n:Nat) (o:Oc),Oc.run pgs h (m+n) o=Oc.run pgs h n (Oc.run pgs h m o)
 |0,n,o=>by rw[Nat.zero_add];rfl
 |m+1,n,o=>by
  have hstop:o.rest h→Oc.run pgs h (m+1+n) o=Oc.run pgs h n (Oc.run pgs h (m+1) o):=fun hr=>by rw[Oc.run_rest hr,Oc.run_rest hr,Oc.run_rest hr]
  cases hb:o.box with
  |nil=>exact hstop (fun e he=>by simp[hb]at he)
  |cons e b=>
   by_cases hlt:e.t<h
   ·have h1:∀k,Oc.run pgs h (k+1) o=Oc.run pgs h k (Oc.exec pgs {o with box:=b} e):=fun k=>by
     conv=>lhs;unfold Oc.run
     rw[hb];simp only;rw[if_pos hlt]
    rw[show m+1+n=(m+n)+1 by omega,h1,h1,Oc.run_add pgs h m n]
   ·exact hstop (fun f hf=>by
     rw[hb]at hf;simp only[List.head?_cons,Option.mem_some_iff]at hf;subst hf;exact hlt)
theorem Oc.run_next {pgs:List (List OpC)} {h:Int} {n:Nat} {o:Oc} {e:Ev} {b:List Ev} (hb:(Oc.run pgs h n o).box=e::b) (hlt:e.t<h):Oc.run pgs h (n+1) o=Oc.exec pgs {Oc.run pgs h n o with box:=b} e:=by
 rw[Oc.run_add]
 conv=>lhs;unfold Oc.run
 rw[hb];simp only;rw[if_pos hlt];rfl
theorem Oc.exec_com (pgs:List (List OpC)) (o:Oc) (e:Ev):(Oc.exec pgs o e).com=o.com++[e]:=by
 unfold Oc.exec;obtain⟨_,h2,_⟩:=Oc.dels (Hand.exec pgs o.lp e).2.2.1 ((Hand.exec pgs o.lp e).2.1.foldl (Oc.put e.lp) (o.begin pgs e));obtain⟨_,g2,_⟩:=Oc.puts e.lp (Hand.exec pgs o.lp e).2.1 (o.begin pgs e);rw[h2,g2];rfl
structure OutOk (progs:List (List OpC)) (hz:Int) (o:Oc):Prop where
 bd:OutBd o
 pre:∀e b,o.box=e::b→e.t<hz→ExecPre progs.length o.lp e∧ExecBd (exec progs o.lp e)
theorem OutBd.tail {o:Oc} (h:OutBd o) {e:Ev} {b:List Ev} (hb:o.box=e::b):OutBd {o with box:=b}:=
 ⟨SortedE.tail (hb▸h.so),by have:=h.bn;rw[hb]at this;simp at this;simp only;omega,fun f hf=>h.bk f (hb▸List.mem_cons_of_mem _ hf),h.cn,h.sn⟩
structure OutW (Mt:Nat→Prop) (B:Nat) (w0:World) (b:Nat) (o:Oc) (W:World):Prop where
 ex:∃ph bh ch sh:SH,OutAt Mt B W b ph bh ch sh o∧OutTo Mt B w0 b .nil .nil W ch sh
 mt:∀k,Mt k→k<W.heap.size
structure EvW (Mt:Nat→Prop) (B:Nat) (w0:World) (b:Nat) (o:Oc) (x:SE) (e:Ev) (W:World):Prop where
 ex:∃ph bh ch sh:SH,OutAt Mt B W b ph bh ch sh o∧OutTo Mt B w0 b .nil .nil W ch sh∧EvAt (Mo Mt b ch sh) W x e
 mt:∀k,Mt k→k<W.heap.size
structure Res5 (M:Nat→Prop) (W:World) (bx:List Ev) (e:Ev) (q:Nat) (h:SH) (x:SE) (w':World):Prop where
 below:Below W.heap.size W w'
 bx:EvsAt (Mq M q) w' h bx
 x:EvAt (Mq M q) w' x e
 new:W.heap.size≤q
 blk:w'.heap[q]?=some (.cells #[.int .i64 0,.slice none 0 0,.int .i64 0,.int .i64 0,.int .i64 0,.int .i64 0] 49 (0,0))
structure Res5n (W:World) (q:Nat) (w':World):Prop where
 below:Below W.heap.size W w'
 new:W.heap.size≤q
 blk:w'.heap[q]?=some (.cells #[.int .i64 0,.slice none 0 0,.int .i64 0,.int .i64 0,.int .i64 0,.int .i64 0] 49 (0,0))
theorem res5n_call {W w0 w3:World} (h0:Below W.heap.size W w0) (hb:Below w0.heap.size w0 w3):Res5n W w3.heap.size (w3.alloc (.cells #[.int .i64 0,.slice none 0 0,.int .i64 0,.int .i64 0,.int .i64 0,.int .i64 0] 49)):=by
 have hb2:=below_alloc (Below.refl w3.heap.size w3) (.cells #[.int .i64 0,.slice none 0 0,.int .i64 0,.int .i64 0,.int .i64 0,.int .i64 0] 49);have hb3:=h0.trans (hb.mono h0.size);exact⟨hb3.trans (hb2.mono hb3.size),hb3.size,World.alloc_heap_new _ _⟩
theorem res5n_alloc {W w0 w3:World} (h0:Below W.heap.size W w0) (hb:Below (w0.alloc (.cells #[.int .i64 0,.slice none 0 0,.int .i64 0,.int .i64 0,.int .i64 0,.int .i64 0] 49)).heap.size (w0.alloc (.cells #[.int .i64 0,.slice none 0 0,.int .i64 0,.int .i64 0,.int .i64 0,.int .i64 0] 49)) w3):Res5n W w0.heap.size w3:=by
 have hb2:=below_alloc (Below.refl w0.heap.size w0) (.cells #[.int .i64 0,.slice none 0 0,.int .i64 0,.int .i64 0,.int .i64 0,.int .i64 0] 49);have hlt:w0.heap.size<(w0.alloc (.cells #[.int .i64 0,.slice none 0 0,.int .i64 0,.int .i64 0,.int .i64 0,.int .i64 0] 49)).heap.size:=by rw[World.size_alloc];omega
 exact⟨h0.trans ((hb2.trans (hb.mono (Nat.le_of_lt hlt))).mono h0.size),h0.size,(hb.block _ hlt).trans (World.alloc_heap_new _ _)⟩
theorem res5_call {M:Nat→Prop} {W w0 w3:World} {bx:List Ev} {e:Ev} {h:SH} {x:SE} (h0:Below W.heap.size W w0) (h1:EvsAt M w3 h bx) (h2:EvAt M w3 x e) (hb:Below w0.heap.size w0 w3):
  Res5 M W bx e w3.heap.size h x (w3.alloc (.cells #[.int .i64 0,.slice none 0 0,.int .i64 0,.int .i64 0,.int .i64 0,.int .i64 0] 49)):=by
 have hb2:=below_alloc (Below.refl w3.heap.size w3) (.cells #[.int .i64 0,.slice none 0 0,.int .i64 0,.int .i64 0,.int .i64 0,.int .i64 0] 49);have hm:∀k,k<w3.heap.size→Mq M w3.heap.size k→M k:=fun k hk h=>mq_old hk h;have h9:=res5n_call h0 hb;exact⟨h9.below,h1.fresh (Keep.of_below hb2) hm,h2.fresh (Keep.of_below hb2) hm,h9.new,h9.blk⟩
theorem res5_alloc {M:Nat→Prop} {W w0 w3:World} {bx:List Ev} {e:Ev} {h:SH} {x:SE} (h0:Below W.heap.size W w0) (h1:EvsAt (Mq M w0.heap.size) w3 h bx) (h2:EvAt (Mq M w0.heap.size) w3 x e)
  (hb:Below (w0.alloc (.cells #[.int .i64 0,.slice none 0 0,.int .i64 0,.int .i64 0,.int .i64 0,.int .i64 0] 49)).heap.size (w0.alloc (.cells #[.int .i64 0,.slice none 0 0,.int .i64 0,.int .i64 0,.int .i64 0,.int .i64 0] 49)) w3):Res5 M W bx e w0.heap.size h x w3:=
 have h9:=res5n_alloc h0 hb
 ⟨h9.below,h1,h2,h9.new,h9.blk⟩
def lenC (w:World) (b:Nat):Nat:=match w.cell? ⟨b,5,none⟩with|some (.slice _ n _)=>n|_=>0
theorem OutW.lenC {Mt:Nat→Prop} {B:Nat} {w0:World} {b:Nat} {o:Oc} {W:World} (h:OutW Mt B w0 b o W):Hand.lenC W b=o.com.length:=by
 obtain⟨ph,bh,ch,sh,hO,_⟩:=h.ex;have h5:W.cell? ⟨b,5,none⟩=some (.slice ch.A ch.n ch.c):=hO.cells 5 _ rfl;obtain⟨ss,h1,h2⟩:=hO.com;unfold Hand.lenC;rw[h5];simp only;rw[(Kd.R_reads' h1).1,h2.len]
theorem nil_m0 {b k:Nat} (h:M0 b .nil .nil k):k=b:=by
 rcases h with h|h|h|h
 ·exact h.elim
 ·exact h
 ·cases h
 ·cases h
theorem events_in {Mt:Nat→Prop} {B:Nat} {w0:World} {b qo qh m l:Nat} {hz:Int} {progs:List (List OpC)} {o0:Oc} (hqo:w0.cell? ⟨qo,0,none⟩=some (.pointer (some ⟨b,0,none⟩))) (hqh:w0.cell? ⟨qh,0,none⟩=some (.int .i64 hz)) (hob:qo≠b) (hhb:qh≠b)
  (hok:∀n,n≤2000→OutOk progs hz (Oc.run progs hz n o0)) (hc0:o0.com=[]) (Rc:World→Prop) (hRc:∀A C,Rc A→Keep (fun k=>k=b) A C→Rc C)
  (hY:∀n e bx x W,n<2000→(Oc.run progs hz n o0).box=e::bx→e.t<hz→(Oc.run progs hz n o0).com.length=n→EvW Mt B w0 b {Oc.run progs hz n o0 with box:=bx} x e W→Rc W→YieldAt Fence.wide m Tryz.prog l #[x.v] W fun e W'=>e= .returned (.bool true)∧OutW Mt B w0 b (Oc.run progs hz (n+1) o0) W'∧Rc W')
  {W:World} (h0:OutW Mt B w0 b o0 W) (hr:Rc W):
  CallsIn Fence.wide (m+1) Tryz.prog 123 #[.func (.yield l) #[] #[],.pointer (some ⟨qo,0,none⟩),.pointer (some ⟨qh,0,none⟩)] W fun e W'=>(∃v,e= .returned v)∧OutW Mt B w0 b (Oc.run progs hz 2000 o0) W'∧Rc W':=by
 have HRC:=am hRc;have HY:=am hY;have H0:=am h0;have HR:=am hr;have HOK:=am hok;have HC0:=am hc0;have HQ:=am (show∀W',Keep (M0 b .nil .nil) w0 W'→W'.cell? ⟨qo,0,none⟩=some (.pointer (some ⟨b,0,none⟩))∧W'.cell? ⟨qh,0,none⟩=some (.int .i64 hz)from fun W' hk=>
  ⟨(mut_cell hk (fun h=>hob (nil_m0 h)) (World.block_lt_of_cell? w0 _ hqo) 0).trans hqo,(mut_cell hk (fun h=>hhb (nil_m0 h)) (World.block_lt_of_cell? w0 _ hqh) 0).trans hqh⟩)
 clear hRc hY h0 hr hok hc0 hqo hqh;refine callsIn_of_wp Tryz.func123 rfl trivial ?_ rfl;simp only[Tryz.ntmps123,List.size_toArray,List.length_cons,List.length_nil,Nat.reduceAdd,Nat.reduceSub,Array.replicate_succ,Array.replicate_zero,List.push_toArray,List.append_toArray,List.nil_append,List.cons_append]
 gi_wp2
 gi_loopw [] (fun wr=>∃n:Nat,n≤2000∧Aside0 ((Oc.run progs hz n o0).com.length=n)∧Aside0 (OutW Mt B w0 b (Oc.run progs hz n o0) wr)∧Aside0 (Rc wr)) (fun wr=>2000-lenC wr b)
 case atStart=>exact⟨0,Nat.zero_le _,⟨by rw[show Oc.run progs hz 0 o0=o0 from rfl,HC0.out];rfl⟩,H0,HR⟩
 case round=>
  clear H0 HR;obtain⟨n,hn,HL,HW,HR⟩:=hrel;obtain⟨on,hon⟩:∃on,Oc.run progs hz n o0=on:=⟨_,rfl⟩;rw[hon]at HL HW;have HON:=am hon;clear hon;obtain⟨ph,bh,ch,sh,hO,hT⟩:=HW.out.ex;obtain⟨co,ch0⟩:=HQ.out _ hT.keep0;have c5:wr.cell? ⟨b,5,none⟩=some (.slice ch.A ch.n ch.c):=hO.cells 5 _ rfl;have c4:wr.cell? ⟨b,4,none⟩=some (.slice bh.A bh.n bh.c):=hO.cells 4 _ rfl;have hcn:ch.n=n:=by
   obtain⟨ss,h1,h2⟩:=hO.com;rw[(Kd.R_reads' h1).1,h2.len,HL.out]
  have hLC:=HW.out.lenC;rw[HL.out]at hLC;have HLC:=am hLC;have HO:=am hO;have HT:=am hT;have HRR:=HR;have HBOK:=am (HON.out▸HOK.out n hn);have HMO:=am (hO.mo HW.out.mt);obtain⟨chA,chn,chc⟩:=ch;simp only at hcn c5;subst hcn;clear hO hT hLC;by_cases hlt:chn<2000
  ·have d1:decide ((chn:Int)<2000)=true:=decide_eq_true (by omega);have d1':decide (chn<2000)=true:=decide_eq_true hlt;have HLS:=am (show∀w',Below wr.heap.size wr w'→w'.cell? ⟨qo,0,none⟩=some (.pointer (some ⟨b,0,none⟩))∧w'.cell? ⟨b,4,none⟩=some (.slice bh.A bh.n bh.c)∧w'.cell? ⟨qh,0,none⟩=some (.int .i64 hz)from fun w' hb=>by
    have t0:=box_more hb HO.out.blk;have l1:=World.block_lt_of_cell? wr _ co;have l2:=World.block_lt_of_cell? wr _ ch0;exact⟨(hb.cell (p:=⟨qo,0,none⟩) l1).trans co,by simp[World.cell?,t0,outCells],(hb.cell (p:=⟨qh,0,none⟩) l2).trans ch0⟩)
   by_cases hhd:∃e bx,on.box=e::bx∧e.t<hz
   ·obtain⟨ev,bx,hbx,het⟩:=hhd;have hbox:=HO.out.box;rw[hbx]at hbox;have hbn:=HBOK.out.bd.bn;rw[hbx]at hbn;simp only[List.length_cons]at hbn
    have HTK:=am (show∀(w1:World) (M':Nat→Prop),Below wr.heap.size wr w1→(∀k,M' k→k<w1.heap.size)→(∀k,k<wr.heap.size→M' k→Mo Mt b ⟨chA,chn,chc⟩ sh k)→Calls Tryz.prog 124 #[.slice bh.A bh.n bh.c,.int .i64 hz] w1 (fun r w'=>∃(h':SH) (x:SE),r= .returned (.tuple #[.slice h'.A h'.n h'.c,.agg #[.int .i64 x.t,.slice x.k.A x.k.n x.k.c,.int .i64 x.lp,.int .i64 x.kd,.int .i64 x.pr,.int .i64 x.ar],.bool true])∧EvsAt M' w' h' bx∧EvAt M' w' x ev∧Below w1.heap.size w1 w')from fun w1 M' hb hM' hm=>
     take_yes hz (hbox.fresh (Keep.of_below hb) hm) hM' het (by omega))
    have HBX:=am hbx;have HET:=am het;clear hbox hbn hbx het
    gi_upto_region 1 with (fail)
    refine wpIn_wide.2 ?_;refine sz_ 14 (S:=fun w'=>w'.cell? ⟨qo,0,none⟩=some (.pointer (some ⟨b,0,none⟩))∧w'.cell? ⟨b,4,none⟩=some (.slice bh.A bh.n bh.c)∧w'.cell? ⟨qh,0,none⟩=some (.int .i64 hz)) (ds:=[12]) ⟨(HLS.out _ (below_drew (Below.refl wr.heap.size wr))).1,(HLS.out _ (below_drew (Below.refl wr.heap.size wr))).2.1,(HLS.out _ (below_drew (Below.refl wr.heap.size wr))).2.2⟩ (fun hHeld=> ?_);refine tz_ 0 14 14 1 hHeld ?_;refine pz_ 1 15 14 3 ?_;refine pz_ 2 16 14 7 ?_;refine tz_ 3 17 14 15 hHeld ?_;refine tz_ 4 18 14 31 hHeld ?_
    refine join_ (σ:=Nat×SH×SE) 3 (bv 14 2047) (fun s=>[(19,.tuple #[.slice s.2.1.A s.2.1.n s.2.1.c,.agg #[.int .i64 s.2.2.t,.slice s.2.2.k.A s.2.2.k.n s.2.2.k.c,.int .i64 s.2.2.lp,.int .i64 s.2.2.kd,.int .i64 s.2.2.pr,.int .i64 s.2.2.ar],.bool true]),(5,.pointer (some ⟨s.1,0,none⟩)),(13,.tuple #[.slice s.2.1.A s.2.1.n s.2.1.c,.agg #[.int .i64 s.2.2.t,.slice s.2.2.k.A s.2.2.k.n s.2.2.k.c,.int .i64 s.2.2.lp,.int .i64 s.2.2.kd,.int .i64 s.2.2.pr,.int .i64 s.2.2.ar],.bool true]),(20,.slice s.2.1.A s.2.1.n s.2.1.c),(21,.agg #[.int .i64 s.2.2.t,.slice s.2.2.k.A s.2.2.k.n s.2.2.k.c,.int .i64 s.2.2.lp,.int .i64 s.2.2.kd,.int .i64 s.2.2.pr,.int .i64 s.2.2.ar]),(22,.bool true)]) (fun s w'=>Res5 (Mo Mt b ⟨chA,chn,chc⟩ sh) wr bx ev s.1 s.2.1 s.2.2 w') ?_ ?_
    rotate_left
    ·intro hCont;refine two_ (i:=5) (j:=10) (Ni:=some 19) (Nj:=some 5) (bv 14 63) (bv 14 1055) rfl rfl rfl rfl (by kernel_rfl) (by decide) (by decide) (fun K hK=> ?_) (fun K hK=> ?_)
     ·skip
      refine goes_ Tryz.func124 (by kernel_rfl) rfl #[.slice bh.A bh.n bh.c,.int .i64 hz] (by rfl) rfl rfl (by simp only[List.map_toArray,List.map_cons,List.map_nil];rfl) ?_;with_reducible refine(HTK.out _ (Mo Mt b ⟨chA,chn,chc⟩ sh) (below_drew (Below.refl _ _)) (drew_lt HMO.out) (fun _ _ h=>h)).mono ?_
      rintro e w3 ⟨hx,x,rfl,hE,hX,hb3⟩;refine⟨_,rfl,?_⟩;have hb4:=(below_drew (Below.refl wr.heap.size wr)).trans (hb3.mono (Nat.le_refl _));refine hK.out _ _ ⟨(HLS.out _ hb4).1,(HLS.out _ hb4).2.1,(HLS.out _ hb4).2.2⟩ (fun hHeld=> ?_);clear hK K;refine norm_ (a':= ?_) ?_ ?_;rotate_left
      ·show Act.put _ (some 19) _=_;simp only[Act.put,List.setIfInBounds_toArray,List.set_cons_zero,List.set_cons_succ,i64_w,i32_w];rfl
      refine pz_ 6 13 14 127 ?_;refine pz_ 7 20 14 255 ?_;refine pz_ 8 21 14 511 ?_;refine pz_ 9 22 14 1023 ?_;refine one_ (i:=10) (N:=some 5) (bv 14 2047) rfl rfl (by kernel_rfl) (by decide) (fun K hK=> ?_);refine value_ (w1:= ?_) (v:= ?_) (by rfl) rfl ?_ ?_;rotate_left 2
      ·go_simp;constructor
       ·rfl
       ·rfl
      refine hK.out _ _ ⟨(HLS.out _ (below_alloc hb4 _)).1,(HLS.out _ (below_alloc hb4 _)).2.1,(HLS.out _ (below_alloc hb4 _)).2.2⟩ (fun hHeld=> ?_);clear hK K;refine norm_ (a':= ?_) ?_ ?_;rotate_left
      ·show Act.put _ (some 5) _=_;simp only[Act.put,List.setIfInBounds_toArray,List.set_cons_zero,List.set_cons_succ,i64_w,i32_w];rfl
      exact norm_ (by simp only[putAll,Act.put,List.setIfInBounds_toArray,List.set_cons_zero,List.set_cons_succ]) (hCont (w3.heap.size,hx,x) _ (res5_call (below_drew (Below.refl wr.heap.size wr)) hE hX hb3))
     ·skip
      refine value_ (w1:= ?_) (v:= ?_) (by rfl) rfl ?_ ?_;rotate_left 2
      ·go_simp;constructor
       ·rfl
       ·rfl
      refine hK.out _ _ ⟨(HLS.out _ (below_drew (below_alloc (Below.refl wr.heap.size wr) _))).1,(HLS.out _ (below_drew (below_alloc (Below.refl wr.heap.size wr) _))).2.1,(HLS.out _ (below_drew (below_alloc (Below.refl wr.heap.size wr) _))).2.2⟩ (fun hHeld=> ?_);clear hK K;refine norm_ (a':= ?_) ?_ ?_;rotate_left
      ·show Act.put _ (some 5) _=_;simp only[Act.put,List.setIfInBounds_toArray,List.set_cons_zero,List.set_cons_succ,i64_w,i32_w];rfl
      refine one_ (i:=5) (N:=some 19) (bv 14 1087) rfl rfl (by kernel_rfl) (by decide) (fun K hK=> ?_);refine goes_ Tryz.func124 (by kernel_rfl) rfl #[.slice bh.A bh.n bh.c,.int .i64 hz] (by rfl) rfl rfl (by simp only[List.map_toArray,List.map_cons,List.map_nil];rfl) ?_;with_reducible refine(HTK.out _ (Mq (Mo Mt b ⟨chA,chn,chc⟩ sh) wr.heap.size) (below_drew (below_alloc (Below.refl _ _) _)) (mq_lt HMO.out) (fun _ hk h=>mq_old hk h)).mono ?_
      rintro e w3 ⟨hx,x,rfl,hE,hX,hb3⟩;refine⟨_,rfl,?_⟩;have hb4:=(below_drew (below_alloc (Below.refl wr.heap.size wr) _)).trans (hb3.mono ((below_drew (below_alloc (Below.refl wr.heap.size wr) _)).size));refine hK.out _ _ ⟨(HLS.out _ hb4).1,(HLS.out _ hb4).2.1,(HLS.out _ hb4).2.2⟩ (fun hHeld=> ?_);clear hK K;refine norm_ (a':= ?_) ?_ ?_;rotate_left
      ·show Act.put _ (some 19) _=_;simp only[Act.put,List.setIfInBounds_toArray,List.set_cons_zero,List.set_cons_succ,i64_w,i32_w];rfl
      refine pz_ 6 13 14 1151 ?_;refine pz_ 7 20 14 1279 ?_;refine pz_ 8 21 14 1535 ?_;refine pz_ 9 22 14 2047 ?_;exact norm_ (by simp only[putAll,Act.put,List.setIfInBounds_toArray,List.set_cons_zero,List.set_cons_succ]) (hCont (wr.heap.size,hx,x) _ (res5_alloc (Below.refl wr.heap.size wr) hE hX ((below_drew (Below.refl _ _)).trans hb3)))
    rintro⟨q5,hx,x⟩ w7 hR;have hHeld:w7.cell? ⟨qo,0,none⟩=some (.pointer (some ⟨b,0,none⟩))∧w7.cell? ⟨b,4,none⟩=some (.slice bh.A bh.n bh.c)∧w7.cell? ⟨qh,0,none⟩=some (.int .i64 hz):=HLS.out w7 hR.below;have HR:=am hR;have hbk:=hR.blk;simp only at hbk;have z0:w7.cell? ⟨q5,0,none⟩=some (.int .i64 0):=by simp[World.cell?,hbk]
    have z1:w7.cell? ⟨q5,1,none⟩=some (.slice none 0 0):=by simp[World.cell?,hbk]
    have z2:w7.cell? ⟨q5,2,none⟩=some (.int .i64 0):=by simp[World.cell?,hbk]
    have z3:w7.cell? ⟨q5,3,none⟩=some (.int .i64 0):=by simp[World.cell?,hbk]
    have z4:w7.cell? ⟨q5,4,none⟩=some (.int .i64 0):=by simp[World.cell?,hbk]
    have z5:w7.cell? ⟨q5,5,none⟩=some (.int .i64 0):=by simp[World.cell?,hbk]
    have y0:w7.frozen? ⟨q5,0,none⟩=false:=blk_frozen hbk 0;have y1:w7.frozen? ⟨q5,1,none⟩=false:=blk_frozen hbk 1;have y2:w7.frozen? ⟨q5,2,none⟩=false:=blk_frozen hbk 2;have y3:w7.frozen? ⟨q5,3,none⟩=false:=blk_frozen hbk 3;have y4:w7.frozen? ⟨q5,4,none⟩=false:=blk_frozen hbk 4;have y5:w7.frozen? ⟨q5,5,none⟩=false:=blk_frozen hbk 5;clear hR;refine norm_ (a':= ?_) ?_ ?_;rotate_left
    ·simp only[putAll,Act.put,List.setIfInBounds_toArray,List.set_cons_zero,List.set_cons_succ];rfl
    refine pz_ 11 4 14 4095 ?_;refine last_ (i:=12) (N:=none) (bv 14 8191) rfl rfl (by kernel_rfl) (by decide) (fun K hK=> ?_);refine skip_ (w1:= ?_) (by rfl) rfl ?_ ?_;rotate_left
    ·go_simp;rfl
    refine hK.out _ _ ?_;clear hK K;refine pz_ 13 6 14 16383 ?_;refine done_ (by kernel_rfl) ?_;obtain⟨xt,⟨xA,xn,xc⟩,xl,xd,xp,xa⟩:=x;obtain⟨w8,hw8⟩:∃w8,(((((w7.setCell ⟨q5,0,none⟩ (.int .i64 xt)).setCell ⟨q5,1,none⟩ (.slice xA xn xc)).setCell ⟨q5,2,none⟩ (.int .i64 xl)).setCell ⟨q5,3,none⟩ (.int .i64 xd)).setCell ⟨q5,4,none⟩ (.int .i64 xp)).setCell ⟨q5,5,none⟩ (.int .i64 xa)=w8:=⟨_,rfl⟩;rw[hw8];have hbx8:EvBox w8 q5 ⟨xt,⟨xA,xn,xc⟩,xl,xd,xp,xa⟩:=by
     rw[←hw8];exact blk_put (blk_put (blk_put (blk_put (blk_put (blk_put hbk 0 (.int .i64 xt) rfl) 1 (.slice xA xn xc) rfl) 2 (.int .i64 xl) rfl) 3 (.int .i64 xd) rfl) 4 (.int .i64 xp) rfl) 5 (.int .i64 xa) rfl
    have hg8:w7.grownBy w8 (some q5):=by
     rw[←hw8];exact grown_cells [.int .i64 xt,.slice xA xn xc,.int .i64 xl,.int .i64 xd,.int .i64 xp,.int .i64 xa] w7 0
    have hR7:=HR.out;have hb8:Below wr.heap.size wr w8:=hR7.below.trans ⟨hg8.os,hg8.tape,hg8.output,hg8.size,fun k hk=>hg8.block k (Nat.lt_of_lt_of_le hk hR7.below.size) fun e=>by
     cases e;have:=hR7.new;simp only at this;omega⟩
    have hk8:Keep (Mq (Mo Mt b ⟨chA,chn,chc⟩ sh) q5) w7 w8:=Keep.grown hg8 fun k hk=>by
     cases hk;exact .inr rfl
    have hin:∀k,k<w7.heap.size→Mo Mt b ⟨chA,chn,chc⟩ sh k→Mq (Mo Mt b ⟨chA,chn,chc⟩ sh) q5 k:=fun _ _ h=> .inl h;have hB8:EvsAt (Mo Mt b ⟨chA,chn,chc⟩ sh) w8 hx bx:=hR7.bx.fresh hk8 hin;have hX8:EvAt (Mo Mt b ⟨chA,chn,chc⟩ sh) w8 ⟨xt,⟨xA,xn,xc⟩,xl,xd,xp,xa⟩ ev:=hR7.x.fresh hk8 hin;have hO8:=HO.out.more hb8;obtain⟨hO9,hK9⟩:=hO8.put 4 (.slice hx.A hx.n hx.c) (bh':=hx) (o':={on with box:=bx}) rfl hO8.ps hB8 rfl rfl;have hT9:OutTo Mt B w0 b .nil .nil (w8.setCell ⟨b,4,none⟩ (.slice hx.A hx.n hx.c)) ⟨chA,chn,chc⟩ sh:=(HT.out.trans (OutTo.more hb8)).trans (OutTo.put 4 _);have hX9:=hX8.keep hK9
    have hKR:Keep (fun k=>k=b) wr (w8.setCell ⟨b,4,none⟩ (.slice hx.A hx.n hx.c)):=(Keep.of_below hb8).trans (Keep.set (Mt:=fun k=>k=b) (b:=b) rfl _);have hqb:q5≠b:=fun e=>by
     have h1:w8.heap[q5]?=_:=hbx8;rw[e,hO8.blk]at h1;cases h1
    have hbx9:EvBox (w8.setCell ⟨b,4,none⟩ (.slice hx.A hx.n hx.c)) q5 ⟨xt,⟨xA,xn,xc⟩,xl,xd,xp,xa⟩:=(Below.heap_setCell w8 ⟨b,4,none⟩ _ q5 hqb).trans hbx8;have co8:=(HQ.out _ (HT.out.trans (OutTo.more hb8)).keep0).1;have c48:w8.cell? ⟨b,4,none⟩=some (.slice bh.A bh.n bh.c):=hO8.cells 4 _ rfl;have f48:=hO8.free 4;obtain⟨w9,hw9⟩:∃w9,w8.setCell ⟨b,4,none⟩ (.slice hx.A hx.n hx.c)=w9:=⟨_,rfl⟩;have HW9:=am hw9;rw[hw9]at hO9 hT9 hX9 hKR hbx9;have HBX9:=am hbx9
    obtain⟨fn,tmps,assign,body,hy,hRR⟩:=HY.out chn ev bx ⟨xt,⟨xA,xn,xc⟩,xl,xd,xp,xa⟩ w9 hlt (by rw[HON.out];exact HBX.out) HET.out (by rw[HON.out];exact HL.out) (by
     rw[HON.out];exact⟨⟨_,_,_,_,hO9,hT9,hX9⟩,fun k hk=>Nat.lt_of_lt_of_le (HW.out.mt k hk) hKR.size⟩) (HRC.out _ _ HRR.out hKR)
    simp only[SE.v]at hy;have HBX8:=am hbx8;clear hbx8 hg8 hR7 hb8 hk8 hin hB8 hX8 hO8 hO9 hK9 hT9 hX9 hKR hqb hbx9 hbk z0 z1 z2 z3 z4 z5 y0 y1 y2 y3 y4 y5 hw8 hw9;obtain⟨e0,e1,e2,e3,e4,e5⟩:=HBX9.out.cells;simp only at e0 e1 e2 e3 e4 e5
    gi_upto_region 4 with (fail)
    rw[HW9.out]
    gi_wp2
    refine hRR.mono ?_;rintro e W3 ⟨rfl,hW3,hR3⟩;have HW3:=am hW3;have HR3:=am hR3;have HNX:=am (show(Oc.run progs hz (chn+1) o0).com.length=chn+1 by
     rw[Oc.run_next (by rw[HON.out];exact HBX.out) HET.out,Oc.exec_com,List.length_append];simp only[HON.out];have:=HL.out;simp;omega)
    have HL3:=am (hW3.lenC.trans HNX.out);clear hRR hW3 hR3 hy e0 e1 e2 e3 e4 e5 co8 c48 f48 c4 c5 co ch0
    gi_wp2
    go_roundw
    case rel=>exact⟨chn+1,Nat.succ_le_of_lt hlt,HNX,HW3,HR3⟩
    case measure=>
     have h1:=HL3.out;have h2:=HLC.out;simp only[h1,h2];omega
   ·have hne:on.rest hz:=fun e he hlt=>hhd ⟨e,on.box.tail,by
     cases hb:on.box with
     |nil=>simp[hb]at he
     |cons f l=>simp[hb]at he;subst he;rfl,hlt⟩
    have hbox:=HO.out.box;have HTK:=am (show∀(w1:World) (M':Nat→Prop),Below wr.heap.size wr w1→(∀k,M' k→k<w1.heap.size)→(∀k,k<wr.heap.size→M' k→Mo Mt b ⟨chA,chn,chc⟩ sh k)→Calls Tryz.prog 124 #[.slice bh.A bh.n bh.c,.int .i64 hz] w1 (fun r w'=>r= .returned (.tuple #[.slice bh.A bh.n bh.c,.agg #[.int .i64 0,.slice none 0 0,.int .i64 0,.int .i64 0,.int .i64 0,.int .i64 0],.bool false])∧Below w1.heap.size w1 w')from fun w1 M' hb hM' hm=>
     take_no hz (hbox.fresh (Keep.of_below hb) hm) (fun e he=>hne e he))
    have HNE:=am hne;clear hhd hne hbox
    gi_upto_region 1 with (fail)
    refine wpIn_wide.2 ?_;refine sz_ 14 (S:=fun w'=>w'.cell? ⟨qo,0,none⟩=some (.pointer (some ⟨b,0,none⟩))∧w'.cell? ⟨b,4,none⟩=some (.slice bh.A bh.n bh.c)∧w'.cell? ⟨qh,0,none⟩=some (.int .i64 hz)) (ds:=[12]) ⟨(HLS.out _ (below_drew (Below.refl wr.heap.size wr))).1,(HLS.out _ (below_drew (Below.refl wr.heap.size wr))).2.1,(HLS.out _ (below_drew (Below.refl wr.heap.size wr))).2.2⟩ (fun hHeld=> ?_);refine tz_ 0 14 14 1 hHeld ?_;refine pz_ 1 15 14 3 ?_;refine pz_ 2 16 14 7 ?_;refine tz_ 3 17 14 15 hHeld ?_;refine tz_ 4 18 14 31 hHeld ?_
    refine join_ (σ:=Nat) 3 (bv 14 2047) (fun s=>[(19,.tuple #[.slice bh.A bh.n bh.c,.agg #[.int .i64 0,.slice none 0 0,.int .i64 0,.int .i64 0,.int .i64 0,.int .i64 0],.bool false]),(5,.pointer (some ⟨s,0,none⟩)),(13,.tuple #[.slice bh.A bh.n bh.c,.agg #[.int .i64 0,.slice none 0 0,.int .i64 0,.int .i64 0,.int .i64 0,.int .i64 0],.bool false]),(20,.slice bh.A bh.n bh.c),(21,.agg #[.int .i64 0,.slice none 0 0,.int .i64 0,.int .i64 0,.int .i64 0,.int .i64 0]),(22,.bool false)]) (fun s w'=>Res5n wr s w') ?_ ?_;rotate_left
    ·intro hCont;refine two_ (i:=5) (j:=10) (Ni:=some 19) (Nj:=some 5) (bv 14 63) (bv 14 1055) rfl rfl rfl rfl (by kernel_rfl) (by decide) (by decide) (fun K hK=> ?_) (fun K hK=> ?_)
     ·skip
      refine goes_ Tryz.func124 (by kernel_rfl) rfl #[.slice bh.A bh.n bh.c,.int .i64 hz] (by rfl) rfl rfl (by simp only[List.map_toArray,List.map_cons,List.map_nil];rfl) ?_;with_reducible refine(HTK.out _ (Mo Mt b ⟨chA,chn,chc⟩ sh) (below_drew (Below.refl _ _)) (drew_lt HMO.out) (fun _ _ h=>h)).mono ?_
      rintro e w3 ⟨rfl,hb3⟩;refine⟨_,rfl,?_⟩;have hb4:=(below_drew (Below.refl wr.heap.size wr)).trans (hb3.mono (Nat.le_refl _));refine hK.out _ _ ⟨(HLS.out _ hb4).1,(HLS.out _ hb4).2.1,(HLS.out _ hb4).2.2⟩ (fun hHeld=> ?_);clear hK K;refine norm_ (a':= ?_) ?_ ?_;rotate_left
      ·show Act.put _ (some 19) _=_;simp only[Act.put,List.setIfInBounds_toArray,List.set_cons_zero,List.set_cons_succ,i64_w,i32_w];rfl
      refine pz_ 6 13 14 127 ?_;refine pz_ 7 20 14 255 ?_;refine pz_ 8 21 14 511 ?_;refine pz_ 9 22 14 1023 ?_;refine one_ (i:=10) (N:=some 5) (bv 14 2047) rfl rfl (by kernel_rfl) (by decide) (fun K hK=> ?_);refine value_ (w1:= ?_) (v:= ?_) (by rfl) rfl ?_ ?_;rotate_left 2
      ·go_simp;constructor
       ·rfl
       ·rfl
      refine hK.out _ _ ⟨(HLS.out _ (below_alloc hb4 _)).1,(HLS.out _ (below_alloc hb4 _)).2.1,(HLS.out _ (below_alloc hb4 _)).2.2⟩ (fun hHeld=> ?_);clear hK K;refine norm_ (a':= ?_) ?_ ?_;rotate_left
      ·show Act.put _ (some 5) _=_;simp only[Act.put,List.setIfInBounds_toArray,List.set_cons_zero,List.set_cons_succ,i64_w,i32_w];rfl
      exact norm_ (by simp only[putAll,Act.put,List.setIfInBounds_toArray,List.set_cons_zero,List.set_cons_succ]) (hCont w3.heap.size _ (res5n_call (below_drew (Below.refl wr.heap.size wr)) hb3))
     ·skip
      refine value_ (w1:= ?_) (v:= ?_) (by rfl) rfl ?_ ?_;rotate_left 2
      ·go_simp;constructor
       ·rfl
       ·rfl
      refine hK.out _ _ ⟨(HLS.out _ (below_drew (below_alloc (Below.refl wr.heap.size wr) _))).1,(HLS.out _ (below_drew (below_alloc (Below.refl wr.heap.size wr) _))).2.1,(HLS.out _ (below_drew (below_alloc (Below.refl wr.heap.size wr) _))).2.2⟩ (fun hHeld=> ?_);clear hK K;refine norm_ (a':= ?_) ?_ ?_;rotate_left
      ·show Act.put _ (some 5) _=_;simp only[Act.put,List.setIfInBounds_toArray,List.set_cons_zero,List.set_cons_succ,i64_w,i32_w];rfl
      refine one_ (i:=5) (N:=some 19) (bv 14 1087) rfl rfl (by kernel_rfl) (by decide) (fun K hK=> ?_);refine goes_ Tryz.func124 (by kernel_rfl) rfl #[.slice bh.A bh.n bh.c,.int .i64 hz] (by rfl) rfl rfl (by simp only[List.map_toArray,List.map_cons,List.map_nil];rfl) ?_;with_reducible refine(HTK.out _ (Mq (Mo Mt b ⟨chA,chn,chc⟩ sh) wr.heap.size) (below_drew (below_alloc (Below.refl _ _) _)) (mq_lt HMO.out) (fun _ hk h=>mq_old hk h)).mono ?_
      rintro e w3 ⟨rfl,hb3⟩;refine⟨_,rfl,?_⟩;have hb4:=(below_drew (below_alloc (Below.refl wr.heap.size wr) _)).trans (hb3.mono ((below_drew (below_alloc (Below.refl wr.heap.size wr) _)).size));refine hK.out _ _ ⟨(HLS.out _ hb4).1,(HLS.out _ hb4).2.1,(HLS.out _ hb4).2.2⟩ (fun hHeld=> ?_);clear hK K;refine norm_ (a':= ?_) ?_ ?_;rotate_left
      ·show Act.put _ (some 19) _=_;simp only[Act.put,List.setIfInBounds_toArray,List.set_cons_zero,List.set_cons_succ,i64_w,i32_w];rfl
      refine pz_ 6 13 14 1151 ?_;refine pz_ 7 20 14 1279 ?_;refine pz_ 8 21 14 1535 ?_;refine pz_ 9 22 14 2047 ?_;exact norm_ (by simp only[putAll,Act.put,List.setIfInBounds_toArray,List.set_cons_zero,List.set_cons_succ]) (hCont wr.heap.size _ (res5n_alloc (Below.refl wr.heap.size wr) ((below_drew (Below.refl _ _)).trans hb3)))
    rintro q5 w7 hR;have hHeld:w7.cell? ⟨qo,0,none⟩=some (.pointer (some ⟨b,0,none⟩))∧w7.cell? ⟨b,4,none⟩=some (.slice bh.A bh.n bh.c)∧w7.cell? ⟨qh,0,none⟩=some (.int .i64 hz):=HLS.out w7 hR.below;have HR:=am hR;have hbk:=hR.blk;have z0:w7.cell? ⟨q5,0,none⟩=some (.int .i64 0):=by simp[World.cell?,hbk]
    have z1:w7.cell? ⟨q5,1,none⟩=some (.slice none 0 0):=by simp[World.cell?,hbk]
    have z2:w7.cell? ⟨q5,2,none⟩=some (.int .i64 0):=by simp[World.cell?,hbk]
    have z3:w7.cell? ⟨q5,3,none⟩=some (.int .i64 0):=by simp[World.cell?,hbk]
    have z4:w7.cell? ⟨q5,4,none⟩=some (.int .i64 0):=by simp[World.cell?,hbk]
    have z5:w7.cell? ⟨q5,5,none⟩=some (.int .i64 0):=by simp[World.cell?,hbk]
    have y0:w7.frozen? ⟨q5,0,none⟩=false:=blk_frozen hbk 0;have y1:w7.frozen? ⟨q5,1,none⟩=false:=blk_frozen hbk 1;have y2:w7.frozen? ⟨q5,2,none⟩=false:=blk_frozen hbk 2;have y3:w7.frozen? ⟨q5,3,none⟩=false:=blk_frozen hbk 3;have y4:w7.frozen? ⟨q5,4,none⟩=false:=blk_frozen hbk 4;have y5:w7.frozen? ⟨q5,5,none⟩=false:=blk_frozen hbk 5;clear hR;refine norm_ (a':= ?_) ?_ ?_;rotate_left
    ·simp only[putAll,Act.put,List.setIfInBounds_toArray,List.set_cons_zero,List.set_cons_succ];rfl
    refine pz_ 11 4 14 4095 ?_;refine last_ (i:=12) (N:=none) (bv 14 8191) rfl rfl (by kernel_rfl) (by decide) (fun K hK=> ?_);refine skip_ (w1:= ?_) (by rfl) rfl ?_ ?_;rotate_left
    ·go_simp;rfl
    refine hK.out _ _ ?_;clear hK K;refine pz_ 13 6 14 16383 ?_;refine done_ (by kernel_rfl) ?_;obtain⟨w8,hw8⟩:∃w8,(((((w7.setCell ⟨q5,0,none⟩ (.int .i64 0)).setCell ⟨q5,1,none⟩ (.slice none 0 0)).setCell ⟨q5,2,none⟩ (.int .i64 0)).setCell ⟨q5,3,none⟩ (.int .i64 0)).setCell ⟨q5,4,none⟩ (.int .i64 0)).setCell ⟨q5,5,none⟩ (.int .i64 0)=w8:=⟨_,rfl⟩;rw[hw8];have hg8:w7.grownBy w8 (some q5):=by
     rw[←hw8];exact grown_cells [.int .i64 0,.slice none 0 0,.int .i64 0,.int .i64 0,.int .i64 0,.int .i64 0] w7 0
    have hR7:=HR.out;have hb8:Below wr.heap.size wr w8:=hR7.below.trans ⟨hg8.os,hg8.tape,hg8.output,hg8.size,fun k hk=>hg8.block k (Nat.lt_of_lt_of_le hk hR7.below.size) fun e=>by
     cases e;have:=hR7.new;omega⟩
    have hF:Oc.run progs hz 2000 o0=on:=by
     rw[show 2000=chn+(2000-chn)by omega,Oc.run_add,HON.out,Oc.run_rest HNE.out]
    have HFIN:=am (show OutW Mt B w0 b (Oc.run progs hz 2000 o0) w8 by
     rw[hF];exact⟨⟨_,_,_,_,HO.out.more hb8,HT.out.trans (OutTo.more hb8)⟩,fun k hk=>Nat.lt_of_lt_of_le (HW.out.mt k hk) hb8.size⟩)
    have HRF:=am (HRC.out _ _ HRR.out (Keep.of_below hb8));clear hg8 hR7 hb8 hF hw8 z0 z1 z2 z3 z4 z5 y0 y1 y2 y3 y4 y5 hbk
    gi_wp2
    exact bodyPost_ret (results_none rfl _ _ _) rfl ⟨⟨_,rfl⟩,HFIN.out,HRF.out⟩
  ·obtain rfl:chn=2000:=by omega
   have d1:decide ((2000:Int)<2000)=false:=rfl;have HFIN:=am (show OutW Mt B w0 b (Oc.run progs hz 2000 o0) wr by rw[HON.out];exact HW.out)
   gi_wp2
   go_end0
   exact⟨⟨_,rfl⟩,HFIN.out,HR.out⟩
end Go.Proofs.YtfnimdhghglanaaGreat.Hand
end
