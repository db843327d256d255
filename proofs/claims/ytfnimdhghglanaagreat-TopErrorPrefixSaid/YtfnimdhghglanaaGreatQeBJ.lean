/- TopErrorPrefix, part 36 of 41; no condition. (Printed from the session's own texts: what is not used left out, spaces spared.) -/
import Derived.Test.YtfnimdhghglanaaGreatQeAB
import Derived.Test.YtfnimdhghglanaaGreatQeBA
import Derived.Test.YtfnimdhghglanaaGreatQeBI
set_option maxRecDepth 100000
set_option maxHeartbeats 8000000
set_option linter.unusedVariables false
set_option linter.unusedSimpArgs false
section
namespace Go.Proofs.YtfnimdhghglanaaGreat.Hand
open Go.RowKit Go.Shelf Go.Proofs.YtfnimdhghglanaaGreatW.PrintWords Go.Proofs.YtfnimdhghglanaaGreatW.PrintLast Go.Proofs.YtfnimdhghglanaaGreatW.PrintMore
attribute [local go_sem] max2_int min2_int max_two min_two max_three min_three max_four min_four
section
abbrev TSim:TypeId:=72
def simCells (c:SCf) (n g cg gl cl:Nat) (ph:SH) (m:Int) (ov:Bool):Array Value:= #[.slice c.lps.A c.lps.n c.lps.c,.slice c.pgs.A c.pgs.n c.pgs.c,.int .i64 c.la,.int .i64 c.en,.int .i64 c.cp,.slice (some ⟨g,0,none⟩) n cg,.slice (some ⟨gl,0,none⟩) n cl,.slice ph.A ph.n ph.c,.int .i64 m,.bool ov]
def Ms (Mt:Nat→Prop) (b gl k:Nat):Prop:=Mt k∨k=b∨k=gl
structure SimAt (Mt:Nat→Prop) (B:Nat) (w:World) (b n g cg gl cl:Nat) (c:SCf) (hs:List SH) (ss:List SLp) (ph:SH) (s:Sq):Prop where
 blk:w.heap[b]?=some (.cells (simCells c n g cg gl cl ph s.n s.ov) TSim (0,0))
 tab:TabAt (Ms Mt b gl) B w g n cg hs s.tr
 row:LRow w B gl n cl ss
 lps:All2 (LpAt (Mtab (Ms Mt b gl) g hs) w) ss s.lps
 pend:EvsAt (Mtab (Ms Mt b gl) g hs) w ph s.pend
 hb:B≤b
def My (M:Nat→Prop) (D:Nat→Bool) (x:Nat→Value) (k:Nat):Prop:=M k∨(D 4=true∧(x 4).ownBlock=some k)∨(D 6=true∧(x 6).ownBlock=some k)
structure StartI (M:Nat→Prop) (W:World) (n:Nat) (L:List Lp) (E:List Ev) (D:Nat→Bool) (x:Nat→Value) (w:World):Prop where
 below:Below W.heap.size W w
 m:D 4=true→∃g c,x 4= .slice (some ⟨g,0,none⟩) n c∧HRow w W.heap.size g n c (List.replicate n SH.nil)
 s:D 6=true→∃g c ss,x 6= .slice (some ⟨g,0,none⟩) n c∧LRow w W.heap.size g n c ss∧All2 (LpAt (My M D x) w) ss L
 i:D 8=true→∃h:SH,x 8= .slice h.A h.n h.c∧EvsAt (My M D x) w h E
section
variable {M:Nat→Prop} {W:World} {n:Nat} {L:List Lp} {E:List Ev} {D:Nat→Bool} {x:Nat→Value} {w w':World}
theorem StartI.own (h:StartI M W n L E D x w) (k:Nat) (hk:My M D x k):M k∨(W.heap.size≤k∧k<w.heap.size):=by
 rcases hk with hk|⟨h1,h2⟩|⟨h1,h2⟩
 ·exact .inl hk
 ·obtain⟨g,c,e,hr⟩:=h.m h1;rw[e]at h2;cases h2;exact .inr ⟨hr.typed.2.1,hr.typed.2.2⟩
 ·obtain⟨g,c,ss,e,hr,_⟩:=h.s h1;rw[e]at h2;cases h2;exact .inr ⟨hr.typed.2.1,hr.typed.2.2⟩
theorem StartI.lt (h:StartI M W n L E D x w) (hM:∀k,M k→k<W.heap.size) (k:Nat) (hk:My M D x k):k<w.heap.size:=by
 rcases h.own k hk with hk|hk
 ·exact Nat.lt_of_lt_of_le (hM k hk) h.below.size
 ·exact hk.2
theorem StartI.old (h:StartI M W n L E D x w) (k:Nat) (hk:k<W.heap.size) (hm:My M D x k):M k:=by
 rcases h.own k hm with h1|h1
 ·exact h1
 ·omega
theorem StartI.add (h:StartI M W n L E D x w) {c:Nat} {v:Value} (hD:D c=false) (hb:Below w.heap.size w w') (hv:∀k,v.ownBlock=some k→c=8∨w.heap.size≤k)
  (m:c=4→∃g d,v= .slice (some ⟨g,0,none⟩) n d∧HRow w' W.heap.size g n d (List.replicate n SH.nil))
  (s:c=6→∃g d ss,v= .slice (some ⟨g,0,none⟩) n d∧LRow w' W.heap.size g n d ss∧All2 (LpAt (Mg (My M D x) g) w') ss L)
  (i:c=8→∃h:SH,v= .slice h.A h.n h.c∧EvsAt (My M D x) w' h E):StartI M W n L E (fun i=>i==c||D i) (upd x c v) w':=by
 have k:=Keep.of_below (Mt:=My M D x) hb;have hd:∀j,j≠c→((j==c||D j)=true↔D j=true):=fun j hj=>by simp[hj]
 have hx:∀j,j≠c→upd x c v j=x j:=fun j hj=>by simp[upd,hj]
 have hm:∀k,k<w.heap.size→My M (fun i=>i==c||D i) (upd x c v) k→My M D x k:=fun k hk hm=>by
  rcases hm with hm|⟨h1,h2⟩|⟨h1,h2⟩
  ·exact .inl hm
  ·by_cases e:4=c
   ·subst e;have h3:v.ownBlock=some k:=by simpa [upd]using h2
    rcases hv k h3 with h4|h4<;>omega
   ·rw[hx 4 e]at h2;exact .inr (.inl ⟨(hd 4 e).1 h1,h2⟩)
  ·by_cases e:6=c
   ·subst e;have h3:v.ownBlock=some k:=by simpa [upd]using h2
    rcases hv k h3 with h4|h4<;>omega
   ·rw[hx 6 e]at h2;exact .inr (.inr ⟨(hd 6 e).1 h1,h2⟩)
 refine⟨h.below.trans (hb.mono h.below.size),fun h1=> ?_,fun h1=> ?_,fun h1=> ?_⟩
 ·by_cases e:4=c
  ·subst e
   simpa [upd]using m rfl
  ·obtain⟨g,d,e1,e2⟩:=h.m ((hd _ e).1 h1);exact⟨g,d,by rw[hx _ e];exact e1,e2.stay (hb.block g e2.typed.2.2)⟩
 ·by_cases e:6=c
  ·subst e;obtain⟨g,d,ss,e1,e2,e3⟩:=s rfl;refine⟨g,d,ss,by simpa [upd]using e1,e2,e3.imp fun _ _ h=>h.fresh (Keep.refl _ _) fun k hk hm2=> ?_⟩;rcases hm2 with hm2|⟨h3,h4⟩|⟨h3,h4⟩
   ·exact .inl (.inl hm2)
   ·exact .inl (.inr (.inl ⟨(hd 4 (by omega)).1 h3,by rw[←hx 4 (by omega)];exact h4⟩))
   ·refine .inr ?_;have h5:v.ownBlock=some k:=by simpa [upd]using h4
    rw[e1]at h5;cases h5;rfl
  ·obtain⟨g,d,ss,e1,e2,e3⟩:=h.s ((hd _ e).1 h1);exact⟨g,d,ss,by rw[hx _ e];exact e1,e2.stay (hb.block g e2.typed.2.2),e3.imp fun _ _ h=>h.fresh k hm⟩
 ·by_cases e:8=c
  ·subst e;obtain⟨h3,e1,e2⟩:=i rfl;refine⟨h3,by simpa [upd]using e1,e2.fresh (Keep.refl _ _) fun k hk hm2=> ?_⟩;rcases hm2 with hm2|⟨h3,h4⟩|⟨h3,h4⟩
   ·exact .inl hm2
   ·exact .inr (.inl ⟨(hd 4 (by omega)).1 h3,by rw[←hx 4 (by omega)];exact h4⟩)
   ·exact .inr (.inr ⟨(hd 6 (by omega)).1 h3,by rw[←hx 6 (by omega)];exact h4⟩)
  ·obtain⟨q,e1,e2⟩:=h.i ((hd _ e).1 h1);exact⟨q,by rw[hx _ e];exact e1,e2.fresh k hm⟩
end
theorem simStart_calls {Mt:Nat→Prop} {w:World} (hM:∀k,Mt k→k<w.heap.size) (c:SCf) {cf:Cf} {N P:Nat} (hok:CfOk cf N P) (hc:CfAt Mt w c cf):
  Calls Tryz.prog 30 #[c.v] w fun r w'=>∃(b g cg gl cl:Nat) (ss:List SLp) (ph:SH),r= .returned (.pointer (some ⟨b,0,none⟩))∧SimAt Mt w.heap.size w' b N g cg gl cl c (List.replicate N .nil) ss ph cf.s0∧Below w.heap.size w w':=by
 obtain⟨⟨cA,cn,cc⟩,⟨pA,pn,pc⟩,la,en,cp⟩:=c;have hcn:cn=N:=by
  obtain⟨ss,p1,p2⟩:=hc.lps;have h1:=p1.len;have h2:=p2.len;have h3:=hok.n;simp only at h1;omega
 subst hcn;have hN8:=hok.n8;have hN1:=hok.n1;have HST:=am (show∀(M':Nat→Prop) (W:World),(∀k,M' k→k<W.heap.size)→CfAt M' W ⟨⟨cA,cn,cc⟩,⟨pA,pn,pc⟩,la,en,cp⟩ cf→Calls Tryz.prog 50 #[.agg #[.slice cA cn cc,.slice pA pn pc,.int .i64 la,.int .i64 en,.int .i64 cp]] W (fun e w'=>∃(g c:Nat) (ss:List SLp),e= .returned (.slice (some ⟨g,0,none⟩) cn c)∧LRow w' W.heap.size g cn c ss∧All2 (LpAt (Mg M' g) w') ss (cf.lps.map lp0)∧Below W.heap.size W w')from fun M' W hM' hcf=>by
  have h1:=states_calls hM' ⟨⟨cA,cn,cc⟩,⟨pA,pn,pc⟩,la,en,cp⟩ hcf (by rw[hok.n];exact hN1) (by rw[hok.n];exact hN8) hok.row;rw[hok.n]at h1;simp only[SCf.v]at h1;exact h1)
 have HIN:=am (show∀(M':Nat→Prop) (W:World),(∀k,M' k→k<W.heap.size)→CfAt M' W ⟨⟨cA,cn,cc⟩,⟨pA,pn,pc⟩,la,en,cp⟩ cf→Calls Tryz.prog 52 #[.agg #[.slice cA cn cc,.slice pA pn pc,.int .i64 la,.int .i64 en,.int .i64 cp]] W (fun e w'=>∃h:SH,e= .returned (.slice h.A h.n h.c)∧EvsAt M' w' h (sortC (evs0 cf.lps))∧Below W.heap.size W w')from fun M' W hM' hcf=>by
  have h1:=initial_calls hM' ⟨⟨cA,cn,cc⟩,⟨pA,pn,pc⟩,la,en,cp⟩ hcf (by rw[hok.n];exact hN8) hok.row;simp only[SCf.v]at h1;exact h1)
 have HCF:=am hc;have HM:=am hM;have HNK:=am hok.n;clear hM hc hok;simp only[SCf.v];go_enter Tryz.func30,Tryz.ntmps30;go_upto_region 1 with (fail)
 obtain⟨qc,hqc⟩:∃qc,w.heap.size=qc:=⟨_,rfl⟩;obtain⟨ws,hws⟩:∃ws,w.alloc (.cells #[.slice cA cn cc,.slice pA pn pc,.int .i64 la,.int .i64 en,.int .i64 cp] 25)=ws:=⟨_,rfl⟩;have hb1:Below w.heap.size w ws:=hws▸below_alloc (Below.refl _ _) _;have hbc:ws.heap[qc]?=some (.cells #[.slice cA cn cc,.slice pA pn pc,.int .i64 la,.int .i64 en,.int .i64 cp] 25 (0,0)):=by rw[←hws,←hqc];exact World.alloc_heap_new _ _
 rw[hqc,hws];have HB1:=am hb1;have HMS:=am (show∀k,Mt k→k<ws.heap.size from fun k hk=>Nat.lt_of_lt_of_le (HM.out k hk) hb1.size);have HCS:=am (HCF.out.keep (Keep.of_below hb1));have HEL:=am (show∀w',Below ws.heap.size ws w'→w'.cell? ⟨qc,0,none⟩=some (.slice cA cn cc)∧w'.cell? ⟨qc,1,none⟩=some (.slice pA pn pc)∧w'.cell? ⟨qc,2,none⟩=some (.int .i64 la)∧w'.cell? ⟨qc,3,none⟩=some (.int .i64 en)∧w'.cell? ⟨qc,4,none⟩=some (.int .i64 cp)from fun w' hb=>by
  have h9:=box_more hb hbc;refine⟨?_,?_,?_,?_,?_⟩<;>simp[World.cell?,h9])
 clear hb1 hbc hqc hws;refine sz_ 12 (S:=fun w'=>w'.cell? ⟨qc,0,none⟩=some (.slice cA cn cc)∧w'.cell? ⟨qc,1,none⟩=some (.slice pA pn pc)∧w'.cell? ⟨qc,2,none⟩=some (.int .i64 la)∧w'.cell? ⟨qc,3,none⟩=some (.int .i64 en)∧w'.cell? ⟨qc,4,none⟩=some (.int .i64 cp)) (ds:=[]) ⟨(HEL.out _ (below_drew (Below.refl ws.heap.size ws))).1,(HEL.out _ (below_drew (Below.refl ws.heap.size ws))).2.1,(HEL.out _ (below_drew (Below.refl ws.heap.size ws))).2.2.1,(HEL.out _ (below_drew (Below.refl ws.heap.size ws))).2.2.2.1,(HEL.out _ (below_drew (Below.refl ws.heap.size ws))).2.2.2.2⟩ (fun hHeld=> ?_)
 refine pz_ 1 4 12 2 ?_;refine tz_ 0 3 12 3 hHeld ?_;refine tz_ 2 5 12 7 hHeld ?_;refine pz_ 3 6 12 15 ?_;refine tz_ 5 8 12 47 hHeld ?_;refine tz_ 7 10 12 175 hHeld ?_;refine compA_ (fuel:=3) (bv 12 511) [(4,7),(6,9),(8,11)] (fun c=>[]) (StartI Mt ws cn (cf.lps.map lp0) (sortC (evs0 cf.lps))) (by kernel_rfl) (by decide) (by decide) (fun D x w' hI=>HEL.out w' hI.below) (fun x=>⟨below_drew (Below.refl _ _),(fun h=>by cases h),(fun h=>by cases h),(fun h=>by cases h)⟩) ?_ ?_
 ·intro c hc;simp only[List.map_cons,List.map_nil,List.mem_cons,List.not_mem_nil,or_false]at hc;rcases hc with rfl|rfl|rfl
  ·refine⟨_,_,rfl,rfl,by simp,fun D x w' hI hD hd a' ha K hK=> ?_⟩;simp only[mkA,List.map_cons,List.map_nil,putAll,Act.put,List.setIfInBounds_toArray,List.set_cons_zero,List.set_cons_succ]at ha;subst ha;refine Kd.R_make_step kH (w0:=w') w'.heap.size THd (by rfl) rfl 31 (.tmp 6) (.tmp 6) rfl (cn:Int) rfl rfl Tryz.underlying31 (.slice none 0 0) 24 infoEvs rfl (by decide) (by omega) SH.nil (ok:=fun _=>True) (okp:=fun _=>True) rfl (fun _ hk=>hk) trivial (by omega) (by omega) (Below.refl _ _) (Nat.le_refl _) ?_;intro v1 w1 hr hb hg hnew
   obtain⟨g,c1,rfl,hg1,hg2,_⟩:=Kd.R_form hr (by rw[List.length_replicate];omega);rw[List.length_replicate,Int.toNat_natCast]at hr ⊢;refine hK _ _ (hI.add hD hb (fun k hk=>by cases hk;exact .inr hg1) (fun _=>⟨g,c1,rfl,Kd.R_lower hr hI.below.size⟩) (fun h=>by omega) (fun h=>by omega))
  ·refine⟨_,_,rfl,rfl,by simp,fun D x w' hI hD hd a' ha K hK=> ?_⟩;simp only[mkA,List.map_cons,List.map_nil,putAll,Act.put,List.setIfInBounds_toArray,List.set_cons_zero,List.set_cons_succ]at ha;subst ha;refine goes_ Tryz.func50 (by kernel_rfl) rfl #[.agg #[.slice cA cn cc,.slice pA pn pc,.int .i64 la,.int .i64 en,.int .i64 cp]] (by rfl) rfl rfl (by simp only[List.map_toArray,List.map_cons,List.map_nil];rfl) ?_;refine(HST.out _ w' (hI.lt HMS.out) (HCS.out.fresh (Keep.of_below hI.below) hI.old)).mono ?_;rintro e w3 ⟨g,c1,ss,rfl,hrow,hal,hb3⟩
   exact⟨_,rfl,hK _ _ (hI.add hD hb3 (fun k hk=>by cases hk;exact .inr hrow.typed.2.1) (fun h=>by omega) (fun _=>⟨g,c1,ss,rfl,Kd.R_lower hrow hI.below.size,hal⟩) (fun h=>by omega))⟩
  ·refine⟨_,_,rfl,rfl,by simp,fun D x w' hI hD hd a' ha K hK=> ?_⟩;simp only[mkA,List.map_cons,List.map_nil,putAll,Act.put,List.setIfInBounds_toArray,List.set_cons_zero,List.set_cons_succ]at ha;subst ha;refine goes_ Tryz.func52 (by kernel_rfl) rfl #[.agg #[.slice cA cn cc,.slice pA pn pc,.int .i64 la,.int .i64 en,.int .i64 cp]] (by rfl) rfl rfl (by simp only[List.map_toArray,List.map_cons,List.map_nil];rfl) ?_;refine(HIN.out _ w' (hI.lt HMS.out) (HCS.out.fresh (Keep.of_below hI.below) hI.old)).mono ?_;rintro e w3 ⟨h3,rfl,hl3,hb3⟩
   exact⟨_,rfl,hK _ _ (hI.add hD hb3 (fun k hk=> .inl rfl) (fun h=>by omega) (fun h=>by omega) (fun _=>⟨h3,rfl,hl3⟩))⟩
 intro x w2 hI;have hHeld:=HEL.out w2 hI.below;obtain⟨g,cg,hx4,hrg⟩:=hI.m (by decide);obtain⟨gl,cl,ss,hx6,hrl,hal⟩:=hI.s (by decide);obtain⟨ph,hx8,hpe⟩:=hI.i (by decide);refine norm_ (a':= ?_) ?_ ?_;rotate_left
 ·simp only[mkA,List.map_cons,List.map_nil,putAll,Act.put,List.setIfInBounds_toArray,List.set_cons_zero,List.set_cons_succ];rfl
 refine pz_ 9 12 12 1023 ?_;refine one_ (i:=10) (N:=some 13) (bv 12 2047) rfl rfl (by kernel_rfl) (by decide) (fun K hK=> ?_);refine value_ (w1:= ?_) (v:= ?_) (by rfl) rfl ?_ ?_;rotate_left 2
 ·go_simp;constructor
  ·rfl
  ·rfl
 refine hK.out _ _ ⟨(HEL.out _ (below_alloc hI.below _)).1,(HEL.out _ (below_alloc hI.below _)).2.1,(HEL.out _ (below_alloc hI.below _)).2.2.1,(HEL.out _ (below_alloc hI.below _)).2.2.2.1,(HEL.out _ (below_alloc hI.below _)).2.2.2.2⟩ (fun hHeld=> ?_);clear hK K;refine norm_ (a':= ?_) ?_ ?_;rotate_left
 ·show Act.put _ (some 13) _=_;simp only[Act.put,List.setIfInBounds_toArray,List.set_cons_zero,List.set_cons_succ,i64_w,i32_w];rfl
 refine pz_ 11 2 12 4095 ?_;refine done_ (by kernel_rfl) ?_;obtain⟨w3,hw3⟩:∃w3,w2.alloc (.cells #[.slice cA cn cc,.slice pA pn pc,.int .i64 la,.int .i64 en,.int .i64 cp,.slice (some ⟨g,0,none⟩) cn cg,.slice (some ⟨gl,0,none⟩) cn cl,.slice ph.A ph.n ph.c,.int .i64 0,.bool false] TSim)=w3:=⟨_,rfl⟩;have hb3:Below w2.heap.size w2 w3:=hw3▸below_alloc (Below.refl _ _) _
 have hk3:w3.heap[w2.heap.size]?=some (.cells #[.slice cA cn cc,.slice pA pn pc,.int .i64 la,.int .i64 en,.int .i64 cp,.slice (some ⟨g,0,none⟩) cn cg,.slice (some ⟨gl,0,none⟩) cn cl,.slice ph.A ph.n ph.c,.int .i64 0,.bool false] TSim (0,0)):=by rw[←hw3];exact World.alloc_heap_new _ _
 have hbw:Below w.heap.size w w3:=(HB1.out.trans (hI.below.mono HB1.out.size)).trans (hb3.mono (Nat.le_trans HB1.out.size hI.below.size));have hfin:SimAt Mt w.heap.size w3 w2.heap.size cn g cg gl cl ⟨⟨cA,cn,cc⟩,⟨pA,pn,pc⟩,la,en,cp⟩ (List.replicate cn .nil) ss ph cf.s0:=by
  have hmy:∀k,k<w2.heap.size→Mtab (Ms Mt w2.heap.size gl) g (List.replicate cn .nil) k→My Mt ([(4,7),(6,9),(8,11)].map Prod.fst).contains x k:=fun k hk hm=>by
   rcases hm with (hm|hm|hm)|hm|⟨y,hy,hm⟩
   ·exact .inl hm
   ·omega
   ·exact .inr (.inr ⟨by decide,by rw[hx6,hm];rfl⟩)
   ·exact .inr (.inl ⟨by decide,by rw[hx4,hm];rfl⟩)
   ·rw[(List.mem_replicate.1 hy).2]at hm;cases hm
  have hkp:=Keep.of_below (Mt:=My Mt ([(4,7),(6,9),(8,11)].map Prod.fst).contains x) hb3;have hsz:=HB1.out.size;refine⟨hk3,⟨HRow.stay (Kd.R_lower hrg hsz) (hb3.block g hrg.typed.2.2),by simp only[Cf.s0,List.length_replicate];exact HNK.out.symm,fun i h es h1 h2=> ?_,fun i j h h' _ h1 _ k hk=> ?_⟩,LRow.stay (Kd.R_lower hrl hsz) (hb3.block gl hrl.typed.2.2),hal.imp fun _ _ h=>h.fresh hkp hmy,hpe.fresh hkp hmy,Nat.le_trans hsz hI.below.size⟩
  ·rw[(List.mem_replicate.1 (List.mem_of_getElem? h1)).2];rw[(List.mem_replicate.1 (List.mem_of_getElem? h2)).2];exact⟨[],Kd.R_nil _ _ _ _ _,.nil⟩
  ·rw[(List.mem_replicate.1 (List.mem_of_getElem? h1)).2]at hk;cases hk
 have HFIN:=am hfin;have HBW:=am hbw;rw[hw3];clear hfin hbw hk3 hb3 hw3 hrg hrl hal hpe hI hx4 hx6 hx8
 go_wp2_with (fail)
 go_ret;exact⟨_,g,cg,gl,cl,ss,ph,rfl,HFIN.out,HBW.out⟩
end
theorem SimAt.cells {Mt:Nat→Prop} {B:Nat} {w w':World} {b n g cg gl cl:Nat} {c:SCf} {hs:List SH} {ss:List SLp} {ph:SH} {s:Sq} (h:SimAt Mt B w b n g cg gl cl c hs ss ph s) (hb:Below w.heap.size w w'):∀j u,(simCells c n g cg gl cl ph s.n s.ov)[j]?=some u→w'.cell? ⟨b,j,none⟩=some u:=fun j u hu=>by
 have h1:=box_more hb h.blk;simp only[World.cell?,h1];exact hu
theorem SimAt.more {Mt:Nat→Prop} {B:Nat} {w w':World} {b n g cg gl cl:Nat} {c:SCf} {hs:List SH} {ss:List SLp} {ph:SH} {s:Sq} (h:SimAt Mt B w b n g cg gl cl c hs ss ph s) (hb:Below w.heap.size w w'):SimAt Mt B w' b n g cg gl cl c hs ss ph s:=
 ⟨box_more hb h.blk,h.tab.more hb (fun _ _ h=>h),h.row.stay (hb.block gl h.row.typed.2.2),h.lps.imp fun _ _ h=>h.keep (Keep.of_below hb),h.pend.keep (Keep.of_below hb),h.hb⟩
theorem ready_calls {Mt:Nat→Prop} {B:Nat} {w:World} {b n g cg gl cl:Nat} {c:SCf} {hs:List SH} {ss:List SLp} {ph:SH} {s:Sq} (h:SimAt Mt B w b n g cg gl cl c hs ss ph s):
  Calls Tryz.prog 32 #[.pointer (some ⟨b,0,none⟩)] w fun r w'=>r= .returned (.bool (s.ready c.en))∧Below w.heap.size w w':=by
 obtain⟨pA,pn,pc⟩:=ph;have q7:w.cell? ⟨b,7,none⟩=some (.slice pA pn pc):=h.cells (Below.refl _ _) 7 _ rfl;have q3:w.cell? ⟨b,3,none⟩=some (.int .i64 c.en):=h.cells (Below.refl _ _) 3 _ rfl;obtain⟨es,r1,r2⟩:=h.pend;have hpn:pn=es.length:=r1.len;subst hpn;obtain⟨en,hen⟩:∃en,c.en=en:=⟨_,rfl⟩;rw[hen]at q3 ⊢;unfold Sq.ready;cases hsp:s.pend with
 |nil=>
  rw[hsp]at r2;cases r2;clear r1 h q3 hsp hen;go_enter Tryz.func32,Tryz.ntmps32;go_upto_region 1 with (fail)
  simp only[List.length_nil]at q7;refine sz_ 22 (S:=fun w'=>w'.cell? ⟨b,7,none⟩=some (.slice pA 0 pc)) (ds:=[]) (q7) (fun hHeld=> ?_);refine pz_ 0 3 22 1 ?_;refine pz_ 1 4 22 3 ?_;refine pz_ 2 5 22 7 ?_;refine tz_ 3 6 22 15 hHeld ?_;refine pz_ 4 7 22 31 ?_;refine pz_ 5 8 22 63 ?_;refine pz_ 6 9 22 127 ?_;refine uz_ 7 10 22 255 ?_;refine uz_ 8 11 22 511 ?_;refine uz_ 9 12 22 1023 ?_;refine uz_ 10 13 22 2047 ?_;refine uz_ 11 14 22 4095 ?_;refine uz_ 12 15 22 8191 ?_;refine uz_ 13 16 22 16383 ?_;refine uz_ 14 17 22 32767 ?_;refine uz_ 15 18 22 65535 ?_;refine uz_ 16 19 22 131071 ?_
  refine uz_ 17 20 22 262143 ?_;refine uz_ 18 21 22 524287 ?_;refine uz_ 19 22 22 1048575 ?_;refine pz_ 20 23 22 2097151 ?_;refine pz_ 21 2 22 4194303 ?_;refine done_ (by kernel_rfl) ?_
  go_wp2_with (fail)
  go_ret;exact⟨rfl,below_drew (Below.refl _ _)⟩
 |cons e p=>
  rw[hsp]at r2;cases r2 with
  |cons h1 h2=>
   rename_i x xs;obtain⟨ad,e0,hab,hcl⟩:=ev_head r1.here;simp only at e0;subst e0;have p0:=(hcl w (fun _ _=>rfl)).1;rw[h1.t]at p0;obtain⟨m,hm⟩:∃m,(x::xs).length=m:=⟨_,rfl⟩;have hn1:(0:Int)<(m:Int):=by rw[←hm];simp
   have hn2:decide ((0:Int)<(m:Int))=true:=decide_eq_true hn1;have hn3:0<m:=by omega
   have hn4:decide (0<m)=true:=decide_eq_true hn3;rw[hm]at q7;obtain⟨t,ht⟩:∃t,e.t=t:=⟨_,rfl⟩;rw[ht]at p0;simp only[ht];clear r1 h1 h2 h hsp hen hab hcl hm ht;go_enter Tryz.func32,Tryz.ntmps32;go_upto_region 1 with (fail)
   refine sz_ 22 (S:=fun w'=>w'.cell? ⟨b,7,none⟩=some (.slice (some ad) m pc)∧w'.cell? ad=some (.int .i64 t)∧w'.cell? ⟨b,3,none⟩=some (.int .i64 en)) (ds:=[]) ⟨q7,p0,q3⟩ (fun hHeld=> ?_);refine pz_ 0 3 22 1 ?_;refine pz_ 1 4 22 3 ?_;refine pz_ 2 5 22 7 ?_;refine tz_ 3 6 22 15 hHeld ?_;refine pz_ 4 7 22 31 ?_;refine pz_ 5 8 22 63 ?_;refine pz_ 6 9 22 127 ?_;refine pz_ 7 10 22 255 ?_;refine pz_ 8 11 22 511 ?_;refine pz_ 9 12 22 1023 ?_;refine pz_ 14 17 22 17407 ?_;refine pz_ 15 18 22 50175 ?_;refine pz_ 16 19 22 115711 ?_;refine pz_ 17 20 22 246783 ?_;refine tz_ 10 13 22 247807 hHeld ?_
   refine pz_ 11 14 22 249855 ?_;refine pz_ 12 15 22 253951 ?_;refine tz_ 13 16 22 262143 hHeld ?_;refine tz_ 18 21 22 524287 hHeld ?_;refine pz_ 19 22 22 1048575 ?_;refine pz_ 20 23 22 2097151 ?_;refine pz_ 21 2 22 4194303 ?_;refine done_ (by kernel_rfl) ?_
   go_wp2_with (fail)
   go_ret;exact⟨rfl,below_drew (Below.refl _ _)⟩
theorem gone_calls {M:Nat→Prop} {w W1:World} {base:Nat} {h:SH} {sl:List SE} {es:List Ev} {q:Nat} {xh:SH} {ca:List (List Int)} {t:TypeId} (hb:Below w.heap.size w W1) (hbase:w.heap.size≤base) (hr:Kd.R kE 49 W1 base (fun _=>True) (.slice h.A h.n h.c) sl) (hes:All2 (EvAt M w) sl es) (hM:∀k,M k→k<w.heap.size)
  (hq:w.heap[q]?=some (.cells #[.slice xh.A xh.n xh.c] t (0,0))) (hks:KeysAt M w xh ca) (b1:∀e∈es,e.k.length≤1000000) (b2:ca.length≤1000000) (b3:∀k∈ca,k.length≤1000000) (hl:es.length≤1000000):
  Calls Tryz.prog 89 #[.slice h.A h.n h.c,.func (.func 85) #[] #[.pointer (some ⟨q,0,none⟩)]] W1 fun e w'=>∃h':SH,e= .returned (.slice h'.A h'.n h'.c)∧EvsAt M w' h' (es.filter fun e=> !ca.contains e.k)∧Below w.heap.size W1 w':=by
 obtain⟨f,hf⟩:=ev_of M w;have hmap:es=sl.map f:=hes.map_is hf;have hlen:=hes.len;have hp:∀W',Keep (fun k=>w.heap.size≤k) W1 W'→∀x∈sl,Calls Tryz.prog 85 #[x.v,.pointer (some ⟨q,0,none⟩)] W' fun e w'=>e= .returned (.bool (decide ((f x).k∈ca)))∧Below W'.heap.size W' w':=fun W' hk x hx=>by
  obtain⟨e,he,hx2⟩:=hes.mem hx;have hk2:Keep (fun _=>False) w W':=⟨Nat.le_trans hb.size hk.size,fun k h1 _=>(hk.block k (Nat.lt_of_lt_of_le h1 hb.size) (by omega)).trans (hb.block k h1)⟩;have hk3:Keep M w W':=hk2.mono fun _ _ h=>h.elim;rw[←hf x e hx2];exact goneF_calls (Mt:=M) x e.k (hx2.k.keep hk3) q xh ca (hks.keep hk3) (by simp[World.cell?,hk2.block q (blk_lt hq) (fun h=>h),hq]) (b1 e he) b2 b3
 have hfil:es.filter (fun e=> !ca.contains e.k)=(sl.filter fun x=> !decide ((f x).k∈ca)).map f:=by
  rw[hmap,List.filter_map]
  congr 1
  refine List.filter_congr fun x _=> ?_;simp[Function.comp]
 have hall:∀w',Below w.heap.size w w'→All2 (EvAt M w') (sl.filter fun x=> !decide ((f x).k∈ca)) (es.filter fun e=> !ca.contains e.k):=fun w' hw=>by
  rw[hfil];refine All2.map_of f fun x hx=> ?_;obtain⟨e,he,hx2⟩:=hes.mem (List.mem_filter.1 hx).1;rw[←hf x e hx2];exact hx2.keep (Keep.of_below hw)
 obtain⟨A,n,c⟩:=h;simp only at hr ⊢;have hn:=(Kd.R_reads' hr).1;have hform:(A=none∧sl=[]∧n=0∧c=0)∨∃g,A=some ⟨g,0,none⟩:=by
  obtain⟨_,inner,ho,_⟩:=hr;rcases ho.2 with ⟨e1,_⟩|⟨g,cap,cur,e1,_⟩
  ·injection e1 with e1 e2 e3
   exact .inl ⟨e1,List.length_eq_zero_iff.1 (by omega),e2,e3⟩
  ·injection e1 with e1
   exact .inr ⟨g,e1⟩
 rcases hform with ⟨rfl,rfl,rfl,rfl⟩|⟨g,rfl⟩
 ·have hz:es=[]:=by rw[hmap];rfl
  subst hz;have HI:=am (index_gone none 0 0 q [] (fun x=>decide ((f x).k∈ca)) (Kd.R_reads' hr).2.2 (by omega) (fun W' _ x hx=>by cases hx));have HBB:=am hb;rw[show fidx (fun x=>decide ((f x).k∈ca)) []= -1 from rfl]at HI;clear hr hes hmap hlen hp hfil hall hn hb;go_enter Tryz.func89,Tryz.ntmps89
  go_wp2_with (first|(go_at_call 111;(with_reducible refine HI.out.mono ?_);rintro e wx ⟨rfl,hx⟩;have HX:=am hx;clear hx))
  go_ret;exact⟨⟨none,0,0⟩,rfl,⟨[],Rd.nil _ _ _,.nil⟩,HX.out.mono HBB.out.size⟩
 ·have hgb:=Kd.R_base hr g (by simp[Value.ownBlock]);refine(delete_calls hr q (fun x=>decide ((f x).k∈ca)) (by omega) (fun W' hk x hx=>hp W' (hk.mono fun k _ e=>by omega) x hx)).mono ?_;rintro e w' ⟨n',rfl,hto⟩;have hbw:Below w.heap.size W1 w':=hto.below.mono hbase;exact⟨⟨some ⟨g,0,none⟩,n',c⟩,rfl,⟨_,Rd.of_R rfl hto.row (fun k hk hm=>by have:=Kd.R_base hto.row k hk;have:=hM k hm;omega),hall w' (hb.trans hbw)⟩,hbw⟩
end Go.Proofs.YtfnimdhghglanaaGreat.Hand
end
section
namespace Go.Proofs.YtfnimdhghglanaaGreat.Hand
open Go Go.Proofs.YtfnimdhghglanaaGreatW.PrintLast
section
theorem put_far (a:Act) (t:Tmp) (v:Value) (h:a.tmps.size≤t):a.put (some t) v=a:=by
 show({a with tmps:=a.tmps.setIfInBounds t v}:Act)=a;rw[Array.setIfInBounds_eq_of_size_le h]
theorem mkA_far {c:Nat} {N:Tmp} (x:Nat→Value) (v:Value):∀(sl:List (Nat×Tmp)) (a:Act),(sl.map Prod.fst).Nodup→(c,N)∈sl→a.tmps.size≤N→mkA a sl x=mkA a sl (upd x c v)
 | [],_,_,h,_=>by cases h
 |(d,t)::sl,a,h1,h,hN=>by
  obtain⟨n1,h1⟩:=List.nodup_cons.1 h1;rcases List.mem_cons.1 h with e|h
  ·cases e;have hu:sl.map (fun p=>(p.2,upd x c v p.1))=sl.map (fun p=>(p.2,x p.1)):=List.map_congr_left fun p hp=>by
    have:p.1≠c:=fun e=>n1 (List.mem_map.2 ⟨p,hp,e⟩);simp[upd,this]
   show putAll (a.put (some N) (x c)) (sl.map fun p=>(p.2,x p.1))=putAll (a.put (some N) (upd x c v c)) (sl.map fun p=>(p.2,upd x c v p.1));rw[put_far a N _ hN,put_far a N _ hN,hu]
  ·have hd:d≠c:=fun e=>n1 (List.mem_map.2 ⟨(c,N),h,e.symm⟩);show mkA (a.put (some t) (x d)) sl x=mkA (a.put (some t) (upd x c v d)) sl (upd x c v);rw[show upd x c v d=x d by simp[upd,hd]];exact mkA_far x v sl _ h1 h (by show(a.tmps.setIfInBounds t (x d)).size≤N;simpa using hN)
section
variable {P:Program} {ops:Array Oper} {Q:Exit→Act→World→Prop} {md:Region.Mode} {S:World→Prop} {ds:List Nat}
def CompStepM (P:Program) (ops:Array Oper) (Q:Exit→Act→World→Prop) (deps:Nat→List Nat) (mk:(Nat→Value)→Act) (I:(Nat→Bool)→(Nat→Value)→World→Prop) (c:Nat):Prop:=
 ∃oi N,ops[c]?=some oi∧oi.dst=N∧(∀x v,(mk x).put N v=mk (upd x c v))∧∀D x w,I D x w→D c=false→(∀d∈deps c,D d=true)→∀K:Act→World→Prop,(∀v w',I (fun i=>i==c||D i) (upd x c v) w'→K ((mk x).put N v) w')→
  if Region.wanted oi (yielded ops (mk x).tmps)=true then Oper.wp P oi (mk x) w K Q else K ((mk x).put N undef) w
theorem compM_ {fuel:Nat} {l:Array Bool} {a:Act} {w:World} (l':Array Bool) (Cs:List Nat) (deps:Nat→List Nat) (mk:(Nat→Value)→Act) (x0:Nat→Value) (I:(Nat→Bool)→(Nat→Value)→World→Prop)
  (hc:compB md ops ds l l' Cs deps=true) (hn':Cs.Nodup) (ha:a=mk x0) (hB:∀D x w,I D x w→S w) (hw:I (fun _=>false) x0 w) (hs:∀c∈Cs,CompStepM P ops Q deps mk I c)
  (hk:∀x w',I Cs.contains x w'→wpAnyLast P md ops Q S ds fuel l' (mk x) w'):wpAnyLast P md ops Q S ds (fuel+Cs.length) l a w:=by
 simp only[compB,Bool.and_eq_true,beq_iff_eq]at hc;obtain⟨⟨⟨h1,h2⟩,h3⟩,h4⟩:=hc;have key:∀(k:Nat) (D:Nat→Bool) (x:Nat→Value) (w:World),(Cs.filter fun c=> !D c).length=k→(∀c,D c=true→c∈Cs∧∀d∈deps c,D d=true)→I D x w→wpAnyLast P md ops Q S ds (fuel+k) (mark l D) (mk x) w:=by
  intro k
  induction k with
  |zero=>
   intro D x w hn hD hBw;have hall:∀c∈Cs,D c=true:=fun c hc=>by
    by_cases h:D c=true
    ·exact h
    ·have h5:c∈Cs.filter fun c=> !D c:=List.mem_filter.2 ⟨hc,by simpa using h⟩;rw[List.eq_nil_of_length_eq_zero hn]at h5;cases h5
   have hDe:D=Cs.contains:=by
    funext i
    rw[Bool.eq_iff_iff,List.contains_iff_mem];exact⟨fun h=>(hD i h).1,fun h=>hall i h⟩
   rw[hDe]at hBw ⊢;rw[h3];exact hk x w hBw
  |succ k ih=>
   intro D x w hn hD hBw;have hDe:(fun i=>(Cs.filter D).contains i)=D:=by
    funext i
    rw[Bool.eq_iff_iff,List.contains_iff_mem,List.mem_filter];exact⟨fun h=>h.2,fun h=>⟨(hD i h).1,h⟩⟩
   have h5:=List.all_eq_true.1 h1 _ (subs_filter D Cs);have h6:((Cs.filter D).all fun c=>(deps c).all (Cs.filter D).contains)=true:=List.all_eq_true.2 fun c hc=>List.all_eq_true.2 fun d hd=>by
    rw[show(Cs.filter D).contains d=D d from congrFun hDe d];exact(hD c (List.mem_filter.1 hc).2).2 d hd
   rw[h6]at h5;have hmk:mark l (Cs.filter D).contains=mark l D:=congrArg (mark l) hDe;simp only[Bool.not_true,Bool.false_or,Bool.and_eq_true,Bool.or_eq_true,hmk]at h5;have h9:(Cs.filter D).length+(Cs.filter fun c=> !D c).length=Cs.length:=by
    have:=(filter_split D Cs).length_eq;rw[List.length_append]at this;exact this
   obtain⟨h7,h8⟩:=h5.resolve_left fun h10=>by
    have h11:(Cs.filter D).length=Cs.length:=by simpa using h10
    omega
   have hne:Region.ready md ops (mark l D)≠[]:=fun h10=>by
    rw[h10]at h8;cases h8
   refine⟨fun h=>absurd h hne,fun i hi=> ?_⟩;have h9:=List.all_eq_true.1 h7 i hi;simp only[Bool.and_eq_true]at h9;obtain⟨⟨hiC,hiD⟩,hid⟩:=h9;rw[show(Cs.filter D).contains i=D i from congrFun hDe i]at hiD;have hiC':i∈Cs:=List.contains_iff_mem.1 hiC;have hiD':D i=false:=by simpa using hiD
   have hdd:∀d∈deps i,D d=true:=fun d hd=>by
    have:=List.all_eq_true.1 hid d hd
    rwa [show(Cs.filter D).contains d=D d from congrFun hDe d]at this
   obtain⟨oi,N,ho,hdst,hput,hstep⟩:=hs i hiC';refine wpOp_step ho fun K' hK'=> ?_;rw[hdst];refine hstep D x w hBw hiD' hdd K' fun v w' hB'=>hK' _ _ ⟨fun _ _=>hB _ _ w' hB',?_⟩;rw[hput,mark_set];refine ih _ _ _ ?_ (fun c hc=> ?_) hB'
   ·have:=filter_less hiD' hn' hiC';omega
   ·simp only[Bool.or_eq_true,beq_iff_eq]at hc ⊢;rcases hc with rfl|hc
    ·exact⟨hiC',fun d hd=> .inr (hdd d hd)⟩
    ·exact⟨(hD c hc).1,fun d hd=> .inr ((hD c hc).2 d hd)⟩
 have h0:=key Cs.length (fun _=>false) x0 w (by simp) (fun c hc=>by cases hc) hw;rw[h4]at h0;exact ha▸h0
def CompStepN (P:Program) (ops:Array Oper) (Q:Exit→Act→World→Prop) (deps:Nat→List Nat) (a:Act) (sl:List (Nat×Tmp)) (I:(Nat→Bool)→(Nat→Value)→World→Prop) (c:Nat):Prop:=
 ∃oi N t,ops[c]?=some oi∧oi.dst=N∧(c,t)∈sl∧(N=some t∨N=none∧a.tmps.size≤t)∧∀D x w,I D x w→D c=false→(∀d∈deps c,D d=true)→∀a',a'=mkA a sl x→∀K:Act→World→Prop,(∀v w',I (fun i=>i==c||D i) (upd x c v) w'→K (a'.put N v) w')→
  if Region.wanted oi (yielded ops a'.tmps)=true then Oper.wp P oi a' w K Q else K (a'.put N undef) w
theorem compN_ {fuel:Nat} {l:Array Bool} {a:Act} {w:World} (l':Array Bool) (sl:List (Nat×Tmp)) (deps:Nat→List Nat) (I:(Nat→Bool)→(Nat→Value)→World→Prop)
  (hc:compB md ops ds l l' (sl.map Prod.fst) deps=true) (h1:(sl.map Prod.fst).Nodup) (h2:(sl.map Prod.snd).Nodup) (hB:∀D x w,I D x w→S w) (hw:∀x,I (fun _=>false) x w) (hs:∀c∈sl.map Prod.fst,CompStepN P ops Q deps a sl I c)
  (hk:∀x w',I (sl.map Prod.fst).contains x w'→wpAnyLast P md ops Q S ds fuel l' (mkA a sl x) w'):wpAnyLast P md ops Q S ds (fuel+sl.length) l a w:=by
 have h0:=compM_ (P:=P) (Q:=Q) (fuel:=fuel) (a:=a) (w:=w) l' (sl.map Prod.fst) deps (mkA a sl) (fun c=>match sl.find? fun p=>p.1==c with|some p=>a.tmps.getD p.2 undef|none=>undef) I hc h1 ?_ hB (hw _) (fun c hc=> ?_) hk
 ·rwa [List.length_map]at h0
 ·refine(putAll_self a _ fun q hq=> ?_).symm;obtain⟨p,hp,rfl⟩:=List.mem_map.1 hq;have:sl.find? (fun q=>q.1==p.1)=some p:=by
   clear hq hs hk hc h2
   induction sl with
   |nil=>cases hp
   |cons q sl ih=>
    obtain⟨n1,h1'⟩:=List.nodup_cons.1 h1;rcases List.mem_cons.1 hp with rfl|hp
    ·simp
    ·have hne:(q.1==p.1)=false:=by
      rw[beq_eq_false_iff_ne];exact fun e=>n1 (List.mem_map.2 ⟨p,hp,e.symm⟩)
     rw[List.find?_cons,hne];exact ih h1' hp
  simp only[this]
 ·obtain⟨oi,N,t,e1,e2,e3,e5,e4⟩:=hs c hc;refine⟨oi,N,e1,e2,fun x v=> ?_,fun D x w hI hD hd=>e4 D x w hI hD hd _ rfl⟩;rcases e5 with rfl|⟨rfl,e5⟩
  ·exact mkA_put x v sl a h1 h2 e3
  ·exact mkA_far x v sl a h1 e3 e5
end
end
end Go.Proofs.YtfnimdhghglanaaGreat.Hand
end
