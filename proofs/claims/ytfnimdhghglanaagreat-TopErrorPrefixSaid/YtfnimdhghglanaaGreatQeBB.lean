/- TopErrorPrefix, part 28 of 41; no condition. (Printed from the session's own texts: what is not used left out, spaces spared.) -/
import Derived.Test.YtfnimdhghglanaaGreatQeAB
import Derived.Test.YtfnimdhghglanaaGreatQeAZ
import Derived.Test.YtfnimdhghglanaaGreatQeBA
import Derived.Deep.DeepMust
import Derived.Handy
set_option maxRecDepth 100000
set_option maxHeartbeats 8000000
set_option linter.unusedVariables false
set_option linter.unusedSimpArgs false
section
namespace Go.Proofs.YtfnimdhghglanaaGreat.Hand
open Go.RowKit Go.Shelf Go.Proofs.YtfnimdhghglanaaGreatW.PrintWords Go.Proofs.YtfnimdhghglanaaGreatW.PrintLast Go.Proofs.YtfnimdhghglanaaGreatW.PrintMore
attribute [local go_sem] max2_int min2_int max_two min_two max_three min_three max_four min_four
structure CfAt (Mt:Nat→Prop) (w:World) (c:SCf) (cf:Cf):Prop where
 lps:∃ss,Rd kH Mt w c.lps ss∧All2 (fun s l=>Rd kSt Mt w s l) ss cf.lps
 pgs:PgsAt Mt w c.pgs cf.pgs
 la:c.la=cf.la
 en:c.en=cf.en
 cp:c.cp=cf.cp
theorem CfAt.fresh {Mt Mt':Nat→Prop} {w w':World} {c:SCf} {cf:Cf} (h:CfAt Mt w c cf) (k:Keep Mt w w') (hm:∀k,k<w.heap.size→Mt' k→Mt k):CfAt Mt' w' c cf:=by
 obtain⟨⟨ss,p1,p2⟩,⟨tt,q1,q2⟩,h1,h2,h3⟩:=h;exact⟨⟨ss,p1.fresh k hm,p2.imp fun _ _ h=>h.fresh k hm⟩,⟨tt,q1.fresh k hm,q2.imp fun _ _ h=>h.fresh k hm⟩,h1,h2,h3⟩
theorem CfAt.keep {Mt:Nat→Prop} {w w':World} {c:SCf} {cf:Cf} (h:CfAt Mt w c cf) (k:Keep Mt w w'):CfAt Mt w' c cf:=h.fresh k fun _ _ h=>h
theorem st_cells {w:World} {A:Option Addr} {n:Nat} {l:List StC} (h:Kd.C kSt w A n l) (k:Nat) (hk:k<n):∃ad x,A=some ad∧(∃h2:k<l.length,l[k]=x)∧w.cell? (ad.add (k*2))=some (.int .i64 x.pg)∧w.cell? ⟨(ad.add (k*2)).block,(ad.add (k*2)).off+1,none⟩=some (.int .i64 x.t):=by
 obtain⟨ad,x,e,h2,h3,q⟩:=flat_cells h k hk;exact⟨ad,x,e,h2,h3 _ rfl,q 1 _ (by decide) rfl⟩
def Mow (Mt:Nat→Prop) (h:SH) (k:Nat):Prop:=Mt k∨h.own=some k
theorem OwnEv.push {Mt:Nat→Prop} {B:Nat} {w:World} {h:SH} {es:List Ev} {ss:List SE} {s:SE} {e:Ev} (ha:All2 (EvAt (Mow Mt h) w) ss es) (hse:EvAt (Mow Mt h) w s e) {w5:World} {A:Option Addr} {m d:Nat}
  (hv:Kd.R kE 49 w5 B (fun _=>True) (.slice A m d) (ss++[s])) (hg:w.grownBy w5 h.own) (hat:(SH.mk A m d).own=h.own∨∃k,(SH.mk A m d).own=some k∧w.heap.size≤k):OwnEv (Mow Mt ⟨A,m,d⟩) B w5 ⟨A,m,d⟩ (es++[e]):=by
 have hk:Keep (Mow Mt h) w w5:=Keep.grown hg fun k hk=> .inr hk;have hm:∀k,k<w.heap.size→Mow Mt ⟨A,m,d⟩ k→Mow Mt h k:=fun k hkl hm=>by
  rcases hm with hm|hm
  ·exact .inl hm
  ·rcases hat with h1|⟨j,h1,h2⟩
   ·exact .inr (h1▸hm)
   ·rw[h1]at hm;cases hm;omega
 exact⟨ss++[s],hv,(ha.imp fun _ _ h=>h.fresh hk hm).append (.cons (hse.fresh hk hm) .nil)⟩
def evsTo (lps:List (List StC)) (i k:Nat):List Ev:=evs0 (lps.take i)++((lps.getD i []).take k).mapIdx fun k s=>ev0 i k s
theorem evsTo_row {lps:List (List StC)} {i:Nat} {row:List StC} (hi:lps[i]?=some row) {k:Nat} {s:StC} (hs:row[k]?=some s):evsTo lps i (k+1)=evsTo lps i k++[ev0 i k s]:=by
 obtain⟨h1,h2⟩:=List.getElem?_eq_some_iff.1 hs;unfold evsTo;rw[List.getD_eq_getElem?_getD,hi,Option.getD_some,←List.take_append_getElem h1,List.mapIdx_append,h2,←List.append_assoc];simp[Nat.min_eq_left (Nat.le_of_lt h1)]
theorem evsTo_next {lps:List (List StC)} {i:Nat} {row:List StC} (hr:lps[i]?=some row) {k:Nat} (hk:k=row.length):evsTo lps (i+1) 0=evsTo lps i k:=by
 obtain⟨hi,he⟩:=List.getElem?_eq_some_iff.1 hr;subst he;subst hk;unfold evsTo evs0;rw[List.take_zero,List.mapIdx_nil,List.append_nil,←List.take_append_getElem hi,List.mapIdx_append,List.flatten_append,List.getD_eq_getElem?_getD,List.getElem?_eq_getElem hi,Option.getD_some,List.take_length];simp[Nat.min_eq_left (Nat.le_of_lt hi)]
theorem evsTo_zero (lps:List (List StC)):evsTo lps 0 0=[]:=by simp[evsTo,evs0]
theorem evsTo_all (lps:List (List StC)):evsTo lps lps.length 0=evs0 lps:=by simp[evsTo]
theorem evsTo_len {lps:List (List StC)} (h8:lps.length≤8) (hr:∀l∈lps,l.length≤8) (i k:Nat):(evsTo lps i k).length≤100:=by
 unfold evsTo evs0;rw[List.length_append,List.length_flatten];have h1:=sum_le (b:=8) (l:=((lps.take i).mapIdx fun i l=>l.mapIdx fun k s=>ev0 i k s).map List.length) fun x hx=>by
  obtain⟨r,hr2,rfl⟩:=List.mem_map.1 hx;obtain⟨j,hj,rfl⟩:=List.mem_mapIdx.1 hr2;rw[List.length_mapIdx];exact hr _ (List.mem_of_mem_take (List.getElem_mem hj))
 have h2:(lps.getD i []).length≤8:=by
  rw[List.getD_eq_getElem?_getD];cases h:lps[i]?with
  |none=>simp
  |some l=>exact hr l (List.mem_of_getElem? h)
 rw[List.length_map,List.length_mapIdx,List.length_take]at h1;rw[List.length_mapIdx,List.length_take];omega
theorem initial_calls {Mt:Nat→Prop} {w:World} (hM:∀k,Mt k→k<w.heap.size) (c:SCf) {cf:Cf} (hc:CfAt Mt w c cf) (h8:cf.lps.length≤8) (hr8:∀l∈cf.lps,l.length≤8):
  Calls Tryz.prog 52 #[c.v] w fun e w'=>∃h:SH,e= .returned (.slice h.A h.n h.c)∧EvsAt Mt w' h (sortC (evs0 cf.lps))∧Below w.heap.size w w':=by
 obtain⟨⟨cA,cn,cc⟩,⟨pA,pn,pc⟩,la,en,cp⟩:=c;obtain⟨ssl,p1,p2⟩:=hc.lps;have hcn:cn=cf.lps.length:=by have h1:=p1.len;have h2:=p2.len;simp only at h1;omega
 obtain⟨n,hn⟩:∃n,cf.lps.length=n:=⟨_,rfl⟩;rw[hn]at hcn h8;subst hcn;obtain⟨n,rfl⟩:∃n,n=cn:=⟨cn,rfl⟩;have HN:=am hn;have HL:=am p1;have HLL:=am p2;have HR8:=am hr8;have HM:=am hM;clear hc p1 p2 hn hr8 hM;simp only[SCf.v];go_enter Tryz.func52,Tryz.ntmps52;go_upto_region 3 with (fail)
 obtain⟨w0,hw0⟩:∃w0,w.alloc (.cells #[.slice cA n cc,.slice pA pn pc,.int .i64 la,.int .i64 en,.int .i64 cp] 25)=w0:=⟨_,rfl⟩;rw[hw0];have HB0:=am (show Below w.heap.size w w0 from hw0▸below_alloc (Below.refl _ _) _);clear hw0
 go_loopw [11,3] (fun j out wr=>∃i:Nat,i≤n∧j= .int .i64 i∧∃h:SH,out= .slice h.A h.n h.c∧Aside0 (OwnEv (Mow Mt h) w.heap.size wr h (evsTo cf.lps i 0))∧Aside0 (Below w.heap.size w wr)) (fun j _ _=>n-(intOf j).toNat)
 case atStart=>exact⟨0,Nat.zero_le _,rfl,.nil,rfl,⟨[],Kd.R_nil _ _ _ _ _,by rw[evsTo_zero];exact .nil⟩,HB0⟩
 case round=>
  obtain⟨i,hi,rfl,⟨oA,on,oc⟩,rfl,HO,HB⟩:=hrel;by_cases hin:i<n
  ·have d3:decide ((i:Int)<(n:Int))=true:=decide_eq_true (by omega);have d3':decide (i<n)=true:=decide_eq_true hin;have mi0:(0:Int)≤(i:Int):=by omega
   have mi1:(i:Int)<(n:Nat):=by omega
   obtain⟨ad,⟨lA,ln,lc⟩,e0,⟨hl1,hx1⟩,y0⟩:=hd_cells (HL.out.below HB.out).here i hin;simp only at e0 y0;subst e0;have hil:i<cf.lps.length:=by have:=HN.out;omega
   have hrow:=HLL.out.get i hl1 hil;obtain⟨row,hre⟩:∃row,cf.lps[i]'hil=row:=⟨_,rfl⟩;rw[hx1,hre]at hrow;have HROW:=am hrow;have HIL:=am (show cf.lps[i]?=some row by rw[List.getElem?_eq_getElem hil,hre]);have hlb:ln≤8:=by have h1:=hrow.len;have h2:=HR8.out _ (List.getElem_mem hil);rw[hre]at h2;simp only at h1;omega
   clear hl1 hx1 hre hrow hil
   go_wp2_with (fail)
   clear y0;obtain⟨wm,rfl⟩:∃wm,wm=wr:=⟨wr,rfl⟩
   go_loopw [18,3] (fun j out wr=>∃k:Nat,k≤ln∧j= .int .i64 k∧∃h:SH,out= .slice h.A h.n h.c∧Aside0 (OwnEv (Mow Mt h) w.heap.size wr h (evsTo cf.lps i k))∧Aside0 (Below w.heap.size w wr)) (fun j _ _=>ln-(intOf j).toNat)
   case atStart=>exact⟨0,Nat.zero_le _,rfl,⟨oA,on,oc⟩,rfl,HO,HB⟩
   case round=>
    obtain⟨k,hk,rfl,⟨pA1,pn1,pc1⟩,rfl,HO2,HB2⟩:=hrel;by_cases hkn:k<ln
    ·have e3:decide ((k:Int)<(ln:Int))=true:=decide_eq_true (by omega);have e3':decide (k<ln)=true:=decide_eq_true hkn;have mk0:(0:Int)≤(k:Int):=by omega
     have mk1:(k:Int)<(ln:Nat):=by omega
     obtain⟨ad2,⟨spg,stm⟩,e1,⟨hl2,hx2⟩,y1,y2⟩:=st_cells (HROW.out.below HB2.out).here k hkn;simp only at e1 y1 y2;subst e1;have HST:=am (show row[k]?=some ⟨spg,stm⟩by rw[List.getElem?_eq_getElem hl2,hx2]);clear hl2 hx2;go_upto_region 8 with (fail)
     obtain⟨w8,hw8⟩:∃w8,wr.alloc (.cells #[.int .i64 spg,.int .i64 stm] 62)=w8:=⟨_,rfl⟩;obtain⟨qs,hqs⟩:∃qs,wr.heap.size=qs:=⟨_,rfl⟩;have hb8:Below wr.heap.size wr w8:=hw8▸below_alloc (Below.refl _ _) _;have hbx:w8.heap[qs]?=some (.cells #[.int .i64 spg,.int .i64 stm] 62 (0,0)):=by rw[←hw8,←hqs];exact World.alloc_heap_new _ _
     rw[hw8,hqs];obtain⟨ss,hse,hse2⟩:=HO2.out;have hes:=evsTo_len (by rw[HN.out];exact h8) HR8.out i k;have HSL:=am (show ss.length≤1000 by rw[hse2.len];omega);have HEL:=am (fun w' (hb:Below w8.heap.size w8 w')=>show w'.cell? ⟨qs,1,none⟩=some (.int .i64 stm)by have h9:=box_more hb hbx;simp[World.cell?,h9])
     have HCH:=am (show∀W:World,W.heap[w8.heap.size]?=some (.cells #[.int .i64 (i:Int)] 3 (0,0))→Calls Tryz.prog 75 #[.slice (some ⟨w8.heap.size,0,none⟩) 1 1,.int .i64 (k:Int)] W (fun e w'=>∃kh:SH,e= .returned (.slice kh.A kh.n kh.c)∧Kd.R (Kd.int .i64) 3 w' W.heap.size (fun _=>True) (.slice kh.A kh.n kh.c) [(i:Int),(k:Int)]∧Below W.heap.size W w')from fun W hW=>by
      have hc1:W.cell? ⟨w8.heap.size,0,none⟩=some (.int .i64 (i:Int)):=by simp[World.cell?,hW]
      refine(child_calls (some ⟨w8.heap.size,0,none⟩) 1 1 [(i:Int)] k W ⟨rfl,by omega,fun _=>⟨_,rfl,fun j q hq=> ?_⟩⟩ (by omega)).mono ?_
      ·cases j with
       |succ j=>simp at hq
       |zero=>
        cases hq;exact⟨[.int .i64 (i:Int)],rfl,rfl,fun m u hu=>by
         cases m with
         |succ m=>simp at hu
         |zero=>
          cases hu;exact hc1⟩
      ·rintro e w' ⟨v,rfl,hv,hb⟩;obtain⟨zA,zn,zc,hzn,rfl⟩:=R_slice3 hv;exact⟨⟨zA,zn,zc⟩,rfl,hv,hb⟩)
     have HQ4:=am (show(w8.alloc (.cells #[.int .i64 (i:Int)] 3)).drew.heap[w8.heap.size]?=some (.cells #[.int .i64 (i:Int)] 3 (0,0))from World.alloc_heap_new _ _);have HSE:=am hse;have HSE2:=am hse2;have HB8:=am hb8;have HSZ:=am (show w.heap.size≤w8.heap.size from Nat.le_trans HB2.out.size hb8.size);have HMW:=am (show∀j,Mow Mt ⟨pA1,pn1,pc1⟩ j→j<wr.heap.size from fun j hj=>by
      rcases hj with hj|hj
      ·exact Nat.lt_of_lt_of_le (HM.out j hj) HB2.out.size
      ·exact Kd.R_lt hse j hj)
     clear hw8 hqs hb8 hbx hse hse2 hes y1 y2;refine sz_ 13 (S:=fun w'=>w'.cell? ⟨qs,1,none⟩=some (.int .i64 stm)) (ds:=[11]) (HEL.out _ (below_drew (Below.refl w8.heap.size w8))) (fun hHeld=> ?_);refine pz_ 0 23 13 1 ?_;refine pz_ 1 24 13 3 ?_;refine pz_ 3 26 13 11 ?_;refine pz_ 5 28 13 43 ?_;refine pz_ 7 30 13 171 ?_;refine pz_ 8 31 13 427 ?_;refine tz_ 2 25 13 431 hHeld ?_;refine one_ (i:=4) (N:=some 27) (bv 13 447) rfl rfl (by kernel_rfl) (by decide) (fun K hK=> ?_);refine value_ (w1:= ?_) (v:= ?_) (by rfl) rfl ?_ ?_;rotate_left 2
     ·go_simp;constructor
      ·rfl
      ·rfl
     refine hK.out _ _ (HEL.out _ (below_alloc (below_drew (Below.refl w8.heap.size w8)) _)) (fun hHeld=> ?_);clear hK K;refine norm_ (a':= ?_) ?_ ?_;rotate_left
     ·show Act.put _ (some 27) _=_;simp only[Act.put,List.setIfInBounds_toArray,List.set_cons_zero,List.set_cons_succ,i64_w,i32_w];rfl
     refine one_ (i:=6) (N:=some 29) (bv 13 511) rfl rfl (by kernel_rfl) (by decide) (fun K hK=> ?_);refine goes_ Tryz.func75 (by kernel_rfl) rfl #[.slice (some ⟨w8.heap.size,0,none⟩) 1 1,.int .i64 (k:Int)] (by rfl) rfl rfl (by simp only[List.map_toArray,List.map_cons,List.map_nil];rfl) ?_;with_reducible refine(HCH.out _ HQ4.out).mono ?_
     rintro e w9 ⟨kh,rfl,hkr,hb9⟩;refine⟨_,rfl,?_⟩;have hb89:=(below_drew (below_alloc (Below.refl w8.heap.size w8) (.cells #[.int .i64 (i:Int)] 3))).trans (hb9.mono (below_drew (below_alloc (Below.refl w8.heap.size w8) _)).size);refine hK.out _ _ (HEL.out _ hb89) (fun hHeld=> ?_);clear hK K;refine norm_ (a':= ?_) ?_ ?_;rotate_left
     ·show Act.put _ (some 29) _=_;simp only[Act.put,List.setIfInBounds_toArray,List.set_cons_zero,List.set_cons_succ,i64_w,i32_w];rfl
     refine pz_ 9 32 13 1023 ?_;refine one_ (i:=10) (N:=some 33) (bv 13 2047) rfl rfl (by kernel_rfl) (by decide) (fun K hK=> ?_);refine value_ (w1:= ?_) (v:= ?_) (by rfl) rfl ?_ ?_;rotate_left 2
     ·go_simp;constructor
      ·rfl
      ·rfl
     refine hK.out _ _ (HEL.out _ (below_alloc hb89 _)) (fun hHeld=> ?_);clear hK K;refine norm_ (a':= ?_) ?_ ?_;rotate_left
     ·show Act.put _ (some 33) _=_;simp only[Act.put,List.setIfInBounds_toArray,List.set_cons_zero,List.set_cons_succ,i64_w,i32_w];rfl
     refine last_ (i:=11) (N:=some 34) (bv 13 4095) rfl rfl (by kernel_rfl) (by decide) (fun K hK=> ?_)
     refine Kd.R_append_step kE (w0:=w9) w.heap.size (by rfl) (.tmp 23) (.tmp 33) 47 49 (.agg #[.int .i64 0,.slice none 0 0,.int .i64 0,.int .i64 0,.int .i64 0,.int .i64 0]) 64 rfl Tryz.underlying47 infoEv rfl (by decide) (by omega) (.slice pA1 pn1 pc1) ss ⟨stm,kh,(i:Int),1,(k:Int),0⟩ [.int .i64 stm,.slice kh.A kh.n kh.c,.int .i64 (i:Int),.int .i64 1,.int .i64 (k:Int),.int .i64 0] (fun _=>True) (fun _=>False) rfl rfl rfl (fun _ hk=>hk.elim) (fun _ _=>trivial) (Kd.R_below HSE.out (HB8.out.trans (hb89.mono HB8.out.size))) (Below.refl _ _) (Nat.le_trans HSZ.out hb89.size) (by have:=HSL.out;omega) ?_
     intro v5 w5 hv5 hb5 hg5 hat5;obtain⟨Z5,z5,zc5,hn5,rfl⟩:=R_slice3 hv5;have HV5:=am hv5;have HG5:=am hg5;have HAT5:=am hat5;have HB5':=am hb5;clear hv5 hg5 hb5 hat5 hn5;refine hK.out _ _ ?_;clear hK K;refine norm_ (a':= ?_) ?_ ?_;rotate_left
     ·show Act.put _ (some 34) _=_;simp only[Act.put,List.setIfInBounds_toArray,List.set_cons_zero,List.set_cons_succ,i64_w,i32_w];rfl
     refine pz_ 12 3 13 8191 ?_;refine done_ (by kernel_rfl) ?_;have hb29:Below wr.heap.size wr w9:=HB8.out.trans (hb89.mono HB8.out.size);have hkey:KeyAt (Mow Mt ⟨pA1,pn1,pc1⟩) w9 kh [(i:Int),(k:Int)]:=Rd.of_R rfl hkr (fun j hj hm=>by
      have h1:=Kd.R_base hkr j hj;have h2:=HMW.out j hm;have h3:=HB8.out.size;have h4:(w8.alloc (.cells #[.int .i64 (i:Int)] 3)).drew.heap.size=w8.heap.size+1:=World.size_alloc _ _;omega)
     have hpush:=OwnEv.push (HSE2.out.imp fun _ _ h=>h.keep (Keep.of_below hb29)) (s:=⟨stm,kh,(i:Int),1,(k:Int),0⟩) (e:=ev0 i k ⟨spg,stm⟩) ⟨rfl,rfl,rfl,rfl,rfl,hkey⟩ HV5.out HG5.out HAT5.out;rw[←evsTo_row HIL.out HST.out]at hpush;have HP:=am hpush;have HB5:=am (show Below w.heap.size w w5 from(HB2.out.trans (hb29.mono HB2.out.size)).trans HB5'.out);clear hb29 hkey hpush hkr hb9 hb89
     go_wp2_with (fail)
     go_roundw
     case rel=>exact⟨k+1,Nat.succ_le_of_lt hkn,by go_num,⟨Z5,z5,zc5⟩,rfl,HP,HB5⟩
     case measure=>simp[intOf];omega
    ·obtain rfl:k=ln:=by omega
     have e3:decide ((k:Int)<(k:Int))=false:=decide_eq_false (by omega);have e3':decide (k<k)=false:=decide_eq_false (by omega);have HNX:=am (evsTo_next HIL.out (k:=k) (by have:=HROW.out.len;simp only at this;exact this))
     go_wp2_with (fail)
     go_roundw
     case rel=>exact⟨i+1,Nat.succ_le_of_lt hin,by go_num,⟨pA1,pn1,pc1⟩,rfl,⟨by rw[HNX.out];exact HO2.out⟩,HB2⟩
     case measure=>simp[intOf];omega
  ·obtain rfl:i=n:=by omega
   have d3:decide ((i:Int)<(i:Int))=false:=decide_eq_false (by omega);have d3':decide (i<i)=false:=decide_eq_false (by omega);have hmo:∀k,k<wr.heap.size→Mt k→Mow Mt ⟨oA,on,oc⟩ k:=fun _ _ h=> .inl h;have hev:EvsAt Mt wr ⟨oA,on,oc⟩ (evs0 cf.lps):=by
    have h1:=HO.out;rw[←HN.out,evsTo_all]at h1;exact h1.read (Keep.refl _ _) hmo (fun _ _=>rfl) HM.out
   have HSO:=am (sortEvents_calls hev (fun k hk=>Nat.lt_of_lt_of_le (HM.out k hk) HB.out.size) (by have:=evsTo_len (i:=cf.lps.length) (k:=0) (by rw[HN.out];exact h8) HR8.out;rw[evsTo_all]at this;omega) (fun e he=>by obtain⟨a,b,c,d,_,_,rfl⟩:=mem_evs0.1 he;simp[ev0]));have HKD:=am (evs0_keys cf.lps);clear hmo hev
   go_wp2_with (first|(go_at_call 76;go_must (with_reducible refine HSO.out.mono ?_);go_must (rintro e w9 ⟨h9,es',rfl,hev,hpm,hso,hb⟩);have HEV:=am hev;have HPM:=am hpm;have HSS:=am hso;have HB9:=am hb;clear hev hpm hso hb))
   go_ret;exact⟨h9,rfl,sortC_of HPM.out HSS.out HKD.out▸HEV.out,HB.out.trans (HB9.out.mono HB.out.size)⟩
def wi (n a b:Int):Bool:=decide (a≤n)&&decide (n≤b)
def vd (b:Bool) (e:Int):Int:=if b then 0 else e
def fst1 {α:Type} (f:α→Int):List α→Int
 | []=>0
 |x::l=>if f x=0 then fst1 f l else f x
def opC (o:OpC):Int:=vd (wi o.code 1 8) 22
def opO (n P:Int) (o:OpC):Int:=vd (
 if o.code=1 then wi o.a 1 1099511627776&&(decide (o.b=0)&&decide (o.c=0))
 else if o.code=2 then decide (0≤o.a)&&(wi o.b (-1073741824) 1073741824&&wi o.c 1 1099511627776)
 else if o.code=3 then wi o.a 1 1099511627776&&(wi o.b 0 (n-1)&&decide (o.c=0))
 else if o.code=5 then wi o.a 0 (P-1)&&(wi o.b 1 1099511627776&&decide (o.c=0))
 else if o.code=6 then wi o.a 0 1&&(wi o.b (-1073741824) 1073741824&&decide (o.c=0))
 else if o.code=7 then wi o.a 0 1&&(wi o.b (-1073741824) 1073741824&&wi o.c 0 (n-1))
 else decide (o.a=0)&&(decide (o.b=0)&&decide (o.c=0))) 22
def opT (N:Int) (o:OpC):Int:=vd (!(decide (o.code=2)&&decide (N≤o.a))) 23
def opE (la:Int) (o:OpC):Int:=vd (!(decide (o.code=2)&&decide (o.c<la))) 21
def pck (P N la:Int) (p:List OpC):Int:=if wi p.length 1 16 then fst1 (fun f=>f) [fst1 opC p,fst1 (opO p.length P) p,fst1 (opT N) p,fst1 (opE la) p]else 22
def stc (P:Int) (s:StC):Int:=if wi s.pg 0 (P-1)then vd (wi s.t 0 1152921504606846976) 11 else 22
def szs (c:Cf):Bool:=wi c.lps.length 1 8&&(decide ((c.pgs.length:Int)≤8)&&(wi c.cp 1 64&&(wi c.en 0 1152921504606846976&&c.lps.all fun l=>decide ((l.length:Int)≤8))))
def chk (c:Cf):Int:=fst1 (fun f=>f) [vd (szs c) 1,vd (decide (1≤c.la)) 20,fst1 (pck c.pgs.length c.lps.length c.la) c.pgs,fst1 (fst1 (stc c.pgs.length)) c.lps]
theorem within_calls (n a b:Int) (w:World):Calls Tryz.prog 65 #[.int .i64 n,.int .i64 a,.int .i64 b] w fun e w'=>e= .returned (.bool (wi n a b))∧Below w.heap.size w w':=by
 unfold wi;by_cases h1:a≤n
 ·have d1:decide (a≤n)=true:=decide_eq_true h1;rw[d1,Bool.true_and];go_enter Tryz.func65,Tryz.ntmps65
  go_wp2_with (fail)
  go_ret;exact⟨rfl,Below.refl _ _⟩
 ·have d1:decide (a≤n)=false:=decide_eq_false h1;rw[d1,Bool.false_and];go_enter Tryz.func65,Tryz.ntmps65
  go_wp2_with (fail)
  go_ret;exact⟨rfl,Below.refl _ _⟩
theorem pwithin_calls (n a b:Int) (w:World):Calls Tryz.prog 95 #[.int .i64 n,.int .i64 a,.int .i64 b] w fun e w'=>e= .returned (.bool (wi n a b))∧Below w.heap.size w w':=by
 unfold wi;by_cases h1:a≤n
 ·have d1:decide (a≤n)=true:=decide_eq_true h1;rw[d1,Bool.true_and];go_enter Tryz.func95,Tryz.ntmps95
  go_wp2_with (fail)
  go_ret;exact⟨rfl,Below.refl _ _⟩
 ·have d1:decide (a≤n)=false:=decide_eq_false h1;rw[d1,Bool.false_and];go_enter Tryz.func95,Tryz.ntmps95
  go_wp2_with (fail)
  go_ret;exact⟨rfl,Below.refl _ _⟩
theorem verdict_calls (b:Bool) (e:Int) (w:World):Calls Tryz.prog 66 #[.bool b,.int .i64 e] w fun r w'=>r= .returned (.int .i64 (vd b e))∧Below w.heap.size w w':=by
 unfold vd;cases b
 ·go_enter Tryz.func66,Tryz.ntmps66
  go_wp2_with (fail)
  go_ret;exact⟨rfl,Below.refl _ _⟩
 ·go_enter Tryz.func66,Tryz.ntmps66
  go_wp2_with (fail)
  go_ret;exact⟨rfl,Below.refl _ _⟩
abbrev ckV (n P N la:Int):Value:= .agg #[.int .i64 n,.int .i64 P,.int .i64 N,.int .i64 la]
abbrev TCk:TypeId:=154
abbrev TOp:TypeId:=93
theorem op2 {w1:World} {q:Nat} {a b c d:Value} (h:w1.heap[q]?=some (.cells #[a,b,c,d] TOp (0,0))):w1.cell? ⟨q,0,none⟩=some a∧w1.cell? ⟨q,1,none⟩=some b∧w1.cell? ⟨q,2,none⟩=some c∧w1.cell? ⟨q,3,none⟩=some d:=by
 refine⟨?_,?_,?_,?_⟩<;>simp[World.cell?,h]
theorem code_calls (n P N la:Int) (o:OpC) (w:World):Calls Tryz.prog 96 #[ckV n P N la,o.v] w fun r w'=>r= .returned (.int .i64 (opC o))∧Below w.heap.size w w':=by
 obtain⟨oc,oa,ob,od⟩:=o;unfold opC;simp only[OpC.v];obtain⟨b1,hb1⟩:∃b1,wi oc 1 8=b1:=⟨_,rfl⟩;rw[hb1];obtain⟨w1,hw1⟩:∃w1,(w.alloc (.cells #[.int .i64 n,.int .i64 P,.int .i64 N,.int .i64 la] TCk)).alloc (.cells #[.int .i64 oc,.int .i64 oa,.int .i64 ob,.int .i64 od] TOp)=w1:=⟨_,rfl⟩;obtain⟨hB1,_,hq3⟩:=box2 hw1;have x0:=(op2 hq3).1;have HW:=am (hb1▸pwithin_calls oc 1 8 w1);have HB:=am hB1;clear hb1 hB1 hq3;cases b1
 all_goals
  go_enter Tryz.func96,Tryz.ntmps96;go_upto_region 1 with (fail)
  clear hw1
  go_wp2_with (first|(go_at_call 95;go_must (with_reducible refine HW.out.mono ?_);go_must (rintro e w2 ⟨rfl,hb2⟩);have HB2:=am hb2;clear hb2))
  go_ret;exact⟨rfl,HB.out.trans (HB2.out.mono HB.out.size)⟩
theorem target_calls (n P N la:Int) (o:OpC) (w:World):Calls Tryz.prog 98 #[ckV n P N la,o.v] w fun r w'=>r= .returned (.int .i64 (opT N o))∧Below w.heap.size w w':=by
 obtain⟨oc,oa,ob,od⟩:=o;unfold opT;simp only[OpC.v];by_cases h1:oc=2
 ·have d1:decide (oc=2)=true:=decide_eq_true h1;have d1':(oc==2)=true:=beq_iff_eq.2 h1;by_cases h2:N≤oa
  ·have d2:decide (N≤oa)=true:=decide_eq_true h2;rw[d1,d2];go_enter Tryz.func98,Tryz.ntmps98
   go_wp2_with (fail)
   go_ret;exact⟨rfl,below_alloc (below_alloc (Below.refl _ _) _) _⟩
  ·have d2:decide (N≤oa)=false:=decide_eq_false h2;rw[d1,d2];go_enter Tryz.func98,Tryz.ntmps98
   go_wp2_with (fail)
   go_ret;exact⟨rfl,below_alloc (below_alloc (Below.refl _ _) _) _⟩
 ·have d1:decide (oc=2)=false:=decide_eq_false h1;have d1':(oc==2)=false:=beq_eq_false_iff_ne.2 h1;rw[d1];go_enter Tryz.func98,Tryz.ntmps98
  go_wp2_with (fail)
  go_ret;exact⟨rfl,below_alloc (below_alloc (Below.refl _ _) _) _⟩
theorem early_calls (n P N la:Int) (o:OpC) (w:World):Calls Tryz.prog 99 #[ckV n P N la,o.v] w fun r w'=>r= .returned (.int .i64 (opE la o))∧Below w.heap.size w w':=by
 obtain⟨oc,oa,ob,od⟩:=o;unfold opE;simp only[OpC.v];by_cases h1:oc=2
 ·have d1:decide (oc=2)=true:=decide_eq_true h1;have d1':(oc==2)=true:=beq_iff_eq.2 h1;by_cases h2:od<la
  ·have d2:decide (od<la)=true:=decide_eq_true h2;rw[d1,d2];go_enter Tryz.func99,Tryz.ntmps99
   go_wp2_with (fail)
   go_ret;exact⟨rfl,below_alloc (below_alloc (Below.refl _ _) _) _⟩
  ·have d2:decide (od<la)=false:=decide_eq_false h2;rw[d1,d2];go_enter Tryz.func99,Tryz.ntmps99
   go_wp2_with (fail)
   go_ret;exact⟨rfl,below_alloc (below_alloc (Below.refl _ _) _) _⟩
 ·have d1:decide (oc=2)=false:=decide_eq_false h1;have d1':(oc==2)=false:=beq_eq_false_iff_ne.2 h1;rw[d1];go_enter Tryz.func99,Tryz.ntmps99
  go_wp2_with (fail)
  go_ret;exact⟨rfl,below_alloc (below_alloc (Below.refl _ _) _) _⟩
structure OpS (w:World) (q5:Nat) (n P N la:Int) (o u:Array Value) (w3:World):Prop where
 ne:w.heap.size+1<q5
 bel:Below w.heap.size w w3
 k2:w3.heap[w.heap.size]?=some (.cells #[.int .i64 n,.int .i64 P,.int .i64 N,.int .i64 la] TCk (0,0))
 k3:w3.heap[w.heap.size+1]?=some (.cells o TOp (0,0))
 k5:w3.heap[q5]?=some (.cells u TOp (0,0))
theorem OpS.put {w w3:World} {q5:Nat} {n P N la:Int} {o u:Array Value} (h:OpS w q5 n P N la o u w3) (j:Nat) (v:Value) {u':Array Value} (he:u.setIfInBounds j v=u'):OpS w q5 n P N la o u' (w3.setCell ⟨q5,j,none⟩ v):=by
 have hn:=h.ne;exact⟨h.ne,h.bel.setCell (p:=⟨q5,j,none⟩) (by simp only;omega) _,(Below.heap_setCell w3 ⟨q5,j,none⟩ _ _ (show w.heap.size≠q5 by omega)).trans h.k2,(Below.heap_setCell w3 ⟨q5,j,none⟩ _ _ (show w.heap.size+1≠q5 by omega)).trans h.k3,blk_put h.k5 j v he⟩
theorem OpS.more {w w3 w':World} {q5:Nat} {n P N la:Int} {o u:Array Value} (h:OpS w q5 n P N la o u w3) (hb:Below w3.heap.size w3 w'):OpS w q5 n P N la o u w':=
 ⟨h.ne,h.bel.trans (hb.mono h.bel.size),box_more hb h.k2,box_more hb h.k3,box_more hb h.k5⟩
theorem OpS.at_ {w w':World} {q5:Nat} {n P N la:Int} {a b c d x y z t:Value} (h:OpS w q5 n P N la #[a,b,c,d] #[x,y,z,t] w'):
  (w'.cell? ⟨w.heap.size,0,none⟩=some (.int .i64 n)∧w'.cell? ⟨w.heap.size,1,none⟩=some (.int .i64 P))∧(w'.cell? ⟨w.heap.size+1,0,none⟩=some a∧w'.cell? ⟨w.heap.size+1,1,none⟩=some b∧w'.cell? ⟨w.heap.size+1,2,none⟩=some c∧w'.cell? ⟨w.heap.size+1,3,none⟩=some d)∧(w'.cell? ⟨q5,0,none⟩=some x∧w'.cell? ⟨q5,1,none⟩=some y∧w'.cell? ⟨q5,2,none⟩=some z∧w'.cell? ⟨q5,3,none⟩=some t)∧w'.frozen? ⟨q5,0,none⟩=false∧w'.frozen? ⟨q5,1,none⟩=false∧w'.frozen? ⟨q5,2,none⟩=false∧w'.frozen? ⟨q5,3,none⟩=false:=by
 have k2:=h.k2;have k3:=h.k3;have k5:=h.k5;refine⟨⟨?_,?_⟩,⟨?_,?_,?_,?_⟩,⟨?_,?_,?_,?_⟩,blk_frozen k5 0,blk_frozen k5 1,blk_frozen k5 2,blk_frozen k5 3⟩<;>simp[World.cell?,k2,k3,k5]
theorem operands_calls (n P N la:Int) (o:OpC) (w:World) (hn:0≤n∧n≤1000) (hP:0≤P∧P≤1000):Calls Tryz.prog 97 #[ckV n P N la,o.v] w fun r w'=>r= .returned (.int .i64 (opO n P o))∧Below w.heap.size w w':=by
 obtain⟨oc,oa,ob,od⟩:=o;simp only[OpC.v];obtain⟨w1,hw1⟩:∃w1,(w.alloc (.cells #[.int .i64 n,.int .i64 P,.int .i64 N,.int .i64 la] TCk)).alloc (.cells #[.int .i64 oc,.int .i64 oa,.int .i64 ob,.int .i64 od] TOp)=w1:=⟨_,rfl⟩;obtain⟨hB1,hq2,hq3⟩:=box2 hw1;obtain⟨q5,hq5⟩:∃q5,w1.heap.size=q5:=⟨_,rfl⟩;obtain⟨w2,hw2⟩:∃w2,w1.alloc (.cells #[.int .i64 oc,.int .i64 0,.int .i64 0,.int .i64 0] TOp)=w2:=⟨_,rfl⟩;have hB12:Below w1.heap.size w1 w2:=hw2▸below_alloc (Below.refl _ _) _
 have HS2:=am (show OpS w q5 n P N la #[.int .i64 oc,.int .i64 oa,.int .i64 ob,.int .i64 od] #[.int .i64 oc,.int .i64 0,.int .i64 0,.int .i64 0] w2 from
  ⟨hq5▸blk_lt hq3,hB1.trans (hB12.mono hB1.size),box_more hB12 hq2,box_more hB12 hq3,by rw[←hw2,←hq5];exact World.alloc_heap_new _ _⟩)
 have x0:=(op2 hq3).1;obtain⟨⟨a0,a1⟩,⟨o0,o1,o2,o3⟩,⟨u0,u1,u2,u3⟩,z0,z1,z2,z3⟩:=HS2.out.at_;have HQ5:=am hq5;have HW2:=am hw2;have wn:=IntWalk.i64_in (n-1) (by omega);have wP:=IntWalk.i64_in (P-1) (by omega);clear hB1 hB12 hq2 hq3 hn hP hq5 hw2;obtain⟨R,hR⟩:∃R,opO n P ⟨oc,oa,ob,od⟩=R:=⟨_,rfl⟩;rw[hR];go_enter Tryz.func97,Tryz.ntmps97;go_upto_region 1 with (fail)
 clear hw1;go_upto_region 3 with (fail)
 rw[HW2.out,HQ5.out];by_cases c1:oc=1
 ·obtain⟨b1,hb1⟩:∃b,wi oa 1 1099511627776=b:=⟨_,rfl⟩;have HA:=am (fun W=>hb1▸pwithin_calls oa 1 1099511627776 W);have HR:=am (show R=vd (b1&&(decide (ob=0)&&decide (od=0))) 22 by rw[←hR];simp only[opO,if_pos c1,hb1]);clear hR hb1;subst c1;go_upto_region 6 with (fail)
  obtain⟨w3,hw3⟩:∃w3,w2.setCell ⟨q5,1,none⟩ (.int .i64 oa)=w3:=⟨_,rfl⟩;have HS3:=am (hw3▸HS2.out.put 1 (.int .i64 oa) rfl);rw[hw3];clear hw3 a0 a1 o0 o1 o2 o3 u0 u1 u2 u3 z0 z1 z2 z3;obtain⟨⟨a0,a1⟩,⟨o0,o1,o2,o3⟩,⟨u0,u1,u2,u3⟩,z0,z1,z2,z3⟩:=HS3.out.at_
  all_goals cases b1
  all_goals go_wp2_with (first|(go_at_call 95;first|((with_reducible refine(HA.out w3).mono ?_);go_must (rintro e w4 ⟨rfl,hb4⟩);go_must (have HS4:=am (HS3.out.more hb4));go_must (obtain⟨⟨a0,a1⟩,⟨o0,o1,o2,o3⟩,⟨u0,u1,u2,u3⟩,z0,z1,z2,z3⟩:=HS4.out.at_);clear hb4)))
  all_goals go_ret
  all_goals exact⟨by rw[HR.out];first|rfl|(simp[vd];done)|(simp[vd];omega),by first|exact HS6.out.bel|exact HS5.out.bel|exact HS4.out.bel|exact HS3.out.bel⟩
 by_cases c2:oc=2
 ·obtain⟨b2,hb2⟩:∃b,wi ob (-1073741824) 1073741824=b:=⟨_,rfl⟩;have HB:=am (fun W=>hb2▸pwithin_calls ob (-1073741824) 1073741824 W);obtain⟨b3,hb3⟩:∃b,wi od 1 1099511627776=b:=⟨_,rfl⟩;have HD:=am (fun W=>hb3▸pwithin_calls od 1 1099511627776 W);have HR:=am (show R=vd (decide (0≤oa)&&(b2&&b3)) 22 by rw[←hR];simp only[opO,if_neg c1,if_pos c2,hb2,hb3]);clear hR hb2 hb3;subst c2;go_upto_region 9 with (fail)
  obtain⟨w3,hw3⟩:∃w3,(((w2.setCell ⟨q5,0,none⟩ (.int .i64 2)).setCell ⟨q5,1,none⟩ (.int .i64 oa)).setCell ⟨q5,2,none⟩ (.int .i64 ob)).setCell ⟨q5,3,none⟩ (.int .i64 od)=w3:=⟨_,rfl⟩;have HS3:=am (hw3▸(((HS2.out.put 0 (.int .i64 2) rfl).put 1 (.int .i64 oa) rfl).put 2 (.int .i64 ob) rfl).put 3 (.int .i64 od) rfl);rw[hw3];clear hw3 a0 a1 o0 o1 o2 o3 u0 u1 u2 u3 z0 z1 z2 z3;obtain⟨⟨a0,a1⟩,⟨o0,o1,o2,o3⟩,⟨u0,u1,u2,u3⟩,z0,z1,z2,z3⟩:=HS3.out.at_
  all_goals cases b2<;>cases b3
  all_goals go_wp2_with (first|(go_at_call 95;first|((with_reducible refine(HB.out w3).mono ?_);go_must (rintro e w4 ⟨rfl,hb4⟩);go_must (have HS4:=am (HS3.out.more hb4));go_must (obtain⟨⟨a0,a1⟩,⟨o0,o1,o2,o3⟩,⟨u0,u1,u2,u3⟩,z0,z1,z2,z3⟩:=HS4.out.at_);clear hb4)|((with_reducible refine(HD.out w4).mono ?_);go_must (rintro e w5 ⟨rfl,hb5⟩);go_must (have HS5:=am (HS4.out.more hb5));go_must (obtain⟨⟨a0,a1⟩,⟨o0,o1,o2,o3⟩,⟨u0,u1,u2,u3⟩,z0,z1,z2,z3⟩:=HS5.out.at_);clear hb5)))
  all_goals go_ret
  all_goals exact⟨by rw[HR.out];first|rfl|(simp[vd];done)|(simp[vd];omega),by first|exact HS6.out.bel|exact HS5.out.bel|exact HS4.out.bel|exact HS3.out.bel⟩
 by_cases c3:oc=3
 ·obtain⟨b1,hb1⟩:∃b,wi oa 1 1099511627776=b:=⟨_,rfl⟩;have HA:=am (fun W=>hb1▸pwithin_calls oa 1 1099511627776 W);obtain⟨b2,hb2⟩:∃b,wi ob 0 (n-1)=b:=⟨_,rfl⟩;have HB:=am (fun W=>hb2▸pwithin_calls ob 0 (n-1) W);have HR:=am (show R=vd (b1&&(b2&&decide (od=0))) 22 by rw[←hR];simp only[opO,if_neg c1,if_neg c2,if_pos c3,hb1,hb2]);clear hR hb1 hb2;subst c3;go_upto_region 11 with (fail)
  go_region_with (fail)
  all_goals first
   |(obtain⟨w3,hw3⟩:∃w3,((w2.setCell ⟨q5,1,none⟩ (.int .i64 oa)).setCell ⟨q5,2,none⟩ (.int .i64 ob)).drew=w3:=⟨_,rfl⟩;rw[hw3];have HS3:=am (hw3▸((HS2.out.put 1 (.int .i64 oa) rfl).put 2 (.int .i64 ob) rfl).more (below_drew (Below.refl _ _)));clear hw3 a0 a1 o0 o1 o2 o3 u0 u1 u2 u3 z0 z1 z2 z3;obtain⟨⟨a0,a1⟩,⟨o0,o1,o2,o3⟩,⟨u0,u1,u2,u3⟩,z0,z1,z2,z3⟩:=HS3.out.at_)
   |(obtain⟨w3,hw3⟩:∃w3,((w2.setCell ⟨q5,2,none⟩ (.int .i64 ob)).setCell ⟨q5,1,none⟩ (.int .i64 oa)).drew=w3:=⟨_,rfl⟩;rw[hw3];have HS3:=am (hw3▸((HS2.out.put 2 (.int .i64 ob) rfl).put 1 (.int .i64 oa) rfl).more (below_drew (Below.refl _ _)));clear hw3 a0 a1 o0 o1 o2 o3 u0 u1 u2 u3 z0 z1 z2 z3;obtain⟨⟨a0,a1⟩,⟨o0,o1,o2,o3⟩,⟨u0,u1,u2,u3⟩,z0,z1,z2,z3⟩:=HS3.out.at_)
  all_goals cases b1<;>cases b2
  all_goals go_wp2_with (first|(go_at_call 95;first|((with_reducible refine(HA.out w3).mono ?_);go_must (rintro e w4 ⟨rfl,hb4⟩);go_must (have HS4:=am (HS3.out.more hb4));go_must (obtain⟨⟨a0,a1⟩,⟨o0,o1,o2,o3⟩,⟨u0,u1,u2,u3⟩,z0,z1,z2,z3⟩:=HS4.out.at_);clear hb4)|((with_reducible refine(HB.out w4).mono ?_);go_must (rintro e w5 ⟨rfl,hb5⟩);go_must (have HS5:=am (HS4.out.more hb5));go_must (obtain⟨⟨a0,a1⟩,⟨o0,o1,o2,o3⟩,⟨u0,u1,u2,u3⟩,z0,z1,z2,z3⟩:=HS5.out.at_);clear hb5)))
  all_goals go_ret
  all_goals exact⟨by rw[HR.out];first|rfl|(simp[vd];done)|(simp[vd];omega),by first|exact HS6.out.bel|exact HS5.out.bel|exact HS4.out.bel|exact HS3.out.bel⟩
 by_cases c5:oc=5
 ·obtain⟨b1,hb1⟩:∃b,wi oa 0 (P-1)=b:=⟨_,rfl⟩;have HA:=am (fun W=>hb1▸pwithin_calls oa 0 (P-1) W);obtain⟨b2,hb2⟩:∃b,wi ob 1 1099511627776=b:=⟨_,rfl⟩;have HB:=am (fun W=>hb2▸pwithin_calls ob 1 1099511627776 W);have HR:=am (show R=vd (b1&&(b2&&decide (od=0))) 22 by rw[←hR];simp only[opO,if_neg c1,if_neg c2,if_neg c3,if_pos c5,hb1,hb2]);clear hR hb1 hb2;subst c5;go_upto_region 14 with (fail)
  go_region_with (fail)
  all_goals first
   |(obtain⟨w3,hw3⟩:∃w3,((w2.setCell ⟨q5,1,none⟩ (.int .i64 oa)).setCell ⟨q5,2,none⟩ (.int .i64 ob)).drew=w3:=⟨_,rfl⟩;rw[hw3];have HS3:=am (hw3▸((HS2.out.put 1 (.int .i64 oa) rfl).put 2 (.int .i64 ob) rfl).more (below_drew (Below.refl _ _)));clear hw3 a0 a1 o0 o1 o2 o3 u0 u1 u2 u3 z0 z1 z2 z3;obtain⟨⟨a0,a1⟩,⟨o0,o1,o2,o3⟩,⟨u0,u1,u2,u3⟩,z0,z1,z2,z3⟩:=HS3.out.at_)
   |(obtain⟨w3,hw3⟩:∃w3,((w2.setCell ⟨q5,2,none⟩ (.int .i64 ob)).setCell ⟨q5,1,none⟩ (.int .i64 oa)).drew=w3:=⟨_,rfl⟩;rw[hw3];have HS3:=am (hw3▸((HS2.out.put 2 (.int .i64 ob) rfl).put 1 (.int .i64 oa) rfl).more (below_drew (Below.refl _ _)));clear hw3 a0 a1 o0 o1 o2 o3 u0 u1 u2 u3 z0 z1 z2 z3;obtain⟨⟨a0,a1⟩,⟨o0,o1,o2,o3⟩,⟨u0,u1,u2,u3⟩,z0,z1,z2,z3⟩:=HS3.out.at_)
  all_goals cases b1<;>cases b2
  all_goals go_wp2_with (first|(go_at_call 95;first|((with_reducible refine(HA.out w3).mono ?_);go_must (rintro e w4 ⟨rfl,hb4⟩);go_must (have HS4:=am (HS3.out.more hb4));go_must (obtain⟨⟨a0,a1⟩,⟨o0,o1,o2,o3⟩,⟨u0,u1,u2,u3⟩,z0,z1,z2,z3⟩:=HS4.out.at_);clear hb4)|((with_reducible refine(HB.out w4).mono ?_);go_must (rintro e w5 ⟨rfl,hb5⟩);go_must (have HS5:=am (HS4.out.more hb5));go_must (obtain⟨⟨a0,a1⟩,⟨o0,o1,o2,o3⟩,⟨u0,u1,u2,u3⟩,z0,z1,z2,z3⟩:=HS5.out.at_);clear hb5)))
  all_goals go_ret
  all_goals exact⟨by rw[HR.out];first|rfl|(simp[vd];done)|(simp[vd];omega),by first|exact HS6.out.bel|exact HS5.out.bel|exact HS4.out.bel|exact HS3.out.bel⟩
 by_cases c6:oc=6
 ·obtain⟨b1,hb1⟩:∃b,wi oa 0 1=b:=⟨_,rfl⟩;have HA:=am (fun W=>hb1▸pwithin_calls oa 0 1 W);obtain⟨b2,hb2⟩:∃b,wi ob (-1073741824) 1073741824=b:=⟨_,rfl⟩;have HB:=am (fun W=>hb2▸pwithin_calls ob (-1073741824) 1073741824 W);have HR:=am (show R=vd (b1&&(b2&&decide (od=0))) 22 by rw[←hR];simp only[opO,if_neg c1,if_neg c2,if_neg c3,if_neg c5,if_pos c6,hb1,hb2]);clear hR hb1 hb2;subst c6;go_upto_region 17 with (fail)
  go_region_with (fail)
  all_goals first
   |(obtain⟨w3,hw3⟩:∃w3,((w2.setCell ⟨q5,1,none⟩ (.int .i64 oa)).setCell ⟨q5,2,none⟩ (.int .i64 ob)).drew=w3:=⟨_,rfl⟩;rw[hw3];have HS3:=am (hw3▸((HS2.out.put 1 (.int .i64 oa) rfl).put 2 (.int .i64 ob) rfl).more (below_drew (Below.refl _ _)));clear hw3 a0 a1 o0 o1 o2 o3 u0 u1 u2 u3 z0 z1 z2 z3;obtain⟨⟨a0,a1⟩,⟨o0,o1,o2,o3⟩,⟨u0,u1,u2,u3⟩,z0,z1,z2,z3⟩:=HS3.out.at_)
   |(obtain⟨w3,hw3⟩:∃w3,((w2.setCell ⟨q5,2,none⟩ (.int .i64 ob)).setCell ⟨q5,1,none⟩ (.int .i64 oa)).drew=w3:=⟨_,rfl⟩;rw[hw3];have HS3:=am (hw3▸((HS2.out.put 2 (.int .i64 ob) rfl).put 1 (.int .i64 oa) rfl).more (below_drew (Below.refl _ _)));clear hw3 a0 a1 o0 o1 o2 o3 u0 u1 u2 u3 z0 z1 z2 z3;obtain⟨⟨a0,a1⟩,⟨o0,o1,o2,o3⟩,⟨u0,u1,u2,u3⟩,z0,z1,z2,z3⟩:=HS3.out.at_)
  all_goals cases b1<;>cases b2
  all_goals go_wp2_with (first|(go_at_call 95;first|((with_reducible refine(HA.out w3).mono ?_);go_must (rintro e w4 ⟨rfl,hb4⟩);go_must (have HS4:=am (HS3.out.more hb4));go_must (obtain⟨⟨a0,a1⟩,⟨o0,o1,o2,o3⟩,⟨u0,u1,u2,u3⟩,z0,z1,z2,z3⟩:=HS4.out.at_);clear hb4)|((with_reducible refine(HB.out w4).mono ?_);go_must (rintro e w5 ⟨rfl,hb5⟩);go_must (have HS5:=am (HS4.out.more hb5));go_must (obtain⟨⟨a0,a1⟩,⟨o0,o1,o2,o3⟩,⟨u0,u1,u2,u3⟩,z0,z1,z2,z3⟩:=HS5.out.at_);clear hb5)))
  all_goals go_ret
  all_goals exact⟨by rw[HR.out];first|rfl|(simp[vd];done)|(simp[vd];omega),by first|exact HS6.out.bel|exact HS5.out.bel|exact HS4.out.bel|exact HS3.out.bel⟩
 by_cases c7:oc=7
 ·obtain⟨b1,hb1⟩:∃b,wi oa 0 1=b:=⟨_,rfl⟩;have HA:=am (fun W=>hb1▸pwithin_calls oa 0 1 W);obtain⟨b2,hb2⟩:∃b,wi ob (-1073741824) 1073741824=b:=⟨_,rfl⟩;have HB:=am (fun W=>hb2▸pwithin_calls ob (-1073741824) 1073741824 W);obtain⟨b3,hb3⟩:∃b,wi od 0 (n-1)=b:=⟨_,rfl⟩;have HD:=am (fun W=>hb3▸pwithin_calls od 0 (n-1) W);have HR:=am (show R=vd (b1&&(b2&&b3)) 22 by rw[←hR];simp only[opO,if_neg c1,if_neg c2,if_neg c3,if_neg c5,if_neg c6,if_pos c7,hb1,hb2,hb3]);clear hR hb1 hb2 hb3;subst c7;go_upto_region 21 with (fail)
  obtain⟨w3,hw3⟩:∃w3,(((w2.setCell ⟨q5,0,none⟩ (.int .i64 7)).setCell ⟨q5,1,none⟩ (.int .i64 oa)).setCell ⟨q5,2,none⟩ (.int .i64 ob)).setCell ⟨q5,3,none⟩ (.int .i64 od)=w3:=⟨_,rfl⟩;have HS3:=am (hw3▸(((HS2.out.put 0 (.int .i64 7) rfl).put 1 (.int .i64 oa) rfl).put 2 (.int .i64 ob) rfl).put 3 (.int .i64 od) rfl);rw[hw3];clear hw3 a0 a1 o0 o1 o2 o3 u0 u1 u2 u3 z0 z1 z2 z3;obtain⟨⟨a0,a1⟩,⟨o0,o1,o2,o3⟩,⟨u0,u1,u2,u3⟩,z0,z1,z2,z3⟩:=HS3.out.at_
  all_goals cases b1<;>cases b2<;>cases b3
  all_goals go_wp2_with (first|(go_at_call 95;first|((with_reducible refine(HA.out w3).mono ?_);go_must (rintro e w4 ⟨rfl,hb4⟩);go_must (have HS4:=am (HS3.out.more hb4));go_must (obtain⟨⟨a0,a1⟩,⟨o0,o1,o2,o3⟩,⟨u0,u1,u2,u3⟩,z0,z1,z2,z3⟩:=HS4.out.at_);clear hb4)|((with_reducible refine(HB.out w4).mono ?_);go_must (rintro e w5 ⟨rfl,hb5⟩);go_must (have HS5:=am (HS4.out.more hb5));go_must (obtain⟨⟨a0,a1⟩,⟨o0,o1,o2,o3⟩,⟨u0,u1,u2,u3⟩,z0,z1,z2,z3⟩:=HS5.out.at_);clear hb5)|((with_reducible refine(HD.out w5).mono ?_);go_must (rintro e w6 ⟨rfl,hb6⟩);go_must (have HS6:=am (HS5.out.more hb6));go_must (obtain⟨⟨a0,a1⟩,⟨o0,o1,o2,o3⟩,⟨u0,u1,u2,u3⟩,z0,z1,z2,z3⟩:=HS6.out.at_);clear hb6)))
  all_goals go_ret
  all_goals exact⟨by rw[HR.out];first|rfl|(simp[vd];done)|(simp[vd];omega),by first|exact HS6.out.bel|exact HS5.out.bel|exact HS4.out.bel|exact HS3.out.bel⟩
 have HR:=am (show R=vd (decide (oa=0)&&(decide (ob=0)&&decide (od=0))) 22 by rw[←hR];simp only[opO,if_neg c1,if_neg c2,if_neg c3,if_neg c5,if_neg c6,if_neg c7]);clear hR;have n1:(oc==1)=false:=beq_eq_false_iff_ne.2 c1;have n2:(oc==2)=false:=beq_eq_false_iff_ne.2 c2;have n3:(oc==3)=false:=beq_eq_false_iff_ne.2 c3;have n5:(oc==5)=false:=beq_eq_false_iff_ne.2 c5;have n6:(oc==6)=false:=beq_eq_false_iff_ne.2 c6;have n7:(oc==7)=false:=beq_eq_false_iff_ne.2 c7;clear c1 c2 c3 c5 c6 c7;have HS3:=HS2
 all_goals go_wp2_with (fail)
 all_goals go_ret
 all_goals exact⟨by rw[HR.out];first|rfl|(simp[vd];done)|(simp[vd];omega),by first|exact HS6.out.bel|exact HS5.out.bel|exact HS4.out.bel|exact HS3.out.bel⟩
end Go.Proofs.YtfnimdhghglanaaGreat.Hand
end
