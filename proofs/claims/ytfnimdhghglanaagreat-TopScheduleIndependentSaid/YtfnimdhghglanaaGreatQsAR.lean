/- TopScheduleIndependent, part 18 of 27; no condition.  -/
import Derived.Test.YtfnimdhghglanaaGreatQsAQ
import Derived.Deep.DeepMust
import Derived.Handy
import Derived.Deep.LoopGhost
import Derived.Deep.DeepCutAuto
set_option maxRecDepth 100000
set_option maxHeartbeats 8000000
set_option linter.unusedVariables false
set_option linter.unusedSimpArgs false
section
namespace Go.Proofs.YtfnimdhghglanaaGreat.Hand
open Go.RowKit Go.Shelf Go.Proofs.YtfnimdhghglanaaGreatW PrintWords PrintLast PrintMore
attribute [local go_sem] max2_int min2_int max_two min_two max_three min_three max_four min_four
structure CfAt (Mt:Nat→Prop) (w:World) (c:SCf) (cf:Cf):Prop where
 lps:∃ss,Rd kH Mt w c.lps ss∧All2 (fun s l=>Rd kSt Mt w s l) ss cf.lps
 pgs:PgsAt Mt w c.pgs cf.pgs
 la:c.la=cf.la
 en:c.en=cf.en
 cp:c.cp=cf.cp
theorem CfAt.fresh {Mt Mt':Nat→Prop} {w w':World} {c:SCf} {cf:Cf} (h:CfAt Mt w c cf) (k:Keep Mt w w') (hm:∀k,k<w.heap.size→Mt' k→Mt k):CfAt Mt' w' c cf:=by
 obtain⟨⟨ss,p1,p2⟩,⟨tt,q1,q2⟩,h1,h2,h3⟩:=h;exact⟨⟨ss,p1.fresh k hm,p2.imp fun _ _ h=>h.fresh k hm⟩,⟨tt,q1.fresh k hm,q2.imp fun _ _ h=>h.fresh k hm⟩,h1,h2,h3⟩
theorem CfAt.keep {Mt:Nat→Prop} {w w':World} {c:SCf} {cf:Cf} (h:CfAt Mt w c cf) (k:Keep Mt w w'):CfAt Mt w' c cf:=h.fresh k fun _ _ h=>h
theorem st_cells {w:World} {A:Option Addr} {n:Nat} {l:List StC} (h:Kd.C kSt w A n l) (k:Nat) (hk:k<n):∃ad x,A=some ad∧(∃h2:k<l.length,l[k]=x)∧w.cell? (ad.add (k*2))=some (.int .i64 x.pg)∧w.cell? ⟨(ad.add (k*2)).block,(ad.add (k*2)).off+1,none⟩=some (.int .i64 x.t):=by
 obtain⟨ad,x,e,h2,h3,q⟩:=flat_cells h k hk;exact⟨ad,x,e,h2,h3 _ rfl,q 1 _ (by decide) rfl⟩
def Mow (Mt:Nat→Prop) (h:SH) (k:Nat):Prop:=Mt k∨h.own=some k
theorem OwnEv.push {Mt:Nat→Prop} {B:Nat} {w:World} {h:SH} {es:List Ev} {ss:List SE} {s:SE} {e:Ev} (ha:All2 (EvAt (Mow Mt h) w) ss es) (hse:EvAt (Mow Mt h) w s e) {w5:World} {A:Option Addr} {m d:Nat}
  (hv:Kd.R kE 49 w5 B (fun _=>True) (.slice A m d) (ss++[s])) (hg:w.grownBy w5 h.own) (hat:(SH.mk A m d).own=h.own∨∃k,(SH.mk A m d).own=some k∧w.heap.size≤k):OwnEv (Mow Mt ⟨A,m,d⟩) B w5 ⟨A,m,d⟩ (es++[e]):=by
 have hk:Keep (Mow Mt h) w w5:=Keep.grown hg fun k hk=> .inr hk;have hm:∀k,k<w.heap.size→Mow Mt ⟨A,m,d⟩ k→Mow Mt h k:=fun k hkl hm=>by
  rcases hm with hm|hm
  ·exact .inl hm
  ·rcases hat with h1|⟨j,h1,h2⟩
   ·exact .inr (h1▸hm)
   ·rw[h1]at hm;cases hm;omega
 exact⟨ss++[s],hv,(ha.imp fun _ _ h=>h.fresh hk hm).append (.cons (hse.fresh hk hm) .nil)⟩
def evsTo (lps:List (List StC)) (i k:Nat):List Ev:=evs0 (lps.take i)++((lps.getD i []).take k).mapIdx fun k s=>ev0 i k s
theorem evsTo_row {lps:List (List StC)} {i:Nat} {row:List StC} (hi:lps[i]?=some row) {k:Nat} {s:StC} (hs:row[k]?=some s):evsTo lps i (k+1)=evsTo lps i k++[ev0 i k s]:=by
 obtain⟨h1,h2⟩:=List.getElem?_eq_some_iff.1 hs;unfold evsTo;rw[List.getD_eq_getElem?_getD,hi,Option.getD_some,←List.take_append_getElem h1,List.mapIdx_append,h2,←List.append_assoc];simp[Nat.min_eq_left (Nat.le_of_lt h1)]
theorem evsTo_next {lps:List (List StC)} {i:Nat} {row:List StC} (hr:lps[i]?=some row) {k:Nat} (hk:k=row.length):evsTo lps (i+1) 0=evsTo lps i k:=by
 obtain⟨hi,he⟩:=List.getElem?_eq_some_iff.1 hr;subst he;subst hk;unfold evsTo evs0;rw[List.take_zero,List.mapIdx_nil,List.append_nil,←List.take_append_getElem hi,List.mapIdx_append,List.flatten_append,List.getD_eq_getElem?_getD,List.getElem?_eq_getElem hi,Option.getD_some,List.take_length];simp[Nat.min_eq_left (Nat.le_of_lt hi)]
theorem evsTo_zero (lps:List (List StC)):evsTo lps 0 0=[]:=by simp[evsTo,evs0]
theorem evsTo_all (lps:List (List StC)):evsTo lps lps.length 0=evs0 lps:=by simp[evsTo]
theorem evsTo_len {lps:List (List StC)} (h8:lps.length≤8) (hr:∀l∈lps,l.length≤8) (i k:Nat):(evsTo lps i k).length≤100:=by
 unfold evsTo evs0;rw[List.length_append,List.length_flatten];have h1:=sum_le (b:=8) (l:=((lps.take i).mapIdx fun i l=>l.mapIdx fun k s=>ev0 i k s).map List.length) fun x hx=>by
  obtain⟨r,hr2,rfl⟩:=List.mem_map.1 hx;obtain⟨j,hj,rfl⟩:=List.mem_mapIdx.1 hr2;rw[List.length_mapIdx];exact hr _ (List.mem_of_mem_take (List.getElem_mem hj))
 have h2:(lps.getD i []).length≤8:=by
  rw[List.getD_eq_getElem?_getD];cases h:lps[i]?with
  |none=>simp
  |some l=>exact hr l (List.mem_of_getElem? h)
 rw[List.length_map,List.length_mapIdx,List.length_take]at h1;rw[List.length_mapIdx,List.length_take];omega
theorem initial_calls {Mt:Nat→Prop} {w:World} (hM:∀k,Mt k→k<w.heap.size) (c:SCf) {cf:Cf} (hc:CfAt Mt w c cf) (h8:cf.lps.length≤8) (hr8:∀l∈cf.lps,l.length≤8):
  Calls Tryz.prog 52 #[c.v] w fun e w'=>∃h:SH,e= .returned (.slice h.A h.n h.c)∧EvsAt Mt w' h (sortC (evs0 cf.lps))∧Below w.heap.size w w':=by
 obtain⟨⟨cA,cn,cc⟩,⟨pA,pn,pc⟩,la,en,cp⟩:=c;obtain⟨ssl,p1,p2⟩:=hc.lps;have hcn:cn=cf.lps.length:=by have h1:=p1.len;have h2:=p2.len;simp only at h1;omega
 obtain⟨n,hn⟩:∃n,cf.lps.length=n:=⟨_,rfl⟩;rw[hn]at hcn h8;subst hcn;obtain⟨n,rfl⟩:∃n,n=cn:=⟨cn,rfl⟩;have HN:=am hn;have HL:=am p1;have HLL:=am p2;have HR8:=am hr8;have HM:=am hM;clear hc p1 p2 hn hr8 hM;simp only[SCf.v];go_enter Tryz.func52,Tryz.ntmps52;go_upto_region 3 with (fail)
 obtain⟨w0,hw0⟩:∃w0,w.alloc (.cells #[.slice cA n cc,.slice pA pn pc,.int .i64 la,.int .i64 en,.int .i64 cp] 25)=w0:=⟨_,rfl⟩;rw[hw0];have HB0:=am (show Below w.heap.size w w0 from hw0▸below_alloc (Below.refl _ _) _);clear hw0
 go_loopw [11,3] (fun j out wr=>∃i:Nat,i≤n∧j= .int .i64 i∧∃h:SH,out= .slice h.A h.n h.c∧Aside0 (OwnEv (Mow Mt h) w.heap.size wr h (evsTo cf.lps i 0))∧Aside0 (Below w.heap.size w wr)) (fun j _ _=>n-(intOf j).toNat)
 case atStart=>exact⟨0,Nat.zero_le _,rfl,.nil,rfl,⟨[],Kd.R_nil _ _ _ _ _,by rw[evsTo_zero];exact .nil⟩,HB0⟩
 case round=>
  obtain⟨i,hi,rfl,⟨oA,on,oc⟩,rfl,HO,HB⟩:=hrel;by_cases hin:i<n
  ·have d3:decide ((i:Int)<(n:Int))=true:=dt (by omega);have d3':decide (i<n)=true:=decide_eq_true hin;have mi0:(0:Int)≤(i:Int):=by omega
   have mi1:(i:Int)<(n:Nat):=by omega
   obtain⟨ad,⟨lA,ln,lc⟩,e0,⟨hl1,hx1⟩,y0⟩:=hd_cells (HL.out.below HB.out).here i hin;simp only at e0 y0;subst e0;have hil:i<cf.lps.length:=by have:=HN.out;omega
   have hrow:=HLL.out.get i hl1 hil;obtain⟨row,hre⟩:∃row,cf.lps[i]'hil=row:=⟨_,rfl⟩;rw[hx1,hre]at hrow;have HROW:=am hrow;have HIL:=am (show cf.lps[i]?=some row by rw[List.getElem?_eq_getElem hil,hre]);have hlb:ln≤8:=by have h1:=hrow.len;have h2:=HR8.out _ (List.getElem_mem hil);rw[hre]at h2;simp only at h1;omega
   clear hl1 hx1 hre hrow hil
   go_wp2_with (fail)
   clear y0;obtain⟨wm,rfl⟩:∃wm,wm=wr:=⟨wr,rfl⟩
   go_loopw [18,3] (fun j out wr=>∃k:Nat,k≤ln∧j= .int .i64 k∧∃h:SH,out= .slice h.A h.n h.c∧Aside0 (OwnEv (Mow Mt h) w.heap.size wr h (evsTo cf.lps i k))∧Aside0 (Below w.heap.size w wr)) (fun j _ _=>ln-(intOf j).toNat)
   case atStart=>exact⟨0,Nat.zero_le _,rfl,⟨oA,on,oc⟩,rfl,HO,HB⟩
   case round=>
    obtain⟨k,hk,rfl,⟨pA1,pn1,pc1⟩,rfl,HO2,HB2⟩:=hrel;by_cases hkn:k<ln
    ·have e3:decide ((k:Int)<(ln:Int))=true:=dt (by omega);have e3':decide (k<ln)=true:=decide_eq_true hkn;have mk0:(0:Int)≤(k:Int):=by omega
     have mk1:(k:Int)<(ln:Nat):=by omega
     obtain⟨ad2,⟨spg,stm⟩,e1,⟨hl2,hx2⟩,y1,y2⟩:=st_cells (HROW.out.below HB2.out).here k hkn;simp only at e1 y1 y2;subst e1;have HST:=am (show row[k]?=some ⟨spg,stm⟩by rw[List.getElem?_eq_getElem hl2,hx2]);clear hl2 hx2;go_upto_region 8 with (fail)
     obtain⟨w8,hw8⟩:∃w8,wr.alloc (.cells #[.int .i64 spg,.int .i64 stm] 62)=w8:=⟨_,rfl⟩;obtain⟨qs,hqs⟩:∃qs,wr.heap.size=qs:=⟨_,rfl⟩;have hb8:Below wr.heap.size wr w8:=hw8▸below_alloc (Below.refl _ _) _;have hbx:w8.heap[qs]?=some (.cells #[.int .i64 spg,.int .i64 stm] 62 (0,0)):=by rw[←hw8,←hqs];exact World.alloc_heap_new _ _
     rw[hw8,hqs];obtain⟨ss,hse,hse2⟩:=HO2.out;have hes:=evsTo_len (by rw[HN.out];exact h8) HR8.out i k;have HSL:=am (show ss.length≤1000 by rw[hse2.len];omega);have HEL:=am (fun w' (hb:Below w8.heap.size w8 w')=>show w'.cell? ⟨qs,1,none⟩=some (.int .i64 stm)by have h9:=box_more hb hbx;simp[World.cell?,h9])
     have HCH:=am (show∀W:World,W.heap[w8.heap.size]?=some (.cells #[.int .i64 (i:Int)] 3 (0,0))→Calls Tryz.prog 75 #[.slice (some ⟨w8.heap.size,0,none⟩) 1 1,.int .i64 (k:Int)] W (fun e w'=>∃kh:SH,e= .returned (.slice kh.A kh.n kh.c)∧Kd.R (Kd.int .i64) 3 w' W.heap.size (fun _=>True) (.slice kh.A kh.n kh.c) [(i:Int),(k:Int)]∧Below W.heap.size W w')from fun W hW=>by
      have hc1:W.cell? ⟨w8.heap.size,0,none⟩=some (.int .i64 (i:Int)):=by simp[World.cell?,hW]
      refine(child_calls (some ⟨w8.heap.size,0,none⟩) 1 1 [(i:Int)] k W ⟨rfl,by omega,fun _=>⟨_,rfl,fun j q hq=> ?_⟩⟩ (by omega)).mono ?_
      ·cases j with
       |succ j=>simp at hq
       |zero=>
        cases hq;exact⟨[.int .i64 (i:Int)],rfl,rfl,fun m u hu=>by
         cases m with
         |succ m=>simp at hu
         |zero=>
          cases hu;exact hc1⟩
      ·rintro e w' ⟨v,rfl,hv,hb⟩;obtain⟨zA,zn,zc,hzn,rfl⟩:=R_slice3 hv;exact⟨⟨zA,zn,zc⟩,rfl,hv,hb⟩)
     have HQ4:=am (show(w8.alloc (.cells #[.int .i64 (i:Int)] 3)).drew.heap[w8.heap.size]?=some (.cells #[.int .i64 (i:Int)] 3 (0,0))from World.alloc_heap_new _ _);have HSE:=am hse;have HSE2:=am hse2;have HB8:=am hb8;have HSZ:=am (show w.heap.size≤w8.heap.size from Nat.le_trans HB2.out.size hb8.size);have HMW:=am (show∀j,Mow Mt ⟨pA1,pn1,pc1⟩ j→j<wr.heap.size from fun j hj=>by
      rcases hj with hj|hj
      ·exact Nat.lt_of_lt_of_le (HM.out j hj) HB2.out.size
      ·exact Kd.R_lt hse j hj)
     clear hw8 hqs hb8 hbx hse hse2 hes y1 y2;refine sz_ 13 (S:=fun w'=>w'.cell? ⟨qs,1,none⟩=some (.int .i64 stm)) (ds:=[11]) (HEL.out _ (below_drew (Below.refl w8.heap.size w8))) (fun hHeld=> ?_);refine pz_ 0 23 13 1 ?_;refine pz_ 1 24 13 3 ?_;refine pz_ 3 26 13 11 ?_;refine pz_ 5 28 13 43 ?_;refine pz_ 7 30 13 171 ?_;refine pz_ 8 31 13 427 ?_;refine tz_ 2 25 13 431 hHeld ?_;refine one_ (i:=4) (N:=some 27) (bv 13 447) rfl rfl (by kernel_rfl) (by decide) (fun K hK=> ?_);refine value_ (w1:= ?_) (v:= ?_) (by rfl) rfl ?_ ?_;rotate_left 2
     ·go_simp;constructor
      ·rfl
      ·rfl
     refine hK.out _ _ (HEL.out _ (below_alloc (below_drew (Below.refl w8.heap.size w8)) _)) (fun hHeld=> ?_);clear hK K;refine norm_ (a':= ?_) ?_ ?_;rotate_left
     ·show Act.put _ (some 27) _=_;simp only[Act.put,List.setIfInBounds_toArray,List.set_cons_zero,List.set_cons_succ,i64_w,i32_w];rfl
     refine one_ (i:=6) (N:=some 29) (bv 13 511) rfl rfl (by kernel_rfl) (by decide) (fun K hK=> ?_);refine goes_ Tryz.func75 (by kernel_rfl) rfl #[.slice (some ⟨w8.heap.size,0,none⟩) 1 1,.int .i64 (k:Int)] (by rfl) rfl rfl (by simp only[List.map_toArray,List.map_cons,List.map_nil];rfl) ?_;with_reducible refine(HCH.out _ HQ4.out).mono ?_
     rintro e w9 ⟨kh,rfl,hkr,hb9⟩;refine⟨_,rfl,?_⟩;have hb89:=(below_drew (below_alloc (Below.refl w8.heap.size w8) (.cells #[.int .i64 (i:Int)] 3))).trans (hb9.mono (below_drew (below_alloc (Below.refl w8.heap.size w8) _)).size);refine hK.out _ _ (HEL.out _ hb89) (fun hHeld=> ?_);clear hK K;refine norm_ (a':= ?_) ?_ ?_;rotate_left
     ·show Act.put _ (some 29) _=_;simp only[Act.put,List.setIfInBounds_toArray,List.set_cons_zero,List.set_cons_succ,i64_w,i32_w];rfl
     refine pz_ 9 32 13 1023 ?_;refine one_ (i:=10) (N:=some 33) (bv 13 2047) rfl rfl (by kernel_rfl) (by decide) (fun K hK=> ?_);refine value_ (w1:= ?_) (v:= ?_) (by rfl) rfl ?_ ?_;rotate_left 2
     ·go_simp;constructor
      ·rfl
      ·rfl
     refine hK.out _ _ (HEL.out _ (below_alloc hb89 _)) (fun hHeld=> ?_);clear hK K;refine norm_ (a':= ?_) ?_ ?_;rotate_left
     ·show Act.put _ (some 33) _=_;simp only[Act.put,List.setIfInBounds_toArray,List.set_cons_zero,List.set_cons_succ,i64_w,i32_w];rfl
     refine last_ (i:=11) (N:=some 34) (bv 13 4095) rfl rfl (by kernel_rfl) (by decide) (fun K hK=> ?_)
     refine Kd.R_append_step kE (w0:=w9) w.heap.size (by rfl) (.tmp 23) (.tmp 33) 47 49 (.agg #[.int .i64 0,.slice none 0 0,.int .i64 0,.int .i64 0,.int .i64 0,.int .i64 0]) 64 rfl Tryz.underlying47 infoEv rfl (by decide) (by omega) (.slice pA1 pn1 pc1) ss ⟨stm,kh,(i:Int),1,(k:Int),0⟩ [.int .i64 stm,.slice kh.A kh.n kh.c,.int .i64 (i:Int),.int .i64 1,.int .i64 (k:Int),.int .i64 0] (fun _=>True) (fun _=>False) rfl rfl rfl (fun _ hk=>hk.elim) (fun _ _=>trivial) (Kd.R_below HSE.out (HB8.out.trans (hb89.mono HB8.out.size))) (Below.refl _ _) (Nat.le_trans HSZ.out hb89.size) (by have:=HSL.out;omega) ?_
     intro v5 w5 hv5 hb5 hg5 hat5;obtain⟨Z5,z5,zc5,hn5,rfl⟩:=R_slice3 hv5;have HV5:=am hv5;have HG5:=am hg5;have HAT5:=am hat5;have HB5':=am hb5;clear hv5 hg5 hb5 hat5 hn5;refine hK.out _ _ ?_;clear hK K;refine norm_ (a':= ?_) ?_ ?_;rotate_left
     ·show Act.put _ (some 34) _=_;simp only[Act.put,List.setIfInBounds_toArray,List.set_cons_zero,List.set_cons_succ,i64_w,i32_w];rfl
     refine pz_ 12 3 13 8191 ?_;refine done_ (by kernel_rfl) ?_;have hb29:Below wr.heap.size wr w9:=HB8.out.trans (hb89.mono HB8.out.size);have hkey:KeyAt (Mow Mt ⟨pA1,pn1,pc1⟩) w9 kh [(i:Int),(k:Int)]:=Rd.of_R rfl hkr (fun j hj hm=>by
      have h1:=Kd.R_base hkr j hj;have h2:=HMW.out j hm;have h3:=HB8.out.size;have h4:(w8.alloc (.cells #[.int .i64 (i:Int)] 3)).drew.heap.size=w8.heap.size+1:=World.size_alloc _ _;omega)
     have hpush:=OwnEv.push (HSE2.out.imp fun _ _ h=>h.keep (Keep.of_below hb29)) (s:=⟨stm,kh,(i:Int),1,(k:Int),0⟩) (e:=ev0 i k ⟨spg,stm⟩) ⟨rfl,rfl,rfl,rfl,rfl,hkey⟩ HV5.out HG5.out HAT5.out;rw[←evsTo_row HIL.out HST.out]at hpush;have HP:=am hpush;have HB5:=am (show Below w.heap.size w w5 from(HB2.out.trans (hb29.mono HB2.out.size)).trans HB5'.out);clear hb29 hkey hpush hkr hb9 hb89
     go_wp2_with (fail)
     go_roundw
     case rel=>exact⟨k+1,Nat.succ_le_of_lt hkn,by go_num,⟨Z5,z5,zc5⟩,rfl,HP,HB5⟩
     case measure=>simp[intOf];omega
    ·obtain rfl:k=ln:=by omega
     have e3:decide ((k:Int)<(k:Int))=false:=df (by omega);have e3':decide (k<k)=false:=df (by omega);have HNX:=am (evsTo_next HIL.out (k:=k) (by have:=HROW.out.len;simp only at this;exact this))
     go_wp2_with (fail)
     go_roundw
     case rel=>exact⟨i+1,Nat.succ_le_of_lt hin,by go_num,⟨pA1,pn1,pc1⟩,rfl,⟨by rw[HNX.out];exact HO2.out⟩,HB2⟩
     case measure=>simp[intOf];omega
  ·obtain rfl:i=n:=by omega
   have d3:decide ((i:Int)<(i:Int))=false:=df (by omega);have d3':decide (i<i)=false:=df (by omega);have hmo:∀k,k<wr.heap.size→Mt k→Mow Mt ⟨oA,on,oc⟩ k:=fun _ _ h=> .inl h;have hev:EvsAt Mt wr ⟨oA,on,oc⟩ (evs0 cf.lps):=by
    have h1:=HO.out;rw[←HN.out,evsTo_all]at h1;exact h1.read (Keep.refl _ _) hmo (fun _ _=>rfl) HM.out
   have HSO:=am (sortEvents_calls hev (fun k hk=>Nat.lt_of_lt_of_le (HM.out k hk) HB.out.size) (by have:=evsTo_len (i:=cf.lps.length) (k:=0) (by rw[HN.out];exact h8) HR8.out;rw[evsTo_all]at this;omega) (fun e he=>by obtain⟨a,b,c,d,_,_,rfl⟩:=mem_evs0.1 he;simp[ev0]));have HKD:=am (evs0_keys cf.lps);clear hmo hev
   go_wp2_with (first|(go_at_call 76;go_must (with_reducible refine HSO.out.mono ?_);go_must (rintro e w9 ⟨h9,es',rfl,hev,hpm,hso,hb⟩);have HEV:=am hev;have HPM:=am hpm;have HSS:=am hso;have HB9:=am hb;clear hev hpm hso hb))
   go_ret;exact⟨h9,rfl,sortC_of HPM.out HSS.out HKD.out▸HEV.out,HB.out.trans (HB9.out.mono HB.out.size)⟩
def wi (n a b:Int):Bool:=decide (a≤n)&&decide (n≤b)
def vd (b:Bool) (e:Int):Int:=if b then 0 else e
def fst1 {α:Type} (f:α→Int):List α→Int
 | []=>0
 |x::l=>if f x=0 then fst1 f l else f x
def opC (o:OpC):Int:=vd (wi o.code 1 8) 22
def opO (n P:Int) (o:OpC):Int:=vd (
 if o.code=1 then wi o.a 1 1099511627776&&(decide (o.b=0)&&decide (o.c=0))
 else if o.code=2 then decide (0≤o.a)&&(wi o.b (-1073741824) 1073741824&&wi o.c 1 1099511627776)
 else if o.code=3 then wi o.a 1 1099511627776&&(wi o.b 0 (n-1)&&decide (o.c=0))
 else if o.code=5 then wi o.a 0 (P-1)&&(wi o.b 1 1099511627776&&decide (o.c=0))
 else if o.code=6 then wi o.a 0 1&&(wi o.b (-1073741824) 1073741824&&decide (o.c=0))
 else if o.code=7 then wi o.a 0 1&&(wi o.b (-1073741824) 1073741824&&wi o.c 0 (n-1))
 else decide (o.a=0)&&(decide (o.b=0)&&decide (o.c=0))) 22
def opT (N:Int) (o:OpC):Int:=vd (!(decide (o.code=2)&&decide (N≤o.a))) 23
def opE (la:Int) (o:OpC):Int:=vd (!(decide (o.code=2)&&decide (o.c<la))) 21
def pck (P N la:Int) (p:List OpC):Int:=if wi p.length 1 16 then fst1 (fun f=>f) [fst1 opC p,fst1 (opO p.length P) p,fst1 (opT N) p,fst1 (opE la) p]else 22
def stc (P:Int) (s:StC):Int:=if wi s.pg 0 (P-1)then vd (wi s.t 0 1152921504606846976) 11 else 22
def szs (c:Cf):Bool:=wi c.lps.length 1 8&&(decide ((c.pgs.length:Int)≤8)&&(wi c.cp 1 64&&(wi c.en 0 1152921504606846976&&c.lps.all fun l=>decide ((l.length:Int)≤8))))
def chk (c:Cf):Int:=fst1 (fun f=>f) [vd (szs c) 1,vd (decide (1≤c.la)) 20,fst1 (pck c.pgs.length c.lps.length c.la) c.pgs,fst1 (fst1 (stc c.pgs.length)) c.lps]
theorem within_calls (n a b:Int) (w:World):Calls Tryz.prog 65 #[.int .i64 n,.int .i64 a,.int .i64 b] w fun e w'=>e= .returned (.bool (wi n a b))∧Below w.heap.size w w':=by
 unfold wi;by_cases h1:a≤n
 ·have d1:decide (a≤n)=true:=decide_eq_true h1;rw[d1,Bool.true_and];go_enter Tryz.func65,Tryz.ntmps65
  go_wp2_with (fail)
  go_ret;exact⟨rfl,Below.refl _ _⟩
 ·have d1:decide (a≤n)=false:=decide_eq_false h1;rw[d1,Bool.false_and];go_enter Tryz.func65,Tryz.ntmps65
  go_wp2_with (fail)
  go_ret;exact⟨rfl,Below.refl _ _⟩
theorem pwithin_calls (n a b:Int) (w:World):Calls Tryz.prog 95 #[.int .i64 n,.int .i64 a,.int .i64 b] w fun e w'=>e= .returned (.bool (wi n a b))∧Below w.heap.size w w':=by
 unfold wi;by_cases h1:a≤n
 ·have d1:decide (a≤n)=true:=decide_eq_true h1;rw[d1,Bool.true_and];go_enter Tryz.func95,Tryz.ntmps95
  go_wp2_with (fail)
  go_ret;exact⟨rfl,Below.refl _ _⟩
 ·have d1:decide (a≤n)=false:=decide_eq_false h1;rw[d1,Bool.false_and];go_enter Tryz.func95,Tryz.ntmps95
  go_wp2_with (fail)
  go_ret;exact⟨rfl,Below.refl _ _⟩
theorem verdict_calls (b:Bool) (e:Int) (w:World):Calls Tryz.prog 66 #[.bool b,.int .i64 e] w fun r w'=>r= .returned (.int .i64 (vd b e))∧Below w.heap.size w w':=by
 unfold vd;cases b
 ·go_enter Tryz.func66,Tryz.ntmps66
  go_wp2_with (fail)
  go_ret;exact⟨rfl,Below.refl _ _⟩
 ·go_enter Tryz.func66,Tryz.ntmps66
  go_wp2_with (fail)
  go_ret;exact⟨rfl,Below.refl _ _⟩
abbrev ckV (n P N la:Int):Value:= .agg #[.int .i64 n,.int .i64 P,.int .i64 N,.int .i64 la]
abbrev TCk:TypeId:=154
abbrev TOp:TypeId:=93
theorem op2 {w1:World} {q:Nat} {a b c d:Value} (h:w1.heap[q]?=some (.cells #[a,b,c,d] TOp (0,0))):w1.cell? ⟨q,0,none⟩=some a∧w1.cell? ⟨q,1,none⟩=some b∧w1.cell? ⟨q,2,none⟩=some c∧w1.cell? ⟨q,3,none⟩=some d:=by
 refine⟨?_,?_,?_,?_⟩<;>simp[World.cell?,h]
theorem code_calls (n P N la:Int) (o:OpC) (w:World):Calls Tryz.prog 96 #[ckV n P N la,o.v] w fun r w'=>r= .returned (.int .i64 (opC o))∧Below w.heap.size w w':=by
 obtain⟨oc,oa,ob,od⟩:=o;unfold opC;simp only[OpC.v];obtain⟨b1,hb1⟩:∃b1,wi oc 1 8=b1:=⟨_,rfl⟩;rw[hb1];obtain⟨w1,hw1⟩:∃w1,(w.alloc (.cells #[.int .i64 n,.int .i64 P,.int .i64 N,.int .i64 la] TCk)).alloc (.cells #[.int .i64 oc,.int .i64 oa,.int .i64 ob,.int .i64 od] TOp)=w1:=⟨_,rfl⟩;obtain⟨hB1,_,hq3⟩:=box2 hw1;have x0:=(op2 hq3).1;have HW:=am (hb1▸pwithin_calls oc 1 8 w1);have HB:=am hB1;clear hb1 hB1 hq3;cases b1
 all_goals
  go_enter Tryz.func96,Tryz.ntmps96;go_upto_region 1 with (fail)
  clear hw1
  go_wp2_with (first|(go_at_call 95;go_must (with_reducible refine HW.out.mono ?_);go_must (rintro e w2 ⟨rfl,hb2⟩);have HB2:=am hb2;clear hb2))
  go_ret;exact⟨rfl,HB.out.trans (HB2.out.mono HB.out.size)⟩
theorem target_calls (n P N la:Int) (o:OpC) (w:World):Calls Tryz.prog 98 #[ckV n P N la,o.v] w fun r w'=>r= .returned (.int .i64 (opT N o))∧Below w.heap.size w w':=by
 obtain⟨oc,oa,ob,od⟩:=o;unfold opT;simp only[OpC.v];by_cases h1:oc=2
 ·have d1:decide (oc=2)=true:=decide_eq_true h1;have d1':(oc==2)=true:=beq_iff_eq.2 h1;by_cases h2:N≤oa
  ·have d2:decide (N≤oa)=true:=decide_eq_true h2;rw[d1,d2];go_enter Tryz.func98,Tryz.ntmps98
   go_wp2_with (fail)
   go_ret;exact⟨rfl,below_alloc (below_alloc (Below.refl _ _) _) _⟩
  ·have d2:decide (N≤oa)=false:=decide_eq_false h2;rw[d1,d2];go_enter Tryz.func98,Tryz.ntmps98
   go_wp2_with (fail)
   go_ret;exact⟨rfl,below_alloc (below_alloc (Below.refl _ _) _) _⟩
 ·have d1:decide (oc=2)=false:=decide_eq_false h1;have d1':(oc==2)=false:=beq_eq_false_iff_ne.2 h1;rw[d1];go_enter Tryz.func98,Tryz.ntmps98
  go_wp2_with (fail)
  go_ret;exact⟨rfl,below_alloc (below_alloc (Below.refl _ _) _) _⟩
theorem early_calls (n P N la:Int) (o:OpC) (w:World):Calls Tryz.prog 99 #[ckV n P N la,o.v] w fun r w'=>r= .returned (.int .i64 (opE la o))∧Below w.heap.size w w':=by
 obtain⟨oc,oa,ob,od⟩:=o;unfold opE;simp only[OpC.v];by_cases h1:oc=2
 ·have d1:decide (oc=2)=true:=decide_eq_true h1;have d1':(oc==2)=true:=beq_iff_eq.2 h1;by_cases h2:od<la
  ·have d2:decide (od<la)=true:=decide_eq_true h2;rw[d1,d2];go_enter Tryz.func99,Tryz.ntmps99
   go_wp2_with (fail)
   go_ret;exact⟨rfl,below_alloc (below_alloc (Below.refl _ _) _) _⟩
  ·have d2:decide (od<la)=false:=decide_eq_false h2;rw[d1,d2];go_enter Tryz.func99,Tryz.ntmps99
   go_wp2_with (fail)
   go_ret;exact⟨rfl,below_alloc (below_alloc (Below.refl _ _) _) _⟩
 ·have d1:decide (oc=2)=false:=decide_eq_false h1;have d1':(oc==2)=false:=beq_eq_false_iff_ne.2 h1;rw[d1];go_enter Tryz.func99,Tryz.ntmps99
  go_wp2_with (fail)
  go_ret;exact⟨rfl,below_alloc (below_alloc (Below.refl _ _) _) _⟩
structure OpS (w:World) (q5:Nat) (n P N la:Int) (o u:Array Value) (w3:World):Prop where
 ne:w.heap.size+1<q5
 bel:Below w.heap.size w w3
 k2:w3.heap[w.heap.size]?=some (.cells #[.int .i64 n,.int .i64 P,.int .i64 N,.int .i64 la] TCk (0,0))
 k3:w3.heap[w.heap.size+1]?=some (.cells o TOp (0,0))
 k5:w3.heap[q5]?=some (.cells u TOp (0,0))
theorem OpS.put {w w3:World} {q5:Nat} {n P N la:Int} {o u:Array Value} (h:OpS w q5 n P N la o u w3) (j:Nat) (v:Value) {u':Array Value} (he:u.setIfInBounds j v=u'):OpS w q5 n P N la o u' (w3.setCell ⟨q5,j,none⟩ v):=by
 have hn:=h.ne;exact⟨h.ne,h.bel.setCell (p:=⟨q5,j,none⟩) (by simp only;omega) _,(Below.heap_setCell w3 ⟨q5,j,none⟩ _ _ (show w.heap.size≠q5 by omega)).trans h.k2,(Below.heap_setCell w3 ⟨q5,j,none⟩ _ _ (show w.heap.size+1≠q5 by omega)).trans h.k3,blk_put h.k5 j v he⟩
theorem OpS.more {w w3 w':World} {q5:Nat} {n P N la:Int} {o u:Array Value} (h:OpS w q5 n P N la o u w3) (hb:Below w3.heap.size w3 w'):OpS w q5 n P N la o u w':=
 ⟨h.ne,h.bel.trans (hb.mono h.bel.size),box_more hb h.k2,box_more hb h.k3,box_more hb h.k5⟩
theorem OpS.at_ {w w':World} {q5:Nat} {n P N la:Int} {a b c d x y z t:Value} (h:OpS w q5 n P N la #[a,b,c,d] #[x,y,z,t] w'):
  (w'.cell? ⟨w.heap.size,0,none⟩=some (.int .i64 n)∧w'.cell? ⟨w.heap.size,1,none⟩=some (.int .i64 P))∧(w'.cell? ⟨w.heap.size+1,0,none⟩=some a∧w'.cell? ⟨w.heap.size+1,1,none⟩=some b∧w'.cell? ⟨w.heap.size+1,2,none⟩=some c∧w'.cell? ⟨w.heap.size+1,3,none⟩=some d)∧(w'.cell? ⟨q5,0,none⟩=some x∧w'.cell? ⟨q5,1,none⟩=some y∧w'.cell? ⟨q5,2,none⟩=some z∧w'.cell? ⟨q5,3,none⟩=some t)∧w'.frozen? ⟨q5,0,none⟩=false∧w'.frozen? ⟨q5,1,none⟩=false∧w'.frozen? ⟨q5,2,none⟩=false∧w'.frozen? ⟨q5,3,none⟩=false:=by
 have k2:=h.k2;have k3:=h.k3;have k5:=h.k5;refine⟨⟨?_,?_⟩,⟨?_,?_,?_,?_⟩,⟨?_,?_,?_,?_⟩,blk_frozen k5 0,blk_frozen k5 1,blk_frozen k5 2,blk_frozen k5 3⟩<;>simp[World.cell?,k2,k3,k5]
theorem operands_calls (n P N la:Int) (o:OpC) (w:World) (hn:0≤n∧n≤1000) (hP:0≤P∧P≤1000):Calls Tryz.prog 97 #[ckV n P N la,o.v] w fun r w'=>r= .returned (.int .i64 (opO n P o))∧Below w.heap.size w w':=by
 obtain⟨oc,oa,ob,od⟩:=o;simp only[OpC.v];obtain⟨w1,hw1⟩:∃w1,(w.alloc (.cells #[.int .i64 n,.int .i64 P,.int .i64 N,.int .i64 la] TCk)).alloc (.cells #[.int .i64 oc,.int .i64 oa,.int .i64 ob,.int .i64 od] TOp)=w1:=⟨_,rfl⟩;obtain⟨hB1,hq2,hq3⟩:=box2 hw1;obtain⟨q5,hq5⟩:∃q5,w1.heap.size=q5:=⟨_,rfl⟩;obtain⟨w2,hw2⟩:∃w2,w1.alloc (.cells #[.int .i64 oc,.int .i64 0,.int .i64 0,.int .i64 0] TOp)=w2:=⟨_,rfl⟩;have hB12:Below w1.heap.size w1 w2:=hw2▸below_alloc (Below.refl _ _) _
 have HS2:=am (show OpS w q5 n P N la #[.int .i64 oc,.int .i64 oa,.int .i64 ob,.int .i64 od] #[.int .i64 oc,.int .i64 0,.int .i64 0,.int .i64 0] w2 from
  ⟨hq5▸blk_lt hq3,hB1.trans (hB12.mono hB1.size),box_more hB12 hq2,box_more hB12 hq3,by rw[←hw2,←hq5];exact World.alloc_heap_new _ _⟩)
 have x0:=(op2 hq3).1;obtain⟨⟨a0,a1⟩,⟨o0,o1,o2,o3⟩,⟨u0,u1,u2,u3⟩,z0,z1,z2,z3⟩:=HS2.out.at_;have HQ5:=am hq5;have HW2:=am hw2;have wn:=IntWalk.i64_in (n-1) (by omega);have wP:=IntWalk.i64_in (P-1) (by omega);clear hB1 hB12 hq2 hq3 hn hP hq5 hw2;obtain⟨R,hR⟩:∃R,opO n P ⟨oc,oa,ob,od⟩=R:=⟨_,rfl⟩;rw[hR];go_enter Tryz.func97,Tryz.ntmps97;go_upto_region 1 with (fail)
 clear hw1;go_upto_region 3 with (fail)
 rw[HW2.out,HQ5.out];by_cases c1:oc=1
 ·obtain⟨b1,hb1⟩:∃b,wi oa 1 1099511627776=b:=⟨_,rfl⟩;have HA:=am (fun W=>hb1▸pwithin_calls oa 1 1099511627776 W);have HR:=am (show R=vd (b1&&(decide (ob=0)&&decide (od=0))) 22 by rw[←hR];simp only[opO,if_pos c1,hb1]);clear hR hb1;subst c1;go_upto_region 6 with (fail)
  obtain⟨w3,hw3⟩:∃w3,w2.setCell ⟨q5,1,none⟩ (.int .i64 oa)=w3:=⟨_,rfl⟩;have HS3:=am (hw3▸HS2.out.put 1 (.int .i64 oa) rfl);rw[hw3];clear hw3 a0 a1 o0 o1 o2 o3 u0 u1 u2 u3 z0 z1 z2 z3;obtain⟨⟨a0,a1⟩,⟨o0,o1,o2,o3⟩,⟨u0,u1,u2,u3⟩,z0,z1,z2,z3⟩:=HS3.out.at_
  all_goals cases b1
  all_goals go_wp2_with (first|(go_at_call 95;first|((with_reducible refine(HA.out w3).mono ?_);go_must (rintro e w4 ⟨rfl,hb4⟩);go_must (have HS4:=am (HS3.out.more hb4));go_must (obtain⟨⟨a0,a1⟩,⟨o0,o1,o2,o3⟩,⟨u0,u1,u2,u3⟩,z0,z1,z2,z3⟩:=HS4.out.at_);clear hb4)))
  all_goals go_ret
  all_goals exact⟨by rw[HR.out];first|rfl|(simp[vd];done)|(simp[vd];omega),by first|exact HS6.out.bel|exact HS5.out.bel|exact HS4.out.bel|exact HS3.out.bel⟩
 by_cases c2:oc=2
 ·obtain⟨b2,hb2⟩:∃b,wi ob (-1073741824) 1073741824=b:=⟨_,rfl⟩;have HB:=am (fun W=>hb2▸pwithin_calls ob (-1073741824) 1073741824 W);obtain⟨b3,hb3⟩:∃b,wi od 1 1099511627776=b:=⟨_,rfl⟩;have HD:=am (fun W=>hb3▸pwithin_calls od 1 1099511627776 W);have HR:=am (show R=vd (decide (0≤oa)&&(b2&&b3)) 22 by rw[←hR];simp only[opO,if_neg c1,if_pos c2,hb2,hb3]);clear hR hb2 hb3;subst c2;go_upto_region 9 with (fail)
  obtain⟨w3,hw3⟩:∃w3,(((w2.setCell ⟨q5,0,none⟩ (.int .i64 2)).setCell ⟨q5,1,none⟩ (.int .i64 oa)).setCell ⟨q5,2,none⟩ (.int .i64 ob)).setCell ⟨q5,3,none⟩ (.int .i64 od)=w3:=⟨_,rfl⟩;have HS3:=am (hw3▸(((HS2.out.put 0 (.int .i64 2) rfl).put 1 (.int .i64 oa) rfl).put 2 (.int .i64 ob) rfl).put 3 (.int .i64 od) rfl);rw[hw3];clear hw3 a0 a1 o0 o1 o2 o3 u0 u1 u2 u3 z0 z1 z2 z3;obtain⟨⟨a0,a1⟩,⟨o0,o1,o2,o3⟩,⟨u0,u1,u2,u3⟩,z0,z1,z2,z3⟩:=HS3.out.at_
  all_goals cases b2<;>cases b3
  all_goals go_wp2_with (first|(go_at_call 95;first|((with_reducible refine(HB.out w3).mono ?_);go_must (rintro e w4 ⟨rfl,hb4⟩);go_must (have HS4:=am (HS3.out.more hb4));go_must (obtain⟨⟨a0,a1⟩,⟨o0,o1,o2,o3⟩,⟨u0,u1,u2,u3⟩,z0,z1,z2,z3⟩:=HS4.out.at_);clear hb4)|((with_reducible refine(HD.out w4).mono ?_);go_must (rintro e w5 ⟨rfl,hb5⟩);go_must (have HS5:=am (HS4.out.more hb5));go_must (obtain⟨⟨a0,a1⟩,⟨o0,o1,o2,o3⟩,⟨u0,u1,u2,u3⟩,z0,z1,z2,z3⟩:=HS5.out.at_);clear hb5)))
  all_goals go_ret
  all_goals exact⟨by rw[HR.out];first|rfl|(simp[vd];done)|(simp[vd];omega),by first|exact HS6.out.bel|exact HS5.out.bel|exact HS4.out.bel|exact HS3.out.bel⟩
 by_cases c3:oc=3
 ·obtain⟨b1,hb1⟩:∃b,wi oa 1 1099511627776=b:=⟨_,rfl⟩;have HA:=am (fun W=>hb1▸pwithin_calls oa 1 1099511627776 W);obtain⟨b2,hb2⟩:∃b,wi ob 0 (n-1)=b:=⟨_,rfl⟩;have HB:=am (fun W=>hb2▸pwithin_calls ob 0 (n-1) W);have HR:=am (show R=vd (b1&&(b2&&decide (od=0))) 22 by rw[←hR];simp only[opO,if_neg c1,if_neg c2,if_pos c3,hb1,hb2]);clear hR hb1 hb2;subst c3;go_upto_region 11 with (fail)
  go_region_with (fail)
  all_goals first
   |(obtain⟨w3,hw3⟩:∃w3,((w2.setCell ⟨q5,1,none⟩ (.int .i64 oa)).setCell ⟨q5,2,none⟩ (.int .i64 ob)).drew=w3:=⟨_,rfl⟩;rw[hw3];have HS3:=am (hw3▸((HS2.out.put 1 (.int .i64 oa) rfl).put 2 (.int .i64 ob) rfl).more (below_drew (Below.refl _ _)));clear hw3 a0 a1 o0 o1 o2 o3 u0 u1 u2 u3 z0 z1 z2 z3;obtain⟨⟨a0,a1⟩,⟨o0,o1,o2,o3⟩,⟨u0,u1,u2,u3⟩,z0,z1,z2,z3⟩:=HS3.out.at_)
   |(obtain⟨w3,hw3⟩:∃w3,((w2.setCell ⟨q5,2,none⟩ (.int .i64 ob)).setCell ⟨q5,1,none⟩ (.int .i64 oa)).drew=w3:=⟨_,rfl⟩;rw[hw3];have HS3:=am (hw3▸((HS2.out.put 2 (.int .i64 ob) rfl).put 1 (.int .i64 oa) rfl).more (below_drew (Below.refl _ _)));clear hw3 a0 a1 o0 o1 o2 o3 u0 u1 u2 u3 z0 z1 z2 z3;obtain⟨⟨a0,a1⟩,⟨o0,o1,o2,o3⟩,⟨u0,u1,u2,u3⟩,z0,z1,z2,z3⟩:=HS3.out.at_)
  all_goals cases b1<;>cases b2
  all_goals go_wp2_with (first|(go_at_call 95;first|((with_reducible refine(HA.out w3).mono ?_);go_must (rintro e w4 ⟨rfl,hb4⟩);go_must (have HS4:=am (HS3.out.more hb4));go_must (obtain⟨⟨a0,a1⟩,⟨o0,o1,o2,o3⟩,⟨u0,u1,u2,u3⟩,z0,z1,z2,z3⟩:=HS4.out.at_);clear hb4)|((with_reducible refine(HB.out w4).mono ?_);go_must (rintro e w5 ⟨rfl,hb5⟩);go_must (have HS5:=am (HS4.out.more hb5));go_must (obtain⟨⟨a0,a1⟩,⟨o0,o1,o2,o3⟩,⟨u0,u1,u2,u3⟩,z0,z1,z2,z3⟩:=HS5.out.at_);clear hb5)))
  all_goals go_ret
  all_goals exact⟨by rw[HR.out];first|rfl|(simp[vd];done)|(simp[vd];omega),by first|exact HS6.out.bel|exact HS5.out.bel|exact HS4.out.bel|exact HS3.out.bel⟩
 by_cases c5:oc=5
 ·obtain⟨b1,hb1⟩:∃b,wi oa 0 (P-1)=b:=⟨_,rfl⟩;have HA:=am (fun W=>hb1▸pwithin_calls oa 0 (P-1) W);obtain⟨b2,hb2⟩:∃b,wi ob 1 1099511627776=b:=⟨_,rfl⟩;have HB:=am (fun W=>hb2▸pwithin_calls ob 1 1099511627776 W);have HR:=am (show R=vd (b1&&(b2&&decide (od=0))) 22 by rw[←hR];simp only[opO,if_neg c1,if_neg c2,if_neg c3,if_pos c5,hb1,hb2]);clear hR hb1 hb2;subst c5;go_upto_region 14 with (fail)
  go_region_with (fail)
  all_goals first
   |(obtain⟨w3,hw3⟩:∃w3,((w2.setCell ⟨q5,1,none⟩ (.int .i64 oa)).setCell ⟨q5,2,none⟩ (.int .i64 ob)).drew=w3:=⟨_,rfl⟩;rw[hw3];have HS3:=am (hw3▸((HS2.out.put 1 (.int .i64 oa) rfl).put 2 (.int .i64 ob) rfl).more (below_drew (Below.refl _ _)));clear hw3 a0 a1 o0 o1 o2 o3 u0 u1 u2 u3 z0 z1 z2 z3;obtain⟨⟨a0,a1⟩,⟨o0,o1,o2,o3⟩,⟨u0,u1,u2,u3⟩,z0,z1,z2,z3⟩:=HS3.out.at_)
   |(obtain⟨w3,hw3⟩:∃w3,((w2.setCell ⟨q5,2,none⟩ (.int .i64 ob)).setCell ⟨q5,1,none⟩ (.int .i64 oa)).drew=w3:=⟨_,rfl⟩;rw[hw3];have HS3:=am (hw3▸((HS2.out.put 2 (.int .i64 ob) rfl).put 1 (.int .i64 oa) rfl).more (below_drew (Below.refl _ _)));clear hw3 a0 a1 o0 o1 o2 o3 u0 u1 u2 u3 z0 z1 z2 z3;obtain⟨⟨a0,a1⟩,⟨o0,o1,o2,o3⟩,⟨u0,u1,u2,u3⟩,z0,z1,z2,z3⟩:=HS3.out.at_)
  all_goals cases b1<;>cases b2
  all_goals go_wp2_with (first|(go_at_call 95;first|((with_reducible refine(HA.out w3).mono ?_);go_must (rintro e w4 ⟨rfl,hb4⟩);go_must (have HS4:=am (HS3.out.more hb4));go_must (obtain⟨⟨a0,a1⟩,⟨o0,o1,o2,o3⟩,⟨u0,u1,u2,u3⟩,z0,z1,z2,z3⟩:=HS4.out.at_);clear hb4)|((with_reducible refine(HB.out w4).mono ?_);go_must (rintro e w5 ⟨rfl,hb5⟩);go_must (have HS5:=am (HS4.out.more hb5));go_must (obtain⟨⟨a0,a1⟩,⟨o0,o1,o2,o3⟩,⟨u0,u1,u2,u3⟩,z0,z1,z2,z3⟩:=HS5.out.at_);clear hb5)))
  all_goals go_ret
  all_goals exact⟨by rw[HR.out];first|rfl|(simp[vd];done)|(simp[vd];omega),by first|exact HS6.out.bel|exact HS5.out.bel|exact HS4.out.bel|exact HS3.out.bel⟩
 by_cases c6:oc=6
 ·obtain⟨b1,hb1⟩:∃b,wi oa 0 1=b:=⟨_,rfl⟩;have HA:=am (fun W=>hb1▸pwithin_calls oa 0 1 W);obtain⟨b2,hb2⟩:∃b,wi ob (-1073741824) 1073741824=b:=⟨_,rfl⟩;have HB:=am (fun W=>hb2▸pwithin_calls ob (-1073741824) 1073741824 W);have HR:=am (show R=vd (b1&&(b2&&decide (od=0))) 22 by rw[←hR];simp only[opO,if_neg c1,if_neg c2,if_neg c3,if_neg c5,if_pos c6,hb1,hb2]);clear hR hb1 hb2;subst c6;go_upto_region 17 with (fail)
  go_region_with (fail)
  all_goals first
   |(obtain⟨w3,hw3⟩:∃w3,((w2.setCell ⟨q5,1,none⟩ (.int .i64 oa)).setCell ⟨q5,2,none⟩ (.int .i64 ob)).drew=w3:=⟨_,rfl⟩;rw[hw3];have HS3:=am (hw3▸((HS2.out.put 1 (.int .i64 oa) rfl).put 2 (.int .i64 ob) rfl).more (below_drew (Below.refl _ _)));clear hw3 a0 a1 o0 o1 o2 o3 u0 u1 u2 u3 z0 z1 z2 z3;obtain⟨⟨a0,a1⟩,⟨o0,o1,o2,o3⟩,⟨u0,u1,u2,u3⟩,z0,z1,z2,z3⟩:=HS3.out.at_)
   |(obtain⟨w3,hw3⟩:∃w3,((w2.setCell ⟨q5,2,none⟩ (.int .i64 ob)).setCell ⟨q5,1,none⟩ (.int .i64 oa)).drew=w3:=⟨_,rfl⟩;rw[hw3];have HS3:=am (hw3▸((HS2.out.put 2 (.int .i64 ob) rfl).put 1 (.int .i64 oa) rfl).more (below_drew (Below.refl _ _)));clear hw3 a0 a1 o0 o1 o2 o3 u0 u1 u2 u3 z0 z1 z2 z3;obtain⟨⟨a0,a1⟩,⟨o0,o1,o2,o3⟩,⟨u0,u1,u2,u3⟩,z0,z1,z2,z3⟩:=HS3.out.at_)
  all_goals cases b1<;>cases b2
  all_goals go_wp2_with (first|(go_at_call 95;first|((with_reducible refine(HA.out w3).mono ?_);go_must (rintro e w4 ⟨rfl,hb4⟩);go_must (have HS4:=am (HS3.out.more hb4));go_must (obtain⟨⟨a0,a1⟩,⟨o0,o1,o2,o3⟩,⟨u0,u1,u2,u3⟩,z0,z1,z2,z3⟩:=HS4.out.at_);clear hb4)|((with_reducible refine(HB.out w4).mono ?_);go_must (rintro e w5 ⟨rfl,hb5⟩);go_must (have HS5:=am (HS4.out.more hb5));go_must (obtain⟨⟨a0,a1⟩,⟨o0,o1,o2,o3⟩,⟨u0,u1,u2,u3⟩,z0,z1,z2,z3⟩:=HS5.out.at_);clear hb5)))
  all_goals go_ret
  all_goals exact⟨by rw[HR.out];first|rfl|(simp[vd];done)|(simp[vd];omega),by first|exact HS6.out.bel|exact HS5.out.bel|exact HS4.out.bel|exact HS3.out.bel⟩
 by_cases c7:oc=7
 ·obtain⟨b1,hb1⟩:∃b,wi oa 0 1=b:=⟨_,rfl⟩;have HA:=am (fun W=>hb1▸pwithin_calls oa 0 1 W);obtain⟨b2,hb2⟩:∃b,wi ob (-1073741824) 1073741824=b:=⟨_,rfl⟩;have HB:=am (fun W=>hb2▸pwithin_calls ob (-1073741824) 1073741824 W);obtain⟨b3,hb3⟩:∃b,wi od 0 (n-1)=b:=⟨_,rfl⟩;have HD:=am (fun W=>hb3▸pwithin_calls od 0 (n-1) W);have HR:=am (show R=vd (b1&&(b2&&b3)) 22 by rw[←hR];simp only[opO,if_neg c1,if_neg c2,if_neg c3,if_neg c5,if_neg c6,if_pos c7,hb1,hb2,hb3]);clear hR hb1 hb2 hb3;subst c7;go_upto_region 21 with (fail)
  obtain⟨w3,hw3⟩:∃w3,(((w2.setCell ⟨q5,0,none⟩ (.int .i64 7)).setCell ⟨q5,1,none⟩ (.int .i64 oa)).setCell ⟨q5,2,none⟩ (.int .i64 ob)).setCell ⟨q5,3,none⟩ (.int .i64 od)=w3:=⟨_,rfl⟩;have HS3:=am (hw3▸(((HS2.out.put 0 (.int .i64 7) rfl).put 1 (.int .i64 oa) rfl).put 2 (.int .i64 ob) rfl).put 3 (.int .i64 od) rfl);rw[hw3];clear hw3 a0 a1 o0 o1 o2 o3 u0 u1 u2 u3 z0 z1 z2 z3;obtain⟨⟨a0,a1⟩,⟨o0,o1,o2,o3⟩,⟨u0,u1,u2,u3⟩,z0,z1,z2,z3⟩:=HS3.out.at_
  all_goals cases b1<;>cases b2<;>cases b3
  all_goals go_wp2_with (first|(go_at_call 95;first|((with_reducible refine(HA.out w3).mono ?_);go_must (rintro e w4 ⟨rfl,hb4⟩);go_must (have HS4:=am (HS3.out.more hb4));go_must (obtain⟨⟨a0,a1⟩,⟨o0,o1,o2,o3⟩,⟨u0,u1,u2,u3⟩,z0,z1,z2,z3⟩:=HS4.out.at_);clear hb4)|((with_reducible refine(HB.out w4).mono ?_);go_must (rintro e w5 ⟨rfl,hb5⟩);go_must (have HS5:=am (HS4.out.more hb5));go_must (obtain⟨⟨a0,a1⟩,⟨o0,o1,o2,o3⟩,⟨u0,u1,u2,u3⟩,z0,z1,z2,z3⟩:=HS5.out.at_);clear hb5)|((with_reducible refine(HD.out w5).mono ?_);go_must (rintro e w6 ⟨rfl,hb6⟩);go_must (have HS6:=am (HS5.out.more hb6));go_must (obtain⟨⟨a0,a1⟩,⟨o0,o1,o2,o3⟩,⟨u0,u1,u2,u3⟩,z0,z1,z2,z3⟩:=HS6.out.at_);clear hb6)))
  all_goals go_ret
  all_goals exact⟨by rw[HR.out];first|rfl|(simp[vd];done)|(simp[vd];omega),by first|exact HS6.out.bel|exact HS5.out.bel|exact HS4.out.bel|exact HS3.out.bel⟩
 have HR:=am (show R=vd (decide (oa=0)&&(decide (ob=0)&&decide (od=0))) 22 by rw[←hR];simp only[opO,if_neg c1,if_neg c2,if_neg c3,if_neg c5,if_neg c6,if_neg c7]);clear hR;have n1:(oc==1)=false:=beq_eq_false_iff_ne.2 c1;have n2:(oc==2)=false:=beq_eq_false_iff_ne.2 c2;have n3:(oc==3)=false:=beq_eq_false_iff_ne.2 c3;have n5:(oc==5)=false:=beq_eq_false_iff_ne.2 c5;have n6:(oc==6)=false:=beq_eq_false_iff_ne.2 c6;have n7:(oc==7)=false:=beq_eq_false_iff_ne.2 c7;clear c1 c2 c3 c5 c6 c7;have HS3:=HS2
 all_goals go_wp2_with (fail)
 all_goals go_ret
 all_goals exact⟨by rw[HR.out];first|rfl|(simp[vd];done)|(simp[vd];omega),by first|exact HS6.out.bel|exact HS5.out.bel|exact HS4.out.bel|exact HS3.out.bel⟩
theorem fst1_drop {α:Type} (f:α→Int) {l:List α} {k:Nat} {x:α} (h:l[k]?=some x):fst1 f (l.drop k)=if f x=0 then fst1 f (l.drop (k+1))else f x:=by
 obtain⟨hk,e⟩:=List.getElem?_eq_some_iff.1 h;rw[List.drop_eq_getElem_cons hk,e,fst1]
abbrev TSt2:TypeId:=62
theorem firstSt_calls {Mt:Nat→Prop} {w:World} {A:Option Addr} {n c:Nat} {l:List StC} (hr:Rd kSt Mt w ⟨A,n,c⟩ l) (hn:n≤1000000) (q:Nat) (f:StC→Int)
  (hf:∀W,Below w.heap.size w W→∀x∈l,Calls Tryz.prog 73 #[.agg #[.int .i64 x.pg,.int .i64 x.t],.pointer (some ⟨q,0,none⟩)] W fun e w'=>e= .returned (.int .i64 (f x))∧Below W.heap.size W w'):
  Calls Tryz.prog 72 #[.slice A n c,.func (.func 73) #[] #[.pointer (some ⟨q,0,none⟩)]] w fun e w'=>e= .returned (.int .i64 (fst1 f l))∧Below w.heap.size w w':=by
 have hl:n=l.length:=hr.len;have HR:=am hr;have HF:=am hf;have HL:=am hl;clear hr hf hl;go_enter Tryz.func72,Tryz.ntmps72
 go_wp2_with (fail)
 go_loopw [10] (fun i wr=>∃k:Nat,k≤n∧i= .int .i64 k∧Aside0 (fst1 f (l.drop k)=fst1 f l)∧Aside0 (Below w.heap.size w wr)) (fun i _=>n-(intOf i).toNat)
 case atStart=>exact⟨0,Nat.zero_le _,rfl,⟨by rw[List.drop_zero]⟩,⟨Below.refl _ _⟩⟩
 case round=>
  obtain⟨k,hk,rfl,HD,HB⟩:=hrel;by_cases hlt:k<n
  ·have d1:decide ((k:Int)<(n:Int))=true:=dt (by omega);have d1':decide (k<n)=true:=decide_eq_true hlt;obtain⟨ad,x,rfl,⟨h2,hx⟩,p0,p1⟩:=st_cells ((HR.out.below HB.out).here) k hlt;have hxm:x∈l:=hx▸List.getElem_mem h2;have hfd:=fst1_drop f (show l[k]?=some x by rw[List.getElem?_eq_getElem h2,hx]);obtain⟨v,hv⟩:∃v,f x=v:=⟨_,rfl⟩;rw[hv]at hfd;obtain⟨w2,hw2⟩:∃w2,wr.alloc (.cells #[.int .i64 x.pg,.int .i64 x.t] TSt2)=w2:=⟨_,rfl⟩;have hb2:Below wr.heap.size wr w2:=hw2▸below_alloc (Below.refl _ _) _
   have hq2:w2.heap[wr.heap.size]?=some (.cells #[.int .i64 x.pg,.int .i64 x.t] TSt2 (0,0)):=by rw[←hw2];exact World.alloc_heap_new _ _
   have z0:w2.cell? ⟨wr.heap.size,0,none⟩=some (.int .i64 x.pg):=by simp[World.cell?,hq2]
   have z1:w2.cell? ⟨wr.heap.size,1,none⟩=some (.int .i64 x.t):=by simp[World.cell?,hq2]
   have HB2:=HB.go hb2;have HC:=am (hv▸HF.out w2 HB2.out x hxm);have HFD:=am hfd;have HW2:=am hw2;have m0:(0:Int)≤(k:Int):=by omega
   have m1:(k:Int)<(n:Nat):=by omega
   clear hx hxm hfd hb2 hq2 hw2 h2 hv;obtain⟨xp,xt⟩:=x;simp only at p0 p1 z0 z1 HC HW2;go_upto_region 4 with (fail)
   rw[HW2.out];clear p0 p1;by_cases hv0:v=0
   ·subst hv0
    go_wp2_with (first|(go_at_call 73;go_must (with_reducible refine HC.out.mono ?_);go_must (rintro e w3 ⟨rfl,hb3⟩);have HB3:=HB2.go hb3;clear hb3))
    go_roundw
    ·exact⟨k+1,by omega,by go_num,⟨by rw[←HD.out,HFD.out];simp⟩,HB3⟩
    ·simp[intOf];omega
   ·have hz:(v != 0)=true:=bne_iff_ne.2 hv0
    go_wp2_with (first|(go_at_call 73;go_must (with_reducible refine HC.out.mono ?_);go_must (rintro e w3 ⟨rfl,hb3⟩);have HB3:=HB2.go hb3;clear hb3))
    go_ret;exact⟨by rw[←HD.out,HFD.out,if_neg hv0];rfl,HB3.out⟩
  ·obtain rfl:k=n:=by omega
   have d1:decide ((k:Int)<(k:Int))=false:=df (by omega)
   go_wp2_with (fail)
   go_ret;refine⟨?_,HB.out⟩;rw[←HD.out,List.drop_eq_nil_of_le (by rw[←HL.out];exact Nat.le_refl _)];rfl
theorem firstSts_calls {Mt:Nat→Prop} {w:World} {A:Option Addr} {n c:Nat} {ss:List SH} {l:List (List StC)} (hr:Rd kH Mt w ⟨A,n,c⟩ ss) (hlen:ss.length=l.length) (hn:n≤1000000) (q:Nat) (f:List StC→Int)
  (hf:∀W,Below w.heap.size w W→∀(i:Nat) (s:SH) (x:List StC),ss[i]?=some s→l[i]?=some x→Calls Tryz.prog 71 #[.slice s.A s.n s.c,.pointer (some ⟨q,0,none⟩)] W fun e w'=>e= .returned (.int .i64 (f x))∧Below W.heap.size W w'):
  Calls Tryz.prog 70 #[.slice A n c,.func (.func 71) #[] #[.pointer (some ⟨q,0,none⟩)]] w fun e w'=>e= .returned (.int .i64 (fst1 f l))∧Below w.heap.size w w':=by
 have hl:n=ss.length:=hr.len;have HR:=am hr;have HF:=am hf;have HL:=am hl;have HLN:=am hlen;clear hr hf hl hlen;go_enter Tryz.func70,Tryz.ntmps70
 go_wp2_with (fail)
 go_loopw [10] (fun i wr=>∃k:Nat,k≤n∧i= .int .i64 k∧Aside0 (fst1 f (l.drop k)=fst1 f l)∧Aside0 (Below w.heap.size w wr)) (fun i _=>n-(intOf i).toNat)
 case atStart=>exact⟨0,Nat.zero_le _,rfl,⟨by rw[List.drop_zero]⟩,⟨Below.refl _ _⟩⟩
 case round=>
  obtain⟨k,hk,rfl,HD,HB⟩:=hrel;by_cases hlt:k<n
  ·have d1:decide ((k:Int)<(n:Int))=true:=dt (by omega);have d1':decide (k<n)=true:=decide_eq_true hlt;obtain⟨ad,x,rfl,⟨h2,hx⟩,p0⟩:=hd_cells ((HR.out.below HB.out).here) k hlt;have h3:k<l.length:=by have:=HLN.out;omega
   have hfd:=fst1_drop f (List.getElem?_eq_getElem h3);obtain⟨v,hv⟩:∃v,f l[k]=v:=⟨_,rfl⟩;rw[hv]at hfd;have HC:=am (hv▸HF.out wr HB.out k x l[k] (by rw[List.getElem?_eq_getElem h2,hx]) (List.getElem?_eq_getElem h3));have HFD:=am hfd;have m0:(0:Int)≤(k:Int):=by omega
   have m1:(k:Int)<(n:Nat):=by omega
   clear hx hfd h2 hv h3;obtain⟨xA,xn,xc⟩:=x;simp only at p0 HC;by_cases hv0:v=0
   ·subst hv0
    go_wp2_with (first|(go_at_call 71;go_must (with_reducible refine HC.out.mono ?_);go_must (rintro e w3 ⟨rfl,hb3⟩);have HB3:=HB.go hb3;clear hb3))
    go_roundw
    ·exact⟨k+1,by omega,by go_num,⟨by rw[←HD.out,HFD.out];simp⟩,HB3⟩
    ·simp[intOf];omega
   ·have hz:(v != 0)=true:=bne_iff_ne.2 hv0
    go_wp2_with (first|(go_at_call 71;go_must (with_reducible refine HC.out.mono ?_);go_must (rintro e w3 ⟨rfl,hb3⟩);have HB3:=HB.go hb3;clear hb3))
    go_ret;exact⟨by rw[←HD.out,HFD.out,if_neg hv0];rfl,HB3.out⟩
  ·obtain rfl:k=n:=by omega
   have d1:decide ((k:Int)<(k:Int))=false:=df (by omega)
   go_wp2_with (fail)
   go_ret;refine⟨?_,HB.out⟩;rw[←HD.out,List.drop_eq_nil_of_le (by have:=HL.out;have:=HLN.out;omega)];rfl
theorem firstOps_calls {Mt:Nat→Prop} {w:World} {A:Option Addr} {n c:Nat} {ss:List SH} {l:List (List OpC)} (hr:Rd kH Mt w ⟨A,n,c⟩ ss) (hlen:ss.length=l.length) (hn:n≤1000000) (q:Nat) (f:List OpC→Int)
  (hf:∀W,Below w.heap.size w W→∀(i:Nat) (s:SH) (x:List OpC),ss[i]?=some s→l[i]?=some x→Calls Tryz.prog 68 #[.slice s.A s.n s.c,.pointer (some ⟨q,0,none⟩)] W fun e w'=>e= .returned (.int .i64 (f x))∧Below W.heap.size W w'):
  Calls Tryz.prog 67 #[.slice A n c,.func (.func 68) #[] #[.pointer (some ⟨q,0,none⟩)]] w fun e w'=>e= .returned (.int .i64 (fst1 f l))∧Below w.heap.size w w':=by
 have hl:n=ss.length:=hr.len;have HR:=am hr;have HF:=am hf;have HL:=am hl;have HLN:=am hlen;clear hr hf hl hlen;go_enter Tryz.func67,Tryz.ntmps67
 go_wp2_with (fail)
 go_loopw [10] (fun i wr=>∃k:Nat,k≤n∧i= .int .i64 k∧Aside0 (fst1 f (l.drop k)=fst1 f l)∧Aside0 (Below w.heap.size w wr)) (fun i _=>n-(intOf i).toNat)
 case atStart=>exact⟨0,Nat.zero_le _,rfl,⟨by rw[List.drop_zero]⟩,⟨Below.refl _ _⟩⟩
 case round=>
  obtain⟨k,hk,rfl,HD,HB⟩:=hrel;by_cases hlt:k<n
  ·have d1:decide ((k:Int)<(n:Int))=true:=dt (by omega);have d1':decide (k<n)=true:=decide_eq_true hlt;obtain⟨ad,x,rfl,⟨h2,hx⟩,p0⟩:=hd_cells ((HR.out.below HB.out).here) k hlt;have h3:k<l.length:=by have:=HLN.out;omega
   have hfd:=fst1_drop f (List.getElem?_eq_getElem h3);obtain⟨v,hv⟩:∃v,f l[k]=v:=⟨_,rfl⟩;rw[hv]at hfd;have HC:=am (hv▸HF.out wr HB.out k x l[k] (by rw[List.getElem?_eq_getElem h2,hx]) (List.getElem?_eq_getElem h3));have HFD:=am hfd;have m0:(0:Int)≤(k:Int):=by omega
   have m1:(k:Int)<(n:Nat):=by omega
   clear hx hfd h2 hv h3;obtain⟨xA,xn,xc⟩:=x;simp only at p0 HC;by_cases hv0:v=0
   ·subst hv0
    go_wp2_with (first|(go_at_call 68;go_must (with_reducible refine HC.out.mono ?_);go_must (rintro e w3 ⟨rfl,hb3⟩);have HB3:=HB.go hb3;clear hb3))
    go_roundw
    ·exact⟨k+1,by omega,by go_num,⟨by rw[←HD.out,HFD.out];simp⟩,HB3⟩
    ·simp[intOf];omega
   ·have hz:(v != 0)=true:=bne_iff_ne.2 hv0
    go_wp2_with (first|(go_at_call 68;go_must (with_reducible refine HC.out.mono ?_);go_must (rintro e w3 ⟨rfl,hb3⟩);have HB3:=HB.go hb3;clear hb3))
    go_ret;exact⟨by rw[←HD.out,HFD.out,if_neg hv0];rfl,HB3.out⟩
  ·obtain rfl:k=n:=by omega
   have d1:decide ((k:Int)<(k:Int))=false:=df (by omega)
   go_wp2_with (fail)
   go_ret;refine⟨?_,HB.out⟩;rw[←HD.out,List.drop_eq_nil_of_le (by have:=HL.out;have:=HLN.out;omega)];rfl
abbrev TCc:TypeId:=97
def CkBox (w:World) (q:Nat) (c:SCf):Prop:=w.heap[q]?=some (.cells #[.slice c.lps.A c.lps.n c.lps.c,.slice c.pgs.A c.pgs.n c.pgs.c,.int .i64 c.la,.int .i64 c.en,.int .i64 c.cp] TCc (0,0))
theorem CkBox.at_ {w w':World} {q:Nat} {c:SCf} (h:CkBox w q c) (hb:Below w.heap.size w w'):w'.cell? ⟨q,0,none⟩=some (.slice c.lps.A c.lps.n c.lps.c)∧w'.cell? ⟨q,1,none⟩=some (.slice c.pgs.A c.pgs.n c.pgs.c)∧w'.cell? ⟨q,2,none⟩=some (.int .i64 c.la)∧w'.cell? ⟨q,3,none⟩=some (.int .i64 c.en)∧w'.cell? ⟨q,4,none⟩=some (.int .i64 c.cp):=by
 have h1:=box_more hb h;refine⟨?_,?_,?_,?_,?_⟩<;>simp[World.cell?,h1]
theorem start_calls1 {w:World} {q:Nat} {c:SCf} (h:CkBox w q c) (x:StC) (hp:c.pgs.n≤1000000):Calls Tryz.prog 73 #[.agg #[.int .i64 x.pg,.int .i64 x.t],.pointer (some ⟨q,0,none⟩)] w fun e w'=>e= .returned (.int .i64 (stc c.pgs.n x))∧Below w.heap.size w w':=by
 obtain⟨xp,xt⟩:=x;obtain⟨⟨lA,ln,lc⟩,⟨pA,pn,pc⟩,la,en,cp⟩:=c;have hq:=blk_lt h;have hb1:=below_alloc (Below.refl w.heap.size w) (.cells #[.int .i64 xp,.int .i64 xt] TSt2);obtain⟨w1,hw1⟩:∃w1,w.alloc (.cells #[.int .i64 xp,.int .i64 xt] TSt2)=w1:=⟨_,rfl⟩;have hk1:w1.heap[w.heap.size]?=some (.cells #[.int .i64 xp,.int .i64 xt] TSt2 (0,0)):=by rw[←hw1];exact World.alloc_heap_new _ _
 rw[hw1]at hb1;obtain⟨c0,c1,c2,c3,c4⟩:=CkBox.at_ h hb1;have z0:w1.cell? ⟨w.heap.size,0,none⟩=some (.int .i64 xp):=by simp[World.cell?,hk1]
 simp only at c0 c1 c2 c3 c4 hp;have wP:=IntWalk.i64_in ((pn:Int)-1) (by omega);obtain⟨b1,hb1'⟩:∃b,wi xp 0 ((pn:Int)-1)=b:=⟨_,rfl⟩;obtain⟨b2,hb2'⟩:∃b,wi xt 0 1152921504606846976=b:=⟨_,rfl⟩;have H1:=am (fun W=>hb1'▸within_calls xp 0 ((pn:Int)-1) W);have H2:=am (fun W=>hb2'▸within_calls xt 0 1152921504606846976 W);have H3:=am (fun W=>verdict_calls b2 11 W);have HB1:=am hb1;have HK1:=am hk1;unfold stc;simp only;rw[hb1',hb2'];clear hb1 hb1' hb2' hq h hk1 hp;cases b1
 ·go_enter Tryz.func73,Tryz.ntmps73;go_upto_region 1 with (fail)
  clear hw1
  go_wp2_with (first|(go_at_call 65;go_must (with_reducible refine(H1.out w1).mono ?_);go_must (rintro e w2 ⟨rfl,hb2⟩);have HB2:=HB1.go hb2;clear hb2))
  go_ret;exact⟨rfl,HB2.out⟩
 ·go_enter Tryz.func73,Tryz.ntmps73;go_upto_region 1 with (fail)
  clear hw1
  go_wp2_with (first
   |(go_at_call 65;first
    |((with_reducible refine(H1.out w1).mono ?_);go_must (rintro e w2 ⟨rfl,hb2⟩);go_must (have y1:w2.cell? ⟨w.heap.size,1,none⟩=some (.int .i64 xt):=by simp[World.cell?,box_more hb2 HK1.out]);have HB2:=HB1.go hb2;clear hb2)
    |((with_reducible refine(H2.out w2).mono ?_);go_must (rintro e w3 ⟨rfl,hb3⟩);have HB3:=HB2.go hb3;clear hb3))
   |(go_at_call 66;go_must (with_reducible refine(H3.out w3).mono ?_);go_must (rintro e w4 ⟨rfl,hb4⟩);have HB4:=HB3.go hb4;clear hb4))
  go_ret;exact⟨rfl,HB4.out⟩
theorem starts1_calls {Mt:Nat→Prop} {w:World} {q:Nat} {c:SCf} (h:CkBox w q c) {s:SH} {x:List StC} (hr:Rd kSt Mt w s x) (hn:s.n≤1000000) (hp:c.pgs.n≤1000000):Calls Tryz.prog 71 #[.slice s.A s.n s.c,.pointer (some ⟨q,0,none⟩)] w fun e w'=>e= .returned (.int .i64 (fst1 (stc c.pgs.n) x))∧Below w.heap.size w w':=by
 obtain⟨sA,sn,sc⟩:=s;have HC:=am (show Calls Tryz.prog 72 #[.slice sA sn sc,.func (.func 73) #[] #[.pointer (some ⟨q,0,none⟩)]] w (fun e w'=>e= .returned (.int .i64 (fst1 (stc c.pgs.n) x))∧Below w.heap.size w w')from
  firstSt_calls hr hn q _ (fun W hb y _=>start_calls1 (box_more hb h) y hp))
 clear hr h;go_enter Tryz.func71,Tryz.ntmps71
 go_wp2_with (first|(go_at_call 72;go_must (with_reducible refine HC.out.mono ?_);go_must (rintro e w2 ⟨rfl,hb2⟩);have HB2:=am hb2;clear hb2))
 go_ret;exact⟨rfl,HB2.out⟩
theorem starts_calls {Mt:Nat→Prop} {w:World} (c:SCf) {cf:Cf} (hc:CfAt Mt w c cf) (h1:cf.lps.length≤1000) (h2:cf.pgs.length≤1000) (h3:∀l∈cf.lps,l.length≤1000):
  Calls Tryz.prog 47 #[c.v] w fun e w'=>e= .returned (.int .i64 (fst1 (fst1 (stc cf.pgs.length)) cf.lps))∧Below w.heap.size w w':=by
 obtain⟨w1,hw1⟩:∃w1,w.alloc (.cells #[.slice c.lps.A c.lps.n c.lps.c,.slice c.pgs.A c.pgs.n c.pgs.c,.int .i64 c.la,.int .i64 c.en,.int .i64 c.cp] TCc)=w1:=⟨_,rfl⟩;have hb1:Below w.heap.size w w1:=hw1▸below_alloc (Below.refl _ _) _;have hk1:CkBox w1 w.heap.size c:=by rw[←hw1];exact World.alloc_heap_new _ _
 have hpn:c.pgs.n=cf.pgs.length:=by
  obtain⟨tt,q1,q2⟩:=hc.pgs;have:=q1.len;have:=q2.len;omega
 obtain⟨c0,_⟩:=CkBox.at_ hk1 (Below.refl _ _);obtain⟨ss,p1,p2⟩:=(hc.keep (Keep.of_below hb1)).lps;have HC:=am (show Calls Tryz.prog 70 #[.slice c.lps.A c.lps.n c.lps.c,.func (.func 71) #[] #[.pointer (some ⟨w.heap.size,0,none⟩)]] w1 (fun e w'=>e= .returned (.int .i64 (fst1 (fst1 (stc cf.pgs.length)) cf.lps))∧Below w1.heap.size w1 w')from
  firstSts_calls p1 p2.len (show c.lps.n≤1000000 by have h4:c.lps.n=ss.length:=p1.len;have:=p2.len;omega) w.heap.size _ (fun W hb i s x hi hx=>by
   rw[←hpn];obtain⟨i1,e1⟩:=List.getElem?_eq_some_iff.1 hi;obtain⟨i2,e2⟩:=List.getElem?_eq_some_iff.1 hx;have hrx:=(p2.get i i1 i2).below hb;rw[e1,e2]at hrx;exact starts1_calls (box_more hb hk1) hrx (by have h4:=h3 x (List.mem_of_getElem? hx);have h5:s.n=x.length:=hrx.len;omega) (by omega)))
 have HB1:=am hb1;clear hc hk1 p1 p2 hb1 hpn;simp only[SCf.v];go_enter Tryz.func47,Tryz.ntmps47;go_upto_region 1 with (fail)
 clear hw1
 go_wp2_with (first|(go_at_call 70;go_must (with_reducible refine HC.out.mono ?_);go_must (rintro e w2 ⟨rfl,hb2⟩);have HB2:=HB1.go hb2;clear hb2))
 go_ret;exact⟨rfl,HB2.out⟩
theorem lookahead_calls (w:World) (c:SCf):Calls Tryz.prog 45 #[c.v] w fun e w'=>e= .returned (.int .i64 (vd (decide (1≤c.la)) 20))∧Below w.heap.size w w':=by
 obtain⟨w1,hw1⟩:∃w1,w.alloc (.cells #[.slice c.lps.A c.lps.n c.lps.c,.slice c.pgs.A c.pgs.n c.pgs.c,.int .i64 c.la,.int .i64 c.en,.int .i64 c.cp] TCc)=w1:=⟨_,rfl⟩;have hb1:Below w.heap.size w w1:=hw1▸below_alloc (Below.refl _ _) _;have hk1:CkBox w1 w.heap.size c:=by rw[←hw1];exact World.alloc_heap_new _ _
 obtain⟨_,_,c2,_,_⟩:=CkBox.at_ hk1 (Below.refl _ _);have HB1:=am hb1;have HC:=am (verdict_calls (decide (1≤c.la)) 20 w1);clear hb1 hk1;simp only[SCf.v];go_enter Tryz.func45,Tryz.ntmps45;go_upto_region 1 with (fail)
 clear hw1
 go_wp2_with (first|(go_at_call 66;go_must (with_reducible refine HC.out.mono ?_);go_must (rintro e w2 ⟨rfl,hb2⟩);have HB2:=HB1.go hb2;clear hb2))
 go_ret;exact⟨rfl,HB2.out⟩
abbrev fvs (n P N la:Int):Array Value:= #[.func (.func 96) #[ckV n P N la] #[],.func (.func 97) #[ckV n P N la] #[],.func (.func 98) #[ckV n P N la] #[],.func (.func 99) #[ckV n P N la] #[]]
abbrev TFop:TypeId:=155
def rls (n P N la:Int):List (OpC→Int):=[opC,opO n P,opT N,opE la]
theorem pck_eq (P N la:Int) (p:List OpC):pck P N la p=if wi p.length 1 16 then fst1 (fun r=>fst1 r p) (rls p.length P N la)else 22:=rfl
theorem rule_at (n P N la:Int) (hn:0≤n∧n≤1000) (hP:0≤P∧P≤1000) (k:Nat) (hk:k<4):∃(F:FuncId) (r:OpC→Int),(rls n P N la)[k]?=some r∧(fvs n P N la)[k]?=some (.func (.func F) #[ckV n P N la] #[])∧(∀(args:Array Value) (w:World),(callFunc F args).run Tryz.prog w= .ok (.enter F args) w)∧∀(x:OpC) (W:World),Calls Tryz.prog F #[ckV n P N la,x.v] W fun e w'=>e= .returned (.int .i64 (r x))∧Below W.heap.size W w':=by
 have h:k=0∨k=1∨k=2∨k=3:=by omega
 rcases h with rfl|rfl|rfl|rfl
 ·exact⟨96,opC,rfl,rfl,fun args w=>enters_ Tryz.func96 (by kernel_rfl) (by kernel_rfl) args w,fun x W=>code_calls n P N la x W⟩
 ·exact⟨97,opO n P,rfl,rfl,fun args w=>enters_ Tryz.func97 (by kernel_rfl) (by kernel_rfl) args w,fun x W=>operands_calls n P N la x W hn hP⟩
 ·exact⟨98,opT N,rfl,rfl,fun args w=>enters_ Tryz.func98 (by kernel_rfl) (by kernel_rfl) args w,fun x W=>target_calls n P N la x W⟩
 ·exact⟨99,opE la,rfl,rfl,fun args w=>enters_ Tryz.func99 (by kernel_rfl) (by kernel_rfl) args w,fun x W=>early_calls n P N la x W⟩
theorem pcheck_calls {Mt:Nat→Prop} {w:World} {A:Option Addr} {n c:Nat} {p:List OpC} (hr:Rd kOp Mt w ⟨A,n,c⟩ p) (hn:n≤1000) (P N la:Int) (hP:0≤P∧P≤1000):
  Calls Tryz.prog 69 #[.slice A n c,.int .i64 P,.int .i64 N,.int .i64 la] w fun e w'=>e= .returned (.int .i64 (pck P N la p))∧Below w.heap.size w w':=by
 have hl:n=p.length:=hr.len;obtain⟨R,hR⟩:∃R,pck P N la p=R:=⟨_,rfl⟩;rw[hR];rw[pck_eq]at hR;obtain⟨b1,hb1⟩:∃b,wi (n:Int) 1 16=b:=⟨_,rfl⟩;rw[←hl,hb1]at hR;have H1:=am (hb1▸pwithin_calls n 1 16 w);have HR:=am hr;have HL:=am hl;have HRS:=am hR;clear hr hl hR hb1;cases b1
 ·go_enter Tryz.func69,Tryz.ntmps69
  go_wp2_with (first|(go_at_call 95;go_must (with_reducible refine H1.out.mono ?_);go_must (rintro e w2 ⟨rfl,hb2⟩);have HB2:=am hb2;clear hb2))
  go_ret;exact⟨by rw[←HRS.out];rfl,HB2.out⟩
 ·go_enter Tryz.func69,Tryz.ntmps69;go_upto_region 3 with (first|(go_at_call 95;go_must (with_reducible refine H1.out.mono ?_);go_must (rintro e w2 ⟨rfl,hb2⟩);have HB2:=am hb2;clear hb2))
  obtain⟨w3,hw3⟩:∃w3,(w2.alloc (.cells #[.int .i64 n,.int .i64 P,.int .i64 N,.int .i64 la] TCk)).alloc (.cells (fvs n P N la) TFop)=w3:=⟨_,rfl⟩;obtain⟨hb3,_,hg3⟩:=box2 hw3;obtain⟨g,hg⟩:∃g,w2.heap.size+1=g:=⟨_,rfl⟩;rw[hg]at hg3;have HB3:=HB2.go hb3;have HG3:=am hg3;have HW3:=am hw3;have HG:=am hg;clear hb3 hg3 hw3 hg;go_upto_region 5 with (fail)
  rw[HW3.out,HG.out]
  go_loopw [35] (fun i wr=>∃k:Nat,k≤4∧i= .int .i64 k∧Aside0 (fst1 (fun r=>fst1 r p) ((rls n P N la).drop k)=R)∧Aside0 (Below w.heap.size w wr)∧Aside0 (wr.heap[g]?=some (.cells (fvs n P N la) TFop (0,0)))) (fun i _=>4-(intOf i).toNat)
  case atStart=>exact⟨0,Nat.zero_le _,rfl,⟨HRS.out⟩,HB3,HG3⟩
  case round=>
   obtain⟨k,hk,rfl,HD,HB,HGK⟩:=hrel;by_cases hlt:k<4
   ·have d1:decide ((k:Int)<4)=true:=dt (by omega);have d1':decide (k<4)=true:=decide_eq_true hlt;obtain⟨F,r,hr1,hfv,heg,hrc⟩:=rule_at n P N la ⟨by omega,by omega⟩ hP k hlt;have hfd:=fst1_drop (fun r=>fst1 r p) hr1;rw[HD.out]at hfd;have p0:wr.cell? ⟨g,k,none⟩=some (.func (.func F) #[ckV n P N la] #[]):=by simp only[World.cell?,HGK.out];exact hfv
    have HRC:=am hrc;have HFD:=am hfd;have m0:(0:Int)≤(k:Int):=by omega
    have m1:(k:Int)<4:=by omega
    clear hr1 hfv hrc hfd;go_upto_region 8 with (fail)
    clear p0
    go_loopw [41] (fun i wi=>∃j:Nat,j≤n∧i= .int .i64 j∧Aside0 (fst1 r (p.drop j)=fst1 r p)∧Aside0 (Below w.heap.size w wi)∧Aside0 (wi.heap[g]?=some (.cells (fvs n P N la) TFop (0,0)))) (fun i _=>n-(intOf i).toNat)
    case atStart=>exact⟨0,Nat.zero_le _,rfl,⟨by rw[List.drop_zero]⟩,HB,HGK⟩
    case round=>
     obtain⟨j,hj,rfl,HDJ,HBJ,HGJ⟩:=hrel;by_cases hjn:j<n
     ·have e1:decide ((j:Int)<(n:Int))=true:=dt (by omega);have e1':decide (j<n)=true:=decide_eq_true hjn;obtain⟨ad,o,rfl,⟨h2,hx⟩,p0,p1,p2,p3⟩:=op_cells ((HR.out.below HBJ.out).here) j hjn;have hfj:=fst1_drop r (show p[j]?=some o by rw[List.getElem?_eq_getElem h2,hx]);obtain⟨v,hv⟩:∃v,r o=v:=⟨_,rfl⟩;rw[hv,HDJ.out]at hfj;obtain⟨oc,oa,ob,od⟩:=o;obtain⟨w4,hw4⟩:∃w4,wr.alloc (.cells #[.int .i64 oc,.int .i64 oa,.int .i64 ob,.int .i64 od] TOp)=w4:=⟨_,rfl⟩;have hb4:Below wr.heap.size wr w4:=hw4▸below_alloc (Below.refl _ _) _
      have hq4:w4.heap[wr.heap.size]?=some (.cells #[.int .i64 oc,.int .i64 oa,.int .i64 ob,.int .i64 od] TOp (0,0)):=by rw[←hw4];exact World.alloc_heap_new _ _
      have HG4:=am (box_more hb4 HGJ.out);have HB4:=HBJ.go hb4;have HC:=am (hv▸HRC.out ⟨oc,oa,ob,od⟩ w4);have HFJ:=am hfj;have HW4:=am hw4;obtain⟨z0,z1,z2,z3⟩:=op2 hq4;simp only[OpC.v]at p0 p1 p2 p3 HC;have n0:(0:Int)≤(j:Int):=by omega
      have n1:(j:Int)<(n:Nat):=by omega
      clear hx hfj hv hw4 hq4 hb4 h2;go_upto_region 10 with (fail)
      rw[HW4.out];clear p0 p1 p2 p3;by_cases hv0:v=0
      ·subst hv0
       go_wp2_with (first|((with_reducible refine HC.out.mono ?_);go_must (rintro e w5 ⟨rfl,hb5⟩);go_must (have HB5:=HB4.go hb5;have HG5:=am (box_more hb5 HG4.out));clear hb5))
       go_roundw
       ·exact⟨j+1,by omega,by go_num,⟨by have:=HFJ.out;rw[if_pos trivial]at this;exact this.symm⟩,HB5,HG5⟩
       ·simp[intOf];omega
      ·have hz:(v != 0)=true:=bne_iff_ne.2 hv0;have HV:=am (show fst1 r p=v from by have:=HFJ.out;rw[if_neg hv0]at this;exact this);have HRV:=am (show R=v from by have:=HFD.out;rw[HV.out,if_neg hv0]at this;exact this)
       go_wp2_with (first|((with_reducible refine HC.out.mono ?_);go_must (rintro e w5 ⟨rfl,hb5⟩);go_must (have HB5:=HB4.go hb5);clear hb5))
       go_ret;exact⟨by rw[HRV.out];rfl,HB5.out⟩
     ·obtain rfl:j=n:=by omega
      have e1:decide ((j:Int)<(j:Int))=false:=df (by omega);have HZ:=am (show fst1 r p=0 by rw[←HDJ.out,List.drop_eq_nil_of_le (by have:=HL.out;omega)];rfl);have HD2:=am (show fst1 (fun r=>fst1 r p) ((rls j P N la).drop (k+1))=R by have:=HFD.out;rw[HZ.out,if_pos rfl]at this;exact this.symm)
      go_wp2_with (fail)
      go_roundw
      ·exact⟨k+1,by omega,by go_num,HD2,HBJ,HGJ⟩
      ·simp[intOf];omega
   ·obtain rfl:k=4:=by omega
    have d1:decide (((4:Nat):Int)<4)=false:=by decide
    go_wp2_with (fail)
    go_ret;exact⟨by rw[←HD.out];rfl,HB.out⟩
theorem programs1_calls {Mt:Nat→Prop} {w:World} {q:Nat} {c:SCf} (h:CkBox w q c) {s:SH} {p:List OpC} (hr:Rd kOp Mt w s p) (hn:s.n≤1000) (hp:c.pgs.n≤1000):Calls Tryz.prog 68 #[.slice s.A s.n s.c,.pointer (some ⟨q,0,none⟩)] w fun e w'=>e= .returned (.int .i64 (pck c.pgs.n c.lps.n c.la p))∧Below w.heap.size w w':=by
 obtain⟨sA,sn,sc⟩:=s;obtain⟨c0,c1,c2,_,_⟩:=CkBox.at_ h (Below.refl _ _);have HC:=am (pcheck_calls hr hn c.pgs.n c.lps.n c.la ⟨by omega,by omega⟩);clear hr h;go_enter Tryz.func68,Tryz.ntmps68
 go_wp2_with (first|(go_at_call 69;go_must (with_reducible refine HC.out.mono ?_);go_must (rintro e w2 ⟨rfl,hb2⟩);have HB2:=am hb2;clear hb2))
 go_ret;exact⟨rfl,HB2.out⟩
structure CfSm (cf:Cf):Prop where
 l:cf.lps.length≤1000
 p:cf.pgs.length≤1000
 ll:∀l∈cf.lps,l.length≤1000
 pl:∀p∈cf.pgs,p.length≤1000
theorem CfAt.lens {Mt:Nat→Prop} {w:World} {c:SCf} {cf:Cf} (hc:CfAt Mt w c cf):c.lps.n=cf.lps.length∧c.pgs.n=cf.pgs.length:=by
 obtain⟨tt,q1,q2⟩:=hc.pgs;obtain⟨ss,p1,p2⟩:=hc.lps;have h1:=q1.len;have h2:=q2.len;have h3:=p1.len;have h4:=p2.len;omega
theorem programs_calls {Mt:Nat→Prop} {w:World} (c:SCf) {cf:Cf} (hc:CfAt Mt w c cf) (hs:CfSm cf):
  Calls Tryz.prog 46 #[c.v] w fun e w'=>e= .returned (.int .i64 (fst1 (pck cf.pgs.length cf.lps.length cf.la) cf.pgs))∧Below w.heap.size w w':=by
 obtain⟨w1,hw1⟩:∃w1,w.alloc (.cells #[.slice c.lps.A c.lps.n c.lps.c,.slice c.pgs.A c.pgs.n c.pgs.c,.int .i64 c.la,.int .i64 c.en,.int .i64 c.cp] TCc)=w1:=⟨_,rfl⟩;have hb1:Below w.heap.size w w1:=hw1▸below_alloc (Below.refl _ _) _;have hk1:CkBox w1 w.heap.size c:=by rw[←hw1];exact World.alloc_heap_new _ _
 obtain⟨hln,hpn⟩:=hc.lens;have hla:=hc.la;obtain⟨_,c1,_⟩:=CkBox.at_ hk1 (Below.refl _ _);obtain⟨ss,p1,p2⟩:=(hc.keep (Keep.of_below hb1)).pgs;have hs2:=hs.p;have HC:=am (show Calls Tryz.prog 67 #[.slice c.pgs.A c.pgs.n c.pgs.c,.func (.func 68) #[] #[.pointer (some ⟨w.heap.size,0,none⟩)]] w1 (fun e w'=>e= .returned (.int .i64 (fst1 (pck cf.pgs.length cf.lps.length cf.la) cf.pgs))∧Below w1.heap.size w1 w')from
  firstOps_calls p1 p2.len (show c.pgs.n≤1000000 by omega) w.heap.size _ (fun W hb i s x hi hx=>by
   rw[←hpn,←hln,←hla];obtain⟨i1,e1⟩:=List.getElem?_eq_some_iff.1 hi;obtain⟨i2,e2⟩:=List.getElem?_eq_some_iff.1 hx;have hrx:=(p2.get i i1 i2).below hb;rw[e1,e2]at hrx;exact programs1_calls (box_more hb hk1) hrx (by have h4:=hs.pl x (List.mem_of_getElem? hx);have h5:s.n=x.length:=hrx.len;omega) (by omega)))
 have HB1:=am hb1;clear hc hk1 p1 p2 hb1 hpn hln hla hs hs2;simp only[SCf.v];go_enter Tryz.func46,Tryz.ntmps46;go_upto_region 1 with (fail)
 clear hw1
 go_wp2_with (first|(go_at_call 67;go_must (with_reducible refine HC.out.mono ?_);go_must (rintro e w2 ⟨rfl,hb2⟩);have HB2:=HB1.go hb2;clear hb2))
 go_ret;exact⟨rfl,HB2.out⟩
theorem all_take_succ {α:Type} (f:α→Bool) (l:List α) (k:Nat) (h:k<l.length):(l.take (k+1)).all f=((l.take k).all f&&f l[k]):=by
 rw[List.take_succ_eq_append_getElem h,List.all_append];simp
theorem sizes_calls {Mt:Nat→Prop} {w:World} (c:SCf) {cf:Cf} (hc:CfAt Mt w c cf) (hs:CfSm cf):
  Calls Tryz.prog 44 #[c.v] w fun e w'=>e= .returned (.int .i64 (vd (szs cf) 1))∧Below w.heap.size w w':=by
 obtain⟨w1,hw1⟩:∃w1,w.alloc (.cells #[.slice c.lps.A c.lps.n c.lps.c,.slice c.pgs.A c.pgs.n c.pgs.c,.int .i64 c.la,.int .i64 c.en,.int .i64 c.cp] TCc)=w1:=⟨_,rfl⟩;have hb1:Below w.heap.size w w1:=hw1▸below_alloc (Below.refl _ _) _;have hk1:CkBox w1 w.heap.size c:=by rw[←hw1];exact World.alloc_heap_new _ _
 obtain⟨hln,hpn⟩:=hc.lens;obtain⟨c0,c1,c2,c3,c4⟩:=CkBox.at_ hk1 (Below.refl _ _);obtain⟨ss,p1,p2⟩:=(hc.keep (Keep.of_below hb1)).lps;have hcp:=hc.cp;have hen:=hc.en;obtain⟨b1,hb1'⟩:∃b,wi (c.lps.n:Int) 1 8=b:=⟨_,rfl⟩;obtain⟨b2,hb2'⟩:∃b,decide ((c.pgs.n:Int)≤8)=b:=⟨_,rfl⟩;obtain⟨b3,hb3'⟩:∃b,wi c.cp 1 64=b:=⟨_,rfl⟩;obtain⟨b4,hb4'⟩:∃b,wi c.en 0 1152921504606846976=b:=⟨_,rfl⟩;have hsz:szs cf=(b1&&(b2&&(b3&&(b4&&cf.lps.all fun l=>decide ((l.length:Int)≤8))))):=by
  unfold szs;rw[←hln,←hpn,←hcp,←hen,hb1',hb2',hb3',hb4']
 have H1:=am (fun W=>hb1'▸within_calls c.lps.n 1 8 W);have H3:=am (fun W=>hb3'▸within_calls c.cp 1 64 W);have H4:=am (fun W=>hb4'▸within_calls c.en 0 1152921504606846976 W);have HBX:=am hk1;have HB1:=am hb1;have HSZ:=am hsz;have HP1:=am p1;have HP2:=am p2;have HL1:=am (show c.lps.n=ss.length from p1.len);have HL2:=am p2.len;have hs1:=hs.l;have hlb:c.lps.n≤1000:=by omega
 clear hc hk1 p1 p2 hb1 hpn hln hs hb1' hb3' hb4' hcp hen hsz hs1;obtain⟨⟨lA,ln,lc⟩,⟨pA,pn,pc⟩,la,en,cp⟩:=c;simp only[SCf.v]at*;go_enter Tryz.func44,Tryz.ntmps44;go_upto_region 1 with (fail)
 clear hw1
 go_cut [3] (fun v wx=>v= .bool (b1&&(b2&&(b3&&b4)))∧Aside0 (Below w1.heap.size w1 wx))
 case first=>
  cases b1<;>cases b2<;>cases b3<;>cases b4
  all_goals
   go_wp2_with (first|(go_at_call 65;first
    |((with_reducible refine(H1.out w1).mono ?_);go_must (rintro e w2 ⟨rfl,hbb⟩);go_must (obtain⟨d0,d1,d2,d3,d4⟩:=CkBox.at_ HBX.out hbb);have HB2:=am hbb;clear hbb)
    |((with_reducible refine(H3.out w2).mono ?_);go_must (rintro e w3 ⟨rfl,hbb⟩);go_must (have hbc:=HB2.out.trans (hbb.mono HB2.out.size));go_must (obtain⟨e0,e1,e2,e3,e4⟩:=CkBox.at_ HBX.out hbc);have HB3:=am hbc;clear hbb hbc)
    |((with_reducible refine(H4.out w3).mono ?_);go_must (rintro e w4 ⟨rfl,hbb⟩);go_must (have hbc:=HB3.out.trans (hbb.mono HB3.out.size));have HB4:=am hbc;clear hbb hbc)))
   go_meet;exact⟨rfl,by first|exact HB4|exact HB3|exact HB2⟩
 case rest=>
  obtain⟨rfl,HBC⟩:=hcut;obtain⟨d0,d1,d2,d3,d4⟩:=CkBox.at_ HBX.out HBC.out;obtain⟨B,hB⟩:∃B,(b1&&(b2&&(b3&&b4)))=B:=⟨_,rfl⟩;rw[hB];have HSZ2:=am (show szs cf=(B&&cf.lps.all fun l=>decide ((l.length:Int)≤8))by rw[HSZ.out,←hB];simp only[Bool.and_assoc]);clear hB
  go_wp2_with (fail)
  go_loopw [3,34] (fun v i wr=>∃k:Nat,k≤ln∧v= .bool (B&&(cf.lps.take k).all fun l=>decide ((l.length:Int)≤8))∧i= .int .i64 k∧Aside0 (Below w1.heap.size w1 wr)) (fun _ i _=>ln-(intOf i).toNat)
  case atStart=>exact⟨0,Nat.zero_le _,by simp,rfl,HBC⟩
  case round=>
   obtain⟨k,hk,rfl,rfl,HB⟩:=hrel;obtain⟨Bk,hBk⟩:∃Bk,(B&&(cf.lps.take k).all fun l=>decide ((l.length:Int)≤8))=Bk:=⟨_,rfl⟩;rw[hBk];have HBK:=am hBk;clear hBk;by_cases hlt:k<ln
   ·have e1:decide ((k:Int)<(ln:Int))=true:=dt (by omega);have e1':decide (k<ln)=true:=decide_eq_true hlt;obtain⟨ad,x,rfl,⟨h2,hx⟩,p0⟩:=hd_cells ((HP1.out.below HB.out).here) k hlt;have h3:k<cf.lps.length:=by have:=HL1.out;have:=HL2.out;omega
    have hxn:x.n=cf.lps[k].length:=by
     have h4:Rd kSt Mt w1 ss[k] cf.lps[k]:=HP2.out.get k h2 h3;rw[hx]at h4;exact h4.len
    have HNX:=am (show(B&&(cf.lps.take (k+1)).all fun l=>decide ((l.length:Int)≤8))=(Bk&&decide ((x.n:Int)≤8))by
     rw[all_take_succ _ _ k h3,←Bool.and_assoc,HBK.out,hxn])
    have m0:(0:Int)≤(k:Int):=by omega
    have m1:(k:Int)<(ln:Nat):=by omega
    obtain⟨xA,xn,xc⟩:=x;simp only at p0 HNX;clear hx hxn h2 h3;cases Bk
    ·go_wp2_with (fail)
     go_roundw
     ·exact⟨k+1,by omega,by rw[HNX.out];rfl,by go_num,HB⟩
     ·simp[intOf];omega
    ·by_cases h8:(xn:Int)≤8
     ·have e8:decide ((xn:Int)≤8)=true:=decide_eq_true h8;have e8':decide (xn≤8)=true:=dt (by omega)
      go_wp2_with (fail)
      go_roundw
      ·exact⟨k+1,by omega,by rw[HNX.out,e8];rfl,by go_num,HB⟩
      ·simp[intOf];omega
     ·have e8:decide ((xn:Int)≤8)=false:=decide_eq_false h8;have e8':decide (xn≤8)=false:=df (by omega)
      go_wp2_with (fail)
      go_roundw
      ·exact⟨k+1,by omega,by rw[HNX.out,e8];rfl,by go_num,HB⟩
      ·simp[intOf];omega
   ·obtain rfl:k=ln:=by omega
    have e1:decide ((k:Int)<(k:Int))=false:=df (by omega);have HV:=am (verdict_calls Bk 1 wr);have HE:=am (show szs cf=Bk by
     have h4:cf.lps.take k=cf.lps:=List.take_of_length_le (by have:=HL1.out;have:=HL2.out;omega);have h5:=HBK.out;rw[h4]at h5;rw[HSZ2.out,h5])
    go_wp2_with (first|(go_at_call 66;go_must (with_reducible refine HV.out.mono ?_);go_must (rintro e w4 ⟨rfl,hb4⟩);have HB4:=HB.go hb4;clear hb4))
    go_ret;exact⟨by rw[HE.out];rfl,HB1.out.trans (HB4.out.mono HB1.out.size)⟩
end Go.Proofs.YtfnimdhghglanaaGreat.Hand
end
