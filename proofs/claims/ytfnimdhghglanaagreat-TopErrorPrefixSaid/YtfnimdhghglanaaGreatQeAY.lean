/- TopErrorPrefix, part 25 of 41; no condition. (Printed from the session's own texts: what is not used left out, spaces spared.) -/
import Derived.Test.YtfnimdhghglanaaGreatQeAB
import Derived.Test.YtfnimdhghglanaaGreatQeAX
import Derived.Handy
import Derived.ArgAppend
set_option maxRecDepth 100000
set_option maxHeartbeats 8000000
set_option linter.unusedVariables false
set_option linter.unusedSimpArgs false
section
namespace Go.Proofs.YtfnimdhghglanaaGreat.Hand
open Go.RowKit Go.Shelf Go.Proofs.YtfnimdhghglanaaGreatW.PrintWords Go.Proofs.YtfnimdhghglanaaGreatW.PrintLast Go.Proofs.YtfnimdhghglanaaGreatW.PrintMore
attribute [local go_sem] max2_int min2_int max_two min_two max_three min_three max_four min_four
def rowsOf (n:Nat) (l:List Ev):List (List Ev):=(List.range n).map (fun(i:Nat)=>l.filter (fun f=>decide (f.lp=(i:Int))))
theorem rowsOf_len (n:Nat) (l:List Ev):(rowsOf n l).length=n:=by simp[rowsOf]
theorem rowsOf_at {n:Nat} {l:List Ev} {i:Nat} (hi:i<n):(rowsOf n l)[i]?=some (l.filter (fun f=>decide (f.lp=(i:Int)))):=by
 simp[rowsOf,hi]
theorem rowsOf_push (n:Nat) (l:List Ev) (e:Ev) (i:Nat) (hi:i<n) (he:e.lp=(i:Int)):rowsOf n (l++[e])=(rowsOf n l).set i (l.filter (fun f=>decide (f.lp=(i:Int)))++[e]):=by
 refine List.ext_getElem? fun j=> ?_;by_cases hj:j<n
 ·rw[rowsOf_at hj];by_cases hij:i=j
  ·subst hij;rw[List.getElem?_set_self (by rw[rowsOf_len];exact hj),List.filter_append];simp[he]
  ·rw[List.getElem?_set_ne hij,rowsOf_at hj,List.filter_append];have:¬e.lp=(j:Int):=by omega
   simp[this]
 ·rw[List.getElem?_eq_none (by rw[rowsOf_len];omega),List.getElem?_eq_none (by rw[List.length_set,rowsOf_len];omega)]
theorem rowsOf_nil (n:Nat):rowsOf n []=List.replicate n []:=by
 refine List.ext_getElem? fun j=> ?_;by_cases hj:j<n
 ·rw[rowsOf_at hj,List.getElem?_replicate,if_pos hj];rfl
 ·rw[List.getElem?_eq_none (by rw[rowsOf_len];omega),List.getElem?_eq_none (by simp;omega)]
def dlv1 (b:List Ev) (l:List Ev):List Ev:=if l=[]then b else sortC (b++l)
def dlv (boxes:List (List Ev)) (es:List Ev):List (List Ev):=List.zipWith dlv1 boxes (rowsOf boxes.length es)
theorem dlv_len (boxes:List (List Ev)) (es:List Ev):(dlv boxes es).length=boxes.length:=by simp[dlv,rowsOf_len]
theorem dlv_at {boxes:List (List Ev)} {es:List Ev} {i:Nat} (hi:i<boxes.length):(dlv boxes es)[i]?=some (dlv1 boxes[i] (es.filter (fun f=>decide (f.lp=(i:Int))))):=by
 unfold dlv;rw[List.getElem?_zipWith,List.getElem?_eq_getElem hi,rowsOf_at hi]
theorem dlv_next (boxes:List (List Ev)) (es:List Ev) (i:Nat) (hi:i<boxes.length):(dlv boxes es).take (i+1)++boxes.drop (i+1)=((dlv boxes es).take i++boxes.drop i).set i (dlv1 boxes[i] (es.filter (fun f=>decide (f.lp=(i:Int))))):=by
 have h1:i<(dlv boxes es).length:=by rw[dlv_len];exact hi
 rw[List.set_append_right _ _ (by rw[List.length_take];omega),List.length_take,Nat.min_eq_left (by omega),Nat.sub_self,List.drop_eq_getElem_cons hi,List.set_cons_zero,←List.take_append_getElem h1];have h2:=dlv_at (es:=es) hi;rw[List.getElem?_eq_getElem h1]at h2
 injection h2 with h2
 rw[h2];simp
theorem dlv_mid (boxes:List (List Ev)) (es:List Ev) (i:Nat) (hi:i<boxes.length):((dlv boxes es).take i++boxes.drop i)[i]?=some boxes[i]:=by
 rw[List.getElem?_append_right (by rw[List.length_take];omega),List.length_take,dlv_len,Nat.min_eq_left (by omega),Nat.sub_self,List.drop_eq_getElem_cons hi];rfl
theorem mq2_lt {Mt:Nat→Prop} {w w1 w2:World} {go g:Nat} (hM:∀k,Mt k→k<w.heap.size) (h1:w.heap.size≤w1.heap.size) (h2:w1.heap.size≤w2.heap.size) (hgo:go<w1.heap.size) (hg:g<w2.heap.size):∀k,Mq (Mq Mt go) g k→k<w2.heap.size:=fun k hk=>by
 rcases hk with (hk|rfl)|rfl
 ·have:=hM k hk;omega
 ·omega
 ·omega
theorem mq2_old {Mt:Nat→Prop} {w:World} {go g:Nat} (hgo:w.heap.size≤go) (hg:w.heap.size≤g):∀k,k<w.heap.size→Mq (Mq Mt go) g k→Mt k:=fun k hl hk=>by
 rcases hk with (hk|rfl)|rfl
 ·exact hk
 ·omega
 ·omega
structure DlvPre (boxes sents:List (List Ev)):Prop where
 n1:1≤boxes.length
 n2:boxes.length≤1000
 m:sents.length≤1000000
 l:sents.flatten.length≤400000
 bl:∀b∈boxes,b.length≤500000
 bk:∀b∈boxes,∀e∈b,e.k.length≤1000000
 sk:∀e∈sents.flatten,e.k.length≤1000000
 lp:∀e∈sents.flatten,0≤e.lp∧e.lp<boxes.length
 so:∀b∈boxes,SortedE b
 kd:∀(i:Nat) (b:List Ev),boxes[i]?=some b→KeysD (b++sents.flatten.filter (fun f=>decide (f.lp=(i:Int))))
theorem deliver_calls {Mt:Nat→Prop} {w:World} (hM:∀k,Mt k→k<w.heap.size) {h1 h2:SH} {boxes sents:List (List Ev)} (r1:EvssAt Mt w h1 boxes) (r2:EvssAt Mt w h2 sents) (hp:DlvPre boxes sents):
  Calls Tryz.prog 74 #[.slice h1.A h1.n h1.c,.slice h2.A h2.n h2.c] w fun r w'=>∃h':SH,r= .returned (.slice h'.A h'.n h'.c)∧EvssAt Mt w' h' (dlv boxes sents.flatten)∧Below w.heap.size w w':=by
 obtain⟨hs,r1,q1⟩:=r1;obtain⟨A1,N1,c1⟩:=h1;obtain⟨A2,N2,c2⟩:=h2;obtain rfl:N1=hs.length:=r1.len;have hnb:hs.length=boxes.length:=q1.len;have H1:=am r1;have HQ1:=am q1;have H2:=am r2;have HP:=am hp;have HM:=am hM;have HNB:=am hnb;have hpos:1≤hs.length:=by rw[hnb];exact hp.n1
 have hmax:hs.length≤1000:=by rw[hnb];exact hp.n2
 obtain⟨n,hn⟩:∃n,hs.length=n:=⟨_,rfl⟩;have HN:=am hn;rw[hn]at hpos hmax;have HCL:=am (hn▸cloneEvs_calls A1 c1 hs.length hs w r1.here rfl (by omega));rw[hn];have HCC:=am (show∀(w2:World) (M':Nat→Prop),Below w.heap.size w w2→(∀k,M' k→k<w2.heap.size)→(∀k,k<w.heap.size→M' k→Mt k)→Calls Tryz.prog 29 #[.slice A2 N2 c2] w2 (fun e w'=>∃h':SH,e= .returned (.slice h'.A h'.n h'.c)∧h'.n=sents.flatten.length∧EvsAt M' w' h' sents.flatten∧Below w2.heap.size w2 w')from fun w2 M' hb hM' hm=>
  concatDeep (h:=⟨A2,N2,c2⟩) (r2.fresh (Keep.of_below hb) hm) hM' hp.m (by have:=hp.l;omega))
 clear r1 q1 r2 hp hM hn hnb;go_enter Tryz.func74,Tryz.ntmps74;go_upto_region 2 with (first|(go_at_call 79;(with_reducible refine HCL.out.mono ?_);rintro e w1 ⟨v,rfl,hv,hb⟩;obtain⟨go,co,rfl,hgo,hgol,_⟩:=Kd.R_form hv (by have:=HN.out;omega);have HV:=am hv;have HB1:=am hb;clear hv hb))
 have hv1:=HV.out;rw[HN.out]at hv1;rw[HN.out];have HV1:=am hv1;have HGO:=am hgo;have HGOL:=am hgol;clear HV hv1 hgo hgol
 go_wp2_with (first
  |((with_reducible refine gate_dst (N:=15) rfl ?_);refine Kd.R_make kH (w0:=w1) w1.heap.size THd rfl (N:=15) rfl 31 _ _ rfl (n:Int) rfl rfl Tryz.underlying31 (.slice none 0 0) 24 infoEvs rfl (by decide) (by omega) SH.nil (ok:=fun _=>True) (okp:=fun _=>True) rfl (fun _ hk=>hk) trivial (by omega) (by omega) (Below.refl _ _) (Nat.le_refl _) ?_;intro vo w2 ho hb2 hg2 hnew2;obtain⟨g,c,rfl,hg,hgl,_⟩:=Kd.R_form ho (by rw[List.length_replicate];omega);rw[List.length_replicate,Int.toNat_natCast]at ho ⊢;have HT0:=am ho;have HB2:=am hb2;have HG:=am hg;have HGL:=am hgl;clear ho hb2 hg2 hnew2 hg hgl)
  |(go_at_call 29;(with_reducible refine(HCC.out _ (Mq (Mq Mt go) g) (HB1.out.trans (HB2.out.mono HB1.out.size)) (mq2_lt HM.out HB1.out.size HB2.out.size HGOL.out HGL.out) (mq2_old HGO.out (Nat.le_trans HB1.out.size HG.out))).mono ?_);rintro e w3 ⟨⟨sA,sn,sc⟩,rfl,hsn,hse,hb3⟩;have HSN:=am hsn;have HSE:=am hse;have HB3:=am hb3;clear hsn hse hb3))
 obtain⟨es,hes⟩:∃es,sents.flatten=es:=⟨_,rfl⟩;have HES:=am hes;have HSN':=HSN.out;rw[hes]at HSN' HSE;obtain rfl:sn=es.length:=HSN';have hLP:=HP.out.lp;have hL:=HP.out.l;have hSK:=HP.out.sk;rw[hes]at hLP hL hSK;have HLP:=am hLP;have HL:=am hL;have HSK:=am hSK;clear HSN hes hLP hL hSK;have hb1:=HB1.out;have hb2:=HB2.out;have hb3:=HB3.out;have hgw:=HG.out;have hgo:=HGO.out;have hgol:=HGOL.out;have hgl:=HGL.out;have hbw3:Below w.heap.size w w3:=(hb1.trans (hb2.mono hb1.size)).trans (hb3.mono (Nat.le_trans hb1.size hb2.size))
 have hmq:∀k,k<w.heap.size→Mtab (Mq Mt go) g (List.replicate n SH.nil) k→Mt k:=fun k hk hm=>by
  have:=hb1.size;rcases hm with (hm|rfl)|rfl|⟨x,hx,hm⟩
  ·exact hm
  ·omega
  ·omega
  ·rw[(List.mem_replicate.1 hx).2]at hm;cases hm
 have hT0:TabAt (Mq Mt go) w.heap.size w3 g n c (List.replicate n SH.nil) (rowsOf n (es.take 0)):=by
  refine⟨(HRow.stay (Kd.R_lower HT0.out hb1.size) (hb3.block g hgl)),by rw[List.take_zero,rowsOf_len,List.length_replicate],fun i x l h1 h2=> ?_,fun i j x x' _ h1 _ k hk=> ?_⟩
  ·rw[(List.mem_replicate.1 (List.mem_of_getElem? h1)).2];rw[List.take_zero,rowsOf_nil]at h2;rw[(List.mem_replicate.1 (List.mem_of_getElem? h2)).2];exact⟨[],Kd.R_nil _ _ _ _ _,.nil⟩
  ·rw[(List.mem_replicate.1 (List.mem_of_getElem? h1)).2]at hk;cases hk
 have hgne:g≠go:=by omega
 have HGNE:=am hgne;have hV3:HRow w3 w.heap.size go n co hs:=HRow.stay (w:=w1) HV1.out ((hb3.block go (by have:=hb2.size;omega)).trans (hb2.block go hgol));have hbq:All2 (EvsAt (Mtab (Mq Mt go) g (List.replicate n SH.nil)) w3) hs boxes:=HQ1.out.imp fun _ _ h=>h.fresh (Keep.of_below hbw3) hmq;have hsq:EvsAt (Mtab (Mq Mt go) g (List.replicate n SH.nil)) w3 ⟨sA,es.length,sc⟩ es:=HSE.out.fresh (Keep.refl _ _) (fun k hk hm=>by
  rcases hm with hm|rfl|⟨x,hx,hm⟩
  ·exact .inl hm
  ·exact .inr rfl
  ·rw[(List.mem_replicate.1 hx).2]at hm;cases hm)
 have HMQ:=am (show∀k,Mq Mt go k→k<w3.heap.size from fun k hk=>by
  have:=hbw3.size;rcases hk with hk|rfl
  ·have:=HM.out k hk;omega
  ·have:=hb2.size;have:=hb3.size;omega)
 have HV3:=am hV3;have HBQ:=am hbq;have HSQ:=am hsq;have HTAB0:=am hT0;have HBW3:=am hbw3;clear hb1 hb2 hb3 hgw hgo hgol hgl hbw3 hmq hT0 hgne hV3 hbq hsq HT0
 go_wp2_with (fail)
 go_loopw [19] (fun j wr=>∃k:Nat,k≤es.length∧j= .int .i64 k∧∃hs':List SH,Aside0 (TabAt (Mq Mt go) w.heap.size wr g n c hs' (rowsOf n (es.take k)))∧Aside0 (TabTo w3 g (List.replicate n SH.nil) wr hs')∧Aside0 (EvsAt (Mtab (Mq Mt go) g hs') wr ⟨sA,es.length,sc⟩ es)∧Aside0 (All2 (EvsAt (Mtab (Mq Mt go) g hs') wr) hs boxes)∧Aside0 (HRow wr w.heap.size go n co hs)) (fun j _=>es.length-(intOf j).toNat)
 case atStart=>exact⟨0,Nat.zero_le _,rfl,_,HTAB0,⟨TabTo.refl⟩,HSQ,HBQ,HV3⟩
 case round=>
  obtain⟨k,hk,rfl,hs',HT,HTO,HS,HBX,HGR⟩:=hrel;by_cases hkn:k<es.length
  ·have d1:decide ((k:Int)<(es.length:Int))=true:=decide_eq_true (by omega);have d1':decide (k<es.length)=true:=decide_eq_true hkn;have m1:(k:Int)<(es.length:Nat):=by omega
   have m0:(0:Int)≤(k:Int):=by omega
   have hkb:k≤1000000:=by have:=HL.out;omega
   obtain⟨ssr,hr1,hr2⟩:=HS.out;obtain⟨ad,⟨nt,⟨nA,nN,nc⟩,nl,nk,np,na⟩,e0,⟨hl1,hx1⟩,p0,p1,p2,p3,p4,p5⟩:=ev_cells hr1.here k hkn;simp only at e0 p0 p1 p2 p3 p4 p5;subst e0;have hN:=hr2.get k hl1 hkn;rw[hx1]at hN;obtain⟨e,he⟩:∃e,es[k]=e:=⟨_,rfl⟩;have help:=HLP.out es[k] (List.getElem_mem hkn);rw[he]at hN help;have hnl:nl=e.lp:=hN.lp;obtain⟨i,hi⟩:∃i:Nat,e.lp=(i:Int):=⟨e.lp.toNat,by omega⟩;have hin:i<n:=by have:=HNB.out;have:=HN.out;omega
   rw[hi]at hnl;subst hnl;have HPU:=am (rowsOf_push n (es.take k) e i hin hi);have HTK:=am (show es.take (k+1)=es.take k++[e]by rw[←he];exact(List.take_append_getElem hkn).symm);have hb8:=below_alloc (Below.refl wr.heap.size wr) (.cells #[.int .i64 nt,.slice nA nN nc,.int .i64 (i:Int),.int .i64 nk,.int .i64 np,.int .i64 na] 49)
   have hbox:(wr.alloc (.cells #[.int .i64 nt,.slice nA nN nc,.int .i64 (i:Int),.int .i64 nk,.int .i64 np,.int .i64 na] 49)).heap[wr.heap.size]?=some (.cells #[.int .i64 nt,.slice nA nN nc,.int .i64 (i:Int),.int .i64 nk,.int .i64 np,.int .i64 na] 49 (0,0)):=World.alloc_heap_new _ _;have HB8:=am hb8;have HBOX:=am hbox;have HN8:=am (hN.below hb8);clear hr1 hr2 hl1 hx1 hN he help hi hb8 hbox;go_upto_region 6 with (fail)
   obtain⟨w8,hw8⟩:∃w8,wr.alloc (.cells #[.int .i64 nt,.slice nA nN nc,.int .i64 (i:Int),.int .i64 nk,.int .i64 np,.int .i64 na] 49)=w8:=⟨_,rfl⟩;obtain⟨qn,hqn⟩:∃qn,wr.heap.size=qn:=⟨_,rfl⟩;rw[hw8]at HB8 HBOX HN8 ⊢;rw[hqn]at HBOX ⊢;have hT8:=HT.out.more HB8.out (Mt':=Mq Mt go) (fun _ _ h=>h);have hlen:hs'.length=n:=by rw[HT.out.len,rowsOf_len]
   have hih:i<hs'.length:=by omega
   obtain⟨hh,hhh⟩:∃hh,hs'[i]=hh:=⟨_,rfl⟩;have hgi:=hT8.row.get i hih;rw[hhh]at hgi;have g9:w8.cell? ⟨g,i,none⟩=some (.slice hh.A hh.n hh.c):=hgi.1;have HF9:=am hgi.2.1;have n0':w8.cell? ⟨qn,0,none⟩=some (.int .i64 nt):=by simp[World.cell?,HBOX.out]
   have n1':w8.cell? ⟨qn,1,none⟩=some (.slice nA nN nc):=by simp[World.cell?,HBOX.out]
   have n2':w8.cell? ⟨qn,2,none⟩=some (.int .i64 (i:Int)):=by simp[World.cell?,HBOX.out]
   have n3':w8.cell? ⟨qn,3,none⟩=some (.int .i64 nk):=by simp[World.cell?,HBOX.out]
   have n4':w8.cell? ⟨qn,4,none⟩=some (.int .i64 np):=by simp[World.cell?,HBOX.out]
   have n5':w8.cell? ⟨qn,5,none⟩=some (.int .i64 na):=by simp[World.cell?,HBOX.out]
   have hql:qn<w8.heap.size:=blk_lt HBOX.out;have hgl8:=hT8.row.typed.2.2;have HGL:=am hgl8;have HQL:=am hql;have al:∀ob j,(w8.drew.alloc ob).cell? ⟨g,j,none⟩=w8.cell? ⟨g,j,none⟩:=fun ob j=>(below_alloc (Below.refl w8.drew.heap.size w8.drew) ob).cell (p:=⟨g,j,none⟩) hgl8;have aq:∀ob j,(w8.drew.alloc ob).cell? ⟨qn,j,none⟩=w8.cell? ⟨qn,j,none⟩:=fun ob j=>(below_alloc (Below.refl w8.drew.heap.size w8.drew) ob).cell (p:=⟨qn,j,none⟩) hql;have a9:=fun ob=>(al ob i).trans g9;have a0:=fun ob=>(aq ob 0).trans n0';have a1:=fun ob=>(aq ob 1).trans n1';have a2:=fun ob=>(aq ob 2).trans n2'
   have a3:=fun ob=>(aq ob 3).trans n3';have a4:=fun ob=>(aq ob 4).trans n4';have a5:=fun ob=>(aq ob 5).trans n5';have hi1:hs'[i]?=some hh:=by rw[List.getElem?_eq_getElem hih,hhh]
   have hi2:=rowsOf_at (l:=es.take k) hin;obtain⟨ss,hse,hse2⟩:=hT8.el i hh _ hi1 hi2;have HI1:=am hi1;have HI2:=am hi2;have HSL:=am (show ss.length≤500000 by
    rw[hse2.len];have h1:=List.length_filter_le (fun f:Ev=>decide (f.lp=(i:Int))) (es.take k);have h2:=HL.out;rw[List.length_take]at h1;omega)
   have HNB:=am (show some g≠(Value.slice hh.A hh.n hh.c).ownBlock from fun e1=>by
    obtain⟨⟨cc,hc⟩,_⟩:=hT8.own hh (List.mem_of_getElem? hi1) g e1.symm;obtain⟨⟨c2,hc2⟩,_⟩:=hT8.row.typed;rw[hc2]at hc;cases hc)
   have HNQ:=am (show some qn≠(Value.slice hh.A hh.n hh.c).ownBlock from fun e1=>by
    obtain⟨_,_,h3⟩:=HT.out.own hh (List.mem_of_getElem? hi1) qn e1.symm;omega)
   have HSE:=am hse;have HSE2:=am hse2;have HSZ:=am (show w.heap.size≤w8.drew.heap.size by
    have:=hT8.row.typed.2.1;show w.heap.size≤w8.heap.size;omega)
   have HT8:=am hT8;have mi0:(0:Int)≤(i:Int):=by omega
   have mi1:(i:Int)<(n:Nat):=by omega
   clear hw8 hqn hT8 hlen hih hhh hgi hql hgl8 al aq hi1 hi2 hse hse2 p0 p1 p2 p3 p4 p5;refine sz_ 13 (S:=fun w'=>w'.cell? ⟨g,i,none⟩=some (.slice hh.A hh.n hh.c)∧w'.cell? ⟨qn,0,none⟩=some (.int .i64 nt)∧w'.cell? ⟨qn,1,none⟩=some (.slice nA nN nc)∧w'.cell? ⟨qn,2,none⟩=some (.int .i64 (i:Int))∧w'.cell? ⟨qn,3,none⟩=some (.int .i64 nk)∧w'.cell? ⟨qn,4,none⟩=some (.int .i64 np)∧w'.cell? ⟨qn,5,none⟩=some (.int .i64 na)) (ds:=[12]) ⟨g9,n0',n1',n2',n3',n4',n5'⟩ (fun hHeld=> ?_);refine pz_ 0 23 13 1 ?_;refine pz_ 1 24 13 3 ?_;refine pz_ 3 26 13 11 ?_;refine pz_ 4 27 13 27 ?_
   refine tz_ 2 25 13 31 hHeld ?_;refine tz_ 5 28 13 63 hHeld ?_;refine pz_ 6 29 13 127 ?_;refine tz_ 7 30 13 255 hHeld ?_;refine tz_ 8 31 13 511 hHeld ?_;refine one_ (i:=9) (N:=some 32) (bv 13 1023) rfl rfl (by kernel_rfl) (by decide) (fun K hK=> ?_);refine value_ (w1:= ?_) (v:= ?_) (by rfl) rfl ?_ ?_;rotate_left 2
   ·go_simp;constructor
    ·rfl
    ·rfl
   refine hK.out _ _ ⟨a9 _,a0 _,a1 _,a2 _,a3 _,a4 _,a5 _⟩ (fun hHeld=> ?_);clear hK K;refine norm_ (a':= ?_) ?_ ?_;rotate_left
   ·show Act.put _ (some 32) _=_;simp only[Act.put,List.setIfInBounds_toArray,List.set_cons_zero,List.set_cons_succ,i64_w,i32_w];rfl
   refine one_ (i:=10) (N:=some 33) (bv 13 2047) rfl rfl (by kernel_rfl) (by decide) (fun K hK=> ?_)
   refine Kd.R_append_step kE (w0:=w8) w.heap.size (by rfl) (.tmp 30) (.tmp 32) 47 49 (.agg #[.int .i64 0,.slice none 0 0,.int .i64 0,.int .i64 0,.int .i64 0,.int .i64 0]) 64 rfl Tryz.underlying47 infoEv rfl (by decide) (by omega) (.slice hh.A hh.n hh.c) ss ⟨nt,⟨nA,nN,nc⟩,(i:Int),nk,np,na⟩ [.int .i64 nt,.slice nA nN nc,.int .i64 (i:Int),.int .i64 nk,.int .i64 np,.int .i64 na] (fun _=>True) (fun _=>False) rfl rfl rfl (fun _ hk=>hk.elim) (fun _ _=>trivial) (Kd.R_drew HSE.out) (below_drew (Below.refl _ _)) HSZ.out (by have:=HSL.out;omega) ?_;intro v5 w5 hv5 hb5 hg5 hat5
   obtain⟨Z5,z5,zc5,hn5,rfl⟩:=R_slice3 hv5;have hx10:w5.cell? ⟨g,i,none⟩=some (.slice hh.A hh.n hh.c):=by simp only[World.cell?,hg5.block g HGL.out HNB.out];exact g9
   have hf10:w5.frozen? ⟨g,i,none⟩=false:=by simp only[World.frozen?,hg5.block g HGL.out HNB.out];exact HF9.out
   have x0:w5.cell? ⟨qn,0,none⟩=some (.int .i64 nt):=by simp only[World.cell?,hg5.block qn HQL.out HNQ.out];exact n0'
   have x1:w5.cell? ⟨qn,1,none⟩=some (.slice nA nN nc):=by simp only[World.cell?,hg5.block qn HQL.out HNQ.out];exact n1'
   have x2:w5.cell? ⟨qn,2,none⟩=some (.int .i64 (i:Int)):=by simp only[World.cell?,hg5.block qn HQL.out HNQ.out];exact n2'
   have x3:w5.cell? ⟨qn,3,none⟩=some (.int .i64 nk):=by simp only[World.cell?,hg5.block qn HQL.out HNQ.out];exact n3'
   have x4:w5.cell? ⟨qn,4,none⟩=some (.int .i64 np):=by simp only[World.cell?,hg5.block qn HQL.out HNQ.out];exact n4'
   have x5:w5.cell? ⟨qn,5,none⟩=some (.int .i64 na):=by simp only[World.cell?,hg5.block qn HQL.out HNQ.out];exact n5'
   have HV5:=am hv5;have HG5:=am hg5;have HAT5:=am hat5;clear hv5 hg5 hb5 hat5 hn5;refine hK.out _ _ ⟨hx10,x0,x1,x2,x3,x4,x5⟩ (fun hHeld=> ?_);clear hK K;refine norm_ (a':= ?_) ?_ ?_;rotate_left
   ·show Act.put _ (some 33) _=_;simp only[Act.put,List.setIfInBounds_toArray,List.set_cons_zero,List.set_cons_succ,i64_w,i32_w];rfl
   refine pz_ 11 34 13 4095 ?_;refine last_ (i:=12) (N:=none) (bv 13 8191) rfl rfl (by kernel_rfl) (by decide) (fun K hK=> ?_);refine skip_ (w1:= ?_) (by rfl) rfl ?_ ?_;rotate_left
   ·go_simp;rfl
   refine hK.out _ _ ?_;clear hK K;refine done_ (by kernel_rfl) ?_;have hd1:=below_drew (Below.refl w8.heap.size w8);obtain⟨hT9,hTO9,_⟩:=(HT8.out.more hd1 (Mt':=Mq Mt go) (fun _ _ h=>h)).push i HI1.out HI2.out (HSE2.out.imp fun _ _ h=>h.keep (Keep.of_below hd1)) (HN8.out.below hd1) HV5.out HG5.out HAT5.out;have hto:=(TabTo.more (g:=g) (hs:=hs') HB8.out).trans ((TabTo.more (g:=g) (hs:=hs') hd1).trans hTO9);rw[←HPU.out,←HTK.out]at hT9;have HT11:=am hT9;have HTO11:=am (HTO.out.trans hto);have HS11:=am (HS.out.fresh (hto.keepM (Mt:=Mq Mt go)) hto.oldM)
   have HBX11:=am (HBX.out.imp fun _ _ h=>h.fresh (hto.keepM (Mt:=Mq Mt go)) hto.oldM);have hgoM:¬Mtab (fun _=>False) g hs' go:=fun hm=>by
    rcases hm with hm|hm|⟨x,hx,hm⟩
    ·exact hm
    ·exact HGNE.out hm.symm
    ·obtain⟨⟨cc,hc⟩,_⟩:=HT.out.own x hx go hm;obtain⟨⟨c2,hc2⟩,_⟩:=HGR.out.typed;rw[hc2]at hc;cases hc
   have HGR11:=am (HGR.out.stay (hto.keep.block go HGR.out.typed.2.2 hgoM));clear hd1 hT9 hTO9 hto hgoM hx10 hf10 x0 x1 x2 x3 x4 x5 g9 a9 a0 a1 a2 a3 a4 a5 n0' n1' n2' n3' n4' n5'
   go_wp2_with (fail)
   go_roundw
   case rel=>exact⟨k+1,Nat.succ_le_of_lt hkn,by go_num,_,HT11,HTO11,HS11,HBX11,HGR11⟩
   case measure=>simp[intOf];omega
  ·obtain rfl:k=es.length:=by omega
   have d1:decide ((es.length:Int)<(es.length:Int))=false:=decide_eq_false (by omega);have d1':decide (es.length<es.length)=false:=decide_eq_false (by omega);rw[List.take_length]at HT;have hgoM:¬Mtab Mt g hs' go:=fun hm=>by
    rcases hm with hm|hm|⟨x,hx,hm⟩
    ·have:=HM.out go hm;have:=HGO.out;omega
    ·exact HGNE.out hm.symm
    ·obtain⟨⟨cc,hc⟩,_⟩:=HT.out.own x hx go hm;obtain⟨⟨c2,hc2⟩,_⟩:=HGR.out.typed;rw[hc2]at hc;cases hc
   obtain⟨hrd,hre⟩:=HT.out.read (Mt':=Mq Mt go) (fun k _ h=> .inl h) (fun hm=>by
    rcases hm with hm|hm
    ·have:=HM.out g hm;have:=HT.out.row.typed.2.1;omega
    ·exact HGNE.out hm) (fun x hx k hk hm=>by
    obtain⟨⟨cc,hc⟩,h2,_⟩:=HT.out.own x hx k hk;rcases hm with hm|hm
    ·have:=HM.out k hm;omega
    ·subst hm;obtain⟨⟨c2,hc2⟩,_⟩:=HGR.out.typed;rw[hc2]at hc;cases hc)
   have HRD:=am hrd;have HRE:=am hre;have HBO:=am (HBX.out.imp fun _ _ h=>h.fresh (Mt':=Mq Mt go) (Keep.refl _ _) (fun k _ h=> .inl h));have hbw:Below w.heap.size w wr:=HBW3.out.trans ⟨HTO.out.os,HTO.out.tape,HTO.out.output,HTO.out.keep.size,fun k hk=>HTO.out.keep.block k (Nat.lt_of_lt_of_le hk HBW3.out.size) fun hm=>by
    rcases hm with hm|hm|⟨x,hx,hm⟩
    ·exact hm
    ·have:=HT.out.row.typed.2.1;omega
    ·rw[(List.mem_replicate.1 hx).2]at hm;cases hm⟩
   have HBW:=am hbw;have HMQ2:=am (show∀k,Mq Mt go k→k<wr.heap.size from fun k hk=>Nat.lt_of_lt_of_le (HMQ.out k hk) HTO.out.keep.size);have HBN:=am (show boxes.length=n from HNB.out.symm.trans HN.out);have HLEN:=am (show hs'.length=n by rw[HT.out.len,rowsOf_len]);clear hgoM hrd hre hbw hkn hk
   go_wp2_with (fail)
   obtain⟨wm,rfl⟩:∃wm,wm=wr:=⟨wr,rfl⟩
   go_loopw [38] (fun j wr=>∃i:Nat,i≤n∧j= .int .i64 i∧∃ho:List SH,Aside0 (HRow wr w.heap.size go n co ho)∧Aside0 (All2 (EvsAt (Mq Mt go) wr) ho ((dlv boxes es).take i++boxes.drop i))∧Aside0 (Keep (Mq Mt go) wm wr)∧Aside0 (Below w.heap.size w wr)) (fun j _=>n-(intOf j).toNat)
   case atStart=>exact⟨0,Nat.zero_le _,rfl,hs,HGR,⟨by simpa using HBO.out⟩,⟨Keep.refl _ _⟩,HBW⟩
   case round=>
    obtain⟨i,hi,rfl,ho,HO,HE,HK,HBB⟩:=hrel;by_cases hin:i<n
    ·have d3:decide ((i:Int)<(n:Int))=true:=decide_eq_true (by omega);have d3':decide (i<n)=true:=decide_eq_true hin;have mi1:(i:Int)<(n:Nat):=by omega
     have mi0:(0:Int)≤(i:Int):=by omega
     have hib:i≤1000000:=by omega
     have hih:i<hs'.length:=by have:=HLEN.out;omega
     obtain⟨ad2,⟨xA,xn,xc⟩,e0,⟨hl1,hx1⟩,p0⟩:=hd_cells (HRD.out.keep HK.out).here i hin;simp only[Option.some.injEq]at e0;subst e0;rw[add_at,Nat.zero_add]at p0;have hrow:EvsAt (Mq Mt go) wr ⟨xA,xn,xc⟩ (es.filter (fun f=>decide (f.lp=(i:Int)))):=by
      have h1:=HRE.out.get i hih (by rw[rowsOf_len];exact hin);have h2:(rowsOf n es)[i]'(by rw[rowsOf_len];exact hin)=es.filter (fun f=>decide (f.lp=(i:Int))):=by
       have:=rowsOf_at (l:=es) hin;rw[List.getElem?_eq_getElem (by rw[rowsOf_len];exact hin)]at this
       injection this
      rw[h2,hx1]at h1;exact h1.keep HK.out
     have hlen:xn=_:=hrow.len;have hib2:i<boxes.length:=by have:=HBN.out;omega
     have hmid:=dlv_mid boxes es i hib2;have hnx:=dlv_next boxes es i hib2;obtain⟨bi,hbi⟩:∃bi,boxes[i]=bi:=⟨_,rfl⟩;rw[hbi]at hmid hnx;have hbim:bi∈boxes:=hbi▸List.getElem_mem hib2;have hpk:=HP.out.kd i bi (by rw[List.getElem?_eq_getElem hib2,hbi]);rw[HES.out]at hpk;obtain⟨li,hli⟩:∃li,es.filter (fun f=>decide (f.lp=(i:Int)))=li:=⟨_,rfl⟩;rw[hli]at hrow hlen hnx hpk;have HMID:=am hmid;have HNX:=am hnx;have hget:=HO.out.get i (by
      have:=HE.out.len;rw[List.length_append,List.length_take,List.length_drop,dlv_len]at this;omega)
     have hoi:i<ho.length:=by
      have:=HE.out.len;rw[List.length_append,List.length_take,List.length_drop,dlv_len]at this;omega
     have hei:=HE.out.get i hoi (by rw[List.length_append,List.length_take,List.length_drop,dlv_len];omega);have hmid2:((dlv boxes es).take i++boxes.drop i)[i]'(by rw[List.length_append,List.length_take,List.length_drop,dlv_len];omega)=bi:=by
      have:=hmid;rw[List.getElem?_eq_getElem (by rw[List.length_append,List.length_take,List.length_drop,dlv_len];omega)]at this
      injection this
     rw[hmid2]at hei;obtain⟨yh,hyh⟩:∃yh,ho[i]=yh:=⟨_,rfl⟩;rw[hyh]at hget hei;have HOI:=am hoi;have g4:wr.cell? ⟨go,i,none⟩=some (.slice yh.A yh.n yh.c):=hget.1;cases li with
     |nil=>
      obtain rfl:xn=0:=by simpa using hlen
      have HSAME:=am (show((dlv boxes es).take i++boxes.drop i).set i (dlv1 bi [])=(dlv boxes es).take i++boxes.drop i by
       have:dlv1 bi []=bi:=rfl;rw[this];exact list_set_same hmid)
      clear hrow hlen hmid hnx hbi hpk hli hget hei hmid2 hyh hl1 hx1 hoi
      go_wp2_with (fail)
      go_roundw
      case rel=>exact⟨i+1,Nat.succ_le_of_lt hin,by go_num,ho,HO,⟨by rw[HNX.out,HSAME.out];exact HE.out⟩,HK,HBB⟩
      case measure=>simp[intOf];omega
     |cons e0 li=>
      have z1:decide ((0:Int)<(xn:Int))=true:=decide_eq_true (by simp at hlen;omega);have z1':(0:Int)<(xn:Int):=by simp at hlen;omega
      have HMG:=am (show Calls Tryz.prog 100 #[.slice yh.A yh.n yh.c,.slice xA xn xc] wr (fun e w'=>∃(h':SH) (ms':List Ev),e= .returned (.slice h'.A h'.n h'.c)∧ms'.Perm (e0::li)∧SortedE ms'∧EvsAt (Mq Mt go) w' h' (mergeE bi ms')∧Below wr.heap.size wr w')from
       mbMerge_calls (h1:=yh) (h2:=⟨xA,xn,xc⟩) hei hrow (fun k hk=>Nat.lt_of_lt_of_le (HMQ2.out k hk) HK.out.size) (by have:=HP.out.bl bi hbim;omega) (by
        have h1:=List.length_filter_le (fun f:Ev=>decide (f.lp=(i:Int))) es;have h2:=HL.out;rw[hli]at h1;omega) (HP.out.bk bi hbim) (fun f hf=>HSK.out f (List.mem_filter.1 (hli▸hf)).1))
      have HSO:=am (HP.out.so bi hbim);have HPK:=am hpk;clear hrow hlen hmid hnx hbi hpk hli hget hei hmid2 hyh hl1 hx1 hoi
      go_wp2_with (first|(go_at_call 100;(with_reducible refine HMG.out.mono ?_);rintro e w9 ⟨h9,ms',rfl,hpm,hsm,hev,hb9⟩;have hgr:=HO.out.stay (hb9.block go HO.out.typed.2.2);obtain⟨g49,f49,hzz⟩:=hgr.get i HOI.out;clear hzz;have HGR9:=am hgr;have HPM:=am hpm;have HSM:=am hsm;have HEV:=am hev;have HB9:=am hb9;clear hgr hpm hsm hev hb9))
      have hk9:Keep (Mq Mt go) wr (w9.setCell ⟨go,i,none⟩ (.slice h9.A h9.n h9.c)):=(Keep.of_below HB9.out).trans (Keep.set (b:=go) (.inr rfl) _);have hE9:=(HE.out.imp fun _ _ h=>h.keep hk9).set i (HEV.out.keep (Keep.set (b:=go) (.inr rfl) (.slice h9.A h9.n h9.c)));have hmg:mergeE bi ms'=dlv1 bi (e0::li):=by
       unfold dlv1;rw[if_neg (by simp)];exact mergeE_of HSO.out HSM.out HPM.out HPK.out
      rw[hmg,←HNX.out]at hE9;have HO9:=am (HGR9.out.put i HOI.out h9);have HE9:=am hE9;have HK9:=am (HK.out.trans hk9);have HBB9:=am (show Below w.heap.size w (w9.setCell ⟨go,i,none⟩ (.slice h9.A h9.n h9.c))from(HBB.out.trans (HB9.out.mono HBB.out.size)).setCell (p:=⟨go,i,none⟩) HGO.out _);clear hk9 hE9 hmg g49 f49
      go_roundw
      case rel=>exact⟨i+1,Nat.succ_le_of_lt hin,by go_num,_,HO9,HE9,HK9,HBB9⟩
      case measure=>simp[intOf];omega
    ·obtain rfl:i=n:=by omega
     have d3:decide ((i:Int)<(i:Int))=false:=decide_eq_false (by omega);have d3':decide (i<i)=false:=decide_eq_false (by omega)
     go_wp2_with (fail)
     go_ret;refine⟨⟨some ⟨go,0,none⟩,i,co⟩,rfl,⟨ho,Rd.of_R rfl HO.out (fun k hk hm=> ?_),?_⟩,HBB.out⟩
     ·cases hk;have:=HM.out go hm;have:=HGO.out;omega
     ·have h1:=HE.out;rw[List.take_of_length_le (by rw[dlv_len];have:=HBN.out;omega),List.drop_eq_nil_of_le (by have:=HBN.out;omega),List.append_nil]at h1;rw[HES.out];exact h1.imp fun _ _ h=>h.fresh (Keep.refl _ _) (fun k _ h=> .inl h)
theorem rd_hd {Mt:Nat→Prop} {w:World} {b:Nat} (hs:List SH) (hb:w.heap[b]?=some (.cells (hs.map fun h=>Value.slice h.A h.n h.c).toArray THd (0,0))) (hm:¬Mt b) (hn:hs.length≤1000000):Rd kH Mt w ⟨some ⟨b,0,none⟩,hs.length,hs.length⟩ hs:=
 ⟨rfl,Nat.le_refl _,fun w2 hk=>hd_row hs THd ((hk.block b (blk_lt hb) hm).trans hb) (by omega)⟩
theorem boxes_calls {Mt:Nat→Prop} {w:World} (hM:∀k,Mt k→k<w.heap.size) (n:Nat) (h1:1≤n) (h2:n≤1000) {h:SH} {es:List Ev} (r:EvsAt Mt w h es) (hl:es.length≤400000) (hk:∀e∈es,e.k.length≤1000000) (hlp:∀e∈es,0≤e.lp∧e.lp<n) (hd:KeysD es):
  Calls Tryz.prog 51 #[.int .i64 n,.slice h.A h.n h.c] w fun e w'=>∃h':SH,e= .returned (.slice h'.A h'.n h'.c)∧EvssAt Mt w' h' (dlv (List.replicate n []) es)∧Below w.heap.size w w':=by
 obtain⟨hA,hN,hc⟩:=h;have hnil:∀b∈List.replicate n ([]:List Ev),b=[]:=fun b hb=>(List.mem_replicate.1 hb).2;have hpre:DlvPre (List.replicate n []) [es]:=by
  refine⟨by simpa using h1,by simpa using h2,by simp,by simpa using hl,fun b hb=> ?_,fun b hb e he=> ?_,by simpa using hk,by simpa using hlp,fun b hb=> ?_,fun i b hb=> ?_⟩
  ·rw[hnil b hb];simp
  ·rw[hnil b hb]at he;cases he
  ·rw[hnil b hb];exact .nil
  ·rw[hnil b (List.mem_of_getElem? hb)]
   simpa using hd.sub List.filter_sublist
 have HDL:=am (show∀(w1:World) (g c q:Nat),Below w.heap.size w w1→w.heap.size≤g→w.heap.size≤q→Kd.R kH THd w1 w.heap.size (fun _=>True) (.slice (some ⟨g,0,none⟩) n c) (List.replicate n SH.nil)→w1.heap[q]?=some (.cells #[.slice hA hN hc] THd (0,0))→
   Calls Tryz.prog 74 #[.slice (some ⟨g,0,none⟩) n c,.slice (some ⟨q,0,none⟩) 1 1] w1 (fun e w'=>∃h':SH,e= .returned (.slice h'.A h'.n h'.c)∧EvssAt Mt w' h' (dlv (List.replicate n []) es)∧Below w1.heap.size w1 w')from fun w1 g c q hb hg hq hR hbl=>by
  have hM1:∀k,Mt k→k<w1.heap.size:=fun k hk=>Nat.lt_of_lt_of_le (hM k hk) hb.size;have e1:EvssAt Mt w1 ⟨some ⟨g,0,none⟩,n,c⟩ (List.replicate n []):=by
   refine⟨List.replicate n SH.nil,Rd.of_R rfl hR (fun k hk hm=> ?_),All2.of_get (by simp) fun i h3 h4=> ?_⟩
   ·cases hk;have:=hM g hm;omega
   ·simp only[List.getElem_replicate];exact⟨[],Rd.nil _ _ _,.nil⟩
  have e2:EvssAt Mt w1 ⟨some ⟨q,0,none⟩,1,1⟩ [es]:=⟨[⟨hA,hN,hc⟩],rd_hd [⟨hA,hN,hc⟩] hbl (fun hm=>by have:=hM q hm;omega) (by simp),.cons (r.keep (Keep.of_below hb)) .nil⟩;have:=deliver_calls hM1 e1 e2 hpre
  simpa using this)
 clear hM r hl hk hlp hd hpre hnil;go_enter Tryz.func51,Tryz.ntmps51
 go_wp2_with (first
  |((with_reducible refine gate_dst (N:=6) rfl ?_);refine Kd.R_make kH (w0:=w) w.heap.size THd rfl (N:=6) rfl 31 _ _ rfl (n:Int) rfl rfl Tryz.underlying31 (.slice none 0 0) 24 infoEvs rfl (by decide) (by omega) SH.nil (ok:=fun _=>True) (okp:=fun _=>True) rfl (fun _ hk=>hk) trivial (by omega) (by omega) (Below.refl _ _) (Nat.le_refl _) ?_;intro vo w2 ho hb2 hg2 hnew2;obtain⟨g,c,rfl,hg,hgl,hgt⟩:=Kd.R_form ho (by rw[List.length_replicate];omega);rw[List.length_replicate,Int.toNat_natCast]at ho ⊢;have HT0:=am ho;have HB2:=am hb2;have HG:=am hg;clear ho hb2 hg2 hnew2 hg hgl hgt)
  |(go_at_call 74;(with_reducible refine(HDL.out _ _ _ _ (below_alloc HB2.out _) HG.out HB2.out.size (Kd.R_alloc HT0.out _) (World.alloc_heap_new _ _)).mono ?_);rintro e w3 ⟨⟨sA,sn,sc⟩,rfl,hev,hb3⟩;have HEV:=am hev;have HB3:=am hb3;clear hev hb3))
 go_ret;have hb:=below_alloc HB2.out (.cells #[.slice hA hN hc] THd);exact⟨⟨sA,sn,sc⟩,rfl,HEV.out,hb.trans (HB3.out.mono hb.size)⟩
section
def hzn (la en fl:Int):Int:=fl+mn2 la (en-fl)
theorem horizon_calls (w:World) (c:SCf) (fl:Int) (h0:0≤fl∧fl≤1152921504606846976) (h1:0≤c.la∧c.la≤1152921504606846976) (h2:0≤c.en∧c.en≤1152921504606846976):
  Calls Tryz.prog 78 #[c.v,.int .i64 fl] w fun e w'=>e= .returned (.int .i64 (hzn c.la c.en fl))∧Below w.heap.size w w':=by
 obtain⟨⟨lA,ln,lc⟩,⟨pA,pn,pc⟩,la,en,cp⟩:=c;obtain⟨a0,a1⟩:=h0;simp only at h1 h2;obtain⟨b0,b1⟩:=h1;obtain⟨c0,c1⟩:=h2;simp only[SCf.v];have HW:=am (IntWalk.i64_in (en-fl) (by omega));by_cases hc:en-fl<la
 ·have e:hzn la en fl=fl+(en-fl):=by unfold hzn mn2;rw[if_pos hc]
  rw[e];clear e HW;go_enter Tryz.func78,Tryz.ntmps78
  go_wp2_with (fail)
  go_ret;exact⟨rfl,below_alloc (Below.refl _ _) _⟩
 ·have e:hzn la en fl=fl+la:=by unfold hzn mn2;rw[if_neg hc]
  rw[e];clear e HW;go_enter Tryz.func78,Tryz.ntmps78
  go_wp2_with (fail)
  go_ret;exact⟨rfl,below_alloc (Below.refl _ _) _⟩
def LpsAt (Mt:Nat→Prop) (w:World) (h:SH) (lps:List Lp):Prop:=∃ss,Rd kLp Mt w h ss∧All2 (LpAt Mt w) ss lps
section
variable {Mt Mt':Nat→Prop} {w w':World} {h:SH} {lps:List Lp}
theorem LpAt.keep {s:SLp} {l:Lp} (h:LpAt Mt w s l) (k:Keep Mt w w'):LpAt Mt w' s l:=⟨h.r0,h.r1,h.ps.keep k,h.sum⟩
theorem LpsAt.keep (r:LpsAt Mt w h lps) (k:Keep Mt w w'):LpsAt Mt w' h lps:=by
 obtain⟨ss,h1,h2⟩:=r;exact⟨ss,h1.keep k,h2.imp fun _ _ h=>h.keep k⟩
theorem LpsAt.fresh (r:LpsAt Mt w h lps) (k:Keep Mt w w') (hm:∀k,k<w.heap.size→Mt' k→Mt k):LpsAt Mt' w' h lps:=by
 obtain⟨ss,h1,h2⟩:=r;exact⟨ss,h1.fresh k hm,h2.imp fun _ _ h=>h.fresh k hm⟩
theorem LpsAt.len (r:LpsAt Mt w h lps):h.n=lps.length:=by
 obtain⟨ss,h1,h2⟩:=r;rw[h1.len,h2.len]
end
structure SPs where
 tr:SH
 lps:SH
 bx:SH
 ov:Bool
 fl:SH
 pr:SH
def SPs.v (s:SPs):Value:= .agg #[.slice s.tr.A s.tr.n s.tr.c,.slice s.lps.A s.lps.n s.lps.c,.slice s.bx.A s.bx.n s.bx.c,.bool s.ov,.slice s.fl.A s.fl.n s.fl.c,.slice s.pr.A s.pr.n s.pr.c]
structure Ps where
 tr:List (List Ev)
 lps:List Lp
 bx:List (List Ev)
 ov:Bool
 fl:List Int
 np:Nat
structure PsAt (Mt:Nat→Prop) (w:World) (s:SPs) (p:Ps):Prop where
 tr:EvssAt Mt w s.tr p.tr
 lps:LpsAt Mt w s.lps p.lps
 bx:EvssAt Mt w s.bx p.bx
 ov:s.ov=p.ov
 fl:Rd (Kd.int .i64) Mt w s.fl p.fl
 pr:∃hs,Rd kH Mt w s.pr hs∧hs.length=p.np
section
variable {Mt Mt':Nat→Prop} {w w':World} {s:SPs} {p:Ps}
theorem PsAt.keep (r:PsAt Mt w s p) (k:Keep Mt w w'):PsAt Mt w' s p:=⟨r.tr.keep k,r.lps.keep k,r.bx.keep k,r.ov,r.fl.keep k,by
 obtain⟨hs,h1,h2⟩:=r.pr;exact⟨hs,h1.keep k,h2⟩⟩
theorem PsAt.fresh (r:PsAt Mt w s p) (k:Keep Mt w w') (hm:∀k,k<w.heap.size→Mt' k→Mt k):PsAt Mt' w' s p:=⟨r.tr.fresh k hm,r.lps.fresh k hm,r.bx.fresh k hm,r.ov,r.fl.fresh k hm,by
 obtain⟨hs,h1,h2⟩:=r.pr;exact⟨hs,h1.fresh k hm,h2⟩⟩
end
def Ps.outs (p:Ps):List Oc:=List.zipWith (fun l b=>(⟨l,b,[],[],false⟩:Oc)) p.lps p.bx
def Ps.ends (pgs:List (List OpC)) (h:Int) (p:Ps):List Oc:=p.outs.map (Oc.run pgs h 2000)
def Ps.next (pgs:List (List OpC)) (la en:Int) (p:Ps) (floor:Int):Ps:=
 {tr:=List.zipWith (·++·) p.tr ((p.ends pgs (hzn la en floor)).map Oc.com),lps:=(p.ends pgs (hzn la en floor)).map Oc.lp,bx:=dlv ((p.ends pgs (hzn la en floor)).map Oc.box) ((p.ends pgs (hzn la en floor)).map Oc.sent).flatten,
  ov:=p.ov||(p.ends pgs (hzn la en floor)).any Oc.ov,fl:=p.fl++[floor],np:=p.np+1}
end
end Go.Proofs.YtfnimdhghglanaaGreat.Hand
end
