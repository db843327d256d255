/- TopScheduleIndependent, part 17 of 27; no condition.  -/
import Derived.Test.YtfnimdhghglanaaGreatQsAP
set_option maxRecDepth 100000
set_option maxHeartbeats 8000000
set_option linter.unusedVariables false
set_option linter.unusedSimpArgs false
section
namespace Go.Proofs.YtfnimdhghglanaaGreat.Hand
open Go
section
theorem rowsOf_cons (n:Nat) (es:List Ev) (e:Ev) (i:Nat) (hi:i<n) (he:e.lp=(i:Int)):rowsOf n (e::es)=(rowsOf n es).set i (e::es.filter (fun f=>decide (f.lp=(i:Int)))):=by
 refine List.ext_getElem? fun j=> ?_;by_cases hj:j<n
 ·rw[rowsOf_at hj];by_cases hij:i=j
  ·subst hij;rw[List.getElem?_set_self (by rw[rowsOf_len];exact hj),List.filter_cons_of_pos (by simpa using he)]
  ·rw[List.getElem?_set_ne hij,rowsOf_at hj,List.filter_cons_of_neg (by simp;omega)]
 ·rw[List.getElem?_eq_none (by rw[rowsOf_len];omega),List.getElem?_eq_none (by rw[List.length_set,rowsOf_len];omega)]
theorem rowsOf_perm (n:Nat):∀(es:List Ev),(∀e∈es,0≤e.lp∧e.lp<n)→(rowsOf n es).flatten.Perm es
 | [],_=>by rw[rowsOf_nil];simp
 |e::es,h=>by
  have ih:=rowsOf_perm n es (fun f hf=>h f (List.mem_cons_of_mem _ hf));obtain⟨h0,h1⟩:=h e List.mem_cons_self;obtain⟨i,hi⟩:∃i:Nat,e.lp=(i:Int):=⟨e.lp.toNat,by omega⟩;have hin:i<n:=by omega
  rw[rowsOf_cons n es e i hin hi];obtain⟨f1,f2⟩:=flatMap_set (fun x:List Ev=>x) (rowsOf_at (l:=es) hin);have f3:=f2 (e::es.filter (fun f=>decide (f.lp=(i:Int))));rw[List.flatMap_id']at f1 f3;exact f3.trans ((f1.symm.trans ih).cons e)
theorem dlv1_perm (x y:List Ev):(dlv1 x y).Perm (x++y):=by
 unfold dlv1
 split
 ·rename_i h;subst h;simp
 ·exact sortC_perm _
theorem zip_dlv:∀(a b:List (List Ev)),a.length=b.length→(List.zipWith dlv1 a b).flatten.Perm (a.flatten++b.flatten)
 | [],[],_=>by simp
 | [],_::_,h=>by simp at h
 |_::_,[],h=>by simp at h
 |x::a,y::b,h=>by
  have ih:=zip_dlv a b (by simpa using h);simp only[List.zipWith_cons_cons,List.flatten_cons];refine((dlv1_perm x y).append ih).trans ?_;simp only[List.append_assoc];refine List.Perm.append_left x ?_;rw[←List.append_assoc,←List.append_assoc];exact List.perm_append_comm.append_right _
theorem dlv_perm (boxes:List (List Ev)) (es:List Ev) (h:∀e∈es,0≤e.lp∧e.lp<boxes.length):(dlv boxes es).flatten.Perm (boxes.flatten++es):=
 (zip_dlv _ _ (by rw[rowsOf_len])).trans ((rowsOf_perm _ es h).append_left _)
theorem pool_split:∀(outs:List Oc),(pool outs).Perm ((outs.map Oc.box).flatten++(outs.map Oc.sent).flatten)
 | []=>by simp[pool]
 |o::outs=>by
  have ih:=pool_split outs;unfold pool at ih ⊢;simp only[List.flatMap_cons,List.map_cons,List.flatten_cons,List.append_assoc];refine List.Perm.append_left _ ((ih.append_left _).trans ?_);rw[←List.append_assoc,←List.append_assoc];exact List.perm_append_comm.append_right _
theorem zip_len:∀(a b:List (List Ev)),a.length=b.length→(List.zipWith (·++·) a b).flatten.length=a.flatten.length+(b.map List.length).sum
 | [],[],_=>by simp
 | [],_::_,h=>by simp at h
 |_::_,[],h=>by simp at h
 |x::a,y::b,h=>by
  have ih:=zip_len a b (by simpa using h);simp only[List.zipWith_cons_cons,List.flatten_cons,List.length_append,List.map_cons,List.sum_cons,ih];omega
theorem outs_zip:∀(ls:List Lp) (bs:List (List Ev)),ls.length=bs.length→(List.zipWith (fun l b=>(⟨l,b,[],[],false⟩:Oc)) ls bs).map Oc.lp=ls∧pool (List.zipWith (fun l b=>(⟨l,b,[],[],false⟩:Oc)) ls bs)=bs.flatten
 | [],[],_=>by simp[pool]
 | [],_::_,h=>by simp at h
 |_::_,[],h=>by simp at h
 |l::ls,b::bs,h=>by
  obtain⟨h1,h2⟩:=outs_zip ls bs (by simpa using h);refine⟨by simp only[List.zipWith_cons_cons,List.map_cons,h1],?_⟩;unfold pool at h2 ⊢;simp only[List.zipWith_cons_cons,List.flatMap_cons,h2,List.append_nil,List.flatten_cons]
theorem outs_mem {p:Ps} {o:Oc} (h:o∈p.outs):o.com=[]∧o.sent=[]∧o.ov=false:=by
 obtain⟨i,hi⟩:=List.mem_iff_getElem?.1 h;unfold Ps.outs at hi;rw[List.getElem?_zipWith]at hi
 split at hi
 ·cases hi;exact⟨rfl,rfl,rfl⟩
 ·cases hi
theorem set_mid (f:Oc→Oc) (outs:List Oc) (k:Nat) (hk:k<outs.length):((outs.take k).map f++outs.drop k)[k]?=some outs[k]∧((outs.take k).map f++outs.drop k).set k (f outs[k])=(outs.take (k+1)).map f++outs.drop (k+1):=by
 have hl:((outs.take k).map f).length=k:=by rw[List.length_map,List.length_take];omega
 refine⟨?_,?_⟩
 ·rw[List.getElem?_append_right (by omega),hl,Nat.sub_self,List.drop_eq_getElem_cons hk];rfl
 ·rw[List.set_append_right _ _ (by omega),hl,Nat.sub_self,List.drop_eq_getElem_cons hk,List.set_cons_zero,←List.take_append_getElem hk,List.map_append];simp
section
variable {N P:Nat} {la:Int} {pgs:List (List OpC)}
theorem GInv.runAll (hP:pgs.length=P) (hp:∀p∈pgs,∀o∈p,OpV N P la o) (hz:Int) (n:Nat) (C:List (List Int)) (outs:List Oc) (h:GInv N P C outs) (hc:∀o∈outs,o.com=[]):∀(k:Nat),k≤outs.length→C.length+n*k≤800000→
  ∃C':List (List Int),C'.length=C.length+(((outs.take k).map (Oc.run pgs hz n)).map (fun o=>o.com.length)).sum∧C'.length≤C.length+n*k∧GInv N P C' ((outs.take k).map (Oc.run pgs hz n)++outs.drop k)∧(pool ((outs.take k).map (Oc.run pgs hz n)++outs.drop k)).length≤(pool outs).length+16*(n*k)
 |0,_,_=>⟨C,by simp,by simp,by simpa using h,by simp⟩
 |k+1,hk,hC=>by
  rw[Nat.mul_succ]at hC;obtain⟨C1,h1,h2,h3,h4⟩:=GInv.runAll hP hp hz n C outs h hc k (by omega) (by omega);obtain⟨s1,s2⟩:=set_mid (Oc.run pgs hz n) outs k (by omega);obtain⟨d,C2,d1,d2,d3,d4,d5⟩:=GInv.runOne hP hp hz k n C1 _ _ h3 s1 (by omega);rw[s2]at d4 d5;rw[hc _ (List.getElem_mem (by omega)),List.nil_append]at d1;refine⟨C2,?_,by rw[Nat.mul_succ];omega,d4,by rw[Nat.mul_succ];omega⟩;rw[d3,h1,←List.take_append_getElem (by omega:k<outs.length),List.map_append,List.map_append,List.sum_append];simp only[List.map_cons,List.map_nil,List.sum_cons,List.sum_nil,d1];omega
theorem outOk_of {C:List (List Int)} {outs:List Oc} {i:Nat} {o:Oc} (hP:pgs.length=P) (hp:∀p∈pgs,∀o∈p,OpV N P la o) (hz:Int) (h:GInv N P C outs) (ho:outs[i]?=some o) (hC:C.length≤800000) (hpl:(pool outs).length≤400000) (hcn:o.com.length≤500000):OutOk pgs hz o:=by
 have hi:=h.o i o ho;have hm:o∈outs:=List.mem_of_getElem? ho;have hbl:o.box.length+o.sent.length≤(pool outs).length:=by
  have:=(flatMap_set (fun o:Oc=>o.box++o.sent) ho).1.length_eq;simp only[List.length_append]at this;unfold pool;omega
 have hbp:∀f∈o.box,f∈pool outs:=fun f hf=>mem_pool.2 ⟨i,o,ho,.inl hf⟩;refine⟨⟨hi.box,by omega,fun f hf=>by have:=(h.k.len f (hbp f hf)).2;omega,hcn,by omega⟩,fun e b hb hlt=> ?_⟩;have st:=h.step hP hp ho hb hC;have hl:o.lp∈outs.map Oc.lp:=List.mem_map_of_mem hm;have heb:e∈o.box:=hb▸List.mem_cons_self;have hek:=h.k.len e (hbp e heb);have htm:∀k∈o.lp.tms,k.length≤C.length+2:=fun k hk=>by
  rcases h.k.tm o.lp hl k hk with h1|⟨_,_,h1⟩
  ·rw[h1];simp
  ·exact h1
 refine⟨⟨hP▸h.k.lps o.lp hl,by omega,h.k.ar e (hbp e heb),fun p hp=>by have:=htm _ (List.mem_map_of_mem hp);omega⟩,⟨st.ex.few.1,fun f hf=> ?_,st.ex.few.2,fun k hk=> ?_⟩⟩
 ·obtain⟨j,hj⟩:=st.ex.cr f hf;rw[hj];simp only[List.length_append,List.length_cons,List.length_nil];omega
 ·rcases st.ex.tm k (List.mem_append.2 (.inr hk))with h1|h1|⟨j,h1⟩
  ·rw[h1];simp
  ·have:=htm k h1;omega
  ·rw[h1];simp only[List.length_append,List.length_cons,List.length_nil];omega
theorem dlvPre_of {C:List (List Int)} {outs:List Oc} (h:GInv N P C outs) (hl:outs.length=N) (h1:1≤N) (h2:N≤64) (hC:C.length≤800000) (hpl:(pool outs).length≤400000):DlvPre (outs.map Oc.box) (outs.map Oc.sent):=by
 have hps:=pool_split outs;have hlen:=hps.length_eq;rw[List.length_append]at hlen;have hb:∀b∈outs.map Oc.box,∃(i:Nat) (o:Oc),outs[i]?=some o∧o.box=b:=fun b hb=>by
  obtain⟨o,ho,e⟩:=List.mem_map.1 hb;obtain⟨i,hi,e2⟩:=List.mem_iff_getElem.1 ho;exact⟨i,o,by rw[List.getElem?_eq_getElem hi,e2],e⟩
 have hbp:∀b∈outs.map Oc.box,∀e∈b,e∈pool outs:=fun b hb2 e he=>by
  obtain⟨i,o,ho,e2⟩:=hb b hb2;exact mem_pool.2 ⟨i,o,ho,.inl (e2▸he)⟩
 have hsp:∀e∈(outs.map Oc.sent).flatten,e∈pool outs:=fun e he=>hps.symm.subset (List.mem_append.2 (.inr he));have hml:(outs.map Oc.box).length=N:=by rw[List.length_map];exact hl
 refine⟨by omega,by omega,by rw[List.length_map];omega,by omega,fun b hb2=> ?_,fun b hb2 e he=>by have:=(h.k.len e (hbp b hb2 e he)).2;omega,fun e he=>by have:=(h.k.len e (hsp e he)).2;omega,fun e he=>by rw[hml];exact h.k.rng e (hsp e he),fun b hb2=> ?_,fun i b hb2=> ?_⟩
 ·have:=(List.sublist_flatten_of_mem hb2).length_le;omega
 ·obtain⟨i,o,ho,e2⟩:=hb b hb2;exact e2▸(h.o i o ho).box
 ·exact(h.k.nd.perm hps).sub ((List.sublist_flatten_of_mem (List.mem_of_getElem? hb2)).append List.filter_sublist)
structure PI (N P:Nat) (C:List (List Int)) (p:Ps):Prop where
 g:GInv N P C p.outs
 nl:p.lps.length=N
 nb:p.bx.length=N
 nt:p.tr.length=N
 cnt:C.length=p.tr.flatten.length
theorem PI.len {C:List (List Int)} {p:Ps} (h:PI N P C p):p.outs.length=N:=by
 unfold Ps.outs;rw[List.length_zipWith,h.nl,h.nb,Nat.min_self]
theorem PI.zip {C:List (List Int)} {p:Ps} (h:PI N P C p):p.outs.map Oc.lp=p.lps∧pool p.outs=p.bx.flatten:=outs_zip _ _ (by rw[h.nl,h.nb])
structure PNext (N P:Nat) (la en fl:Int) (pgs:List (List OpC)) (C:List (List Int)) (p:Ps) (C':List (List Int)):Prop where
 pi:PI N P C' (p.next pgs la en fl)
 c:C'.length≤C.length+2000*N
 ends:GInv N P C' (p.ends pgs (hzn la en fl))
 el:(p.ends pgs (hzn la en fl)).length=N
 pl:(pool (p.ends pgs (hzn la en fl))).length≤p.bx.flatten.length+16*(2000*N)
 bl:(p.next pgs la en fl).bx.flatten.Perm (pool (p.ends pgs (hzn la en fl)))
theorem PI.next {C:List (List Int)} {p:Ps} (hP:pgs.length=P) (hp:∀p∈pgs,∀o∈p,OpV N P la o) (h:PI N P C p) (en fl:Int) (hC:C.length+2000*N≤800000):∃C',PNext N P la en fl pgs C p C':=by
 obtain⟨z1,z2⟩:=h.zip;obtain⟨C',h1,h2,h3,h4⟩:=GInv.runAll hP hp (hzn la en fl) 2000 C p.outs h.g (fun o ho=>(outs_mem ho).1) p.outs.length (Nat.le_refl _) (by rw[h.len];exact hC);rw[List.take_length,List.drop_length,List.append_nil]at h3 h4;rw[List.take_length]at h1;have he:p.outs.map (Oc.run pgs (hzn la en fl) 2000)=p.ends pgs (hzn la en fl):=rfl;rw[he]at h1 h3 h4;rw[h.len]at h2 h4;obtain⟨F,hF⟩:∃F,p.ends pgs (hzn la en fl)=F:=⟨_,rfl⟩;have hl:F.length=N:=by rw[←hF,←he,List.length_map,h.len]
 have hnx:p.next pgs la en fl={tr:=List.zipWith (·++·) p.tr (F.map Oc.com),lps:=F.map Oc.lp,bx:=dlv (F.map Oc.box) (F.map Oc.sent).flatten,ov:=p.ov||F.any Oc.ov,fl:=p.fl++[fl],np:=p.np+1}:=by
  rw[←hF];rfl
 rw[hF]at h1 h3 h4;have hrng:∀e∈(F.map Oc.sent).flatten,0≤e.lp∧e.lp<(F.map Oc.box).length:=fun e he=>by
  rw[List.length_map,hl];exact h3.k.rng e ((pool_split F).symm.subset (List.mem_append.2 (.inr he)))
 have hbp:(dlv (F.map Oc.box) (F.map Oc.sent).flatten).flatten.Perm (pool F):=(dlv_perm _ _ hrng).trans (pool_split F).symm;have hdl:(dlv (F.map Oc.box) (F.map Oc.sent).flatten).length=N:=by rw[dlv_len,List.length_map,hl]
 refine⟨C',?_,h2,by rw[hF];exact h3,by rw[hF];exact hl,by rw[hF,←z2];exact h4,by rw[hF,hnx];exact hbp⟩;rw[hnx];refine⟨⟨?_,fun i o ho=> ?_⟩,by simp only[List.length_map];exact hl,hdl,by simp only[List.length_zipWith,List.length_map];rw[h.nt,hl,Nat.min_self],?_⟩
 ·obtain⟨y1,y2⟩:=outs_zip (F.map Oc.lp) (dlv (F.map Oc.box) (F.map Oc.sent).flatten) (by rw[hdl,List.length_map,hl]);unfold Ps.outs;simp only;rw[y1,y2];exact h3.k.perm hbp.symm (List.Perm.refl _)
 ·unfold Ps.outs at ho;simp only at ho;have hi:i<N:=by
   have:=(List.getElem?_eq_some_iff.1 ho).1;rw[List.length_zipWith,List.length_map,hl]at this;omega
  have hiF:i<F.length:=by omega
  rw[List.getElem?_zipWith,List.getElem?_map,List.getElem?_eq_getElem hiF,dlv_at (by rw[List.length_map];exact hiF)]at ho;simp only[Option.map_some,Option.some.injEq]at ho;subst ho;have hoi:=h3.o i F[i] (List.getElem?_eq_getElem hiF);rw[List.getElem_map];refine⟨?_,fun f hf=> ?_,fun f hf=>by cases hf⟩
  ·simp only;unfold dlv1
   split
   ·exact hoi.box
   ·exact sortC_sorted _
  ·simp only at hf;rcases List.mem_append.1 ((dlv1_perm _ _).subset hf)with h5|h5
   ·exact hoi.mine f h5
   ·simpa using (List.mem_filter.1 h5).2
 ·simp only;rw[zip_len _ _ (by rw[h.nt,List.length_map,hl]),h1,h.cnt,List.map_map];rfl
end
end
section
theorem exec_com (pgs:List (List OpC)) (o:Oc) (e:Ev):(Oc.exec pgs o e).com=o.com++[e]:=by
 unfold Oc.exec;rw[(Oc.dels _ _).2.1,(Oc.puts _ _ _).2.1];rfl
theorem run_none (pgs:List (List OpC)) (hz:Int) (n:Nat) {o:Oc} (h:o.box=[]):Oc.run pgs hz n o=o:=Oc.run_rest (fun e he=>by rw[h]at he;cases he) n
theorem run_step {pgs:List (List OpC)} {hz:Int} {o:Oc} {e:Ev} {b:List Ev} (h:o.box=e::b) (hlt:e.t<hz) (n:Nat):Oc.run pgs hz (n+1) o=Oc.run pgs hz n (Oc.exec pgs {o with box:=b} e):=by
 conv=>lhs;unfold Oc.run
 rw[h];simp only;rw[if_pos hlt]
theorem run_late {hz:Int} {o:Oc} {e:Ev} {b:List Ev} (h:o.box=e::b) (hlt:¬e.t<hz):o.rest hz:=fun f hf=>by
 rw[h]at hf;cases hf;exact hlt
theorem run_rest_or (pgs:List (List OpC)) (hz:Int):∀(n:Nat) (o:Oc),(Oc.run pgs hz n o).rest hz∨(Oc.run pgs hz n o).com.length=o.com.length+n
 |0,o=> .inr rfl
 |n+1,o=>by
  cases hb:o.box with
  |nil=>
   rw[run_none pgs hz _ hb];exact .inl fun e he=>by rw[hb]at he;cases he
  |cons e b=>
   by_cases hlt:e.t<hz
   ·rw[run_step hb hlt];rcases run_rest_or pgs hz n (Oc.exec pgs {o with box:=b} e)with h|h
    ·exact .inl h
    ·right;rw[h,exec_com];simp only[List.length_append,List.length_cons,List.length_nil];omega
   ·rw[Oc.run_rest (run_late hb hlt)];exact .inl (run_late hb hlt)
theorem run_com (pgs:List (List OpC)) (hz:Int):∀(n:Nat) (o:Oc),∃d,(Oc.run pgs hz n o).com=o.com++d∧d.length≤n∧(∀f∈d,f.t<hz)∧∀e b,o.box=e::b→e.t<hz→1≤n→e∈d
 |0,o=>⟨[],by simp[Oc.run],by simp,(fun _ h=>by cases h),fun e b _ _ h=>by omega⟩
 |n+1,o=>by
  cases hb:o.box with
  |nil=>
   rw[run_none pgs hz _ hb];exact⟨[],by simp,by simp,(fun _ h=>by cases h),fun e b h=>by cases h⟩
  |cons e b=>
   by_cases hlt:e.t<hz
   ·rw[run_step hb hlt];obtain⟨d,h1,h2,h3,_⟩:=run_com pgs hz n (Oc.exec pgs {o with box:=b} e);refine⟨e::d,by rw[h1,exec_com];simp,by simp only[List.length_cons];omega,fun f hf=> ?_,fun e' b' h4 _ _=>by injection h4 with h5 _;subst h5;exact List.mem_cons_self⟩;rcases List.mem_cons.1 hf with rfl|hf
    ·exact hlt
    ·exact h3 f hf
   ·rw[Oc.run_rest (run_late hb hlt)];exact⟨[],by simp,by simp,(fun _ h=>by cases h),fun e' b' h4 h5=>by injection h4 with h6 _;subst h6;exact absurd h5 hlt⟩
theorem foldl_mn2:∀(l:List Int) (x:Int),l.foldl mn2 x≤x∧(∀y∈l,l.foldl mn2 x≤y)∧(l.foldl mn2 x=x∨l.foldl mn2 x∈l)
 | [],x=>⟨Int.le_refl _,(fun _ h=>by cases h),.inl rfl⟩
 |y::l,x=>by
  obtain⟨h1,h2,h3⟩:=foldl_mn2 l (mn2 x y);have h4:mn2 x y≤x∧mn2 x y≤y∧(mn2 x y=x∨mn2 x y=y):=by
   unfold mn2
   split
   ·exact⟨by omega,by omega,.inr rfl⟩
   ·exact⟨by omega,by omega,.inl rfl⟩
  refine⟨by simp only[List.foldl_cons];omega,fun z hz=> ?_,?_⟩
  ·simp only[List.foldl_cons];rcases List.mem_cons.1 hz with rfl|hz
   ·omega
   ·exact h2 z hz
  ·simp only[List.foldl_cons];rcases h3 with h3|h3
   ·rcases h4.2.2 with h5|h5
    ·exact .inl (h3.trans h5)
    ·exact .inr (by rw[h3,h5];exact List.mem_cons_self)
   ·exact .inr (List.mem_cons_of_mem _ h3)
theorem lmin_of {l:List Int} (h:l≠[]):lmin l∈l∧∀x∈l,lmin l≤x:=by
 cases l with
 |nil=>exact absurd rfl h
 |cons x l=>
  obtain⟨h1,h2,h3⟩:=foldl_mn2 l x;refine⟨?_,fun y hy=> ?_⟩
  ·rcases h3 with h3|h3
   ·exact List.mem_cons.2 (.inl h3)
   ·exact List.mem_cons_of_mem _ h3
  ·rcases List.mem_cons.1 hy with rfl|hy
   ·exact h1
   ·exact h2 y hy
theorem mem_firsts {bx:List (List Ev)} {t:Int}:t∈firsts bx↔∃e b,e::b∈bx∧e.t=t:=by
 unfold firsts;rw[List.mem_flatten];constructor
 ·rintro⟨l,hl,ht⟩;obtain⟨b,hb,rfl⟩:=List.mem_map.1 hl;cases b with
  |nil=>cases ht
  |cons e b=>exact⟨e,b,hb,(List.mem_singleton.1 ht).symm⟩
 ·rintro⟨e,b,hb,rfl⟩;exact⟨[e.t],List.mem_map.2 ⟨e::b,hb,rfl⟩,List.mem_singleton.2 rfl⟩
def Ps.go (pgs:List (List OpC)) (la en cp lim:Int):Nat→Ps→Ps×Int
 |0,p=>(p,10)
 |n+1,p=>if cp<(p.bx.flatten.length:Int)then(p,10)else if (firsts p.bx).isEmpty=true∨en≤lmin (firsts p.bx)then(p,if p.ov then 11 else 0)else if lim≤(p.tr.flatten.length:Int)then(p,10)
  else Ps.go pgs la en cp lim n (p.next pgs la en (lmin (firsts p.bx)))
structure Bes (pgs:List (List OpC)) (en:Int) (s0:Sq) (p:Ps) (s:Sq):Prop where
 run:∀k,Sq.run pgs en (p.tr.flatten.length+k) s0=Sq.run pgs en k s
 tr:s.tr=p.tr
 lps:s.lps=p.lps
 pend:s.pend.Perm p.bx.flatten
 so:SortedE s.pend
 ov:s.ov=p.ov
theorem zip_nils:∀(tr:List (List Ev)) (outs:List Oc),tr.length=outs.length→(∀o∈outs,o.com=[])→List.zipWith (·++·) tr (outs.map Oc.com)=tr
 | [],[],_,_=>rfl
 | [],_::_,h,_=>by simp at h
 |_::_,[],h,_=>by simp at h
 |t::tr,o::outs,h,hc=>by
  have ih:=zip_nils tr outs (by simpa using h) (fun o ho=>hc o (List.mem_cons_of_mem _ ho));simp only[List.map_cons,List.zipWith_cons_cons,ih,hc o List.mem_cons_self,List.append_nil]
theorem sum_replicate_nat (n m:Nat):(List.replicate n m).sum=m*n:=by
 induction n with
 |zero=>rfl
 |succ n ih=>rw[List.replicate_succ,List.sum_cons,ih,Nat.mul_succ];omega
theorem le_sum:∀{l:List Nat} {n:Nat},n∈l→n≤l.sum
 |a::l,n,h=>by
  rw[List.sum_cons];rcases List.mem_cons.1 h with rfl|h
  ·omega
  ·have:=le_sum h;omega
section
variable {N P:Nat} {la:Int} {pgs:List (List OpC)}
theorem hzn_le (la en fl:Int):hzn la en fl≤fl+la∧hzn la en fl≤en:=by
 unfold hzn mn2
 split<;>omega
theorem hzn_lt {la en fl:Int} (h1:1≤la) (h2:fl<en):fl<hzn la en fl:=by
 unfold hzn mn2
 split<;>omega
theorem Bes.next {C:List (List Int)} {p:Ps} {s0 s:Sq} {en fl:Int} (hP:pgs.length=P) (hp:∀p∈pgs,∀o∈p,OpV N P la o) (h:PI N P C p) (hb:Bes pgs en s0 p s) (hfl:∀f∈p.bx.flatten,fl≤f.t)
  (hr:∀g∈p.ends pgs (hzn la en fl),g.rest (hzn la en fl)) (hC:C.length+2000*N≤800000):∃s',Bes pgs en s0 (p.next pgs la en fl) s':=by
 obtain⟨z1,z2⟩:=h.zip;have hl:=h.len;have hsr:SRel p.tr p.ov s p.outs:=⟨hb.lps.trans z1.symm,h.nt.trans hl.symm,hb.tr.trans (zip_nils _ _ (h.nt.trans hl.symm) fun o ho=>(outs_mem ho).1).symm,z2▸hb.pend,hb.so,by
  rw[hb.ov,List.any_eq_false.2 fun o ho=>by simp[(outs_mem ho).2.2],Bool.or_false]⟩
 have hw:WInv (hzn la en fl) fl p.outs:=⟨fun f hf=>hfl f (z2▸hf),fun o ho f hf=>by rw[(outs_mem ho).2.1]at hf;cases hf⟩;have hel:(p.ends pgs (hzn la en fl)).length=p.outs.length:=by
  unfold Ps.ends;rw[List.length_map]
 obtain⟨M,C',m1,m2,m3,m4,m5,m6,m8,m7⟩:=window_seq (la:=la) (hz:=hzn la en fl) (fl:=fl) hP hp (hzn_le la en fl).1 hr (2000*N) C p.outs (List.replicate N 2000) s (sum_replicate_nat N 2000) h.g hsr hw hC hel.symm (by rw[List.length_replicate,hel,hl])
  (fun i o k g h1 h2 h3=>by
   have h4:k=2000:=(List.mem_replicate.1 (List.mem_of_getElem? h2)).2;unfold Ps.ends at h3;rw[List.getElem?_map,h1]at h3;cases h3;rw[h4])
 refine⟨Sq.steps pgs M s,fun k=> ?_,m4.tr,m4.lps,?_,m4.sorted,m4.ov⟩
 ·have h1:(p.next pgs la en fl).tr.flatten.length=p.tr.flatten.length+M:=by
   have h2:(p.next pgs la en fl).tr=(Sq.steps pgs M s).tr:=m4.tr.symm;rw[h2,m8,hb.tr]
  rw[h1,Nat.add_assoc,hb.run,m7 en (hzn_le la en fl).2]
 ·obtain⟨C2,hn⟩:=PI.next hP hp h en fl hC;exact m4.pend.trans hn.bl.symm
structure Head (N P:Nat) (pgs:List (List OpC)) (en:Int) (s0:Sq) (p:Ps):Prop where
 ex:∃C,PI N P C p
 cnt:p.tr.flatten.length≤50+2000*N
 bn:p.bx.flatten.length≤64+32000*N
 ch:2000≤p.tr.flatten.length∨∃s,Bes pgs en s0 p s
 nf:p.fl.length≤p.tr.flatten.length
 np:p.np=p.fl.length
theorem floor_of {C:List (List Int)} {p:Ps} (h:PI N P C p) (hne:(firsts p.bx).isEmpty=false):
  (∀f∈p.bx.flatten,lmin (firsts p.bx)≤f.t)∧∃(i:Nat) (o:Oc) (e:Ev) (b:List Ev),p.outs[i]?=some o∧o.box=e::b∧o.com=[]∧e.t=lmin (firsts p.bx):=by
 have hne':firsts p.bx≠[]:=fun e=>by rw[e]at hne;cases hne
 obtain⟨h1,h2⟩:=lmin_of hne';obtain⟨z1,z2⟩:=h.zip;have hat:∀b∈p.bx,∃(i:Nat) (o:Oc),p.outs[i]?=some o∧o.box=b:=fun b hb=>by
  obtain⟨i,hi,e⟩:=List.mem_iff_getElem.1 hb;refine⟨i,⟨p.lps[i]'(by have:=h.nl;have:=h.nb;omega),b,[],[],false⟩,?_,rfl⟩;unfold Ps.outs;rw[List.getElem?_zipWith,List.getElem?_eq_getElem hi,List.getElem?_eq_getElem (by have:=h.nl;have:=h.nb;omega:i<p.lps.length),e]
 refine⟨fun f hf=> ?_,?_⟩
 ·obtain⟨b,hb,hfb⟩:=List.mem_flatten.1 hf;obtain⟨i,o,ho,e⟩:=hat b hb;have hs:=(h.g.o i o ho).box;rw[e]at hs;cases b with
  |nil=>cases hfb
  |cons g b=>
   have h3:lmin (firsts p.bx)≤g.t:=h2 _ (mem_firsts.2 ⟨g,b,hb,rfl⟩);rcases List.mem_cons.1 hfb with rfl|hfb
   ·exact h3
   ·have:=cmpE_time (SortedE.head hs f hfb);omega
 ·obtain⟨e,b,hb,he⟩:=mem_firsts.1 h1;obtain⟨i,o,ho,hob⟩:=hat _ hb;exact⟨i,o,e,b,ho,hob,(outs_mem (List.mem_of_getElem? ho)).1,he⟩
theorem Head.next {p:Ps} {s0:Sq} {en cp lim:Int} (hP:pgs.length=P) (hp:∀p∈pgs,∀o∈p,OpV N P la o) (hN:N≤8) (hla:1≤la) (hcp:cp≤64) (hlim:lim≤50) (h:Head N P pgs en s0 p)
  (h1:¬cp<(p.bx.flatten.length:Int)) (h2:¬((firsts p.bx).isEmpty=true∨en≤lmin (firsts p.bx))) (h3:¬lim≤(p.tr.flatten.length:Int)):
  Head N P pgs en s0 (p.next pgs la en (lmin (firsts p.bx)))∧p.tr.flatten.length+1≤(p.next pgs la en (lmin (firsts p.bx))).tr.flatten.length:=by
 obtain⟨C,hpi⟩:=h.ex;have hne:(firsts p.bx).isEmpty=false:=by
  cases h4:(firsts p.bx).isEmpty with
  |false=>rfl
  |true=>exact absurd (.inl h4) h2
 have hen:¬en≤lmin (firsts p.bx):=fun h4=>h2 (.inr h4);obtain⟨f1,i,o,e,b,ho,hb,hc,he⟩:=floor_of hpi hne;obtain⟨fl,hfl⟩:∃fl,lmin (firsts p.bx)=fl:=⟨_,rfl⟩;rw[hfl]at f1 he hen ⊢;have hcl:=hpi.cnt;obtain⟨C',hn⟩:=PI.next hP hp hpi en fl (by omega);have hz:=hzn_lt (la:=la) (en:=en) (fl:=fl) hla (by omega);have hcount:(p.next pgs la en fl).tr.flatten.length=p.tr.flatten.length+(((p.ends pgs (hzn la en fl)).map Oc.com).map List.length).sum:=zip_len _ _ (by rw[List.length_map,hn.el];exact hpi.nt);have hprog:p.tr.flatten.length+1≤(p.next pgs la en fl).tr.flatten.length:=by
  obtain⟨d,d1,d2,d3,d4⟩:=run_com pgs (hzn la en fl) 2000 o;have h5:e∈d:=d4 e b hb (by omega) (by omega);have h6:Oc.run pgs (hzn la en fl) 2000 o∈p.ends pgs (hzn la en fl):=List.mem_map_of_mem (List.mem_of_getElem? ho);have h7:=le_sum (List.mem_map_of_mem (f:=List.length) (List.mem_map_of_mem (f:=Oc.com) h6));rw[d1,hc,List.nil_append]at h7;have h8:=List.length_pos_of_mem h5;omega
 refine⟨⟨⟨C',hn.pi⟩,?_,?_,?_,?_,?_⟩,hprog⟩
 ·have h5:=hn.pi.cnt;have h6:=hn.c;omega
 ·have h5:=hn.bl.length_eq;have h6:=hn.pl;omega
 ·by_cases hr:∀g∈p.ends pgs (hzn la en fl),g.rest (hzn la en fl)
  ·right;rcases h.ch with h5|⟨s,h5⟩
   ·omega
   ·exact h5.next hP hp hpi f1 hr (by omega)
  ·left;obtain⟨g,hg,hgr⟩:∃g∈p.ends pgs (hzn la en fl),¬g.rest (hzn la en fl):=by
    by_cases hx:∃g∈p.ends pgs (hzn la en fl),¬g.rest (hzn la en fl)
    ·exact hx
    ·exact absurd (fun g hg=>Classical.byContradiction fun h9=>hx ⟨g,hg,h9⟩) hr
   obtain⟨o2,ho2,rfl⟩:=List.mem_map.1 hg;have h7:=le_sum (List.mem_map_of_mem (f:=List.length) (List.mem_map_of_mem (f:=Oc.com) hg));rcases run_rest_or pgs (hzn la en fl) 2000 o2 with h5|h5
   ·exact absurd h5 hgr
   ·omega
 ·have h5:=h.nf;show(p.fl++[fl]).length≤_;rw[List.length_append,List.length_cons,List.length_nil];omega
 ·show p.np+1=(p.fl++[fl]).length;rw[List.length_append,List.length_cons,List.length_nil,h.np]
end
end
section
def ev0 (i k:Nat) (s:StC):Ev:=⟨s.t,[(i:Int),(k:Int)],i,1,k,0⟩
def evs0 (lps:List (List StC)):List Ev:=(lps.mapIdx fun i l=>l.mapIdx fun k s=>ev0 i k s).flatten
def lp0 (l:List StC):Lp:=⟨0,0,l.map fun s=>⟨s.pg,0,true,[]⟩,0⟩
structure CfOk (c:Cf) (N P:Nat):Prop where
 n:c.lps.length=N
 n1:1≤N
 n8:N≤8
 p:c.pgs.length=P
 p8:P≤8
 row:∀l∈c.lps,l.length≤8
 st:∀l∈c.lps,∀s∈l,(0≤s.pg∧s.pg<P)∧0≤s.t∧s.t≤1152921504606846976
 pl:∀p∈c.pgs,p.length≤16
 op:∀p∈c.pgs,∀o∈p,OpV N P c.la o
 la:1≤c.la∧c.la≤8
 en:0≤c.en∧c.en≤1152921504606846976
 cp:1≤c.cp∧c.cp≤64
theorem mem_evs0 {lps:List (List StC)} {f:Ev}:f∈evs0 lps↔∃(i k:Nat) (l:List StC) (s:StC),lps[i]?=some l∧l[k]?=some s∧f=ev0 i k s:=by
 unfold evs0;rw[List.mem_flatten];constructor
 ·rintro⟨r,hr,hf⟩;obtain⟨i,hi,rfl⟩:=List.mem_mapIdx.1 hr;obtain⟨k,hk,rfl⟩:=List.mem_mapIdx.1 hf;exact⟨i,k,_,_,List.getElem?_eq_getElem hi,List.getElem?_eq_getElem hk,rfl⟩
 ·rintro⟨i,k,l,s,hi,hk,rfl⟩;obtain⟨h1,e1⟩:=List.getElem?_eq_some_iff.1 hi;obtain⟨h2,e2⟩:=List.getElem?_eq_some_iff.1 hk;exact⟨_,List.mem_mapIdx.2 ⟨i,h1,rfl⟩,List.mem_mapIdx.2 ⟨k,by rw[e1];exact h2,by subst e1;rw[e2]⟩⟩
theorem evs0_keys (lps:List (List StC)):KeysD (evs0 lps):=by
 unfold KeysD evs0;rw[List.nodup_iff_pairwise_ne,List.pairwise_map,List.pairwise_flatten];refine⟨fun r hr=> ?_,?_⟩
 ·obtain⟨i,hi,rfl⟩:=List.mem_mapIdx.1 hr;rw[List.pairwise_iff_getElem];intro a b ha hb hab;simp only[List.getElem_mapIdx,ev0];intro e;simp at e;omega
 ·rw[List.pairwise_iff_getElem];intro a b ha hb hab x hx y hy;simp only[List.getElem_mapIdx]at hx hy;obtain⟨k,hk,rfl⟩:=List.mem_mapIdx.1 hx;obtain⟨j,hj,rfl⟩:=List.mem_mapIdx.1 hy;simp only[ev0];intro e;simp at e;omega
theorem sum_le {b:Nat}:∀{l:List Nat},(∀x∈l,x≤b)→l.sum≤b*l.length
 | [],_=>by simp
 |a::l,h=>by
  have h1:=sum_le (l:=l) fun x hx=>h x (List.mem_cons_of_mem _ hx);have h2:=h a List.mem_cons_self;simp only[List.sum_cons,List.length_cons,Nat.mul_succ];omega
theorem evs0_len {c:Cf} {N P:Nat} (h:CfOk c N P):(evs0 c.lps).length≤64:=by
 unfold evs0;rw[List.length_flatten];have h1:=sum_le (b:=8) (l:=(c.lps.mapIdx fun i l=>l.mapIdx fun k s=>ev0 i k s).map List.length) fun x hx=>by
  obtain⟨r,hr,rfl⟩:=List.mem_map.1 hx;obtain⟨i,hi,rfl⟩:=List.mem_mapIdx.1 hr;rw[List.length_mapIdx];exact h.row _ (List.getElem_mem hi)
 rw[List.length_map,List.length_mapIdx,h.n]at h1;have:=h.n8;omega
def Cf.p0 (c:Cf):Ps:={tr:=List.replicate c.lps.length [],lps:=c.lps.map lp0,bx:=dlv (List.replicate c.lps.length []) (sortC (evs0 c.lps)),ov:=false,fl:=[],np:=0}
def Cf.s0 (c:Cf):Sq:={tr:=List.replicate c.lps.length [],lps:=c.lps.map lp0,pend:=sortC (evs0 c.lps),n:=0,ov:=false}
def Cf.par (c:Cf) (lim:Int):Ps×Int:=Ps.go c.pgs c.la c.en c.cp lim (lim.toNat+1) c.p0
def Cf.seq (c:Cf) (n:Nat):Sq:=Sq.run c.pgs c.en n c.s0
theorem nils_flat (n:Nat):(List.replicate n ([]:List Ev)).flatten=[]:=by simp
section
variable {c:Cf} {N P:Nat}
theorem CfOk.kinv (h:CfOk c N P):KInv N P [] (c.lps.map lp0) (evs0 c.lps):=by
 refine⟨evs0_keys _,fun _ _ hk=>by(cases hk),fun _ hk=>by(cases hk),fun f hf=> ?_,fun f hf=> ?_,fun l hl=> ?_,by rw[List.length_map,h.n],fun l hl k hk=> ?_,fun f hf i l hl hk=> ?_,fun f hf=> ?_,fun f hf=> ?_,fun f hf hk=> ?_⟩
 ·obtain⟨i,k,l,s,hi,hk,rfl⟩:=mem_evs0.1 hf;exact .inl rfl
 ·obtain⟨i,k,l,s,hi,hk,rfl⟩:=mem_evs0.1 hf;exact⟨Nat.le_refl 2,Nat.le_refl 2⟩
 ·obtain⟨r,hr,rfl⟩:=List.mem_map.1 hl;refine⟨by simp only[lp0,List.length_map];exact h.row r hr,fun p hp=> ?_⟩;obtain⟨s,hs,rfl⟩:=List.mem_map.1 hp;exact⟨Int.le_refl 0,(h.st r hr s hs).1⟩
 ·obtain⟨r,hr,rfl⟩:=List.mem_map.1 hl;obtain⟨p,hp,rfl⟩:=List.mem_map.1 hk;obtain⟨s,hs,rfl⟩:=List.mem_map.1 hp;exact .inl rfl
 ·obtain⟨r,hr,rfl⟩:=List.mem_map.1 (List.mem_of_getElem? hl);obtain⟨p,hp,e⟩:=List.mem_map.1 hk;obtain⟨s,hs,rfl⟩:=List.mem_map.1 hp;obtain⟨i,k,l,s,hi,hk,rfl⟩:=mem_evs0.1 hf;cases e
 ·obtain⟨i,k,l,s,hi,hk,rfl⟩:=mem_evs0.1 hf;have:=(List.getElem?_eq_some_iff.1 hi).1;have:=h.n;simp only[ev0];omega
 ·obtain⟨i,k,l,s,hi,hk,rfl⟩:=mem_evs0.1 hf;exact(h.st l (List.mem_of_getElem? hi) s (List.mem_of_getElem? hk)).2
 ·obtain⟨i,k,l,s,hi,h2,rfl⟩:=mem_evs0.1 hf;cases hk
theorem CfOk.dl (h:CfOk c N P):(dlv (List.replicate c.lps.length []) (sortC (evs0 c.lps))).flatten.Perm (evs0 c.lps):=by
 have:=dlv_perm (List.replicate c.lps.length []) (sortC (evs0 c.lps)) fun e he=>by
  rw[List.length_replicate,h.n];exact h.kinv.rng e ((sortC_perm _).subset he)
 rw[nils_flat,List.nil_append]at this;exact this.trans (sortC_perm _)
theorem CfOk.pi (h:CfOk c N P):PI N P [] c.p0:=by
 have hdl:(dlv (List.replicate c.lps.length []) (sortC (evs0 c.lps))).length=N:=by rw[dlv_len,List.length_replicate,h.n]
 refine⟨⟨?_,fun i o ho=> ?_⟩,by simp only[Cf.p0,List.length_map];exact h.n,hdl,by simp only[Cf.p0,List.length_replicate];exact h.n,by simp only[Cf.p0];rw[nils_flat];rfl⟩
 ·obtain⟨y1,y2⟩:=outs_zip (c.lps.map lp0) (dlv (List.replicate c.lps.length []) (sortC (evs0 c.lps))) (by rw[hdl,List.length_map,h.n]);unfold Ps.outs Cf.p0;simp only;rw[y1,y2];exact h.kinv.perm h.dl.symm (List.Perm.refl _)
 ·unfold Ps.outs Cf.p0 at ho;simp only at ho;have hi:i<c.lps.length:=by
   have:=(List.getElem?_eq_some_iff.1 ho).1;rw[List.length_zipWith,List.length_map,hdl,h.n]at this;rw[h.n];omega
  rw[List.getElem?_zipWith,List.getElem?_map,List.getElem?_eq_getElem hi,dlv_at (by rw[List.length_replicate];exact hi),List.getElem_replicate]at ho;simp only[Option.map_some,Option.some.injEq]at ho;subst ho;refine⟨?_,fun f hf=> ?_,fun f hf=>by cases hf⟩
  ·simp only;unfold dlv1
   split
   ·exact .nil
   ·exact sortC_sorted _
  ·have h5:=(dlv1_perm _ _).subset hf;rw[List.nil_append]at h5
   simpa using (List.mem_filter.1 h5).2
theorem CfOk.head (h:CfOk c N P):Head N P c.pgs c.en c.s0 c.p0:=by
 have hb:=h.dl.length_eq;have hl:=evs0_len h;have ht:c.p0.tr.flatten.length=0:=by simp only[Cf.p0];rw[nils_flat];rfl
 refine⟨⟨[],h.pi⟩,by omega,by show(dlv _ _).flatten.length≤_;omega,.inr ⟨c.s0,⟨fun k=>by rw[ht,Nat.zero_add],rfl,rfl,(sortC_perm _).trans h.dl.symm,sortC_sorted _,rfl⟩⟩,by rw[ht];exact Nat.le_refl 0,rfl⟩
theorem CfOk.go (h:CfOk c N P) {lim:Int} (hl:lim≤50):∀(n:Nat) (p:Ps),Head N P c.pgs c.en c.s0 p→Head N P c.pgs c.en c.s0 (Ps.go c.pgs c.la c.en c.cp lim n p).1
 |0,p,hp=>hp
 |n+1,p,hp=>by
  unfold Ps.go
  split
  ·exact hp
  ·split
   ·exact hp
   ·split
    ·exact hp
    ·exact CfOk.go h hl n _ (Head.next h.p h.op h.n8 h.la.1 h.cp.2 hl hp (by assumption) (by assumption) (by assumption)).1
end
def Pre (a b:List (List Ev)):Prop:=a.length=b.length∧∀(i:Nat) (x y:List Ev),a[i]?=some x→b[i]?=some y→x<+:y
theorem Pre.refl (a:List (List Ev)):Pre a a:=⟨rfl,fun i x y h1 h2=>by rw[h1]at h2;cases h2;exact List.prefix_refl _⟩
theorem Pre.set {a b:List (List Ev)} (h:Pre a b) (i:Nat) (e:Ev):Pre a (b.set i (b.getD i []++[e])):=by
 refine⟨by rw[List.length_set];exact h.1,fun j x y h1 h2=> ?_⟩;by_cases hij:i=j
 ·subst hij;have hi:i<b.length:=by
   have:=(List.getElem?_eq_some_iff.1 h2).1
   rwa [List.length_set]at this
  rw[List.getElem?_set_self hi]at h2;cases h2;refine(h.2 i x _ h1 (List.getElem?_eq_getElem hi)).trans ?_;rw[List.getD_eq_getElem?_getD,List.getElem?_eq_getElem hi];exact List.prefix_append _ _
 ·rw[List.getElem?_set_ne hij]at h2;exact h.2 j x y h1 h2
theorem Sq.pre (pgs:List (List OpC)) (en:Int) (a:List (List Ev)):∀(n:Nat) (s:Sq),Pre a s.tr→Pre a (Sq.run pgs en n s).tr
 |0,_,h=>h
 |n+1,s,h=>by
  unfold Sq.run
  split
  ·refine Sq.pre pgs en a n _ ?_;unfold Sq.commit
   split
   ·exact h
   ·exact h.set _ _
  ·exact h
section
variable {c:Cf} {N P:Nat}
theorem CfOk.same (h:CfOk c N P) {lim:Int} (hl:lim≤50) (hm:(c.par lim).1.tr.flatten.length<2000):(c.seq (c.par lim).1.tr.flatten.length).tr=(c.par lim).1.tr∧(c.seq (c.par lim).1.tr.flatten.length).lps=(c.par lim).1.lps∧∀k,Pre (c.par lim).1.tr (c.seq ((c.par lim).1.tr.flatten.length+k)).tr:=by
 have hh:=h.go hl (lim.toNat+1) c.p0 h.head;rcases hh.ch with h1|⟨s,hs⟩
 ·exact absurd hm (by unfold Cf.par;omega)
 ·have h0:=hs.run 0;rw[Nat.add_zero]at h0;refine⟨?_,?_,fun k=> ?_⟩
  ·show(Sq.run _ _ _ _).tr=_;unfold Cf.par;rw[h0];exact hs.tr
  ·show(Sq.run _ _ _ _).lps=_;unfold Cf.par;rw[h0];exact hs.lps
  ·unfold Cf.seq Cf.par;rw[hs.run k];exact Sq.pre _ _ _ k s (hs.tr▸Pre.refl _)
end
end
end Go.Proofs.YtfnimdhghglanaaGreat.Hand
end
section
namespace Go.Proofs.YtfnimdhghglanaaGreat.Hand
open Go.RowKit Go.Shelf Go.Proofs.YtfnimdhghglanaaGreatW PrintWords PrintLast PrintMore
section
abbrev TLP:TypeId:=91
abbrev TSt:TypeId:=64
abbrev LRow (w:World) (B g n c:Nat) (ss:List SLp):Prop:=Kd.R kLp TLP w B (fun _=>True) (.slice (some ⟨g,0,none⟩) n c) ss
theorem LRow.typed {w:World} {B g n c:Nat} {hs:List SLp} (h:LRow w B g n c hs):(∃cells,w.heap[g]?=some (Obj.cells cells TLP (0,0)))∧B≤g∧g<w.heap.size:=
 ⟨Kd.R_typed h g rfl,Kd.R_base h g rfl,Kd.R_lt h g rfl⟩
theorem LRow.stay {w w':World} {B g n c:Nat} {hs:List SLp} (h:LRow w B g n c hs) (hb:w'.heap[g]?=w.heap[g]?):LRow w' B g n c hs:=R_stay h rfl fun k hk=>by
 cases hk;exact hb
theorem LRow.put {w:World} {B g n c:Nat} {hs:List SLp} (h:LRow w B g n c hs) (i:Nat) (hi:i<hs.length) (x:SLp):LRow (w.setCells g (i*4) x.cells) B g n c (hs.set i x)∧w.grownBy (w.setCells g (i*4) x.cells) (some g):=by
 have hn:=(Kd.R_reads' h).1;obtain⟨cc,hcl,hM,hcc,hf⟩:=Kd.R_elem h SLp.zero (i:Int) (by omega) (by omega);have e4:hs.getD (i:Int).toNat SLp.zero=hs[i]'hi:=by simp[List.getD_eq_getElem?_getD,List.getElem?_eq_getElem hi]
 rw[e4]at hM;obtain rfl:cc=(hs[i]'hi).cells:=hM;have h3:=Kd.R_seg (okp:=fun _=>False) h (i:Int) (by omega) (by omega) (c:=(hs[i]'hi).cells) (seg:=x.cells) (j:=0) (x':=x) hcl hcc (by show 0+4≤4;omega) rfl (fun _ h=>h.elim);rw[Int.toNat_natCast]at h3;exact h3
theorem LRow.get {w:World} {B g n c:Nat} {hs:List SLp} (h:LRow w B g n c hs) (i:Nat) (hi:i<hs.length):(∀j,j<4→(w.cell? ⟨g,i*4+j,none⟩).isSome=true)∧(∀j,w.frozen? ⟨g,j,none⟩=false)∧n=hs.length:=by
 have hn:=(Kd.R_reads' h).1;obtain⟨cc,hcl,hM,hcc,hf⟩:=Kd.R_elem h SLp.zero (i:Int) (by omega) (by omega);obtain⟨⟨cells,hc⟩,_⟩:=h.typed;rw[Int.toNat_natCast]at hcc;refine⟨fun j hj=> ?_,fun j=>blk_frozen hc j,hn⟩;have h1:j<cc.length:=by rw[hcl];exact hj
 have h2:=hcc j cc[j] (List.getElem?_eq_getElem h1);simp only[show kLp.sz=4 from rfl]at h2;rw[h2];rfl
structure Mid where
 tr:List (List Ev)
 lps:List Lp
 bx:List (List Ev)
 sn:List (List Ev)
 ov:Bool
def M5 (Mt:Nat→Prop) (g1 gl g2 g3 qt k:Nat):Prop:=Mt k∨k=g1∨k=gl∨k=g2∨k=g3∨k=qt
def stCells (n g1 c1 gl cl g2 c2:Nat) (ov:Bool) (fl pr:SH):Array Value:= #[.slice (some ⟨g1,0,none⟩) n c1,.slice (some ⟨gl,0,none⟩) n cl,.slice (some ⟨g2,0,none⟩) n c2,.bool ov,.slice fl.A fl.n fl.c,.slice pr.A pr.n pr.c]
structure MidAt (Mt:Nat→Prop) (B:Nat) (w:World) (n g1 c1 gl cl g2 c2 g3 c3 qt:Nat) (fl pr:SH) (m:Mid):Prop where
 r1:∃hs,HRow w B g1 n c1 hs∧All2 (EvsAt (M5 Mt g1 gl g2 g3 qt) w) hs m.tr
 rl:∃ss,LRow w B gl n cl ss∧All2 (LpAt (M5 Mt g1 gl g2 g3 qt) w) ss m.lps
 r2:∃hs,HRow w B g2 n c2 hs∧All2 (EvsAt (M5 Mt g1 gl g2 g3 qt) w) hs m.bx
 r3:∃hs,HRow w B g3 n c3 hs∧All2 (EvsAt (M5 Mt g1 gl g2 g3 qt) w) hs m.sn
 blk:w.heap[qt]?=some (.cells (stCells n g1 c1 gl cl g2 c2 m.ov fl pr) TSt (0,0))
 hq:B≤qt
 n12:g1≠g2
 n13:g1≠g3
 n23:g2≠g3
section
variable {Mt:Nat→Prop} {B:Nat} {w w':World} {n g1 c1 gl cl g2 c2 g3 c3 qt:Nat} {fl pr:SH} {m:Mid}
theorem MidAt.moved (h:MidAt Mt B w n g1 c1 gl cl g2 c2 g3 c3 qt fl pr m) (k:Keep (M5 Mt g1 gl g2 g3 qt) w w') (h1:w'.heap[g1]?=w.heap[g1]?) (hl:w'.heap[gl]?=w.heap[gl]?) (h2:w'.heap[g2]?=w.heap[g2]?) (h3:w'.heap[g3]?=w.heap[g3]?) (hq:w'.heap[qt]?=w.heap[qt]?):MidAt Mt B w' n g1 c1 gl cl g2 c2 g3 c3 qt fl pr m:=by
 obtain⟨⟨a,a1,a2⟩,⟨b,b1,b2⟩,⟨c,e1,e2⟩,⟨d,d1,d2⟩,f1,f2,f3,f4,f5⟩:=h;exact⟨⟨a,a1.stay h1,a2.imp fun _ _ h=>h.keep k⟩,⟨b,b1.stay hl,b2.imp fun _ _ h=>h.keep k⟩,⟨c,e1.stay h2,e2.imp fun _ _ h=>h.keep k⟩,⟨d,d1.stay h3,d2.imp fun _ _ h=>h.keep k⟩,hq.trans f1,f2,f3,f4,f5⟩
theorem MidAt.lts (h:MidAt Mt B w n g1 c1 gl cl g2 c2 g3 c3 qt fl pr m):g1<w.heap.size∧gl<w.heap.size∧g2<w.heap.size∧g3<w.heap.size∧qt<w.heap.size:=by
 obtain⟨⟨a,a1,a2⟩,⟨b,b1,b2⟩,⟨c,e1,e2⟩,⟨d,d1,d2⟩,f1,f2,f3,f4,f5⟩:=h;exact⟨a1.typed.2.2,b1.typed.2.2,e1.typed.2.2,d1.typed.2.2,blk_lt f1⟩
theorem MidAt.bases (h:MidAt Mt B w n g1 c1 gl cl g2 c2 g3 c3 qt fl pr m):B≤g1∧B≤gl∧B≤g2∧B≤g3∧B≤qt:=by
 obtain⟨⟨a,a1,a2⟩,⟨b,b1,b2⟩,⟨c,e1,e2⟩,⟨d,d1,d2⟩,f1,f2,f3,f4,f5⟩:=h;exact⟨a1.typed.2.1,b1.typed.2.1,e1.typed.2.1,d1.typed.2.1,f2⟩
theorem MidAt.more (h:MidAt Mt B w n g1 c1 gl cl g2 c2 g3 c3 qt fl pr m) (k:Below w.heap.size w w'):MidAt Mt B w' n g1 c1 gl cl g2 c2 g3 c3 qt fl pr m:=by
 obtain⟨l1,l2,l3,l4,l5⟩:=h.lts;exact h.moved (Keep.of_below k) (k.block _ l1) (k.block _ l2) (k.block _ l3) (k.block _ l4) (k.block _ l5)
theorem MidAt.kinds (h:MidAt Mt B w n g1 c1 gl cl g2 c2 g3 c3 qt fl pr m):(gl≠g1∧gl≠g2∧gl≠g3)∧(qt≠g1∧qt≠g2∧qt≠g3)∧qt≠gl:=by
 obtain⟨⟨a,a1,a2⟩,⟨b,b1,b2⟩,⟨c,e1,e2⟩,⟨d,d1,d2⟩,f1,f2,f3,f4,f5⟩:=h;obtain⟨⟨_,t1⟩,_⟩:=a1.typed;obtain⟨⟨_,tl⟩,_⟩:=b1.typed;obtain⟨⟨_,t2⟩,_⟩:=e1.typed;obtain⟨⟨_,t3⟩,_⟩:=d1.typed;refine⟨⟨?_,?_,?_⟩,⟨?_,?_,?_⟩,?_⟩<;>intro e<;>subst e
 ·rw[tl]at t1;cases t1
 ·rw[tl]at t2;cases t2
 ·rw[tl]at t3;cases t3
 ·rw[f1]at t1;cases t1
 ·rw[f1]at t2;cases t2
 ·rw[f1]at t3;cases t3
 ·rw[f1]at tl;cases tl
theorem MidAt.put1 (h:MidAt Mt B w n g1 c1 gl cl g2 c2 g3 c3 qt fl pr m) (i:Nat) (hi:i<m.tr.length) {x:SH} {l:List Ev} (hx:EvsAt (M5 Mt g1 gl g2 g3 qt) w x l):MidAt Mt B (w.setCell ⟨g1,i,none⟩ (.slice x.A x.n x.c)) n g1 c1 gl cl g2 c2 g3 c3 qt fl pr {m with tr:=m.tr.set i l}:=by
 obtain⟨⟨k1,k2,k3⟩,⟨k4,k5,k6⟩,k7⟩:=h.kinds;have k:Keep (M5 Mt g1 gl g2 g3 qt) w (w.setCell ⟨g1,i,none⟩ (.slice x.A x.n x.c)):=Keep.set (b:=g1) (.inr (.inl rfl)) _;have f:∀j,j≠g1→(w.setCell ⟨g1,i,none⟩ (.slice x.A x.n x.c)).heap[j]?=w.heap[j]?:=fun j hj=>Below.heap_setCell w ⟨g1,i,none⟩ _ j hj;obtain⟨⟨a,a1,a2⟩,⟨b,b1,b2⟩,⟨c,e1,e2⟩,⟨d,d1,d2⟩,f1,f2,f3,f4,f5⟩:=h
 exact⟨⟨_,a1.put i (by rw[a2.len];exact hi) x,(a2.imp fun _ _ h=>h.keep k).set i (hx.keep k)⟩,⟨b,b1.stay (f _ k1),b2.imp fun _ _ h=>h.keep k⟩,⟨c,e1.stay (f _ f3.symm),e2.imp fun _ _ h=>h.keep k⟩,⟨d,d1.stay (f _ f4.symm),d2.imp fun _ _ h=>h.keep k⟩,(f _ k4).trans f1,f2,f3,f4,f5⟩
theorem MidAt.put2 (h:MidAt Mt B w n g1 c1 gl cl g2 c2 g3 c3 qt fl pr m) (i:Nat) (hi:i<m.bx.length) {x:SH} {l:List Ev} (hx:EvsAt (M5 Mt g1 gl g2 g3 qt) w x l):MidAt Mt B (w.setCell ⟨g2,i,none⟩ (.slice x.A x.n x.c)) n g1 c1 gl cl g2 c2 g3 c3 qt fl pr {m with bx:=m.bx.set i l}:=by
 obtain⟨⟨k1,k2,k3⟩,⟨k4,k5,k6⟩,k7⟩:=h.kinds;have k:Keep (M5 Mt g1 gl g2 g3 qt) w (w.setCell ⟨g2,i,none⟩ (.slice x.A x.n x.c)):=Keep.set (b:=g2) (.inr (.inr (.inr (.inl rfl)))) _;have f:∀j,j≠g2→(w.setCell ⟨g2,i,none⟩ (.slice x.A x.n x.c)).heap[j]?=w.heap[j]?:=fun j hj=>Below.heap_setCell w ⟨g2,i,none⟩ _ j hj;obtain⟨⟨a,a1,a2⟩,⟨b,b1,b2⟩,⟨c,e1,e2⟩,⟨d,d1,d2⟩,f1,f2,f3,f4,f5⟩:=h
 exact⟨⟨a,a1.stay (f _ f3),a2.imp fun _ _ h=>h.keep k⟩,⟨b,b1.stay (f _ k2),b2.imp fun _ _ h=>h.keep k⟩,⟨_,e1.put i (by rw[e2.len];exact hi) x,(e2.imp fun _ _ h=>h.keep k).set i (hx.keep k)⟩,⟨d,d1.stay (f _ f5.symm),d2.imp fun _ _ h=>h.keep k⟩,(f _ k5).trans f1,f2,f3,f4,f5⟩
theorem MidAt.put3 (h:MidAt Mt B w n g1 c1 gl cl g2 c2 g3 c3 qt fl pr m) (i:Nat) (hi:i<m.sn.length) {x:SH} {l:List Ev} (hx:EvsAt (M5 Mt g1 gl g2 g3 qt) w x l):MidAt Mt B (w.setCell ⟨g3,i,none⟩ (.slice x.A x.n x.c)) n g1 c1 gl cl g2 c2 g3 c3 qt fl pr {m with sn:=m.sn.set i l}:=by
 obtain⟨⟨k1,k2,k3⟩,⟨k4,k5,k6⟩,k7⟩:=h.kinds;have k:Keep (M5 Mt g1 gl g2 g3 qt) w (w.setCell ⟨g3,i,none⟩ (.slice x.A x.n x.c)):=Keep.set (b:=g3) (.inr (.inr (.inr (.inr (.inl rfl))))) _;have f:∀j,j≠g3→(w.setCell ⟨g3,i,none⟩ (.slice x.A x.n x.c)).heap[j]?=w.heap[j]?:=fun j hj=>Below.heap_setCell w ⟨g3,i,none⟩ _ j hj;obtain⟨⟨a,a1,a2⟩,⟨b,b1,b2⟩,⟨c,e1,e2⟩,⟨d,d1,d2⟩,f1,f2,f3,f4,f5⟩:=h
 exact⟨⟨a,a1.stay (f _ f4),a2.imp fun _ _ h=>h.keep k⟩,⟨b,b1.stay (f _ k3),b2.imp fun _ _ h=>h.keep k⟩,⟨c,e1.stay (f _ f5),e2.imp fun _ _ h=>h.keep k⟩,⟨_,d1.put i (by rw[d2.len];exact hi) x,(d2.imp fun _ _ h=>h.keep k).set i (hx.keep k)⟩,(f _ k6).trans f1,f2,f3,f4,f5⟩
theorem MidAt.putL (h:MidAt Mt B w n g1 c1 gl cl g2 c2 g3 c3 qt fl pr m) (i:Nat) (hi:i<m.lps.length) {x:SLp} {l:Lp} (hx:LpAt (M5 Mt g1 gl g2 g3 qt) w x l):MidAt Mt B (w.setCells gl (i*4) x.cells) n g1 c1 gl cl g2 c2 g3 c3 qt fl pr {m with lps:=m.lps.set i l}:=by
 obtain⟨⟨k1,k2,k3⟩,⟨k4,k5,k6⟩,k7⟩:=h.kinds;have hg:=grown_cells (g:=gl) x.cells w (i*4);have k:Keep (M5 Mt g1 gl g2 g3 qt) w (w.setCells gl (i*4) x.cells):=Keep.grown hg fun j hj=>by cases hj;exact .inr (.inr (.inl rfl))
 obtain⟨l1,l2,l3,l4,l5⟩:=h.lts;have f:∀j,j≠gl→j<w.heap.size→(w.setCells gl (i*4) x.cells).heap[j]?=w.heap[j]?:=fun j hj hl=>hg.block j hl (fun e=>by cases e;exact hj rfl);obtain⟨⟨a,a1,a2⟩,⟨b,b1,b2⟩,⟨c,e1,e2⟩,⟨d,d1,d2⟩,f1,f2,f3,f4,f5⟩:=h;exact⟨⟨a,a1.stay (f _ k1.symm l1),a2.imp fun _ _ h=>h.keep k⟩,⟨_,(b1.put i (by rw[b2.len];exact hi) x).1,(b2.imp fun _ _ h=>h.keep k).set i (hx.keep k)⟩,⟨c,e1.stay (f _ k2.symm l3),e2.imp fun _ _ h=>h.keep k⟩,⟨d,d1.stay (f _ k3.symm l4),d2.imp fun _ _ h=>h.keep k⟩,(f _ k7 l5).trans f1,f2,f3,f4,f5⟩
theorem MidAt.putOv (h:MidAt Mt B w n g1 c1 gl cl g2 c2 g3 c3 qt fl pr m) (v:Bool):MidAt Mt B (w.setCell ⟨qt,3,none⟩ (.bool v)) n g1 c1 gl cl g2 c2 g3 c3 qt fl pr {m with ov:=v}:=by
 obtain⟨⟨k1,k2,k3⟩,⟨k4,k5,k6⟩,k7⟩:=h.kinds;have k:Keep (M5 Mt g1 gl g2 g3 qt) w (w.setCell ⟨qt,3,none⟩ (.bool v)):=Keep.set (b:=qt) (.inr (.inr (.inr (.inr (.inr rfl))))) _;have f:∀j,j≠qt→(w.setCell ⟨qt,3,none⟩ (.bool v)).heap[j]?=w.heap[j]?:=fun j hj=>Below.heap_setCell w ⟨qt,3,none⟩ _ j hj;obtain⟨⟨a,a1,a2⟩,⟨b,b1,b2⟩,⟨c,e1,e2⟩,⟨d,d1,d2⟩,f1,f2,f3,f4,f5⟩:=h
 exact⟨⟨a,a1.stay (f _ k4.symm),a2.imp fun _ _ h=>h.keep k⟩,⟨b,b1.stay (f _ k7.symm),b2.imp fun _ _ h=>h.keep k⟩,⟨c,e1.stay (f _ k5.symm),e2.imp fun _ _ h=>h.keep k⟩,⟨d,d1.stay (f _ k6.symm),d2.imp fun _ _ h=>h.keep k⟩,blk_put f1 3 _ rfl,f2,f3,f4,f5⟩
theorem MidAt.cells (h:MidAt Mt B w n g1 c1 gl cl g2 c2 g3 c3 qt fl pr m):∀j u,(stCells n g1 c1 gl cl g2 c2 m.ov fl pr)[j]?=some u→w.cell? ⟨qt,j,none⟩=some u:=fun j u hu=>by
 simp only[World.cell?,h.blk];exact hu
theorem MidAt.mt (h:MidAt Mt B w n g1 c1 gl cl g2 c2 g3 c3 qt fl pr m) (hM:∀k,Mt k→k<w.heap.size) (k:Nat) (hk:M5 Mt g1 gl g2 g3 qt k):k<w.heap.size:=by
 obtain⟨l1,l2,l3,l4,l5⟩:=h.lts;rcases hk with hk|rfl|rfl|rfl|rfl|rfl
 ·exact hM k hk
 ·exact l1
 ·exact l2
 ·exact l3
 ·exact l4
 ·exact l5
end
def Mid.step (F:Nat→Oc) (m:Mid) (i:Nat):Mid:={tr:=m.tr.set i (m.tr.getD i []++(F i).com),lps:=m.lps.set i (F i).lp,bx:=m.bx.set i (F i).box,sn:=m.sn.set i (F i).sent,ov:=m.ov||(F i).ov}
end
def ocAt (progs:List (List OpC)) (hz:Int) (p:Ps) (i:Nat):Oc:=Oc.run progs hz 2000 (p.outs.getD i ⟨⟨0,0,[],0⟩,[],[],[],false⟩)
theorem set_self_map {α:Type} (l:List α) (i:Nat) (d:α) (f:α→α):(l.set i (f (l.getD i d)))[i]?=l[i]?.map f:=by
 rw[List.getElem?_set,if_pos rfl]
 split
 ·rename_i h;rw[List.getD_eq_getElem?_getD,List.getElem?_eq_getElem h];rfl
 ·rename_i h;rw[List.getElem?_eq_none (by omega)];rfl
theorem set_self_const {α:Type} (l:List α) (i:Nat) (x:α):(l.set i x)[i]?=l[i]?.map fun _=>x:=by
 rw[List.getElem?_set,if_pos rfl]
 split
 ·rename_i h;rw[List.getElem?_eq_getElem h];rfl
 ·rename_i h;rw[List.getElem?_eq_none (by omega)];rfl
theorem steps_at (F:Nat→Oc):∀(js:List Nat) (m:Mid),js.Nodup→(∀i,(js.foldl (Mid.step F) m).tr[i]?=if i∈js then m.tr[i]?.map (·++(F i).com)else m.tr[i]?)∧(∀i,(js.foldl (Mid.step F) m).lps[i]?=if i∈js then m.lps[i]?.map (fun _=>(F i).lp)else m.lps[i]?)∧
  (∀i,(js.foldl (Mid.step F) m).bx[i]?=if i∈js then m.bx[i]?.map (fun _=>(F i).box)else m.bx[i]?)∧(∀i,(js.foldl (Mid.step F) m).sn[i]?=if i∈js then m.sn[i]?.map (fun _=>(F i).sent)else m.sn[i]?)∧(js.foldl (Mid.step F) m).ov=(m.ov||js.any fun i=>(F i).ov)
 | [],m,_=>by simp
 |j::js,m,h=>by
  obtain⟨hj,hn⟩:=List.nodup_cons.1 h;obtain⟨a,b,c,d,e⟩:=steps_at F js (m.step F j) hn;simp only[List.foldl_cons];refine⟨fun i=> ?_,fun i=> ?_,fun i=> ?_,fun i=> ?_,?_⟩
  ·rw[a i];by_cases hij:j=i
   ·subst hij;rw[if_neg hj,if_pos List.mem_cons_self];exact set_self_map m.tr j [] (·++(F j).com)
   ·rw[show(m.step F j).tr[i]?=m.tr[i]?from List.getElem?_set_ne hij];simp only[List.mem_cons,Ne.symm hij,false_or]
  ·rw[b i];by_cases hij:j=i
   ·subst hij;rw[if_neg hj,if_pos List.mem_cons_self];exact set_self_const m.lps j _
   ·rw[show(m.step F j).lps[i]?=m.lps[i]?from List.getElem?_set_ne hij];simp only[List.mem_cons,Ne.symm hij,false_or]
  ·rw[c i];by_cases hij:j=i
   ·subst hij;rw[if_neg hj,if_pos List.mem_cons_self];exact set_self_const m.bx j _
   ·rw[show(m.step F j).bx[i]?=m.bx[i]?from List.getElem?_set_ne hij];simp only[List.mem_cons,Ne.symm hij,false_or]
  ·rw[d i];by_cases hij:j=i
   ·subst hij;rw[if_neg hj,if_pos List.mem_cons_self];exact set_self_const m.sn j _
   ·rw[show(m.step F j).sn[i]?=m.sn[i]?from List.getElem?_set_ne hij];simp only[List.mem_cons,Ne.symm hij,false_or]
  ·rw[e,List.any_cons,←Bool.or_assoc];rfl
theorem ends_range {progs:List (List OpC)} {hz:Int} {p:Ps} {n:Nat} (h:p.outs.length=n):p.ends progs hz=(List.range n).map (ocAt progs hz p):=by
 subst h;refine List.ext_getElem? fun i=> ?_;unfold Ps.ends ocAt;rw[List.getElem?_map,List.getElem?_map];by_cases hi:i<p.outs.length
 ·rw[List.getElem?_range hi,List.getElem?_eq_getElem hi];simp only[Option.map_some,List.getD_eq_getElem?_getD,List.getElem?_eq_getElem hi,Option.getD_some]
 ·rw[List.getElem?_eq_none (by omega),List.getElem?_eq_none (by simp;omega)];rfl
theorem steps_end {progs:List (List OpC)} {hz:Int} {p:Ps} {n:Nat} {prs:List (Int×Int)} (hn:p.outs.length=n) (ht:p.tr.length=n) (hl:p.lps.length=n) (hb:p.bx.length=n) (hnd:(prs.map Prod.fst).Nodup) (h0:∀x∈prs,0≤x.1∧x.1<n) (hall:∀i,i<n→∃x∈prs,x.1=(i:Int)) (ov:Bool):
  prs.foldl (fun m x=>Mid.step (ocAt progs hz p) m x.1.toNat) ⟨p.tr,p.lps,p.bx,List.replicate n [],ov⟩=
   ⟨List.zipWith (·++·) p.tr ((p.ends progs hz).map Oc.com),(p.ends progs hz).map Oc.lp,(p.ends progs hz).map Oc.box,(p.ends progs hz).map Oc.sent,ov||(p.ends progs hz).any Oc.ov⟩:=by
 obtain⟨js,hjs⟩:∃js,prs.map (fun x=>x.1.toNat)=js:=⟨_,rfl⟩;have hf:prs.foldl (fun m x=>Mid.step (ocAt progs hz p) m x.1.toNat) ⟨p.tr,p.lps,p.bx,List.replicate n [],ov⟩=js.foldl (Mid.step (ocAt progs hz p)) ⟨p.tr,p.lps,p.bx,List.replicate n [],ov⟩:=by rw[←hjs,List.foldl_map]
 have hjn:js.Nodup:=by
  rw[←hjs,List.nodup_iff_pairwise_ne,List.pairwise_map];rw[List.nodup_iff_pairwise_ne,List.pairwise_map]at hnd;refine List.Pairwise.imp_of_mem (fun{a b} ha hb h e=>h ?_) hnd;have:=h0 a ha;have:=h0 b hb;omega
 have hin:∀i,i∈js↔i<n:=fun i=>by
  rw[←hjs,List.mem_map];constructor
  ·rintro⟨x,hx,rfl⟩;have:=h0 x hx;omega
  ·intro hi;obtain⟨x,hx,e⟩:=hall i hi;exact⟨x,hx,by omega⟩
 obtain⟨a,b,c,d,e⟩:=steps_at (ocAt progs hz p) js ⟨p.tr,p.lps,p.bx,List.replicate n [],ov⟩ hjn;rw[hf];obtain⟨M,hM⟩:∃M,js.foldl (Mid.step (ocAt progs hz p)) ⟨p.tr,p.lps,p.bx,List.replicate n [],ov⟩=M:=⟨_,rfl⟩;rw[hM]at a b c d e ⊢;rw[ends_range hn];obtain⟨mt,ml,mb,ms,mo⟩:=M;simp only at a b c d e
 congr 1
 ·refine List.ext_getElem? fun i=> ?_;rw[a i,List.getElem?_zipWith,List.getElem?_map,List.getElem?_map];by_cases hi:i<n
  ·rw[if_pos ((hin i).2 hi),List.getElem?_eq_getElem (by omega:i<p.tr.length),List.getElem?_range hi];rfl
  ·rw[if_neg (fun h=>hi ((hin i).1 h)),List.getElem?_eq_none (by omega)]
 ·refine List.ext_getElem? fun i=> ?_;rw[b i,List.getElem?_map,List.getElem?_map];by_cases hi:i<n
  ·rw[if_pos ((hin i).2 hi),List.getElem?_eq_getElem (by omega:i<p.lps.length),List.getElem?_range hi];rfl
  ·rw[if_neg (fun h=>hi ((hin i).1 h)),List.getElem?_eq_none (by omega),List.getElem?_eq_none (by simp;omega)];rfl
 ·refine List.ext_getElem? fun i=> ?_;rw[c i,List.getElem?_map,List.getElem?_map];by_cases hi:i<n
  ·rw[if_pos ((hin i).2 hi),List.getElem?_eq_getElem (by omega:i<p.bx.length),List.getElem?_range hi];rfl
  ·rw[if_neg (fun h=>hi ((hin i).1 h)),List.getElem?_eq_none (by omega),List.getElem?_eq_none (by simp;omega)];rfl
 ·refine List.ext_getElem? fun i=> ?_;rw[d i,List.getElem?_map,List.getElem?_map];by_cases hi:i<n
  ·rw[if_pos ((hin i).2 hi),List.getElem?_replicate,if_pos hi,List.getElem?_range hi];rfl
  ·rw[if_neg (fun h=>hi ((hin i).1 h)),List.getElem?_eq_none (by simp;omega),List.getElem?_eq_none (by simp;omega)];rfl
 ·rw[e,List.any_map]
  congr 1
  rw[Bool.eq_iff_iff,List.any_eq_true,List.any_eq_true];constructor
  ·rintro⟨i,hi,h⟩;exact⟨i,List.mem_range.2 ((hin i).1 hi),h⟩
  ·rintro⟨i,hi,h⟩;exact⟨i,(hin i).2 (List.mem_range.1 hi),h⟩
theorem row_cells {α:Type} {d:Kd α} {enc:α→Value} (hs:d.sz=1) (hK:∀{w x cs},d.K w x cs→cs=[enc x]) {w:World} {A:Option Addr} {n:Nat} {xs:List α} (h:Kd.C d w A n xs):∀b,A=some b→∀j u,(xs.map enc)[j]?=some u→w.cell? (b.add j)=some u:=by
 intro b hb j u hu;rw[List.getElem?_map]at hu;cases hx:xs[j]?with
 |none=>rw[hx]at hu;cases hu
 |some x=>
  rw[hx]at hu;have hn:0<n:=by
   have h1:=h.1;have h2:=(List.getElem?_eq_some_iff.1 hx).1;omega
  obtain⟨ad,e,hc⟩:=h.2.2 hn;obtain⟨c,_,hk,hcell⟩:=hc j x hx;obtain rfl:=hK hk;have h3:=hcell 0 (enc x) rfl;rw[hs,Nat.mul_one,Nat.add_zero]at h3;rw[hb]at e;cases e;cases hu;exact h3
theorem append_clip {α:Type} {d:Kd α} {enc:α→Value} (hsz:d.sz=1) (hK:∀{w x cs},d.K w x cs→cs=[enc x]) (hM:∀w base ok x,d.M w base ok x [enc x]) {P:Program} {ops:Array Oper} {rest:List Oper} {o:Oper} {a:Act} {Q:Exit→Act→World→Prop} {W:World}
  (hg:o.guard=none) (s x:Operand) (t e:TypeId) (z:Value) (bytes:Nat) (ho:o.op= .call {callee:= .builtin .append,args:= #[s,x],argTypes:= #[t,t]}) (ht:P.underlying t=some (.slice e)) (hinfo:(P.info? e).map (fun i=>(i.zero,i.size,i.bytes))=some (some z,1,bytes)) (hz:z.cells.size=1)
  {A:Option Addr} {n:Nat} {xs:List α} (hr:Kd.C d W A n xs) (p:α) (h1:(enc p).oneCell'=true) (hs:a.eval s= .slice A n n) (hx:a.eval x= .slice (some ⟨W.heap.size,0,none⟩) 1 1) (hn:n≤1000000) (hby:bytes≤1000)
  (h:∀v1 w1,d.R e w1 W.heap.size (fun _=>True) v1 (xs++[p])→Below W.heap.size W w1→wpList P ops Q rest (a.put o.dst v1) w1):wpList P ops Q (o::rest) a (W.alloc (.cells #[enc p] e)):=by
 cases hi:P.info? e with
 |none=>rw[hi]at hinfo;cases hinfo
 |some i=>
  rw[hi]at hinfo;simp only[Option.map_some,Option.some.injEq,Prod.mk.injEq]at hinfo;obtain⟨i1,i2,i3⟩:=hinfo;have hlen:xs.length=n:=hr.1;have hb0:=below_alloc (Below.refl W.heap.size W) (.cells #[enc p] e);refine wpList_append_grows _ hg s x t ho e i z 1 bytes ht hi i1 i2 i3 hz (by omega) A n n (xs.map enc) hs (fun hA=> ?_) (by rw[List.length_map];omega) (row_cells hsz hK (Kd.C_below hr hb0)) ⟨W.heap.size,0,none⟩ 1 1 [enc p] hx rfl (fun j u hu=> ?_) (fun u hu=>by rw[List.mem_singleton.1 hu];exact h1) (by omega) (by unfold maxLen;omega) ?_ fun v' w' hown hgrow=> ?_
  ·rcases Nat.eq_zero_or_pos n with h3|h3
   ·exact⟨h3,h3⟩
   ·obtain⟨ad,e1,_⟩:=hr.2.2 h3;rw[hA]at e1;cases e1
  ·cases j with
   |succ j=>simp at hu
   |zero=>
    cases hu;have h9:=World.alloc_heap_new W (.cells #[enc p] e);show World.cell? _ ⟨W.heap.size,0,none⟩=some (enc p);simp only[World.cell?];rw[h9];rfl
  ·have:(n+1)*bytes≤(n+1)*1000:=Nat.mul_le_mul_left _ hby;omega
  ·have hb1:Below W.heap.size W w':=hb0.trans ⟨hgrow.os,hgrow.tape,hgrow.output,hgrow.size,fun k hk=>hgrow.block k (Nat.lt_of_lt_of_le hk hb0.size) (by simp)⟩;refine h v' w' ⟨fun _ _=>trivial,(xs++[p]).map enc,?_,?_⟩ hb1
   ·rw[hsz,List.length_append,List.length_singleton,hlen,List.map_append];exact own_weaken hown (by rw[World.size_alloc];omega)
   ·refine⟨by rw[hsz,List.length_map,Nat.mul_one],fun j q hq=> ?_⟩;rw[hsz,Nat.mul_one];have h5:((xs++[p]).map enc)[j]?=some (enc q):=by rw[List.getElem?_map,hq];rfl
    obtain⟨h6,h7⟩:=List.getElem?_eq_some_iff.1 h5;rw[List.drop_eq_getElem_cons h6,h7];exact hM _ _ _ _
end Go.Proofs.YtfnimdhghglanaaGreat.Hand
end
section
namespace Go.Proofs.YtfnimdhghglanaaGreat.Hand
open Go Go.Proofs.YtfnimdhghglanaaGreatW.PrintLast
section
def subs:List Nat→List (List Nat)
 | []=>[[]]
 |c::l=>subs l++(subs l).map (c::·)
theorem subs_filter (p:Nat→Bool):∀l:List Nat,l.filter p∈subs l
 | []=>by simp[subs]
 |c::l=>by
  have:=subs_filter p l;unfold subs;by_cases h:p c=true
  ·rw[List.filter_cons_of_pos h];exact List.mem_append.2 (.inr (List.mem_map.2 ⟨_,this,rfl⟩))
  ·rw[List.filter_cons_of_neg h];exact List.mem_append.2 (.inl this)
def mark (l:Array Bool) (D:Nat→Bool):Array Bool:=l.mapIdx fun i b=>b||D i
theorem mark_set {l:Array Bool} {D:Nat→Bool} {c:Nat}:(mark l D).setIfInBounds c true=mark l fun i=>i==c||D i:=by
 refine Array.ext (by simp[mark]) fun i h1 h2=> ?_;have hi:i<l.size:=by simpa [mark]using h2
 by_cases hc:c=i
 ·subst hc;simp[mark]
 ·rw[Array.getElem_setIfInBounds (by simpa [mark]using hi),if_neg hc];have:(i==c)=false:=by simpa using fun h=>hc h.symm
  simp[mark,this]
def compB (md:Region.Mode) (ops:Array Oper) (ds:List Nat) (l l':Array Bool) (Cs:List Nat) (deps:Nat→List Nat):Bool:=
 ((subs Cs).all fun D=> !(D.all fun c=>(deps c).all D.contains)||(D.length==Cs.length||((Region.ready md ops (mark l D.contains)).all fun i=>Cs.contains i&& !D.contains i&&(deps i).all D.contains)&& !(Region.ready md ops (mark l D.contains)).isEmpty))&&
 Cs.all (fun c=> !ds.contains c)&&mark l Cs.contains==l'&&mark l (fun _=>false)==l
theorem filter_less {D:Nat→Bool} {i:Nat} (hD:D i=false):∀{Cs:List Nat},Cs.Nodup→i∈Cs→(Cs.filter fun c=> !D c).length=(Cs.filter fun c=> !(c==i||D c)).length+1
 | [],_,hi=>by cases hi
 |c::l,hn,hi=>by
  obtain⟨h1,h2⟩:=List.nodup_cons.1 hn;by_cases hc:c=i
  ·subst hc;rw[List.filter_cons_of_pos (by simp[hD]),List.filter_cons_of_neg (by simp),List.length_cons]
   congr 2
   refine List.filter_congr fun b hb=> ?_;have:(b==c)=false:=by
    rw[beq_eq_false_iff_ne];rintro rfl;exact h1 hb
   rw[this,Bool.false_or]
  ·have ih:=filter_less hD h2 ((List.mem_cons.1 hi).resolve_left fun e=>hc e.symm);have hb:(c==i)=false:=by simpa using hc
   cases hDc:D c with
   |true=>rw[List.filter_cons_of_neg (by simp[hDc]),List.filter_cons_of_neg (by simp[hDc]),ih]
   |false=>rw[List.filter_cons_of_pos (by simp[hDc]),List.filter_cons_of_pos (by simp[hDc,hb]),List.length_cons,List.length_cons,ih]
def upd (x:Nat→Value) (c:Nat) (v:Value):Nat→Value:=fun i=>if i=c then v else x i
section
variable {P:Program} {ops:Array Oper} {Q:Exit→Act→World→Prop} {md:Region.Mode} {S:World→Prop} {ds:List Nat}
def CompStep (P:Program) (ops:Array Oper) (Q:Exit→Act→World→Prop) (deps:Nat→List Nat) (mk:(Nat→Value)→Act) (I:(Nat→Bool)→(Nat→Value)→World→Prop) (c:Nat):Prop:=
 ∃oi N,ops[c]?=some oi∧oi.dst=some N∧(∀x v,(mk x).put (some N) v=mk (upd x c v))∧∀D x w,I D x w→D c=false→(∀d∈deps c,D d=true)→∀K:Act→World→Prop,(∀v w',I (fun i=>i==c||D i) (upd x c v) w'→K ((mk x).put (some N) v) w')→
  if Region.wanted oi (yielded ops (mk x).tmps)=true then Oper.wp P oi (mk x) w K Q else K ((mk x).put (some N) undef) w
theorem comp_ {fuel:Nat} {l:Array Bool} {a:Act} {w:World} (l':Array Bool) (Cs:List Nat) (deps:Nat→List Nat) (mk:(Nat→Value)→Act) (x0:Nat→Value) (I:(Nat→Bool)→(Nat→Value)→World→Prop)
  (hc:compB md ops ds l l' Cs deps=true) (hn':Cs.Nodup) (ha:a=mk x0) (hB:∀D x w,I D x w→S w) (hw:I (fun _=>false) x0 w) (hs:∀c∈Cs,CompStep P ops Q deps mk I c)
  (hk:∀x w',I Cs.contains x w'→wpAnyLast P md ops Q S ds fuel l' (mk x) w'):wpAnyLast P md ops Q S ds (fuel+Cs.length) l a w:=by
 simp only[compB,Bool.and_eq_true,beq_iff_eq]at hc;obtain⟨⟨⟨h1,h2⟩,h3⟩,h4⟩:=hc;have key:∀(k:Nat) (D:Nat→Bool) (x:Nat→Value) (w:World),(Cs.filter fun c=> !D c).length=k→(∀c,D c=true→c∈Cs∧∀d∈deps c,D d=true)→I D x w→wpAnyLast P md ops Q S ds (fuel+k) (mark l D) (mk x) w:=by
  intro k
  induction k with
  |zero=>
   intro D x w hn hD hBw;have hall:∀c∈Cs,D c=true:=fun c hc=>by
    by_cases h:D c=true
    ·exact h
    ·have h5:c∈Cs.filter fun c=> !D c:=List.mem_filter.2 ⟨hc,by simpa using h⟩;rw[List.eq_nil_of_length_eq_zero hn]at h5;cases h5
   have hDe:D=Cs.contains:=by
    funext i
    rw[Bool.eq_iff_iff,List.contains_iff_mem];exact⟨fun h=>(hD i h).1,fun h=>hall i h⟩
   rw[hDe]at hBw ⊢;rw[h3];exact hk x w hBw
  |succ k ih=>
   intro D x w hn hD hBw;have hDe:(fun i=>(Cs.filter D).contains i)=D:=by
    funext i
    rw[Bool.eq_iff_iff,List.contains_iff_mem,List.mem_filter];exact⟨fun h=>h.2,fun h=>⟨(hD i h).1,h⟩⟩
   have h5:=List.all_eq_true.1 h1 _ (subs_filter D Cs);have h6:((Cs.filter D).all fun c=>(deps c).all (Cs.filter D).contains)=true:=List.all_eq_true.2 fun c hc=>List.all_eq_true.2 fun d hd=>by
    rw[show(Cs.filter D).contains d=D d from congrFun hDe d];exact(hD c (List.mem_filter.1 hc).2).2 d hd
   rw[h6]at h5;have hmk:mark l (Cs.filter D).contains=mark l D:=congrArg (mark l) hDe;simp only[Bool.not_true,Bool.false_or,Bool.and_eq_true,Bool.or_eq_true,hmk]at h5;have h9:(Cs.filter D).length+(Cs.filter fun c=> !D c).length=Cs.length:=by
    have:=(filter_split D Cs).length_eq;rw[List.length_append]at this;exact this
   obtain⟨h7,h8⟩:=h5.resolve_left fun h10=>by
    have h11:(Cs.filter D).length=Cs.length:=by simpa using h10
    omega
   have hne:Region.ready md ops (mark l D)≠[]:=fun h10=>by
    rw[h10]at h8;cases h8
   refine⟨fun h=>absurd h hne,fun i hi=> ?_⟩;have h9:=List.all_eq_true.1 h7 i hi;simp only[Bool.and_eq_true]at h9;obtain⟨⟨hiC,hiD⟩,hid⟩:=h9;rw[show(Cs.filter D).contains i=D i from congrFun hDe i]at hiD;have hiC':i∈Cs:=List.contains_iff_mem.1 hiC;have hiD':D i=false:=by simpa using hiD
   have hdd:∀d∈deps i,D d=true:=fun d hd=>by
    have:=List.all_eq_true.1 hid d hd
    rwa [show(Cs.filter D).contains d=D d from congrFun hDe d]at this
   obtain⟨oi,N,ho,hdst,hput,hstep⟩:=hs i hiC';refine wpOp_step ho fun K' hK'=> ?_;rw[hdst];refine hstep D x w hBw hiD' hdd K' fun v w' hB'=>hK' _ _ ⟨fun _ _=>hB _ _ w' hB',?_⟩;rw[hput,mark_set];refine ih _ _ _ ?_ (fun c hc=> ?_) hB'
   ·have:=filter_less hiD' hn' hiC';omega
   ·simp only[Bool.or_eq_true,beq_iff_eq]at hc ⊢;rcases hc with rfl|hc
    ·exact⟨hiC',fun d hd=> .inr (hdd d hd)⟩
    ·exact⟨(hD c hc).1,fun d hd=> .inr ((hD c hc).2 d hd)⟩
 have h0:=key Cs.length (fun _=>false) x0 w (by simp) (fun c hc=>by cases hc) hw;rw[h4]at h0;exact ha▸h0
theorem put_self (a:Act) (t:Tmp):a.put (some t) (a.tmps.getD t undef)=a:=by
 have h:a.tmps.setIfInBounds t (a.tmps.getD t undef)=a.tmps:=by
  refine Array.ext (by simp) fun i h1 h2=> ?_;rw[Array.getElem_setIfInBounds h2]
  split
  ·rename_i e;subst e;simp[h2]
  ·rfl
 show({a with tmps:=a.tmps.setIfInBounds t (a.tmps.getD t undef)}:Act)=a;rw[h]
theorem putAll_self (a:Act):∀L:List (Tmp×Value),(∀q∈L,q.2=a.tmps.getD q.1 undef)→putAll a L=a
 | [],_=>rfl
 |(t,v)::L,h=>by
  have h1:v=a.tmps.getD t undef:=h (t,v) List.mem_cons_self;show putAll (a.put (some t) v) L=a;rw[h1,put_self];exact putAll_self a L fun q hq=>h q (List.mem_cons_of_mem _ hq)
theorem putAll_put (N:Tmp) (v:Value):∀(L:List (Tmp×Value)) (a:Act),(∀q∈L,q.1≠N)→(putAll a L).put (some N) v=putAll (a.put (some N) v) L
 | [],_,_=>rfl
 |(t,u)::L,a,h=>by
  show(putAll (a.put (some t) u) L).put (some N) v=putAll ((a.put (some N) v).put (some t) u) L;rw[putAll_put N v L _ fun q hq=>h q (List.mem_cons_of_mem _ hq),Act.put_comm a u v fun d hd e=>h (t,u) List.mem_cons_self (by cases hd;cases e;rfl)]
theorem put_put (a:Act) (N:Tmp) (u v:Value):(a.put (some N) u).put (some N) v=a.put (some N) v:=by
 show({a with tmps:=(a.tmps.setIfInBounds N u).setIfInBounds N v}:Act)={a with tmps:=a.tmps.setIfInBounds N v};rw[Array.setIfInBounds_setIfInBounds]
abbrev mkA (a:Act) (sl:List (Nat×Tmp)) (x:Nat→Value):Act:=putAll a (sl.map fun p=>(p.2,x p.1))
theorem mkA_put {c:Nat} {N:Tmp} (x:Nat→Value) (v:Value):∀(sl:List (Nat×Tmp)) (a:Act),(sl.map Prod.fst).Nodup→(sl.map Prod.snd).Nodup→(c,N)∈sl→(mkA a sl x).put (some N) v=mkA a sl (upd x c v)
 | [],_,_,_,h=>by cases h
 |(d,t)::sl,a,h1,h2,h=>by
  obtain⟨n1,h1⟩:=List.nodup_cons.1 h1;obtain⟨n2,h2⟩:=List.nodup_cons.1 h2;rcases List.mem_cons.1 h with e|h
  ·cases e;have hu:sl.map (fun p=>(p.2,upd x c v p.1))=sl.map (fun p=>(p.2,x p.1)):=List.map_congr_left fun p hp=>by
    have:p.1≠c:=fun e=>n1 (List.mem_map.2 ⟨p,hp,e⟩);simp[upd,this]
   show(putAll (a.put (some N) (x c)) (sl.map fun p=>(p.2,x p.1))).put (some N) v=putAll (a.put (some N) (upd x c v c)) (sl.map fun p=>(p.2,upd x c v p.1));rw[putAll_put N v _ _ fun q hq=>by
    obtain⟨p,hp,rfl⟩:=List.mem_map.1 hq;exact fun e=>n2 (List.mem_map.2 ⟨p,hp,e⟩),put_put,hu]
   simp[upd]
  ·have hd:d≠c:=fun e=>n1 (List.mem_map.2 ⟨(c,N),h,e.symm⟩);show(mkA (a.put (some t) (x d)) sl x).put (some N) v=mkA (a.put (some t) (upd x c v d)) sl (upd x c v);rw[mkA_put x v sl _ h1 h2 h];simp[upd,hd]
def CompStepA (P:Program) (ops:Array Oper) (Q:Exit→Act→World→Prop) (deps:Nat→List Nat) (a:Act) (sl:List (Nat×Tmp)) (I:(Nat→Bool)→(Nat→Value)→World→Prop) (c:Nat):Prop:=
 ∃oi N,ops[c]?=some oi∧oi.dst=some N∧(c,N)∈sl∧∀D x w,I D x w→D c=false→(∀d∈deps c,D d=true)→∀a',a'=mkA a sl x→∀K:Act→World→Prop,(∀v w',I (fun i=>i==c||D i) (upd x c v) w'→K (a'.put (some N) v) w')→
  if Region.wanted oi (yielded ops a'.tmps)=true then Oper.wp P oi a' w K Q else K (a'.put (some N) undef) w
theorem compA_ {fuel:Nat} {l:Array Bool} {a:Act} {w:World} (l':Array Bool) (sl:List (Nat×Tmp)) (deps:Nat→List Nat) (I:(Nat→Bool)→(Nat→Value)→World→Prop)
  (hc:compB md ops ds l l' (sl.map Prod.fst) deps=true) (h1:(sl.map Prod.fst).Nodup) (h2:(sl.map Prod.snd).Nodup) (hB:∀D x w,I D x w→S w) (hw:∀x,I (fun _=>false) x w) (hs:∀c∈sl.map Prod.fst,CompStepA P ops Q deps a sl I c)
  (hk:∀x w',I (sl.map Prod.fst).contains x w'→wpAnyLast P md ops Q S ds fuel l' (mkA a sl x) w'):wpAnyLast P md ops Q S ds (fuel+sl.length) l a w:=by
 have h0:=comp_ (P:=P) (Q:=Q) (fuel:=fuel) (a:=a) (w:=w) l' (sl.map Prod.fst) deps (mkA a sl) (fun c=>match sl.find? fun p=>p.1==c with|some p=>a.tmps.getD p.2 undef|none=>undef) I hc h1 ?_ hB (hw _) (fun c hc=> ?_) hk
 ·rwa [List.length_map]at h0
 ·refine(putAll_self a _ fun q hq=> ?_).symm;obtain⟨p,hp,rfl⟩:=List.mem_map.1 hq;have:sl.find? (fun q=>q.1==p.1)=some p:=by
   clear hq hs hk hc h2
   induction sl with
   |nil=>cases hp
   |cons q sl ih=>
    obtain⟨n1,h1'⟩:=List.nodup_cons.1 h1;rcases List.mem_cons.1 hp with rfl|hp
    ·simp
    ·have hne:(q.1==p.1)=false:=by
      rw[beq_eq_false_iff_ne];exact fun e=>n1 (List.mem_map.2 ⟨p,hp,e.symm⟩)
     rw[List.find?_cons,hne];exact ih h1' hp
  simp only[this]
 ·obtain⟨oi,N,e1,e2,e3,e4⟩:=hs c hc;exact⟨oi,N,e1,e2,fun x v=>mkA_put x v sl a h1 h2 e3,fun D x w hI hD hd=>e4 D x w hI hD hd _ rfl⟩
end
end
end Go.Proofs.YtfnimdhghglanaaGreat.Hand
end
