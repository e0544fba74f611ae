import Derived.Test.YtpahalfiiahddaaGreatAbsN

namespace Go.Abs
open Go
variable {P : Program} {k : Nat} {ops : Array Oper} {Q : Exit → St → Prop} {ds : List (Option Tmp)} {r : List Oper} {n : Nat} {e : Nat → AV} {st st' : List Row}
def AO (P:Program) (k:Nat) (ops:Array Oper) (Q:Exit→St→Prop) (ds:List (Option Tmp)) (l:List Oper) (s:St):Prop:=
 (∀(j:Nat),l[j]?=ops[ds.length+j]?)→(∀(j:Nat) d,ds[j]?=some d→(ops[j]?).map (·.dst)=some d)→(∀o∈ops.toList,Cu s.n o.dst=true)→
  ∀F os a w,Rel F os s a w→∀Q':Exit→Act→World→Prop,(∀e a' w',KV k Q F os w e a' w'→Q' e a' w')→wpList P ops Q' l a w
theorem AE {s:St} (h:Q .normal s):AO P k ops Q ds [] s:=fun _ _ _ F os a w hr Q' hQ=>hQ _ a w ⟨s,F,os,h,hr,Ext.refl _ _ _ _⟩
theorem AO.step {s:St} {o:Oper} (h:JO ds o s (Jq P k o s (AO P k ops Q (ds ++ [o.dst]) r)) (AO P k ops Q (ds ++ [o.dst]) r (s.put o.dst .un))):AO P k ops Q ds (o :: r) s:=by
 intro hl hds hdst F os a w hr Q' hQ
 have ho:ops[ds.length]?=some o:=by have:=hl 0;simpa using this.symm
 have hod:Cu s.n o.dst=true:=hdst o (by have:=List.mem_of_getElem? (l:=ops.toList) (i:=ds.length) (by simpa using ho);exact this)
 have hdn :∀d∈ds,Cu s.n d=true:=fun d hd=>by
  obtain⟨j,hj⟩:=List.mem_iff_getElem?.1 hd
  have h1:=hds j d hj
  cases hoj:ops[j]? with
  | none=>rw[hoj] at h1;cases h1
  | some oj=>
   rw[hoj] at h1
   simp only[Option.map_some,Option.some.injEq] at h1
   subst h1
   exact hdst oj (by have:=List.mem_of_getElem? (l:=ops.toList) (i:=j) (by simpa using hoj);exact this)
 have hl' :∀(j:Nat),r[j]?=ops[(ds ++ [o.dst]).length+j]?:=fun j=>by
  have:=hl (j+1)
  simp only[List.getElem?_cons_succ] at this
  rw[this];congr 1;simp;omega
 have hds' :∀(j:Nat) d,(ds ++ [o.dst])[j]?=some d→(ops[j]?).map (·.dst)=some d:=fun j d hj=>by
  rcases Nat.lt_trichotomy j ds.length with h1 | h1 | h1
  ·rw[List.getElem?_append_left h1] at hj;exact hds j d hj
  ·subst h1;rw[Hg,Option.some.injEq] at hj;rw[ho];simp[hj]
  ·rw[List.getElem?_eq_none (by simp;omega)] at hj;cases hj
 unfold wpList
 rcases X9 hr hds hdn h with ⟨hw,h1⟩ | ⟨hw,h1⟩
 ·rw[if_pos hw]
  refine .inl (aX hr hod h1 ?_)
  rintro a' w' ⟨s2,F2,os2,hn2,hK,hR2,hE2⟩
  exact hK hl' hds' (by rw[hn2];exact hdst) F2 os2 a' w' hR2 Q' fun _ _ _ hp=>hQ _ _ _ (hp.trans hE2)
 ·rw[if_neg (by simp[hw])]
  exact h1 hl' hds' (by rw[St.dm];exact hdst) F os _ w (hr.un hod) Q' hQ
theorem Af {s s':St} {l:List Oper} (hw:Wk k s s') (h:AO P k ops Q ds l s'):AO P k ops Q ds l s:=fun hl hds hdst F os a w hr Q' hQ=>by
 obtain⟨F1,os1,h1,e1⟩:=hw F os a w hr
 have hn:s'.n=s.n:=by rw[← h1.size,← hr.size]
 exact h hl hds (by rw[hn];exact hdst) F1 os1 a w h1 Q' fun _ _ _ hp=>hQ _ _ _ (hp.trans e1)
theorem AF {id:Nat} {s:St} (hd:(ops.toList.all fun o=>Cu s.n o.dst)=true) (h:AO P k ops Q [] ops.toList s):AW P k (.region id ops false) Q s:=by
 intro F os a w hr
 refine wp_region ?_
 have e:List.range ops.size=List.range' 0 ops.toList.length:=by rw[List.range_eq_range'];simp
 rw[e,wpOps_eq_wpList (ops:=ops) ops.toList 0 (by simp)]
 exact h (by simp) (by simp) (fun o ho=>List.all_eq_true.1 hd o ho) F os a w hr _ fun _ _ _ hp=>hp
theorem Bi {id:Nat} {s:St} (m:Nat) (hm:P.follows .mixedOrders=true) (hB:Region.lexTailB .any ops m=true) (hd:(ops.toList.all fun o=>Cu s.n o.dst)=true)
  (h:DF P [] (ops.toList.take m) (fun s'=>AO P k ops Q ((ops.toList.take m).map (·.dst)) (ops.toList.drop m) s') s):AW P k (.region id ops true) Q s:=by
 simp only[Region.lexTailB,Bool.and_eq_true,decide_eq_true_eq] at hB
 obtain⟨⟨⟨⟨_,hn⟩,hs⟩,hc⟩,hlex⟩:=hB
 intro F os a w hr
 obtain⟨hr1,he1⟩:=hr.drew (k:=k)
 refine wp_region_any hm ?_
 have htl:(ops.toList.take m).length=m:=by simp;omega
 have hdl:(ops.toList.drop m).length=ops.size - m:=by simp
 have H:=Ri (md:=.any) (ops:=ops) (n:=m) (g:=ops.size - m) (P:=P) (K:=fun s'=>AO P k ops Q ((ops.toList.take m).map (·.dst)) (ops.toList.drop m) s')
  (fun listed inv i hi hun t ht=>tail_waits hs hc hn inv _ i rfl hi hun t ht) (ops.toList.take m) [] _ s (fun j hj=>by
   rw[htl] at hj;rw[List.getElem?_take,if_pos hj];simp) (by simp) (by simpa using htl) (Vi _) (by rw[htl];exact hlex) h
 have:=Ku (k:=k) (g:=ops.size - m) (N:=s.n) (Q':=KV k Q F os w) (F0:=F) (os0:=os) (w0:=w) (fun o ho=>List.all_eq_true.1 hd o ho) (fun listed s' F' os' a' w' hn' hL hr' he=>by
  have h1:=hL.2 (fun j=>by
    rw[List.length_map,htl,List.getElem?_drop];simp) (fun j d hj=>by
    simp only[List.getElem?_map,List.getElem?_take] at hj
    split at hj
    ·simpa using hj
    ·cases hj) (by rw[hn'];exact fun o ho=>List.all_eq_true.1 hd o ho) F' os' a' w' hr' (KV k Q F os w) fun _ _ _ hp=>KV.trans he hp
  have h2:=wpAny_of_seq (md:=.any) (Q':=KV k Q F os w) (ops.toList.drop m) m listed a' w' (fun j=>by simp[List.getElem?_drop]) (by rw[hdl];exact hL.1) h1
  rwa [hdl] at h2) _ _ s F os a w.drew rfl H hr1 he1
 rw[htl,show m+(ops.size - m)=ops.size by omega] at this
 exact this
end Go.Abs

