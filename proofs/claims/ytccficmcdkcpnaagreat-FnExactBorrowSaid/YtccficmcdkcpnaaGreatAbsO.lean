import Derived.Test.YtccficmcdkcpnaaGreatAbsN
set_option linter.all false
namespace Go.Abs
open Go
variable {P : Program} {k : Nat} {ops : Array Oper} {Q : Exit -> St -> Prop} {ds : List (Option Tmp)} {r : List Oper} {n : Nat} {e : Nat -> AV} {st st' : List Row}
def AO (P:Program)(k:Nat)(ops:Array Oper)(Q:Exit->St->Prop)(ds:List (Option Tmp))(l:List Oper)(s:St):Prop:=
 (∀(j:Nat),l[j]?=ops[ds.length+j]?)->(∀(j:Nat) d,ds[j]?=some d->(ops[j]?).map (·.dst)=some d)->(∀o∈ops.toList,Ce s.n o.dst=true)->
  ∀F os a w,Rel F os s a w->∀Q':Exit->Act->World->Prop,(∀e a' w',OY k Q F os w e a' w'->Q' e a' w')->wpList P ops Q' l a w
theorem AE {s:St}(h:Q .normal s):AO P k ops Q ds [] s:=λ_ _ _ F os a w hr Q' hQ=>hQ _ a w ⟨s,F,os,h,hr,Ext.refl _ _ _ _⟩
theorem N3 {s:St}{o:Oper}(h:JJ ds o s (KR P k o s (AO P k ops Q (ds++[o.dst]) r)) (AO P k ops Q (ds++[o.dst]) r (s.put o.dst .un))):AO P k ops Q ds (o::r) s:=by
 intro hl ug sT F os a w hr Q' hQ;have ho:ops[ds.length]?=some o:=by have:=hl 0;simpa using this.symm
 have wm:Ce s.n o.dst=true:=sT o (by have:=mS (l:=ops.toList) (i:=ds.length) (by simpa using ho);exact this);have hdn:∀d∈ds,Ce s.n d=true:=λd hd=>by
  obtain⟨j,hj⟩:=nC.1 hd;have h1:=ug j d hj;cases hoj:ops[j]? with
  | none=>rw[hoj]at h1;cases h1
  | some oj=>
   rw[hoj]at h1;simp only[nS,mU]at h1;subst h1;exact sT oj (by have:=mS (l:=ops.toList) (i:=j) (by simpa using hoj);exact this)
 have tY :∀(j:Nat),r[j]?=ops[(ds++[o.dst]).length+j]?:=λj=>by
  have:=hl (j+1);simp only[nV]at this;rw[this];congr 1;simp;omega
 have uw :∀(j:Nat) d,(ds++[o.dst])[j]?=some d->(ops[j]?).map (·.dst)=some d:=λj d hj=>by
  rcases oI j ds.length with h1|h1|h1
  ·rw[mg h1]at hj;exact ug j d hj
  ·subst h1;rw[IL,mU]at hj;rw[ho];simp[hj]
  ·rw[nG (by simp;omega)]at hj;cases hj
 unfold wpList;rcases VV hr ug hdn h with ⟨hw,h1⟩|⟨hw,h1⟩
 ·rw[me hw];refine .inl (dA hr wm h1 ?_);rintro a' w' ⟨s2,F2,os2,hn2,hK,hR2,xb⟩;exact hK tY uw (by rw[hn2];exact sT) F2 os2 a' w' hR2 Q' λ_ _ _ hp=>hQ _ _ _ (hp.trans xb)
 ·rw[mj (by simp[hw])];exact h1 tY uw (by rw[St.kE];exact sT) F os _ w (hr.un wm) Q' hQ
theorem Aa {s s':St}{l:List Oper}(hw:Wk k s s')(h:AO P k ops Q ds l s'):AO P k ops Q ds l s:=λhl ug sT F os a w hr Q' hQ=>by
 obtain⟨F1,sC,h1,e1⟩:=hw F os a w hr;have hn:s'.n=s.n:=by rw[<- h1.size,<- hr.size]
 exact h hl ug (by rw[hn];exact sT) F1 sC a w h1 Q' λ_ _ _ hp=>hQ _ _ _ (hp.trans e1)
theorem AG {id:Nat}{s:St}(hd:(ops.toList.all λo=>Ce s.n o.dst)=true)(h:AO P k ops Q [] ops.toList s):AW P k (.region id ops false) Q s:=by
 intro F os a w hr;refine wp_region ?_;have e:List.range ops.size=List.range' 0 ops.toList.length:=by rw[List.range_eq_range'];simp
 rw[e,wpOps_eq_wpList (ops:=ops) ops.toList 0 (by simp)];exact h (by simp) (by simp) (λo ho=>ma.1 hd o ho) F os a w hr _ λ_ _ _ hp=>hp
theorem B3 {id:Nat}{s:St}(m:Nat)(hm:P.follows .mixedOrders=true)(hB:Region.lexTailB .any ops m=true)(hd:(ops.toList.all λo=>Ce s.n o.dst)=true)
  (h:DI P [] (ops.toList.take m) (λs'=>AO P k ops Q ((ops.toList.take m).map (·.dst)) (ops.toList.drop m) s') s):AW P k (.region id ops true) Q s:=by
 simp only[Region.lexTailB,mh,mv]at hB;obtain⟨⟨⟨⟨_,hn⟩,hs⟩,hc⟩,hlex⟩:=hB;intro F os a w hr;obtain⟨zE,he1⟩:=hr.drew (k:=k);refine wp_region_any hm ?_;have wU:(ops.toList.take m).length=m:=by simp;omega
 have hdl:(ops.toList.drop m).length=ops.size-m:=by simp
 have H:=Th (md:=.any) (ops:=ops) (n:=m) (g:=ops.size-m) (P:=P) (K:=λs'=>AO P k ops Q ((ops.toList.take m).map (·.dst)) (ops.toList.drop m) s')
  (λrF inv i hi vQ t ht=>tail_waits hs hc hn inv _ i rfl hi vQ t ht) (ops.toList.take m) [] _ s (λj hj=>by
   rw[wU]at hj;rw[nJ,me hj];simp) (by simp) (by simpa using wU) (XB _) (by rw[wU];exact hlex) h
 have:=Lx (k:=k) (g:=ops.size-m) (N:=s.n) (Q':=OY k Q F os w) (F0:=F) (os0:=os) (w0:=w) (λo ho=>ma.1 hd o ho) (λrF s' F' os' a' w' hn' hL sw he=>by
  have h1:=hL.2 (λj=>by
    rw[mf,wU,ng];simp) (λj d hj=>by
    simp only[mX,nJ]at hj;split at hj
    ·simpa using hj
    ·cases hj) (by rw[hn'];exact λo ho=>ma.1 hd o ho) F' os' a' w' sw (OY k Q F os w) λ_ _ _ hp=>OY.trans he hp
  have h2:=wpAny_of_seq (md:=.any) (Q':=OY k Q F os w) (ops.toList.drop m) m rF a' w' (λj=>by simp[ng]) (by rw[hdl];exact hL.1) h1;rwa [hdl]at h2) _ _ s F os a w.drew rfl H zE he1
 rw[wU,show m+(ops.size-m)=ops.size by omega]at this;exact this
end Go.Abs
