import Derived.Test.YtihdgoiebmfapaaGreatAbsN
set_option linter.all false
namespace Go.Abs
open Go
variable {P : Program} {k : Nat} {ops : Array Oper} {Q : Exit -> St -> Prop} {ds : List (Option Tmp)} {r : List Oper} {n : Nat} {e : Nat -> AV} {st st' : List Row}
def AO (P:Program)(k:Nat)(ops:Array Oper)(Q:Exit->St->Prop)(ds:List (Option Tmp))(l:List Oper)(s:St):Prop:=
 (∀(j:Nat),l[j]?=ops[ds.length+j]?)->(∀(j:Nat) d,ds[j]?=some d->(ops[j]?).map (·.dst)=some d)->(∀o∈ops.toList,Cy s.n o.dst=true)->
  ∀F os a w,Rel F os s a w->∀Q':Exit->Act->World->Prop,(∀e a' w',K0 k Q F os w e a' w'->Q' e a' w')->wpList P ops Q' l a w
theorem AB {s:St}(h:Q .normal s):AO P k ops Q ds [] s:=λ_ _ _ F os a w hr Q' hQ=>hQ _ a w ⟨s,F,os,h,hr,Ext.refl _ _ _ _⟩
theorem AO.step {s:St}{o:Oper}(h:Jf ds o s (Lp P k o s (AO P k ops Q (ds++[o.dst]) r)) (AO P k ops Q (ds++[o.dst]) r (s.put o.dst .un))):AO P k ops Q ds (o::r) s:=by
 intro hl yB vL F os a w hr Q' hQ;have ho:ops[ds.length]?=some o:=by have:=hl 0;simpa using this.symm
 have zU:Cy s.n o.dst=true:=vL o (by have:=ov (l:=ops.toList) (i:=ds.length) (by simpa using ho);exact this);have hdn:∀d∈ds,Cy s.n d=true:=λd hd=>by
  obtain⟨j,hj⟩:=pY.1 hd;have h1:=yB j d hj;cases xK:ops[j]? with
  |none=>rw[xK]at h1;cases h1
  |some oj=>
   rw[xK]at h1;simp only[qF,pC]at h1;subst h1;exact vL oj (by have:=ov (l:=ops.toList) (i:=j) (by simpa using xK);exact this)
 have yb :∀(j:Nat),r[j]?=ops[(ds++[o.dst]).length+j]?:=λj=>by
  have:=hl (j+1);simp only[py]at this;rw[this];congr 1;simp;omega
 have yD :∀(j:Nat) d,(ds++[o.dst])[j]?=some d->(ops[j]?).map (·.dst)=some d:=λj d hj=>by
  rcases qk j ds.length with h1|h1|h1
  .rw[pM h1]at hj;exact yB j d hj
  .subst h1;rw[J1,pC]at hj;rw[ho];simp[hj]
  .rw[qA (by simp;omega)]at hj;cases hj
 unfold wpList;rcases eL hr yB hdn h with ⟨hw,h1⟩|⟨hw,h1⟩
 .rw[pI hw];refine .inl (iX hr zU h1 ?_);rintro a' w' ⟨s2,F2,os2,hn2,hK,hR2,hE2⟩;exact hK yb yD (by rw[hn2];exact vL) F2 os2 a' w' hR2 Q' λ_ _ _ hp=>hQ _ _ _ (hp.trans hE2)
 .rw[pJ (by simp[hw])];exact h1 yb yD (by rw[St.nB];exact vL) F os _ w (hr.un zU) Q' hQ
theorem As {s s':St}{l:List Oper}(hw:Wk k s s')(h:AO P k ops Q ds l s'):AO P k ops Q ds l s:=λhl yB vL F os a w hr Q' hQ=>by
 obtain⟨F1,vD,h1,e1⟩:=hw F os a w hr;have hn:s'.n=s.n:=by rw[<- h1.size,<- hr.size]
 exact h hl yB (by rw[hn];exact vL) F1 vD a w h1 Q' λ_ _ _ hp=>hQ _ _ _ (hp.trans e1)
theorem AF {id:Nat}{s:St}(hd:(ops.toList.all λo=>Cy s.n o.dst)=true)(h:AO P k ops Q [] ops.toList s):AW P k (.region id ops false) Q s:=by
 intro F os a w hr;refine wp_region ?_;have e:List.range ops.size=List.range' 0 ops.toList.length:=by rw[List.range_eq_range'];simp
 rw[e,wpOps_eq_wpList (ops:=ops) ops.toList 0 (by simp)];exact h (by simp) (by simp) (λo ho=>pG.1 hd o ho) F os a w hr _ λ_ _ _ hp=>hp
theorem CG {id:Nat}{s:St}(m:Nat)(hm:P.follows .mixedOrders=true)(hB:Region.lexTailB .any ops m=true)(hd:(ops.toList.all λo=>Cy s.n o.dst)=true)
  (h:EK P [] (ops.toList.take m) (λs'=>AO P k ops Q ((ops.toList.take m).map (·.dst)) (ops.toList.drop m) s') s):AW P k (.region id ops true) Q s:=by
 simp only[Region.lexTailB,pZ,pP]at hB;obtain⟨⟨⟨⟨_,hn⟩,hs⟩,hc⟩,hlex⟩:=hB;intro F os a w hr;obtain⟨hr1,he1⟩:=hr.drew (k:=k);refine tA hm ?_;have yi:(ops.toList.take m).length=m:=by simp;omega
 have hdl:(ops.toList.drop m).length=ops.size-m:=by simp
 have H:=VF (md:=.any) (ops:=ops) (n:=m) (g:=ops.size-m) (P:=P) (K:=λs'=>AO P k ops Q ((ops.toList.take m).map (·.dst)) (ops.toList.drop m) s')
  (λtm inv i hi we t ht=>tail_waits hs hc hn inv _ i rfl hi we t ht) (ops.toList.take m) [] _ s (λj hj=>by
   rw[yi]at hj;rw[pn,pI hj];simp) (by simp) (by simpa using yi) (U6 _) (by rw[yi];exact hlex) h
 have:=NJ (k:=k) (g:=ops.size-m) (N:=s.n) (Q':=K0 k Q F os w) (F0:=F) (os0:=os) (w0:=w) (λo ho=>pG.1 hd o ho) (λtm s' F' os' a' w' hn' hL vg he=>by
  have h1:=hL.2 (λj=>by
    rw[pR,yi,qH];simp) (λj d hj=>by
    simp only[pB,pn]at hj;split at hj
    .simpa using hj
    .cases hj) (by rw[hn'];exact λo ho=>pG.1 hd o ho) F' os' a' w' vg (K0 k Q F os w) λ_ _ _ hp=>K0.trans he hp
  have h2:=wpAny_of_seq (md:=.any) (Q':=K0 k Q F os w) (ops.toList.drop m) m tm a' w' (λj=>by simp[qH]) (by rw[hdl];exact hL.1) h1;rwa [hdl]at h2) _ _ s F os a w.drew rfl H hr1 he1
 rw[yi,show m+(ops.size-m)=ops.size by omega]at this;exact this
end Go.Abs
