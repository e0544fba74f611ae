import Derived.Test.YtihdgoiebmfapaaGreatAbsN
set_option linter.all false
namespace Go.Abs
open Go
variable {P : Program} {k : Nat} {ops : Array Oper} {Q : Exit -> St -> Prop} {ds : List (Option Tmp)} {r : List Oper} {n : Nat} {e : Nat -> AV} {st st' : List Row}
def AO (P:Program)(k:Nat)(ops:Array Oper)(Q:Exit->St->Prop)(ds:List (Option Tmp))(l:List Oper)(s:St):Prop:=
 (∀(j:Nat),l[j]?=ops[ds.length+j]?)->(∀(j:Nat) d,ds[j]?=some d->(ops[j]?).map (·.dst)=some d)->(∀o∈ops.toList,DC s.n o.dst=true)->
  ∀F os a w,Rel F os s a w->∀Q':Exit->Act->World->Prop,(∀e a' w',J4 k Q F os w e a' w'->Q' e a' w')->wpList P ops Q' l a w
theorem AF {s:St}(h:Q .normal s):AO P k ops Q ds [] s:=λ_ _ _ F os a w hr Q' hQ=>hQ _ a w ⟨s,F,os,h,hr,Ext.refl _ _ _ _⟩
theorem OP {s:St}{o:Oper}(h:Iu ds o s (Kp P k o s (AO P k ops Q (ds++[o.dst]) r)) (AO P k ops Q (ds++[o.dst]) r (s.put o.dst .un))):AO P k ops Q ds (o::r) s:=by
 intro hl sJ ph F os a w hr Q' hQ;have ho:ops[ds.length]?=some o:=by have:=hl 0;simpa using this.symm
 have tq:DC s.n o.dst=true:=ph o (by have:=je (l:=ops.toList) (i:=ds.length) (by simpa using ho);exact this);have vd:∀d∈ds,DC s.n d=true:=λd hd=>by
  obtain⟨j,hj⟩:=jz.1 hd;have h1:=sJ j d hj;cases rF:ops[j]? with
  | none=>rw[rF]at h1;cases h1
  | some oj=>
   rw[rF]at h1;simp only[kb,jh]at h1;subst h1;exact ph oj (by have:=je (l:=ops.toList) (i:=j) (by simpa using rF);exact this)
 have sy :∀(j:Nat),r[j]?=ops[(ds++[o.dst]).length+j]?:=λj=>by
  have:=hl (j+1);simp only[kT]at this;rw[this];congr 1;simp;omega
 have sk :∀(j:Nat) d,(ds++[o.dst])[j]?=some d->(ops[j]?).map (·.dst)=some d:=λj d hj=>by
  rcases lH j ds.length with h1|h1|h1
  ·rw[jr h1]at hj;exact sJ j d hj
  ·subst h1;rw[Jg,jh]at hj;rw[ho];simp[hj]
  ·rw[kq (by simp;omega)]at hj;cases hj
 unfold wpList;rcases Zk hr sJ vd h with ⟨hw,h1⟩|⟨hw,h1⟩
 ·rw[jm hw];refine .inl (cZ hr tq h1 ?_);rintro a' w' ⟨s2,F2,os2,uR,hK,hR2,hE2⟩;exact hK sy sk (by rw[uR];exact ph) F2 os2 a' w' hR2 Q' λ_ _ _ hp=>hQ _ _ _ (hp.trans hE2)
 ·rw[jn (by simp[hw])];exact h1 sy sk (by rw[St.gQ];exact ph) F os _ w (hr.un tq) Q' hQ
theorem AR {s s':St}{l:List Oper}(hw:Wk k s s')(h:AO P k ops Q ds l s'):AO P k ops Q ds l s:=λhl sJ ph F os a w hr Q' hQ=>by
 obtain⟨F1,pU,h1,e1⟩:=hw F os a w hr;have hn:s'.n=s.n:=by rw[<- h1.size,<- hr.size]
 exact h hl sJ (by rw[hn];exact ph) F1 pU a w h1 Q' λ_ _ _ hp=>hQ _ _ _ (hp.trans e1)
theorem AH {id:Nat}{s:St}(hd:(ops.toList.all λo=>DC s.n o.dst)=true)(h:AO P k ops Q [] ops.toList s):AW P k (.region id ops false) Q s:=by
 intro F os a w hr;refine wp_region ?_;have e:List.range ops.size=List.range' 0 ops.toList.length:=by rw[List.range_eq_range'];simp
 rw[e,wpOps_eq_wpList (ops:=ops) ops.toList 0 (by simp)];exact h (by simp) (by simp) (λo ho=>jq.1 hd o ho) F os a w hr _ λ_ _ _ hp=>hp
theorem Bv {id:Nat}{s:St}(m:Nat)(hm:P.follows .mixedOrders=true)(hB:Region.lexTailB .any ops m=true)(hd:(ops.toList.all λo=>DC s.n o.dst)=true)
  (h:D6 P [] (ops.toList.take m) (λs'=>AO P k ops Q ((ops.toList.take m).map (·.dst)) (ops.toList.drop m) s') s):AW P k (.region id ops true) Q s:=by
 simp only[Region.lexTailB,kF,jw]at hB;obtain⟨⟨⟨⟨_,hn⟩,hs⟩,hc⟩,hlex⟩:=hB;intro F os a w hr;obtain⟨vA,he1⟩:=hr.drew (k:=k);refine nU hm ?_;have sK:(ops.toList.take m).length=m:=by simp;omega
 have yD:(ops.toList.drop m).length=ops.size-m:=by simp
 have H:=Sj (md:=.any) (ops:=ops) (n:=m) (g:=ops.size-m) (P:=P) (K:=λs'=>AO P k ops Q ((ops.toList.take m).map (·.dst)) (ops.toList.drop m) s')
  (λoS inv i hi qo t ht=>tail_waits hs hc hn inv _ i rfl hi qo t ht) (ops.toList.take m) [] _ s (λj hj=>by
   rw[sK]at hj;rw[kL,jm hj];simp) (by simp) (by simpa using sK) (So _) (by rw[sK];exact hlex) h
 have:=MD (k:=k) (g:=ops.size-m) (N:=s.n) (Q':=J4 k Q F os w) (F0:=F) (os0:=os) (w0:=w) (λo ho=>jq.1 hd o ho) (λoS s' F' os' a' w' hn' hL qF he=>by
  have h1:=hL.2 (λj=>by
    rw[kB,sK,kW];simp) (λj d hj=>by
    simp only[ji,kL]at hj;split at hj
    ·simpa using hj
    ·cases hj) (by rw[hn'];exact λo ho=>jq.1 hd o ho) F' os' a' w' qF (J4 k Q F os w) λ_ _ _ hp=>J4.trans he hp
  have h2:=wpAny_of_seq (md:=.any) (Q':=J4 k Q F os w) (ops.toList.drop m) m oS a' w' (λj=>by simp[kW]) (by rw[yD];exact hL.1) h1;rwa [yD]at h2) _ _ s F os a w.drew rfl H vA he1
 rw[sK,show m+(ops.size-m)=ops.size by omega]at this;exact this
end Go.Abs
