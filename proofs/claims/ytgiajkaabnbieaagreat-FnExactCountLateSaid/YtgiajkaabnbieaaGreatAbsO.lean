import Derived.Test.YtgiajkaabnbieaaGreatAbsN
set_option linter.all false
namespace Go.Abs
open Go
variable {P : Program} {k : Nat} {ops : Array Oper} {Q : Exit -> St -> Prop} {ds : List (Option Tmp)} {r : List Oper} {n : Nat} {e : Nat -> AV} {st st' : List Row}
def AO (P:Program)(k:Nat)(ops:Array Oper)(Q:Exit->St->Prop)(ds:List (Option Tmp))(l:List Oper)(s:St):Prop:=
 (∀(j:Nat),l[j]?=ops[ds.length+j]?)->(∀(j:Nat) d,ds[j]?=some d->(ops[j]?).map (·.dst)=some d)->(∀o∈ops.toList,DY s.n o.dst=true)->
  ∀F os a w,Rel F os s a w->∀Q':Exit->Act->World->Prop,(∀e a' w',PT k Q F os w e a' w'->Q' e a' w')->wpList P ops Q' l a w
theorem AE {s:St}(h:Q .normal s):AO P k ops Q ds [] s:=λ_ _ _ F os a w hr Q' hQ=>hQ _ a w ⟨s,F,os,h,hr,Ext.refl _ _ _ _⟩
theorem O5 {s:St}{o:Oper}(h:J9 ds o s (LU P k o s (AO P k ops Q (ds++[o.dst]) r)) (AO P k ops Q (ds++[o.dst]) r (s.put o.dst .un))):AO P k ops Q ds (o::r) s:=by
 intro hl tr ry F os a w hr Q' hQ;have ho:ops[ds.length]?=some o:=by have:=hl 0;simpa using this.symm
 have wW:DY s.n o.dst=true:=ry o (by have:=mB (l:=ops.toList) (i:=ds.length) (by simpa using ho);exact this);have hdn:∀d∈ds,DY s.n d=true:=λd hd=>by
  obtain⟨j,hj⟩:=ma.1 hd;have h1:=tr j d hj;cases hoj:ops[j]? with
  | none=>rw[hoj]at h1;cases h1
  | some oj=>
   rw[hoj]at h1;simp only[nC,mE]at h1;subst h1;exact ry oj (by have:=mB (l:=ops.toList) (i:=j) (by simpa using hoj);exact this)
 have vR :∀(j:Nat),r[j]?=ops[(ds++[o.dst]).length+j]?:=λj=>by
  have:=hl (j+1);simp only[mz]at this;rw[this];congr 1;simp;omega
 have tx :∀(j:Nat) d,(ds++[o.dst])[j]?=some d->(ops[j]?).map (·.dst)=some d:=λj d hj=>by
  rcases ng j ds.length with h1|h1|h1
  ·rw[mM h1]at hj;exact tr j d hj
  ·subst h1;rw[Je,mE]at hj;rw[ho];simp[hj]
  ·rw[nH (by simp;omega)]at hj;cases hj
 unfold wpList;rcases WL hr tr hdn h with ⟨hw,h1⟩|⟨hw,h1⟩
 ·rw[mI hw];refine .inl (de hr wW h1 ?_);rintro a' w' ⟨s2,F2,os2,zU,hK,hR2,xe⟩;exact hK vR tx (by rw[zU];exact ry) F2 os2 a' w' hR2 Q' λ_ _ _ hp=>hQ _ _ _ (hp.trans xe)
 ·rw[mJ (by simp[hw])];exact h1 vR tx (by rw[St.kD];exact ry) F os _ w (hr.un wW) Q' hQ
theorem Aa {s s':St}{l:List Oper}(hw:Wk k s s')(h:AO P k ops Q ds l s'):AO P k ops Q ds l s:=λhl tr ry F os a w hr Q' hQ=>by
 obtain⟨F1,rj,h1,e1⟩:=hw F os a w hr;have hn:s'.n=s.n:=by rw[<- h1.size,<- hr.size]
 exact h hl tr (by rw[hn];exact ry) F1 rj a w h1 Q' λ_ _ _ hp=>hQ _ _ _ (hp.trans e1)
theorem AF {id:Nat}{s:St}(hd:(ops.toList.all λo=>DY s.n o.dst)=true)(h:AO P k ops Q [] ops.toList s):AW P k (.region id ops false) Q s:=by
 intro F os a w hr;refine wp_region ?_;have e:List.range ops.size=List.range' 0 ops.toList.length:=by rw[List.range_eq_range'];simp
 rw[e,wpOps_eq_wpList (ops:=ops) ops.toList 0 (by simp)];exact h (by simp) (by simp) (λo ho=>mL.1 hd o ho) F os a w hr _ λ_ _ _ hp=>hp
theorem CC {id:Nat}{s:St}(m:Nat)(hm:P.follows .mixedOrders=true)(hB:Region.lexTailB .any ops m=true)(hd:(ops.toList.all λo=>DY s.n o.dst)=true)
  (h:Di P [] (ops.toList.take m) (λs'=>AO P k ops Q ((ops.toList.take m).map (·.dst)) (ops.toList.drop m) s') s):AW P k (.region id ops true) Q s:=by
 simp only[Region.lexTailB,mQ,mX]at hB;obtain⟨⟨⟨⟨_,hn⟩,hs⟩,hc⟩,hlex⟩:=hB;intro F os a w hr;obtain⟨zR,he1⟩:=hr.drew (k:=k);refine wp_region_any hm ?_;have wK:(ops.toList.take m).length=m:=by simp;omega
 have hdl:(ops.toList.drop m).length=ops.size-m:=by simp
 have H:=Tq (md:=.any) (ops:=ops) (n:=m) (g:=ops.size-m) (P:=P) (K:=λs'=>AO P k ops Q ((ops.toList.take m).map (·.dst)) (ops.toList.drop m) s')
  (λqi inv i hi uw t ht=>tail_waits hs hc hn inv _ i rfl hi uw t ht) (ops.toList.take m) [] _ s (λj hj=>by
   rw[wK]at hj;rw[mi,mI hj];simp) (by simp) (by simpa using wK) (Xb _) (by rw[wK];exact hlex) h
 have:=Nb (k:=k) (g:=ops.size-m) (N:=s.n) (Q':=PT k Q F os w) (F0:=F) (os0:=os) (w0:=w) (λo ho=>mL.1 hd o ho) (λqi s' F' os' a' w' hn' hL sx he=>by
  have h1:=hL.2 (λj=>by
    rw[mO,wK,nP];simp) (λj d hj=>by
    simp only[mG,mi]at hj;split at hj
    ·simpa using hj
    ·cases hj) (by rw[hn'];exact λo ho=>mL.1 hd o ho) F' os' a' w' sx (PT k Q F os w) λ_ _ _ hp=>PT.trans he hp
  have h2:=wpAny_of_seq (md:=.any) (Q':=PT k Q F os w) (ops.toList.drop m) m qi a' w' (λj=>by simp[nP]) (by rw[hdl];exact hL.1) h1;rwa [hdl]at h2) _ _ s F os a w.drew rfl H zR he1
 rw[wK,show m+(ops.size-m)=ops.size by omega]at this;exact this
end Go.Abs
