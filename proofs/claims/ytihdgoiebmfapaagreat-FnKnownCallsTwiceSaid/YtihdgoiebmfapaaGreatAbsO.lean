import Derived.Test.YtihdgoiebmfapaaGreatAbsN
set_option linter.all false
namespace Go.Abs
open Go
variable {P : Program} {k : Nat} {ops : Array Oper} {Q : Exit -> St -> Prop} {ds : List (Option Tmp)} {r : List Oper} {n : Nat} {e : Nat -> AV} {st st' : List Row}
def AO (P:Program)(k:Nat)(ops:Array Oper)(Q:Exit->St->Prop)(ds:List (Option Tmp))(l:List Oper)(s:St):Prop:=
 (∀(j:Nat),l[j]?=ops[ds.length+j]?)->(∀(j:Nat) d,ds[j]?=some d->(ops[j]?).map (·.dst)=some d)->(∀o∈ops.toList,DM s.n o.dst=true)->
  ∀F os a w,Rel F os s a w->∀Q':Exit->Act->World->Prop,(∀e a' w',KF k Q F os w e a' w'->Q' e a' w')->wpList P ops Q' l a w
theorem AF {s:St}(h:Q .normal s):AO P k ops Q ds [] s:=λ_ _ _ F os a w hr Q' hQ=>hQ _ a w ⟨s,F,os,h,hr,Ext.refl _ _ _ _⟩
theorem N5 {s:St}{o:Oper}(h:IT ds o s (KN P k o s (AO P k ops Q (ds++[o.dst]) r)) (AO P k ops Q (ds++[o.dst]) r (s.put o.dst .un))):AO P k ops Q ds (o::r) s:=by
 intro hl ou mO F os a w hr Q' hQ;have ho:ops[ds.length]?=some o:=by have:=hl 0;simpa using this.symm
 have qZ:DM s.n o.dst=true:=mO o (by have:=fc (l:=ops.toList) (i:=ds.length) (by simpa using ho);exact this);have rY:∀d∈ds,DM s.n d=true:=λd hd=>by
  obtain⟨j,hj⟩:=gG.1 hd;have h1:=ou j d hj;cases nk:ops[j]? with
  | none=>rw[nk]at h1;cases h1
  | some oj=>
   rw[nk]at h1;simp only[gu,ff]at h1;subst h1;exact mO oj (by have:=fc (l:=ops.toList) (i:=j) (by simpa using nk);exact this)
 have oa :∀(j:Nat),r[j]?=ops[(ds++[o.dst]).length+j]?:=λj=>by
  have:=hl (j+1);simp only[gZ]at this;rw[this];congr 1;simp;omega
 have pU :∀(j:Nat) d,(ds++[o.dst])[j]?=some d->(ops[j]?).map (·.dst)=some d:=λj d hj=>by
  rcases iH j ds.length with h1|h1|h1
  ·rw[ft h1]at hj;exact ou j d hj
  ·subst h1;rw[JR,ff]at hj;rw[ho];simp[hj]
  ·rw[hH (by simp;omega)]at hj;cases hj
 unfold wpList;rcases Yq hr ou rY h with ⟨hw,h1⟩|⟨hw,h1⟩
 ·rw[fq hw];refine .inl (Z6 hr qZ h1 ?_);rintro a' w' ⟨s2,F2,os2,zJ,hK,hR2,hE2⟩;exact hK oa pU (by rw[zJ];exact mO) F2 os2 a' w' hR2 Q' λ_ _ _ hp=>hQ _ _ _ (hp.trans hE2)
 ·rw[fr (by simp[hw])];exact h1 oa pU (by rw[St.dJ];exact mO) F os _ w (hr.un qZ) Q' hQ
theorem AR {s s':St}{l:List Oper}(hw:Wk k s s')(h:AO P k ops Q ds l s'):AO P k ops Q ds l s:=λhl ou mO F os a w hr Q' hQ=>by
 obtain⟨F1,mF,h1,e1⟩:=hw F os a w hr;have hn:s'.n=s.n:=by rw[<- h1.size,<- hr.size]
 exact h hl ou (by rw[hn];exact mO) F1 mF a w h1 Q' λ_ _ _ hp=>hQ _ _ _ (hp.trans e1)
theorem AI {id:Nat}{s:St}(hd:(ops.toList.all λo=>DM s.n o.dst)=true)(h:AO P k ops Q [] ops.toList s):AW P k (.region id ops false) Q s:=by
 intro F os a w hr;refine wp_region ?_;have e:List.range ops.size=List.range' 0 ops.toList.length:=by rw[List.range_eq_range'];simp
 rw[e,wpOps_eq_wpList (ops:=ops) ops.toList 0 (by simp)];exact h (by simp) (by simp) (λo ho=>fk.1 hd o ho) F os a w hr _ λ_ _ _ hp=>hp
theorem Cz {id:Nat}{s:St}(m:Nat)(hm:P.follows .mixedOrders=true)(hB:Region.lexTailB .any ops m=true)(hd:(ops.toList.all λo=>DM s.n o.dst)=true)
  (h:Dy P [] (ops.toList.take m) (λs'=>AO P k ops Q ((ops.toList.take m).map (·.dst)) (ops.toList.drop m) s') s):AW P k (.region id ops true) Q s:=by
 simp only[Region.lexTailB,gN,fy]at hB;obtain⟨⟨⟨⟨_,hn⟩,hs⟩,hc⟩,hlex⟩:=hB;intro F os a w hr;obtain⟨rq,he1⟩:=hr.drew (k:=k);refine kG hm ?_;have pM:(ops.toList.take m).length=m:=by simp;omega
 have tk:(ops.toList.drop m).length=ops.size-m:=by simp
 have H:=Rj (md:=.any) (ops:=ops) (n:=m) (g:=ops.size-m) (P:=P) (K:=λs'=>AO P k ops Q ((ops.toList.take m).map (·.dst)) (ops.toList.drop m) s')
  (λlK inv i hi nV t ht=>tail_waits hs hc hn inv _ i rfl hi nV t ht) (ops.toList.take m) [] _ s (λj hj=>by
   rw[pM]at hj;rw[gR,fq hj];simp) (by simp) (by simpa using pM) (SA _) (by rw[pM];exact hlex) h
 have:=Lw (k:=k) (g:=ops.size-m) (N:=s.n) (Q':=KF k Q F os w) (F0:=F) (os0:=os) (w0:=w) (λo ho=>fk.1 hd o ho) (λlK s' F' os' a' w' wq hL mc he=>by
  have h1:=hL.2 (λj=>by
    rw[gI,pM,gh];simp) (λj d hj=>by
    simp only[fg,gR]at hj;split at hj
    ·simpa using hj
    ·cases hj) (by rw[wq];exact λo ho=>fk.1 hd o ho) F' os' a' w' mc (KF k Q F os w) λ_ _ _ hp=>KF.trans he hp
  have h2:=wpAny_of_seq (md:=.any) (Q':=KF k Q F os w) (ops.toList.drop m) m lK a' w' (λj=>by simp[gh]) (by rw[tk];exact hL.1) h1;rwa [tk]at h2) _ _ s F os a w.drew rfl H rq he1
 rw[pM,show m+(ops.size-m)=ops.size by omega]at this;exact this
end Go.Abs
