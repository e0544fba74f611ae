import Derived.Test.YtfkncfjpobjbjaaAbsN
set_option linter.all false
namespace Go.Abs
open Go
variable {P : Program} {k : Nat} {ops : Array Oper} {Q : Exit -> St -> Prop} {ds : List (Option Tmp)} {r : List Oper} {n : Nat} {e : Nat -> AV} {st st' : List Row}
def AO (P:Program)(k:Nat)(ops:Array Oper)(Q:Exit->St->Prop)(ds:List (Option Tmp))(l:List Oper)(s:St):Prop:=
 (∀(j:Nat),l[j]?=ops[ds.length+j]?)->(∀(j:Nat) d,ds[j]?=some d->(ops[j]?).map (·.dst)=some d)->(∀o∈ops.toList,Bn s.n o.dst=true)->
  ∀F os a w,Rel F os s a w->∀Q':Exit->Act->World->Prop,(∀e a' w',GM k Q F os w e a' w'->Q' e a' w')->wpList P ops Q' l a w
theorem AE {s:St}(h:Q .normal s):AO P k ops Q ds [] s:=λ_ _ _ F os a w hr Q' hQ=>hQ _ a w ⟨s,F,os,h,hr,BM _ _ _ _⟩
theorem AO.step {s:St}{o:Oper}(h:Da ds o s (D8 P k o s (AO P k ops Q (ds++[o.dst]) r)) (AO P k ops Q (ds++[o.dst]) r (s.put o.dst .un))):AO P k ops Q ds (o::r) s:=by
 intro hl Vf Uf F os a w hr Q' hQ;have ho:ops[ds.length]?=some o:=by have:=hl 0;simpa using this.symm
 have Ym:Bn s.n o.dst=true:=Uf o (by have:=Rk (l:=ops.toList) (i:=ds.length) (by simpa using ho);exact this);have ZC:∀d∈ds,Bn s.n d=true:=λd hd=>by
  obtain⟨j,hj⟩:=R0.1 hd;have h1:=Vf j d hj;cases hoj:ops[j]? with
  | none=>rw[hoj]at h1;cases h1
  | some oj=>
   rw[hoj]at h1;simp only[SC,Rn]at h1;subst h1;exact Uf oj (by have:=Rk (l:=ops.toList) (i:=j) (by simpa using hoj);exact this)
 have Xz :∀(j:Nat),r[j]?=ops[(ds++[o.dst]).length+j]?:=λj=>by
  have:=hl (j+1);simp only[SG]at this;rw[this];congr 1;simp;omega
 have V1 :∀(j:Nat) d,(ds++[o.dst])[j]?=some d->(ops[j]?).map (·.dst)=some d:=λj d hj=>by
  rcases SW j ds.length with h1|h1|h1
  ·rw[Rt h1]at hj;exact Vf j d hj
  ·subst h1;rw[Dv,Rn]at hj;rw[ho];simp[hj]
  ·rw[SE (by simp;omega)]at hj;cases hj
 unfold wpList;rcases HC hr Vf ZC h with ⟨hw,h1⟩|⟨hw,h1⟩
 ·rw[Ry hw];refine .inl (OF hr Ym h1 ?_);rintro a' w' ⟨s2,F2,os2,hn2,hK,hR2,hE2⟩;exact hK Xz V1 (by rw[hn2];exact Uf) F2 os2 a' w' hR2 Q' λ_ _ _ hp=>hQ _ _ _ (hp.trans hE2)
 ·rw[Rx (by simp[hw])];exact h1 Xz V1 (by rw[St.Qd];exact Uf) F os _ w (hr.un Ym) Q' hQ
theorem BG {s s':St}{l:List Oper}(hw:Wk k s s')(h:AO P k ops Q ds l s'):AO P k ops Q ds l s:=λhl Vf Uf F os a w hr Q' hQ=>by
 obtain⟨F1,UQ,h1,e1⟩:=hw F os a w hr;have hn:s'.n=s.n:=by rw[<- h1.size,<- hr.size]
 exact h hl Vf (by rw[hn];exact Uf) F1 UQ a w h1 Q' λ_ _ _ hp=>hQ _ _ _ (hp.trans e1)
theorem AG {id:Nat}{s:St}(hd:(ops.toList.all λo=>Bn s.n o.dst)=true)(h:AO P k ops Q [] ops.toList s):AW P k (.region id ops false) Q s:=by
 intro F os a w hr;refine wp_region ?_;have e:List.range ops.size=List.range' 0 ops.toList.length:=by rw[List.range_eq_range'];simp
 rw[e,wpOps_eq_wpList (ops:=ops) ops.toList 0 (by simp)];exact h (by simp) (by simp) (λo ho=>Ru.1 hd o ho) F os a w hr _ λ_ _ _ hp=>hp
theorem ES {id:Nat}{s:St}(m:Nat)(hm:P.follows .mixedOrders=true)(hB:Region.lexTailB .any ops m=true)(hd:(ops.toList.all λo=>Bn s.n o.dst)=true)
  (h:Bh P [] (ops.toList.take m) (λs'=>AO P k ops Q ((ops.toList.take m).map (·.dst)) (ops.toList.drop m) s') s):AW P k (.region id ops true) Q s:=by
 simp only[Region.lexTailB,SL,SF]at hB;obtain⟨⟨⟨⟨_,hn⟩,hs⟩,hc⟩,hlex⟩:=hB;intro F os a w hr;obtain⟨cl,he1⟩:=hr.drew (k:=k);refine wp_region_any hm ?_;have au:(ops.toList.take m).length=m:=by simp;omega
 have fO:(ops.toList.drop m).length=ops.size-m:=by simp
 have H:=H4 (md:=.any) (ops:=ops) (n:=m) (g:=ops.size-m) (P:=P) (K:=λs'=>AO P k ops Q ((ops.toList.take m).map (·.dst)) (ops.toList.drop m) s')
  (λT3 inv i hi X4 t ht=>tail_waits hs hc hn inv _ i rfl hi X4 t ht) (ops.toList.take m) [] _ s (λj hj=>by
   rw[au]at hj;rw[R6,Ry hj];simp) (by simp) (by simpa using au) (Kl _) (by rw[au];exact hlex) h
 have:=Eo (k:=k) (g:=ops.size-m) (N:=s.n) (Q':=GM k Q F os w) (F0:=F) (os0:=os) (w0:=w) (λo ho=>Ru.1 hd o ho) (λT3 s' F' os' a' w' gk hL VL he=>by
  have h1:=hL.2 (λj=>by
    rw[SB,au,SS];simp) (λj d hj=>by
    simp only[Ro,R6]at hj;split at hj
    ·simpa using hj
    ·cases hj) (by rw[gk];exact λo ho=>Ru.1 hd o ho) F' os' a' w' VL (GM k Q F os w) λ_ _ _ hp=>GM.trans he hp
  have h2:=wpAny_of_seq (md:=.any) (Q':=GM k Q F os w) (ops.toList.drop m) m T3 a' w' (λj=>by simp[SS]) (by rw[fO];exact hL.1) h1;rwa [fO]at h2) _ _ s F os a w.drew rfl H cl he1
 rw[au,show m+(ops.size-m)=ops.size by omega]at this;exact this
end Go.Abs
