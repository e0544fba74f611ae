import Derived.Test.YtfkncfjpobjbjaaAbsN
set_option linter.all false
namespace Go.Abs
open Go
variable {P : Program} {k : Nat} {ops : Array Oper} {Q : Exit -> St -> Prop} {ds : List (Option Tmp)} {r : List Oper} {n : Nat} {e : Nat -> AV} {st st' : List Row}
def AO (P:Program)(k:Nat)(ops:Array Oper)(Q:Exit->St->Prop)(ds:List (Option Tmp))(l:List Oper)(s:St):Prop:=
 (∀(j:Nat),l[j]?=ops[ds.length+j]?)->(∀(j:Nat) d,ds[j]?=some d->(ops[j]?).map (·.dst)=some d)->(∀o∈ops.toList,Bo s.n o.dst=true)->
  ∀F os a w,Rel F os s a w->∀Q':Exit->Act->World->Prop,(∀e a' w',Ge k Q F os w e a' w'->Q' e a' w')->wpList P ops Q' l a w
theorem AD {s:St}(h:Q .normal s):AO P k ops Q ds [] s:=λ_ _ _ F os a w hr Q' hQ=>hQ _ a w ⟨s,F,os,h,hr,BN _ _ _ _⟩
theorem AO.step {s:St}{o:Oper}(h:Dc ds o s (D8 P k o s (AO P k ops Q (ds++[o.dst]) r)) (AO P k ops Q (ds++[o.dst]) r (s.put o.dst .un))):AO P k ops Q ds (o::r) s:=by
 intro hl Vk Uj F os a w hr Q' hQ;have ho:ops[ds.length]?=some o:=by have:=hl 0;simpa using this.symm
 have Yr:Bo s.n o.dst=true:=Uj o (by have:=Ro (l:=ops.toList) (i:=ds.length) (by simpa using ho);exact this);have ZG:∀d∈ds,Bo s.n d=true:=λd hd=>by
  obtain⟨j,hj⟩:=R5.1 hd;have h1:=Vk j d hj;cases hoj:ops[j]? with
  | none=>rw[hoj]at h1;cases h1
  | some oj=>
   rw[hoj]at h1;simp only[SG,Rr]at h1;subst h1;exact Uj oj (by have:=Ro (l:=ops.toList) (i:=j) (by simpa using hoj);exact this)
 have X4 :∀(j:Nat),r[j]?=ops[(ds++[o.dst]).length+j]?:=λj=>by
  have:=hl (j+1);simp only[SK]at this;rw[this];congr 1;simp;omega
 have V5 :∀(j:Nat) d,(ds++[o.dst])[j]?=some d->(ops[j]?).map (·.dst)=some d:=λj d hj=>by
  rcases Sb j ds.length with h1|h1|h1
  ·rw[Rx h1]at hj;exact Vk j d hj
  ·subst h1;rw[Ds,Rr]at hj;rw[ho];simp[hj]
  ·rw[SI (by simp;omega)]at hj;cases hj
 unfold wpList;rcases HM hr Vk ZG h with ⟨hw,h1⟩|⟨hw,h1⟩
 ·rw[R1 hw];refine .inl (OQ hr Yr h1 ?_);rintro a' w' ⟨s2,F2,os2,hn2,hK,hR2,hE2⟩;exact hK X4 V5 (by rw[hn2];exact Uj) F2 os2 a' w' hR2 Q' λ_ _ _ hp=>hQ _ _ _ (hp.trans hE2)
 ·rw[R0 (by simp[hw])];exact h1 X4 V5 (by rw[St.QZ];exact Uj) F os _ w (hr.un Yr) Q' hQ
theorem A0 {s s':St}{l:List Oper}(hw:Wk k s s')(h:AO P k ops Q ds l s'):AO P k ops Q ds l s:=λhl Vk Uj F os a w hr Q' hQ=>by
 obtain⟨F1,UU,h1,e1⟩:=hw F os a w hr;have hn:s'.n=s.n:=by rw[<- h1.size,<- hr.size]
 exact h hl Vk (by rw[hn];exact Uj) F1 UU a w h1 Q' λ_ _ _ hp=>hQ _ _ _ (hp.trans e1)
theorem AG {id:Nat}{s:St}(hd:(ops.toList.all λo=>Bo s.n o.dst)=true)(h:AO P k ops Q [] ops.toList s):AW P k (.region id ops false) Q s:=by
 intro F os a w hr;refine wp_region ?_;have e:List.range ops.size=List.range' 0 ops.toList.length:=by rw[List.range_eq_range'];simp
 rw[e,wpOps_eq_wpList (ops:=ops) ops.toList 0 (by simp)];exact h (by simp) (by simp) (λo ho=>Ry.1 hd o ho) F os a w hr _ λ_ _ _ hp=>hp
theorem ET {id:Nat}{s:St}(m:Nat)(hm:P.follows .mixedOrders=true)(hB:Region.lexTailB .any ops m=true)(hd:(ops.toList.all λo=>Bo s.n o.dst)=true)
  (h:Bj P [] (ops.toList.take m) (λs'=>AO P k ops Q ((ops.toList.take m).map (·.dst)) (ops.toList.drop m) s') s):AW P k (.region id ops true) Q s:=by
 simp only[Region.lexTailB,SP,SJ]at hB;obtain⟨⟨⟨⟨_,hn⟩,hs⟩,hc⟩,hlex⟩:=hB;intro F os a w hr;obtain⟨cx,he1⟩:=hr.drew (k:=k);refine wp_region_any hm ?_;have az:(ops.toList.take m).length=m:=by simp;omega
 have fT:(ops.toList.drop m).length=ops.size-m:=by simp
 have H:=H5 (md:=.any) (ops:=ops) (n:=m) (g:=ops.size-m) (P:=P) (K:=λs'=>AO P k ops Q ((ops.toList.take m).map (·.dst)) (ops.toList.drop m) s')
  (λT7 inv i hi YB t ht=>tail_waits hs hc hn inv _ i rfl hi YB t ht) (ops.toList.take m) [] _ s (λj hj=>by
   rw[az]at hj;rw[SB,R1 hj];simp) (by simp) (by simpa using az) (Kv _) (by rw[az];exact hlex) h
 have:=Ex (k:=k) (g:=ops.size-m) (N:=s.n) (Q':=Ge k Q F os w) (F0:=F) (os0:=os) (w0:=w) (λo ho=>Ry.1 hd o ho) (λT7 s' F' os' a' w' gz hL VS he=>by
  have h1:=hL.2 (λj=>by
    rw[SF,az,SX];simp) (λj d hj=>by
    simp only[Rs,SB]at hj;split at hj
    ·simpa using hj
    ·cases hj) (by rw[gz];exact λo ho=>Ry.1 hd o ho) F' os' a' w' VS (Ge k Q F os w) λ_ _ _ hp=>Ge.trans he hp
  have h2:=wpAny_of_seq (md:=.any) (Q':=Ge k Q F os w) (ops.toList.drop m) m T7 a' w' (λj=>by simp[SX]) (by rw[fT];exact hL.1) h1;rwa [fT]at h2) _ _ s F os a w.drew rfl H cx he1
 rw[az,show m+(ops.size-m)=ops.size by omega]at this;exact this
end Go.Abs
