import Derived.Test.YtihdgoiebmfapaaGreatAbsN
set_option linter.all false
namespace Go.Abs
open Go
variable {P : Program} {k : Nat} {ops : Array Oper} {Q : Exit -> St -> Prop} {ds : List (Option Tmp)} {r : List Oper} {n : Nat} {e : Nat -> AV} {st st' : List Row}
def AO (P:Program)(k:Nat)(ops:Array Oper)(Q:Exit->St->Prop)(ds:List (Option Tmp))(l:List Oper)(s:St):Prop:=
 (∀(j:Nat),l[j]?=ops[ds.length+j]?)->(∀(j:Nat) d,ds[j]?=some d->(ops[j]?).map (·.dst)=some d)->(∀o∈ops.toList,DH s.n o.dst=true)->
  ∀F os a w,Rel F os s a w->∀Q':Exit->Act->World->Prop,(∀e a' w',KN k Q F os w e a' w'->Q' e a' w')->wpList P ops Q' l a w
theorem AF {s:St}(h:Q .normal s):AO P k ops Q ds [] s:=λ_ _ _ F os a w hr Q' hQ=>hQ _ a w ⟨s,F,os,h,hr,Ext.refl _ _ _ _⟩
theorem O0 {s:St}{o:Oper}(h:I2 ds o s (Kx P k o s (AO P k ops Q (ds++[o.dst]) r)) (AO P k ops Q (ds++[o.dst]) r (s.put o.dst .un))):AO P k ops Q ds (o::r) s:=by
 intro hl uK rW F os a w hr Q' hQ;have ho:ops[ds.length]?=some o:=by have:=hl 0;simpa using this.symm
 have vv:DH s.n o.dst=true:=rW o (by have:=lT (l:=ops.toList) (i:=ds.length) (by simpa using ho);exact this);have xb:∀d∈ds,DH s.n d=true:=λd hd=>by
  obtain⟨j,hj⟩:=lv.1 hd;have h1:=uK j d hj;cases tF:ops[j]? with
  | none=>rw[tF]at h1;cases h1
  | some oj=>
   rw[tF]at h1;simp only[mZ,lX]at h1;subst h1;exact rW oj (by have:=lT (l:=ops.toList) (i:=j) (by simpa using tF);exact this)
 have vI :∀(j:Nat),r[j]?=ops[(ds++[o.dst]).length+j]?:=λj=>by
  have:=hl (j+1);simp only[mQ]at this;rw[this];congr 1;simp;omega
 have uz :∀(j:Nat) d,(ds++[o.dst])[j]?=some d->(ops[j]?).map (·.dst)=some d:=λj d hj=>by
  rcases nG j ds.length with h1|h1|h1
  ·rw[lj h1]at hj;exact uK j d hj
  ·subst h1;rw[J0,lX]at hj;rw[ho];simp[hj]
  ·rw[mV (by simp;omega)]at hj;cases hj
 unfold wpList;rcases bZ hr uK xb h with ⟨hw,h1⟩|⟨hw,h1⟩
 ·rw[ld hw];refine .inl (dQ hr vv h1 ?_);rintro a' w' ⟨s2,F2,os2,wT,hK,hR2,hE2⟩;exact hK vI uz (by rw[wT];exact rW) F2 os2 a' w' hR2 Q' λ_ _ _ hp=>hQ _ _ _ (hp.trans hE2)
 ·rw[la (by simp[hw])];exact h1 vI uz (by rw[St.jw];exact rW) F os _ w (hr.un vv) Q' hQ
theorem AR {s s':St}{l:List Oper}(hw:Wk k s s')(h:AO P k ops Q ds l s'):AO P k ops Q ds l s:=λhl uK rW F os a w hr Q' hQ=>by
 obtain⟨F1,rL,h1,e1⟩:=hw F os a w hr;have hn:s'.n=s.n:=by rw[<- h1.size,<- hr.size]
 exact h hl uK (by rw[hn];exact rW) F1 rL a w h1 Q' λ_ _ _ hp=>hQ _ _ _ (hp.trans e1)
theorem AH {id:Nat}{s:St}(hd:(ops.toList.all λo=>DH s.n o.dst)=true)(h:AO P k ops Q [] ops.toList s):AW P k (.region id ops false) Q s:=by
 intro F os a w hr;refine wp_region ?_;have e:List.range ops.size=List.range' 0 ops.toList.length:=by rw[List.range_eq_range'];simp
 rw[e,wpOps_eq_wpList (ops:=ops) ops.toList 0 (by simp)];exact h (by simp) (by simp) (λo ho=>lh.1 hd o ho) F os a w hr _ λ_ _ _ hp=>hp
theorem Br {id:Nat}{s:St}(m:Nat)(hm:P.follows .mixedOrders=true)(hB:Region.lexTailB .any ops m=true)(hd:(ops.toList.all λo=>DH s.n o.dst)=true)
  (h:D7 P [] (ops.toList.take m) (λs'=>AO P k ops Q ((ops.toList.take m).map (·.dst)) (ops.toList.drop m) s') s):AW P k (.region id ops true) Q s:=by
 simp only[Region.lexTailB,mE,lq]at hB;obtain⟨⟨⟨⟨_,hn⟩,hs⟩,hc⟩,hlex⟩:=hB;intro F os a w hr;obtain⟨wy,he1⟩:=hr.drew (k:=k);refine pV hm ?_;have uL:(ops.toList.take m).length=m:=by simp;omega
 have hdl:(ops.toList.drop m).length=ops.size-m:=by simp
 have H:=TZ (md:=.any) (ops:=ops) (n:=m) (g:=ops.size-m) (P:=P) (K:=λs'=>AO P k ops Q ((ops.toList.take m).map (·.dst)) (ops.toList.drop m) s')
  (λqW inv i hi sf t ht=>tail_waits hs hc hn inv _ i rfl hi sf t ht) (ops.toList.take m) [] _ s (λj hj=>by
   rw[uL]at hj;rw[mJ,ld hj];simp) (by simp) (by simpa using uL) (Tu _) (by rw[uL];exact hlex) h
 have:=Mb (k:=k) (g:=ops.size-m) (N:=s.n) (Q':=KN k Q F os w) (F0:=F) (os0:=os) (w0:=w) (λo ho=>lh.1 hd o ho) (λqW s' F' os' a' w' hn' hL ry he=>by
  have h1:=hL.2 (λj=>by
    rw[ly,uL,mU];simp) (λj d hj=>by
    simp only[lW,mJ]at hj;split at hj
    ·simpa using hj
    ·cases hj) (by rw[hn'];exact λo ho=>lh.1 hd o ho) F' os' a' w' ry (KN k Q F os w) λ_ _ _ hp=>KN.trans he hp
  have h2:=wpAny_of_seq (md:=.any) (Q':=KN k Q F os w) (ops.toList.drop m) m qW a' w' (λj=>by simp[mU]) (by rw[hdl];exact hL.1) h1;rwa [hdl]at h2) _ _ s F os a w.drew rfl H wy he1
 rw[uL,show m+(ops.size-m)=ops.size by omega]at this;exact this
end Go.Abs
