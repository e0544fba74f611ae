import Derived.Test.YtihdgoiebmfapaaGreatGAbsXToAbsZN
set_option linter.all false
namespace Sh
def apart (i j:Int):Option Unit:=if i=j then none else some ()
theorem ZM {i j:Int}{u:Unit}(h:apart i j=some u):i≠j:=λe=>by unfold apart at h;rw[jm e]at h;cases h
end Sh
namespace Go.Abs
open Go
section
variable {F : Nat -> Prop} {os : List Own} {s : St} {a : Act} {w : World} {k : Nat}
variable {α β : Type} {l : List α} {enc : α -> List AV}
theorem HD (h :∀y,(enc y).all AV.kept=true):∀z∈l.map enc,z.all AV.kept=true:=λz hz=>by
 obtain⟨y,_,rfl⟩:=kC.1 hz;exact h y
theorem cV {i:Int}{x:List AV}:(hole l enc i x).length=l.length:=by unfold hole;simp
section
variable {P : Program} {s : St} {x y : Operand} {t el : TypeId} {size bytes id g m : Nat} {zz : List AV} {n i : Int} {kk : IntKind} {u : α} {z : List AV}
theorem Ls (he:D2 P t=some ⟨el,size,bytes,zz⟩)(hx:s.ev x=.own id g m)(hy:s.ev y=.int kk n)(hr:s.st[id]?=some ⟨g,el,size,hole l enc i z⟩)(hm:m=l.length)(hg:Sh.get l n=some u):
  AQ P s (.indexAddr t x y) (.ptr id g n.toNat 0):=λK hk=>by
 show JB P s.st t (s.ev x) (s.ev y) K;rw[hx,hy];subst hm;exact Ap _ he ⟨(Sh.get_some hg).1,(Sh.get_some hg).2.2,Ap _ hr ⟨rfl,rfl,by simpa [cV] using hk⟩⟩
end
end
end Go.Abs
namespace Go.Abs
open Go
def cF (id g N:Nat):AV->AV
 | .own pW g' n=>if pW=id/\g'=g then .own N 0 n else .own pW g' n
 | v=>v
def eG (id g N:Nat):AV->AV
 | .agg cs=>.agg (cs.map (cF id g N))
 | .Dp cs=>.Dp (cs.map (cF id g N))
 | v=>cF id g N v
theorem O8 {k n:Nat}{e:Nat->AV}{L:List (Nat×AV)}{st st':List Row}{id g el size N:Nat}{xs:List (List AV)}(oY:st[id]?=some ⟨g,el,size,xs⟩)(hN:st.length=N)
  (h:ME (λt=>eG id g N (e t)) L) (pI:st.set id ⟨g+1,el,size,[]⟩++[⟨0,el,size,xs⟩]=st'):Wk k ⟨n,e,st⟩ ⟨n,Aa L,st'⟩:=by
 refine Wk.trans (s':=⟨n,λt=>eG id g N (e t),st'⟩) ?_ (Ag h);intro F os a w hr;subst pI;subst hN;obtain⟨o,ho,sL⟩:=hr.row oY;have ob:=hr.rows id o ho;have hlen:os.length=st.length:=by have:=kf List.length hr.st;simpa using this
 have qG:=(jg.1 ho).1
 let o1:Own:=⟨{ o.row with gen:=o.row.gen+1,xs:=[] },none,0,FX⟩
 let o2:Own:=⟨{ o.row with gen:=0 },o.Fe,o.cap,o.more⟩
 have oe:∀(i:Nat) (oi:Own),(os.set id o1++[o2])[i]?=some oi->(i≠id/\os[i]?=some oi)∨(i=id/\oi=o1)∨(i=os.length/\oi=o2):=λi oi hi=>by
  by_cases h1:i<os.length
  ·rw[jr (by simpa using h1)]at hi;by_cases h3:i=id
   ·subst h3;rw[ju qG]at hi;exact .inr (.inl ⟨rfl,by simpa using hi.symm⟩)
   ·rw[kG (lK h3)]at hi;exact .inl ⟨h3,hi⟩
  ·rw[jt (by simp;omega)]at hi;simp only[nh]at hi;have:i-os.length<1:=(jg.1 hi).1;have h4:i=os.length:=by omega
   subst h4;simp only[lW,kK,jh]at hi;exact .inr (.inr ⟨rfl,hi.symm⟩)
 have uq:(os.set id o1++[o2])[st.length]?=some o2:=by rw[<- hlen,jt (by simp)];simp
 have pd:FH os (os.set id o1++[o2]):=λi oi hi=>by
  have hl:=(jg.1 hi).1;rw[jr (by simpa using hl)];by_cases h3:i=id
  ·subst h3;rw[ho]at hi;cases hi;exact⟨o1,by rw[ju qG],by simp[o1],rfl,λe=>by simp[o1]at e⟩
  ·rw[kG (lK h3)];exact⟨oi,hi,jv _,rfl,λ_=>⟨rfl,rfl,rfl⟩⟩
 have oh:∀x v,Ae F w os x v->Ae F w (os.set id o1++[o2]) x v:=λx v h=>DU (λ_ h=>h) (λ_ _=>rfl) os _ pd x v h;have yY:o.row.gen=g:=by rw[sL]
 have h0:∀x v,Ae F w os x v->Ae F w (os.set id o1++[o2]) (cF id g st.length x) v:=λx v hx=>by
  cases x with
  | own pW g' m=>
   simp only[cF];split
   ·rename_i wO;obtain⟨rfl,rfl⟩:=wO;simp only[Ae]at hx⊢;obtain⟨o',pQ,_,rl,f3⟩:=hx;rw[ho]at pQ;cases pQ;obtain⟨f4,f5⟩:=f3 yY;exact⟨o2,uq,jv _,rl,λ_=>⟨f4,f5⟩⟩
   ·exact oh _ _ hx
  | _=>exact oh _ _ hx
 have hL:∀xs us,Br F w os xs us->Br F w (os.set id o1++[o2]) (xs.map (cF id g st.length)) us:=λxs us h=>
  DZ (by simp[BY h]) λi x u hx hu=>by
   simp only[ji,jo]at hx;obtain⟨y,hy,rfl⟩:=hx;obtain⟨u',e1,e2⟩:=CN h i y hy;rw[hu]at e1;cases e1;exact h0 _ _ e2
 have xT:∀(i:Nat) (oi:Own) b,(os.set id o1++[o2])[i]?=some oi->oi.owns b->∃(i':Nat) (tw:Own),os[i']?=some tw/\tw.owns b/\((i'=id/\i=os.length)∨(i'≠id/\i=i')):=λi oi b hi hb=>by
  rcases oe i oi hi with ⟨h1,h3⟩|⟨rfl,rfl⟩|⟨rfl,rfl⟩
  ·exact⟨i,oi,h3,hb,.inr ⟨h1,rfl⟩⟩
  ·rcases hb with hb|hb
   ·simp[o1]at hb
   ·exact hb.elim
  ·exact⟨id,o,ho,hb,.inl ⟨rfl,rfl⟩⟩
 have h:=hr.Wq (k:=k) (Hb.refl w none) (by simp) pd (λi oi hi=>by
   rcases oe i oi hi with ⟨h1,h3⟩|⟨rfl,rfl⟩|⟨rfl,rfl⟩
   ·exact .inl ⟨h3,by simp⟩
   ·exact .inr ⟨ob.pos,by simp[o1],by simp[o1],by simp[o1],λb hb=>hb.elim,Er (by simp[o1])⟩
   ·refine .inr ⟨ob.pos,ob.lens,ob.none,λb hb=>?_,ob.mo,ob.deep.keep rfl (λ_ h=>h) rfl (λ_ _=>rfl) (λi' x j' e' s' ys h1 h2=>⟨x,h1,h2⟩)⟩;obtain⟨e1,cur,e2,e3,e4,e5,e6⟩:=ob.some b hb;exact⟨e1,cur,e2,e3,e4,e5,λi' x hx j' c hcj=>by obtain⟨u,f1,f2⟩:=e6 i' x hx j' c hcj;exact⟨u,f1,oh _ _ f2⟩⟩)
  (λi j' oi oj b hi hj qX qY=>by
   obtain⟨i',tw,e1,e2,e3⟩:=xT i oi b hi qX;obtain⟨j'',zH,f1,f2,f3⟩:=xT j' oj b hj qY;have:=hr.inj i' j'' tw zH b e1 f1 e2 f2;subst this;omega)
  (λo' pQ b hb=>by
   obtain⟨i,hi⟩:=jz.1 pQ;obtain⟨i',tw,e1,e2,_⟩:=xT i o' b hi hb;exact .inr ⟨tw,je e1,e2⟩)
  (by simp)
 refine⟨F,_,?_,h.2.1⟩;have h1:=h.1;have e1:o1.row=⟨g+1,el,size,[]⟩:=by simp only[o1,sL]
 have e3:o2.row=⟨0,el,size,xs⟩:=by simp only[o2,sL]
 have h2:List.map Own.row (os.set id o1++[o2])=st.set id ⟨g+1,el,size,[]⟩++[⟨0,el,size,xs⟩]:=by
  rw[lJ,ln,hr.st,kI,lV,e1,e3]
 refine⟨h2,λt=>?_,h1.size,h1.rows,h1.inj,h1.FR,h1.defers⟩;have he:=hr.env t;show Ae F w _ (eG id g st.length (e t)) _;simp only at he;generalize e t=x at he⊢;cases x with
 | agg cs=>simp only[eG,Ae]at he⊢;obtain⟨us,e,h⟩:=he;exact⟨us,e,hL _ _ h⟩
 | Dp cs=>simp only[eG,Ae]at he⊢;obtain⟨us,e,h⟩:=he;exact⟨us,e,hL _ _ h⟩
 | _=>exact h0 _ _ he
end Go.Abs
namespace Go.Abs
open Go
section
variable {k : Nat} {α β : Type} {l : List α} {enc : α -> List AV}
theorem Ln {id m g size sz nn j:Nat}{el rK:TypeId}{i:Int}{c:α}{ys:List β}{encY:β->List AV}{x x':List AV}{e:Nat->AV}{st st':List Row}(oY:st[id]?=some ⟨g,el,size,hole l enc i x⟩)(hi:Sh.get l i=some c)(hc:x[j]?=some (.dv rK sz (ys.map encY)))
  (hm:st.length=m) (rO:x.set j (.own m 0 ys.length)=x') (pI:st.set id ⟨g,el,size,hole l enc i x'⟩++[⟨0,rK,sz,ys.map encY⟩]=st'):Wk k ⟨nn,e,st⟩ ⟨nn,e,st'⟩:=
 OO oY (FB hi) hc hm (n:=ys.length) (by simp) (by rw[Si,rO];exact pI)
def aU (l:List α)(enc:α->List AV)(i:Int)(x:List AV)(j:Int)(y:List AV):List (List AV):=(hole l enc i x).set j.toNat y
theorem Y3 {i j:Int}{u:α}{x y:List AV}(h:Sh.get l j=some u):(aU l enc i x j y)[j.toNat]?=some y:=by
 have:=(Sh.get_some h).2.2;have h0:=(Sh.get_some h).1;exact ju (by simp[hole];omega)
theorem Zm {i j:Int}{w:Unit}{u v:α}(hn:Sh.apart i j=some w)(hi:Sh.get l i=some u)(hj:Sh.get l j=some v):i.toNat≠j.toNat:=λe=>by
 have h0:=(Sh.get_some hi).1;have h1:=(Sh.get_some hj).1;exact Sh.ZM hn (by omega)
theorem Wk.fR {id m g size sz nn q:Nat}{el rK:TypeId}{i j:Int}{c:α}{ys:List β}{encY:β->List AV}{x y y':List AV}{e:Nat->AV}{st st':List Row}(oY:st[id]?=some ⟨g,el,size,hole l enc i x⟩)(hj:Sh.get l j=some c)(pN:i.toNat≠j.toNat)(hy:enc c=y)(hc:y[q]?=some (.dv rK sz (ys.map encY)))
  (hm:st.length=m) (hy':y.set q (.own m 0 ys.length)=y') (pI:st.set id ⟨g,el,size,aU l enc i x j y'⟩++[⟨0,rK,sz,ys.map encY⟩]=st'):Wk k ⟨nn,e,st⟩ ⟨nn,e,st'⟩:=by
 subst hy;have oe:(hole l enc i x)[j.toNat]?=some (enc c):=by
  unfold hole;rw[kG pN];exact CU hj
 exact OO oY oe hc hm (n:=ys.length) (by simp) (by rw[hy'];exact pI)
end
section
variable {α : Type} {l : List α} {enc : α -> List AV} {P : Program} {s : St} {x y : Operand} {t el : TypeId} {size bytes id g m : Nat} {zz : List AV} {n i j : Int} {kk : IntKind} {u : α} {z z' : List AV}
end
section
variable {P : Program} {k : Nat} {ops : Array Oper} {Q : Exit -> St -> Prop} {ds : List (Option Tmp)} {r : List Oper} {n : Nat} {e : Nat -> AV} {st st' : List Row} {ty : TypeId} {ps : String} {ed : Array Edge} {gd : Option (Nat × Bool)} {T : TypeId} {x y : Operand} {size id g sz off : Nat} {el : TypeId} {α : Type} {l : List α} {enc : α -> List AV} {c : α} {i : Int} {v : AV} {cs x0 x' : List AV} {ag : Bool}
theorem bO (hg:GO ds gd e)(ht:D7 P T=some (ag,sz))(hx:St.ev ⟨n,e,st⟩ x=.ptr id g i.toNat off)(hr:st[id]?=some ⟨g,el,size,hole l enc i x0⟩)(hi:Sh.get l i=some c)(hv:St.ev ⟨n,e,st⟩ y=v)(hc:KK v=some cs)(hn:cs.length=sz)(hle:off+cs.length<=size)
  (rO:G5 x0 off cs=x') (pI:st.set id ⟨g,el,size,hole l enc i x'⟩=st') (hk:AO P k ops Q (ds++[none]) r ⟨n,e,st'⟩):AO P k ops Q ds (⟨none,.store T x y,ty,ps,ed,gd⟩::r) ⟨n,e,st⟩:=by
 refine Am hg ht hx hr (FB hi) hv hc hn hle ?_ hk;rw[<- pI,rO,Si]
end
section
variable {sel : List Nat} {g size : Nat} {el : TypeId} {a b : Row} {r r' : List Row}
end
end Go.Abs
