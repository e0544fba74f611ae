import Derived.Test.YtihdgoiebmfapaaGreatGAbsXToAbsZN
set_option linter.all false
namespace Sh
def apart (i j:Int):Option Unit:=if i=j then none else some ()
theorem Zh {i j:Int}{u:Unit}(h:apart i j=some u):i≠j:=λe=>by unfold apart at h;rw[ld e]at h;cases h
end Sh
namespace Go.Abs
open Go
section
variable {F : Nat -> Prop} {os : List Own} {s : St} {a : Act} {w : World} {k : Nat}
variable {α β : Type} {l : List α} {enc : α -> List AV}
theorem HO (h :∀y,(enc y).all AV.kept=true):∀z∈l.map enc,z.all AV.kept=true:=λz hz=>by
 obtain⟨y,_,rfl⟩:=mA.1 hz;exact h y
theorem eJ {i:Int}{x:List AV}:(hole l enc i x).length=l.length:=by unfold hole;simp
section
variable {P : Program} {s : St} {x y : Operand} {t el : TypeId} {size bytes id g m : Nat} {zz : List AV} {n i : Int} {kk : IntKind} {u : α} {z : List AV}
theorem MB (he:Ds P t=some ⟨el,size,bytes,zz⟩)(hx:s.ev x=.own id g m)(hy:s.ev y=.int kk n)(hr:s.st[id]?=some ⟨g,el,size,hole l enc i z⟩)(hm:m=l.length)(hg:Sh.get l n=some u):
  AQ P s (.indexAddr t x y) (.ptr id g n.toNat 0):=λK hk=>by
 show JS P s.st t (s.ev x) (s.ev y) K;rw[hx,hy];subst hm;exact Aq _ he ⟨(Sh.get_some hg).1,(Sh.get_some hg).2.2,Aq _ hr ⟨rfl,rfl,by simpa [eJ] using hk⟩⟩
end
end
end Go.Abs
namespace Go.Abs
open Go
def dq (id g N:Nat):AV->AV
 | .own rN g' n=>if rN=id/\g'=g then .own N 0 n else .own rN g' n
 | v=>v
def fe (id g N:Nat):AV->AV
 | .agg cs=>.agg (cs.map (dq id g N))
 | .Dd cs=>.Dd (cs.map (dq id g N))
 | v=>dq id g N v
theorem Pq {k n:Nat}{e:Nat->AV}{L:List (Nat×AV)}{st st':List Row}{id g el size N:Nat}{xs:List (List AV)}(qc:st[id]?=some ⟨g,el,size,xs⟩)(hN:st.length=N)
  (h:ME (λt=>fe id g N (e t)) L) (qz:st.set id ⟨g+1,el,size,[]⟩++[⟨0,el,size,xs⟩]=st'):Wk k ⟨n,e,st⟩ ⟨n,Aa L,st'⟩:=by
 refine Wk.trans (s':=⟨n,λt=>fe id g N (e t),st'⟩) ?_ (Af h);intro F os a w hr;subst qz;subst hN;obtain⟨o,ho,uM⟩:=hr.row qc;have qf:=hr.rows id o ho;have hlen:os.length=st.length:=by have:=mc List.length hr.st;simpa using this
 have rv:=(lV.1 ho).1
 let o1:Own:=⟨{ o.row with gen:=o.row.gen+1,xs:=[] },none,0,Fe⟩
 let o2:Own:=⟨{ o.row with gen:=0 },o.Fk,o.cap,o.more⟩
 have qi:∀(i:Nat) (oi:Own),(os.set id o1++[o2])[i]?=some oi->(i≠id/\os[i]?=some oi)∨(i=id/\oi=o1)∨(i=os.length/\oi=o2):=λi oi hi=>by
  by_cases h1:i<os.length
  ·rw[lj (by simpa using h1)]at hi;by_cases h3:i=id
   ·subst h3;rw[lp rv]at hi;exact .inr (.inl ⟨rfl,by simpa using hi.symm⟩)
   ·rw[mG (nK h3)]at hi;exact .inl ⟨h3,hi⟩
  ·rw[ln (by simp;omega)]at hi;simp only[pf]at hi;have:i-os.length<1:=(lV.1 hi).1;have h4:i=os.length:=by omega
   subst h4;simp only[nW,mI,lX]at hi;exact .inr (.inr ⟨rfl,hi.symm⟩)
 have wq:(os.set id o1++[o2])[st.length]?=some o2:=by rw[<- hlen,ln (by simp)];simp
 have rU:FK os (os.set id o1++[o2]):=λi oi hi=>by
  have hl:=(lV.1 hi).1;rw[lj (by simpa using hl)];by_cases h3:i=id
  ·subst h3;rw[ho]at hi;cases hi;exact⟨o1,by rw[lp rv],by simp[o1],rfl,λe=>by simp[o1]at e⟩
  ·rw[mG (nK h3)];exact⟨oi,hi,ll _,rfl,λ_=>⟨rfl,rfl,rfl⟩⟩
 have qk:∀x v,Ae F w os x v->Ae F w (os.set id o1++[o2]) x v:=λx v h=>DV (λ_ h=>h) (λ_ _=>rfl) os _ rU x v h;have hog:o.row.gen=g:=by rw[uM]
 have h0:∀x v,Ae F w os x v->Ae F w (os.set id o1++[o2]) (dq id g st.length x) v:=λx v hx=>by
  cases x with
  | own rN g' m=>
   simp only[dq];split
   ·rename_i yV;obtain⟨rfl,rfl⟩:=yV;simp only[Ae]at hx⊢;obtain⟨o',rH,_,tk,f3⟩:=hx;rw[ho]at rH;cases rH;obtain⟨f4,f5⟩:=f3 hog;exact⟨o2,wq,ll _,tk,λ_=>⟨f4,f5⟩⟩
   ·exact qk _ _ hx
  | _=>exact qk _ _ hx
 have hL:∀xs us,Bs F w os xs us->Bs F w (os.set id o1++[o2]) (xs.map (dq id g st.length)) us:=λxs us h=>
  Db (by simp[BZ h]) λi x u hx hu=>by
   simp only[lW,lg]at hx;obtain⟨y,hy,rfl⟩:=hx;obtain⟨u',e1,e2⟩:=CO h i y hy;rw[hu]at e1;cases e1;exact h0 _ _ e2
 have za:∀(i:Nat) (oi:Own) b,(os.set id o1++[o2])[i]?=some oi->oi.owns b->∃(i':Nat) (vz:Own),os[i']?=some vz/\vz.owns b/\((i'=id/\i=os.length)∨(i'≠id/\i=i')):=λi oi b hi hb=>by
  rcases qi i oi hi with ⟨h1,h3⟩|⟨rfl,rfl⟩|⟨rfl,rfl⟩
  ·exact⟨i,oi,h3,hb,.inr ⟨h1,rfl⟩⟩
  ·rcases hb with hb|hb
   ·simp[o1]at hb
   ·exact hb.elim
  ·exact⟨id,o,ho,hb,.inl ⟨rfl,rfl⟩⟩
 have h:=hr.YE (k:=k) (Hl.refl w none) (by simp) rU (λi oi hi=>by
   rcases qi i oi hi with ⟨h1,h3⟩|⟨rfl,rfl⟩|⟨rfl,rfl⟩
   ·exact .inl ⟨h3,by simp⟩
   ·exact .inr ⟨qf.pos,by simp[o1],by simp[o1],by simp[o1],λb hb=>hb.elim,Et (by simp[o1])⟩
   ·refine .inr ⟨qf.pos,qf.lens,qf.none,λb hb=>?_,qf.mo,qf.deep.keep rfl (λ_ h=>h) rfl (λ_ _=>rfl) (λi' x j' e' s' ys h1 h2=>⟨x,h1,h2⟩)⟩;obtain⟨e1,cur,e2,e3,e4,e5,e6⟩:=qf.some b hb;exact⟨e1,cur,e2,e3,e4,e5,λi' x hx j' c hcj=>by obtain⟨u,f1,f2⟩:=e6 i' x hx j' c hcj;exact⟨u,f1,qk _ _ f2⟩⟩)
  (λi j' oi oj b hi hj sM sN=>by
   obtain⟨i',vz,e1,e2,e3⟩:=za i oi b hi sM;obtain⟨j'',oj',f1,f2,f3⟩:=za j' oj b hj sN;have:=hr.inj i' j'' vz oj' b e1 f1 e2 f2;subst this;omega)
  (λo' rH b hb=>by
   obtain⟨i,hi⟩:=lv.1 rH;obtain⟨i',vz,e1,e2,_⟩:=za i o' b hi hb;exact .inr ⟨vz,lT e1,e2⟩)
  (by simp)
 refine⟨F,_,?_,h.2.1⟩;have h1:=h.1;have e1:o1.row=⟨g+1,el,size,[]⟩:=by simp only[o1,uM]
 have e3:o2.row=⟨0,el,size,xs⟩:=by simp only[o2,uM]
 have h2:List.map Own.row (os.set id o1++[o2])=st.set id ⟨g+1,el,size,[]⟩++[⟨0,el,size,xs⟩]:=by
  rw[nI,nj,hr.st,mF,nV,e1,e3]
 refine⟨h2,λt=>?_,h1.size,h1.rows,h1.inj,h1.FR,h1.defers⟩;have he:=hr.env t;show Ae F w _ (fe id g st.length (e t)) _;simp only at he;generalize e t=x at he⊢;cases x with
 | agg cs=>simp only[fe,Ae]at he⊢;obtain⟨us,e,h⟩:=he;exact⟨us,e,hL _ _ h⟩
 | Dd cs=>simp only[fe,Ae]at he⊢;obtain⟨us,e,h⟩:=he;exact⟨us,e,hL _ _ h⟩
 | _=>exact h0 _ _ he
end Go.Abs
namespace Go.Abs
open Go
section
variable {k : Nat} {α β : Type} {l : List α} {enc : α -> List AV}
theorem L9 {id m g size sz nn j:Nat}{el tK:TypeId}{i:Int}{c:α}{ys:List β}{encY:β->List AV}{x x':List AV}{e:Nat->AV}{st st':List Row}(qc:st[id]?=some ⟨g,el,size,hole l enc i x⟩)(hi:Sh.get l i=some c)(hc:x[j]?=some (.dv tK sz (ys.map encY)))
  (hm:st.length=m) (tN:x.set j (.own m 0 ys.length)=x') (qz:st.set id ⟨g,el,size,hole l enc i x'⟩++[⟨0,tK,sz,ys.map encY⟩]=st'):Wk k ⟨nn,e,st⟩ ⟨nn,e,st'⟩:=
 Oj qc (FG hi) hc hm (n:=ys.length) (by simp) (by rw[TA,tN];exact qz)
def bz (l:List α)(enc:α->List AV)(i:Int)(x:List AV)(j:Int)(y:List AV):List (List AV):=(hole l enc i x).set j.toNat y
theorem aX {i j:Int}{u:α}{x y:List AV}(h:Sh.get l j=some u):(bz l enc i x j y)[j.toNat]?=some y:=by
 have:=(Sh.get_some h).2.2;have h0:=(Sh.get_some h).1;exact lp (by simp[hole];omega)
theorem ak {i j:Int}{w:Unit}{u v:α}(hn:Sh.apart i j=some w)(hi:Sh.get l i=some u)(hj:Sh.get l j=some v):i.toNat≠j.toNat:=λe=>by
 have h0:=(Sh.get_some hi).1;have h1:=(Sh.get_some hj).1;exact Sh.Zh hn (by omega)
theorem Wk.gh {id m g size sz nn q:Nat}{el tK:TypeId}{i j:Int}{c:α}{ys:List β}{encY:β->List AV}{x y y':List AV}{e:Nat->AV}{st st':List Row}(qc:st[id]?=some ⟨g,el,size,hole l enc i x⟩)(hj:Sh.get l j=some c)(rE:i.toNat≠j.toNat)(hy:enc c=y)(hc:y[q]?=some (.dv tK sz (ys.map encY)))
  (hm:st.length=m) (hy':y.set q (.own m 0 ys.length)=y') (qz:st.set id ⟨g,el,size,bz l enc i x j y'⟩++[⟨0,tK,sz,ys.map encY⟩]=st'):Wk k ⟨nn,e,st⟩ ⟨nn,e,st'⟩:=by
 subst hy;have qi:(hole l enc i x)[j.toNat]?=some (enc c):=by
  unfold hole;rw[mG rE];exact CW hj
 exact Oj qc qi hc hm (n:=ys.length) (by simp) (by rw[hy'];exact qz)
end
section
variable {α : Type} {l : List α} {enc : α -> List AV} {P : Program} {s : St} {x y : Operand} {t el : TypeId} {size bytes id g m : Nat} {zz : List AV} {n i j : Int} {kk : IntKind} {u : α} {z z' : List AV}
end
section
variable {P : Program} {k : Nat} {ops : Array Oper} {Q : Exit -> St -> Prop} {ds : List (Option Tmp)} {r : List Oper} {n : Nat} {e : Nat -> AV} {st st' : List Row} {ty : TypeId} {ps : String} {ed : Array Edge} {gd : Option (Nat × Bool)} {T : TypeId} {x y : Operand} {size id g sz off : Nat} {el : TypeId} {α : Type} {l : List α} {enc : α -> List AV} {c : α} {i : Int} {v : AV} {cs x0 x' : List AV} {ag : Bool}
theorem dH (hg:GO ds gd e)(ht:Dr P T=some (ag,sz))(hx:St.ev ⟨n,e,st⟩ x=.ptr id g i.toNat off)(hr:st[id]?=some ⟨g,el,size,hole l enc i x0⟩)(hi:Sh.get l i=some c)(hv:St.ev ⟨n,e,st⟩ y=v)(hc:Kb v=some cs)(hn:cs.length=sz)(hle:off+cs.length<=size)
  (tN:HG x0 off cs=x') (qz:st.set id ⟨g,el,size,hole l enc i x'⟩=st') (hk:AO P k ops Q (ds++[none]) r ⟨n,e,st'⟩):AO P k ops Q ds (⟨none,.store T x y,ty,ps,ed,gd⟩::r) ⟨n,e,st⟩:=by
 refine Am hg ht hx hr (FG hi) hv hc hn hle ?_ hk;rw[<- qz,tN,TA]
end
section
variable {sel : List Nat} {g size : Nat} {el : TypeId} {a b : Row} {r r' : List Row}
end
end Go.Abs
