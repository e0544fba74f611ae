import Derived.Test.YtihdgoiebmfapaaGreatGAbsXToAbsZN
namespace Sh
def apart (i j:Int):Option Unit:=if i=j then none else some ()
theorem ZO {i j:Int}{u:Unit}(h:apart i j=some u):i≠j:=λe=>by unfold apart at h;rw[jm e]at h;cases h
end Sh
namespace Go.Abs
open Go
section
variable {F : Nat -> Prop} {os : List Own} {s : St} {a : Act} {w : World} {k : Nat}
variable {α β : Type} {l : List α} {enc : α -> List AV}
theorem G9 (h :∀y,(enc y).all AV.kept=true):∀z∈l.map enc,z.all AV.kept=true:=λz hz=>by
 obtain⟨y,_,rfl⟩:=kC.1 hz;exact h y
theorem ba {i:Int}{x:List AV}:(hole l enc i x).length=l.length:=by unfold hole;simp
section
variable {P : Program} {s : St} {x y : Operand} {t el : TypeId} {size bytes id g m : Nat} {zz : List AV} {n i : Int} {kk : IntKind} {u : α} {z : List AV}
theorem Lm (he:D4 P t=some ⟨el,size,bytes,zz⟩)(hx:s.ev x=.own id g m)(hy:s.ev y=.int kk n)(hr:s.st[id]?=some ⟨g,el,size,hole l enc i z⟩)(hm:m=l.length)(hg:Sh.get l n=some u):
  AQ P s (.indexAddr t x y) (.ptr id g n.toNat 0):=λK hk=>by
 show I7 P s.st t (s.ev x) (s.ev y) K;rw[hx,hy];subst hm;exact Ap _ he ⟨(Sh.get_some hg).1,(Sh.get_some hg).2.2,Ap _ hr ⟨rfl,rfl,by simpa [ba] using hk⟩⟩
end
end
end Go.Abs
namespace Go.Abs
open Go
def bl (id g N:Nat):AV->AV
 | .own id' g' n=>if id'=id/\g'=g then .own N 0 n else .own id' g' n
 | v=>v
def eO (id g N:Nat):AV->AV
 | .agg cs=>.agg (cs.map (bl id g N))
 | .Dw cs=>.Dw (cs.map (bl id g N))
 | v=>bl id g N v
theorem Ow {k n:Nat}{e:Nat->AV}{L:List (Nat×AV)}{st st':List Row}{id g el size N:Nat}{xs:List (List AV)}(hrow:st[id]?=some ⟨g,el,size,xs⟩)(hN:st.length=N)
  (h:ME (λt=>eO id g N (e t)) L) (hst:st.set id ⟨g+1,el,size,[]⟩++[⟨0,el,size,xs⟩]=st'):Wk k ⟨n,e,st⟩ ⟨n,Aa L,st'⟩:=by
 refine Wk.trans (s':=⟨n,λt=>eO id g N (e t),st'⟩) ?_ (Af h);intro F os a w hr;subst hst;subst hN;obtain⟨o,ho,hor⟩:=hr.row hrow;have hok:=hr.rows id o ho;have hlen:os.length=st.length:=by have:=kf List.length hr.st;simpa using this
 have hil:=(jg.1 ho).1
 let o1:Own:=⟨{ o.row with gen:=o.row.gen+1,xs:=[] },none,0,FW⟩
 let o2:Own:=⟨{ o.row with gen:=0 },o.Fe,o.cap,o.more⟩
 have hget:∀(i:Nat) (oi:Own),(os.set id o1++[o2])[i]?=some oi->(i≠id/\os[i]?=some oi)∨(i=id/\oi=o1)∨(i=os.length/\oi=o2):=λi oi hi=>by
  by_cases h1:i<os.length
  ·rw[jr (by simpa using h1)]at hi;by_cases h3:i=id
   ·subst h3;rw[ju hil]at hi;exact .inr (.inl ⟨rfl,by simpa using hi.symm⟩)
   ·rw[kG (lK h3)]at hi;exact .inl ⟨h3,hi⟩
  ·rw[jt (by simp;omega)]at hi;simp only[nh]at hi;have:i-os.length<1:=(jg.1 hi).1;have h4:i=os.length:=by omega
   subst h4;simp only[lW,kK,jh]at hi;exact .inr (.inr ⟨rfl,hi.symm⟩)
 have hnew:(os.set id o1++[o2])[st.length]?=some o2:=by rw[<- hlen,jt (by simp)];simp
 have hos:FH os (os.set id o1++[o2]):=λi oi hi=>by
  have hl:=(jg.1 hi).1;rw[jr (by simpa using hl)];by_cases h3:i=id
  ·subst h3;rw[ho]at hi;cases hi;exact⟨o1,by rw[ju hil],by simp[o1],rfl,λe=>by simp[o1]at e⟩
  ·rw[kG (lK h3)];exact⟨oi,hi,jv _,rfl,λ_=>⟨rfl,rfl,rfl⟩⟩
 have hmono:∀x v,Ae F w os x v->Ae F w (os.set id o1++[o2]) x v:=λx v h=>DV (λ_ h=>h) (λ_ _=>rfl) os _ hos x v h;have hog:o.row.gen=g:=by rw[hor]
 have h0:∀x v,Ae F w os x v->Ae F w (os.set id o1++[o2]) (bl id g st.length x) v:=λx v hx=>by
  cases x with
  | own id' g' m=>
   simp only[bl];split
   ·rename_i hif;obtain⟨rfl,rfl⟩:=hif;simp only[Ae]at hx⊢;obtain⟨o',ho',_,hsh,f3⟩:=hx;rw[ho]at ho';cases ho';obtain⟨f4,f5⟩:=f3 hog;exact⟨o2,hnew,jv _,hsh,λ_=>⟨f4,f5⟩⟩
   ·exact hmono _ _ hx
  | _=>exact hmono _ _ hx
 have hL:∀xs us,Br F w os xs us->Br F w (os.set id o1++[o2]) (xs.map (bl id g st.length)) us:=λxs us h=>
  DZ (by simp[BY h]) λi x u hx hu=>by
   simp only[ji,jo]at hx;obtain⟨y,hy,rfl⟩:=hx;obtain⟨u',e1,e2⟩:=CN h i y hy;rw[hu]at e1;cases e1;exact h0 _ _ e2
 have hown:∀(i:Nat) (oi:Own) b,(os.set id o1++[o2])[i]?=some oi->oi.owns b->∃(i':Nat) (oi':Own),os[i']?=some oi'/\oi'.owns b/\((i'=id/\i=os.length)∨(i'≠id/\i=i')):=λi oi b hi hb=>by
  rcases hget i oi hi with ⟨h1,h3⟩|⟨rfl,rfl⟩|⟨rfl,rfl⟩
  ·exact⟨i,oi,h3,hb,.inr ⟨h1,rfl⟩⟩
  ·rcases hb with hb|hb
   ·simp[o1]at hb
   ·exact hb.elim
  ·exact⟨id,o,ho,hb,.inl ⟨rfl,rfl⟩⟩
 have h:=hr.Wz (k:=k) (HY.refl w none) (by simp) hos (λi oi hi=>by
   rcases hget i oi hi with ⟨h1,h3⟩|⟨rfl,rfl⟩|⟨rfl,rfl⟩
   ·exact .inl ⟨h3,by simp⟩
   ·exact .inr ⟨hok.pos,by simp[o1],by simp[o1],by simp[o1],λb hb=>hb.elim,Et (by simp[o1])⟩
   ·refine .inr ⟨hok.pos,hok.lens,hok.none,λb hb=>?_,hok.mo,hok.deep.keep rfl (λ_ h=>h) rfl (λ_ _=>rfl) (λi' x j' e' s' ys h1 h2=>⟨x,h1,h2⟩)⟩;obtain⟨e1,cur,e2,e3,e4,e5,e6⟩:=hok.some b hb;exact⟨e1,cur,e2,e3,e4,e5,λi' x hx j' c hcj=>by obtain⟨u,f1,f2⟩:=e6 i' x hx j' c hcj;exact⟨u,f1,hmono _ _ f2⟩⟩)
  (λi j' oi oj b hi hj hbi hbj=>by
   obtain⟨i',oi',e1,e2,e3⟩:=hown i oi b hi hbi;obtain⟨j'',oj',f1,f2,f3⟩:=hown j' oj b hj hbj;have:=hr.inj i' j'' oi' oj' b e1 f1 e2 f2;subst this;omega)
  (λo' ho' b hb=>by
   obtain⟨i,hi⟩:=jz.1 ho';obtain⟨i',oi',e1,e2,_⟩:=hown i o' b hi hb;exact .inr ⟨oi',je e1,e2⟩)
  (by simp)
 refine⟨F,_,?_,h.2.1⟩;have h1:=h.1;have e1:o1.row=⟨g+1,el,size,[]⟩:=by simp only[o1,hor]
 have e3:o2.row=⟨0,el,size,xs⟩:=by simp only[o2,hor]
 have h2:List.map Own.row (os.set id o1++[o2])=st.set id ⟨g+1,el,size,[]⟩++[⟨0,el,size,xs⟩]:=by
  rw[lJ,ln,hr.st,kI,lV,e1,e3]
 refine⟨h2,λt=>?_,h1.size,h1.rows,h1.inj,h1.FT,h1.defers⟩;have he:=hr.env t;show Ae F w _ (eO id g st.length (e t)) _;simp only at he;generalize e t=x at he⊢;cases x with
 | agg cs=>simp only[eO,Ae]at he⊢;obtain⟨us,e,h⟩:=he;exact⟨us,e,hL _ _ h⟩
 | Dw cs=>simp only[eO,Ae]at he⊢;obtain⟨us,e,h⟩:=he;exact⟨us,e,hL _ _ h⟩
 | _=>exact h0 _ _ he
end Go.Abs
namespace Go.Abs
open Go
section
variable {k : Nat} {α β : Type} {l : List α} {enc : α -> List AV}
theorem Lw {id m g size sz nn j:Nat}{el el':TypeId}{i:Int}{c:α}{ys:List β}{encY:β->List AV}{x x':List AV}{e:Nat->AV}{st st':List Row}(hrow:st[id]?=some ⟨g,el,size,hole l enc i x⟩)(hi:Sh.get l i=some c)(hc:x[j]?=some (.dv el' sz (ys.map encY)))
  (hm:st.length=m) (hx':x.set j (.own m 0 ys.length)=x') (hst:st.set id ⟨g,el,size,hole l enc i x'⟩++[⟨0,el',sz,ys.map encY⟩]=st'):Wk k ⟨nn,e,st⟩ ⟨nn,e,st'⟩:=
 OV hrow (FD hi) hc hm (n:=ys.length) (by simp) (by rw[S5,hx'];exact hst)
def aZ (l:List α)(enc:α->List AV)(i:Int)(x:List AV)(j:Int)(y:List AV):List (List AV):=(hole l enc i x).set j.toNat y
theorem ZE {i j:Int}{u:α}{x y:List AV}(h:Sh.get l j=some u):(aZ l enc i x j y)[j.toNat]?=some y:=by
 have:=(Sh.get_some h).2.2;have h0:=(Sh.get_some h).1;exact ju (by simp[hole];omega)
theorem Zw {i j:Int}{w:Unit}{u v:α}(hn:Sh.apart i j=some w)(hi:Sh.get l i=some u)(hj:Sh.get l j=some v):i.toNat≠j.toNat:=λe=>by
 have h0:=(Sh.get_some hi).1;have h1:=(Sh.get_some hj).1;exact Sh.ZO hn (by omega)
theorem Wk.ez {id m g size sz nn q:Nat}{el el':TypeId}{i j:Int}{c:α}{ys:List β}{encY:β->List AV}{x y y':List AV}{e:Nat->AV}{st st':List Row}(hrow:st[id]?=some ⟨g,el,size,hole l enc i x⟩)(hj:Sh.get l j=some c)(hne:i.toNat≠j.toNat)(hy:enc c=y)(hc:y[q]?=some (.dv el' sz (ys.map encY)))
  (hm:st.length=m) (hy':y.set q (.own m 0 ys.length)=y') (hst:st.set id ⟨g,el,size,aZ l enc i x j y'⟩++[⟨0,el',sz,ys.map encY⟩]=st'):Wk k ⟨nn,e,st⟩ ⟨nn,e,st'⟩:=by
 subst hy;have hget:(hole l enc i x)[j.toNat]?=some (enc c):=by
  unfold hole;rw[kG hne];exact CV hj
 exact OV hrow hget hc hm (n:=ys.length) (by simp) (by rw[hy'];exact hst)
end
section
variable {α : Type} {l : List α} {enc : α -> List AV} {P : Program} {s : St} {x y : Operand} {t el : TypeId} {size bytes id g m : Nat} {zz : List AV} {n i j : Int} {kk : IntKind} {u : α} {z z' : List AV}
end
section
variable {P : Program} {k : Nat} {ops : Array Oper} {Q : Exit -> St -> Prop} {ds : List (Option Tmp)} {r : List Oper} {n : Nat} {e : Nat -> AV} {st st' : List Row} {ty : TypeId} {ps : String} {ed : Array Edge} {gd : Option (Nat × Bool)} {T : TypeId} {x y : Operand} {size id g sz off : Nat} {el : TypeId} {α : Type} {l : List α} {enc : α -> List AV} {c : α} {i : Int} {v : AV} {cs x0 x' : List AV} {ag : Bool}
theorem bQ (hg:GO ds gd e)(ht:D7 P T=some (ag,sz))(hx:St.ev ⟨n,e,st⟩ x=.ptr id g i.toNat off)(hr:st[id]?=some ⟨g,el,size,hole l enc i x0⟩)(hi:Sh.get l i=some c)(hv:St.ev ⟨n,e,st⟩ y=v)(hc:KP v=some cs)(hn:cs.length=sz)(hle:off+cs.length<=size)
  (hx':G5 x0 off cs=x') (hst:st.set id ⟨g,el,size,hole l enc i x'⟩=st') (hk:AO P k ops Q (ds++[none]) r ⟨n,e,st'⟩):AO P k ops Q ds (⟨none,.store T x y,ty,ps,ed,gd⟩::r) ⟨n,e,st⟩:=by
 refine Am hg ht hx hr (FD hi) hv hc hn hle ?_ hk;rw[<- hst,hx',S5]
end
section
variable {sel : List Nat} {g size : Nat} {el : TypeId} {a b : Row} {r r' : List Row}
end
end Go.Abs
