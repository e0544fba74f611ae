import Derived.Test.YtihdgoiebmfapaaGreatGAbsXToAbsZN
set_option linter.all false
namespace Sh
def apart (i j:Int):Option Unit:=if i=j then none else some ()
end Sh
namespace Go.Abs
open Go
section
variable {F : Nat -> Prop} {os : List Own} {s : St} {a : Act} {w : World} {k : Nat}
variable {α β : Type} {l : List α} {enc : α -> List AV}
theorem Zr (h :∀y,(enc y).all AV.kept=true):∀z∈l.map enc,z.all AV.kept=true:=λz hz=>by
 obtain⟨y,_,rfl⟩:=pQ.1 hz;exact h y
theorem iE {i:Int}{x:List AV}:(hole l enc i x).length=l.length:=by unfold hole;simp
section
variable {P : Program} {s : St} {x y : Operand} {t el : TypeId} {size bytes id g m : Nat} {zz : List AV} {n i : Int} {kk : IntKind} {u : α} {z : List AV}
theorem TU (he:DB P t=some ⟨el,size,bytes,zz⟩)(hx:s.ev x=.own id g m)(hy:s.ev y=.int kk n)(hr:s.st[id]?=some ⟨g,el,size,hole l enc i z⟩)(hm:m=l.length)(hg:Sh.get l n=some u):
  AQ P s (.indexAddr t x y) (.ptr id g n.toNat 0):=λK hk=>by
 show It P s.st t (s.ev x) (s.ev y) K;rw[hx,hy];subst hm;exact Ak _ he ⟨(Sh.get_some hg).1,(Sh.get_some hg).2.2,Ak _ hr ⟨rfl,rfl,by simpa [iE] using hk⟩⟩
end
end
end Go.Abs
namespace Go.Abs
open Go
def iA (id g N:Nat):AV->AV
 |.own vH g' n=>if vH=id/\g'=g then .own N 0 n else .own vH g' n
 |v=>v
def ik (id g N:Nat):AV->AV
 |.agg cs=>.agg (cs.map (iA id g N))
 |.C8 cs=>.C8 (cs.map (iA id g N))
 |v=>iA id g N v
theorem Vm {k n:Nat}{e:Nat->AV}{L:List (Nat×AV)}{st st':List Row}{id g el size N:Nat}{xs:List (List AV)}(tv:st[id]?=some ⟨g,el,size,xs⟩)(hN:st.length=N)
  (h:ME (λt=>ik id g N (e t)) L) (uV:st.set id ⟨g+1,el,size,[]⟩++[⟨0,el,size,xs⟩]=st'):Wk k ⟨n,e,st⟩ ⟨n,AP L,st'⟩:=by
 refine Wk.trans (s':=⟨n,λt=>ik id g N (e t),st'⟩) ?_ (Ag h);intro F os a w hr;subst uV;subst hN;obtain⟨o,ho,hor⟩:=hr.row tv;have tz:=hr.rows id o ho;have hlen:os.length=st.length:=by have:=qX List.length hr.st;simpa using this
 have vk:=(pA.1 ho).1
 let o1:Own:=⟨{ o.row with gen:=o.row.gen+1,xs:=[] },none,0,GF⟩
 let o2:Own:=⟨{ o.row with gen:=0 },o.GA,o.cap,o.more⟩
 have uD:∀(i:Nat) (oi:Own),(os.set id o1++[o2])[i]?=some oi->(i≠id/\os[i]?=some oi)∨(i=id/\oi=o1)∨(i=os.length/\oi=o2):=λi oi hi=>by
  by_cases h1:i<os.length
  .rw[pM (by simpa using h1)]at hi;by_cases h3:i=id
   .subst h3;rw[pO vk]at hi;exact .inr (.inl ⟨rfl,by simpa using hi.symm⟩)
   .rw[pd (qv h3)]at hi;exact .inl ⟨h3,hi⟩
  .rw[pN (by simp;omega)]at hi;simp only[tI]at hi;have:i-os.length<1:=(pA.1 hi).1;have h4:i=os.length:=by omega
   subst h4;simp only[qx,ph,pC]at hi;exact .inr (.inr ⟨rfl,hi.symm⟩)
 have hnew:(os.set id o1++[o2])[st.length]?=some o2:=by rw[<- hlen,pN (by simp)];simp
 have vP:Fp os (os.set id o1++[o2]):=λi oi hi=>by
  have hl:=(pA.1 hi).1;rw[pM (by simpa using hl)];by_cases h3:i=id
  .subst h3;rw[ho]at hi;cases hi;exact⟨o1,by rw[pO vk],by simp[o1],rfl,λe=>by simp[o1]at e⟩
  .rw[pd (qv h3)];exact⟨oi,hi,pL _,rfl,λ_=>⟨rfl,rfl,rfl⟩⟩
 have uG:∀x v,Ab F w os x v->Ab F w (os.set id o1++[o2]) x v:=λx v h=>DW (λ_ h=>h) (λ_ _=>rfl) os _ vP x v h;have hog:o.row.gen=g:=by rw[hor]
 have h0:∀x v,Ab F w os x v->Ab F w (os.set id o1++[o2]) (iA id g st.length x) v:=λx v hx=>by
  cases x with
  |own vH g' m=>
   simp only[iA];split
   .rename_i hif;obtain⟨rfl,rfl⟩:=hif;simp only[Ab]at hx⊢;obtain⟨o',uw,_,yZ,f3⟩:=hx;rw[ho]at uw;cases uw;obtain⟨f4,f5⟩:=f3 hog;exact⟨o2,hnew,pL _,yZ,λ_=>⟨f4,f5⟩⟩
   .exact uG _ _ hx
  |_=>exact uG _ _ hx
 have hL:∀xs us,Br F w os xs us->Br F w (os.set id o1++[o2]) (xs.map (iA id g st.length)) us:=λxs us h=>
  Db (by simp[BX h]) λi x u hx hu=>by
   simp only[pB,pH]at hx;obtain⟨y,hy,rfl⟩:=hx;obtain⟨u',e1,e2⟩:=CH h i y hy;rw[hu]at e1;cases e1;exact h0 _ _ e2
 have hown:∀(i:Nat) (oi:Own) b,(os.set id o1++[o2])[i]?=some oi->oi.owns b->∃(i':Nat) (oi':Own),os[i']?=some oi'/\oi'.owns b/\((i'=id/\i=os.length)∨(i'≠id/\i=i')):=λi oi b hi hb=>by
  rcases uD i oi hi with ⟨h1,h3⟩|⟨rfl,rfl⟩|⟨rfl,rfl⟩
  .exact⟨i,oi,h3,hb,.inr ⟨h1,rfl⟩⟩
  .rcases hb with hb|hb
   .simp[o1]at hb
   .exact hb.elim
  .exact⟨id,o,ho,hb,.inl ⟨rfl,rfl⟩⟩
 have h:=hr.Zt (k:=k) (HA.refl w none) (by simp) vP (λi oi hi=>by
   rcases uD i oi hi with ⟨h1,h3⟩|⟨rfl,rfl⟩|⟨rfl,rfl⟩
   .exact .inl ⟨h3,by simp⟩
   .exact .inr ⟨tz.pos,by simp[o1],by simp[o1],by simp[o1],λb hb=>hb.elim,EJ (by simp[o1])⟩
   .refine .inr ⟨tz.pos,tz.lens,tz.none,λb hb=>?_,tz.mo,tz.deep.keep rfl (λ_ h=>h) rfl (λ_ _=>rfl) (λi' x j' e' s' ys h1 h2=>⟨x,h1,h2⟩)⟩;obtain⟨e1,cur,e2,e3,e4,e5,e6⟩:=tz.some b hb;exact⟨e1,cur,e2,e3,e4,e5,λi' x hx j' c hcj=>by obtain⟨u,f1,f2⟩:=e6 i' x hx j' c hcj;exact⟨u,f1,uG _ _ f2⟩⟩)
  (λi j' oi oj b hi hj wJ wK=>by
   obtain⟨i',oi',e1,e2,e3⟩:=hown i oi b hi wJ;obtain⟨j'',oj',f1,f2,f3⟩:=hown j' oj b hj wK;have:=hr.inj i' j'' oi' oj' b e1 f1 e2 f2;subst this;omega)
  (λo' uw b hb=>by
   obtain⟨i,hi⟩:=pY.1 uw;obtain⟨i',oi',e1,e2,_⟩:=hown i o' b hi hb;exact .inr ⟨oi',ov e1,e2⟩)
  (by simp)
 refine⟨F,_,?_,h.2.1⟩;have h1:=h.1;have e1:o1.row=⟨g+1,el,size,[]⟩:=by simp only[o1,hor]
 have e3:o2.row=⟨0,el,size,xs⟩:=by simp only[o2,hor]
 have h2:List.map Own.row (os.set id o1++[o2])=st.set id ⟨g+1,el,size,[]⟩++[⟨0,el,size,xs⟩]:=by
  rw[qu,rN,hr.st,pc,qt,e1,e3]
 refine⟨h2,λt=>?_,h1.size,h1.rows,h1.inj,h1.Fu,h1.defers⟩;have he:=hr.env t;show Ab F w _ (ik id g st.length (e t)) _;simp only at he;generalize e t=x at he⊢;cases x with
 |agg cs=>simp only[ik,Ab]at he⊢;obtain⟨us,e,h⟩:=he;exact⟨us,e,hL _ _ h⟩
 |C8 cs=>simp only[ik,Ab]at he⊢;obtain⟨us,e,h⟩:=he;exact⟨us,e,hL _ _ h⟩
 |_=>exact h0 _ _ he
end Go.Abs
namespace Go.Abs
open Go
section
variable {k : Nat} {α β : Type} {l : List α} {enc : α -> List AV}
theorem Wk.lN {id m g size sz nn j:Nat}{el xT:TypeId}{i:Int}{c:α}{ys:List β}{encY:β->List AV}{x x':List AV}{e:Nat->AV}{st st':List Row}(tv:st[id]?=some ⟨g,el,size,hole l enc i x⟩)(hi:Sh.get l i=some c)(hc:x[j]?=some (.dv xT sz (ys.map encY)))
  (hm:st.length=m) (xS:x.set j (.own m 0 ys.length)=x') (uV:st.set id ⟨g,el,size,hole l enc i x'⟩++[⟨0,xT,sz,ys.map encY⟩]=st'):Wk k ⟨nn,e,st⟩ ⟨nn,e,st'⟩:=
 Tk tv (L4 hi) hc hm (n:=ys.length) (by simp) (by rw[Ut,xS];exact uV)
end
section
variable {α : Type} {l : List α} {enc : α -> List AV} {P : Program} {s : St} {x y : Operand} {t el : TypeId} {size bytes id g m : Nat} {zz : List AV} {n i j : Int} {kk : IntKind} {u : α} {z z' : List AV}
end
section
variable {P : Program} {k : Nat} {ops : Array Oper} {Q : Exit -> St -> Prop} {ds : List (Option Tmp)} {r : List Oper} {n : Nat} {e : Nat -> AV} {st st' : List Row} {ty : TypeId} {ps : String} {ed : Array Edge} {gd : Option (Nat × Bool)} {T : TypeId} {x y : Operand} {size id g sz off : Nat} {el : TypeId} {α : Type} {l : List α} {enc : α -> List AV} {c : α} {i : Int} {v : AV} {cs x0 x' : List AV} {ag : Bool}
theorem ff (hg:GO ds gd e)(ht:Dc P T=some (ag,sz))(hx:St.ev ⟨n,e,st⟩ x=.ptr id g i.toNat off)(hr:st[id]?=some ⟨g,el,size,hole l enc i x0⟩)(hi:Sh.get l i=some c)(hv:St.ev ⟨n,e,st⟩ y=v)(hc:J9 v=some cs)(hn:cs.length=sz)(hle:off+cs.length<=size)
  (xS:HL x0 off cs=x') (uV:st.set id ⟨g,el,size,hole l enc i x'⟩=st') (hk:AO P k ops Q (ds++[none]) r ⟨n,e,st'⟩):AO P k ops Q ds (⟨none,.store T x y,ty,ps,ed,gd⟩::r) ⟨n,e,st⟩:=by
 refine Ja hg ht hx hr (L4 hi) hv hc hn hle ?_ hk;rw[<- uV,xS,Ut]
end
section
variable {sel : List Nat} {g size : Nat} {el : TypeId} {a b : Row} {r r' : List Row}
end
end Go.Abs
