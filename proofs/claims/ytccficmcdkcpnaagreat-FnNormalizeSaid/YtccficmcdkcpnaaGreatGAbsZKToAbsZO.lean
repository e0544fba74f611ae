import Derived.Test.YtccficmcdkcpnaaGreatGAbsXToAbsZN
set_option linter.all false
namespace Sh
def apart (i j:Int):Option Unit:=if i=j then none else some ()
end Sh
namespace Go.Abs
open Go
section
variable {F : Nat -> Prop} {os : List Own} {s : St} {a : Act} {w : World} {k : Nat}
theorem Wk.ly {id m g gm size sz n i j nn:Nat}{el el':TypeId}{xs ys:List (List AV)}{x:List AV}{e:Nat->AV}{st st':List Row}(uj:st[id]?=some ⟨g,el,size,xs⟩)(hx:xs[i]?=some x)(hc:x[j]?=some (.own m gm n))
  (hm:st[m]?=some ⟨gm,el',sz,ys⟩) (hn:n=ys.length) (vZ:id≠m) (xE:k<=m) (hp:D0 ys) (vX:(st.set id ⟨g,el,size,xs.set i (x.set j (.sl ys))⟩).set m ⟨gm+1,el',sz,[]⟩=st') :
  Wk k ⟨nn,e,st⟩ ⟨nn,e,st'⟩:=λF os a w hr=>by
 subst vX;subst hn;obtain⟨o,ho,hor⟩:=hr.row uj;obtain⟨p,hpp,hpr⟩:=hr.row hm;have vF:=hr.rows id o ho;have zH:=hr.rows m p hpp;have vX:os.map Own.row=st:=hr.st;have zI:o.row.xs=xs:=by rw[hor]
 have hpx:p.row.xs=ys:=by rw[hpr]
 have zD:∀x∈p.row.xs,∀c∈x,c.leaf=true:=λx hx c hc=>by
  have h1:=hp x (by rw[<- hpx];exact hx) c hc;have h2:=(zH.lens x hx).2 c hc;cases c<;>simp_all [simple,AV.leaf,AV.kept]
 let o':Own:={ o with row:={ o.row with xs:=xs.set i (x.set j (.sl ys)) } }
 let p':Own:=⟨{ p.row with gen:=p.row.gen+1,xs:=[] },none,0,p.more⟩
 let F':Nat->Prop:=λb=>F b∨p.GB=some b
 have hF:∀b,F b->F' b:=λ_ h=>.inl h;have wz:i<xs.length:=(px.1 hx).1;have zB:j<x.length:=(px.1 hc).1;have hidl:=(px.1 ho).1;have zY:=(px.1 hpp).1;have vJ:∀(q:Nat) (oq:Own),((os.set id o').set m p')[q]?=some oq->(q≠id/\q≠m/\os[q]?=some oq)∨(q=id/\oq=o')∨(q=m/\oq=p'):=λq oq hq=>by
  by_cases e:q=m
  ·subst e;rw[qI (by simpa using zY),pz]at hq;exact .inr (.inr ⟨rfl,hq.symm⟩)
  ·rw[qZ (rX e)]at hq;by_cases e2:q=id
   ·subst e2;rw[qI hidl,pz]at hq;exact .inr (.inl ⟨rfl,hq.symm⟩)
   ·rw[qZ (rX e2)]at hq;exact .inl ⟨e2,e,hq⟩
 have vq:F8 os ((os.set id o').set m p'):=λq oq hq=>by
  by_cases e:q=m
  ·subst e;rw[hpp]at hq;cases hq;exact⟨p',qI (by simpa using zY),Nat.le_succ _,rfl,λe=>by simp[p']at e⟩
  ·rw[qZ (rX e)];by_cases e2:q=id
   ·subst e2;rw[ho]at hq;cases hq;exact⟨o',qI hidl,qU _,rfl,λ_=>⟨rfl,rfl,by simp[o',zI]⟩⟩
   ·rw[qZ (rX e2)];exact⟨oq,hq,qU _,rfl,λ_=>⟨rfl,rfl,rfl⟩⟩
 have vL:∀y v,Ac F w os y v->Ac F' w ((os.set id o').set m p') y v:=λy v h=>Ds hF (λ_ _=>rfl) os _ vq y v h;have vn:∀x∈p.row.xs,∀c∈x,∀u,Ac F w os c u->Ac F' w [] c u:=λx hx c hc u hu=>
  Ds hF (λ_ _=>rfl) [] [] (by simp) c u (Fu (hp x (by rw[<- hpx];exact hx) c hc) [] hu)
 have hpn:∀b,p'.owns b->p.owns b:=λb hb=>by
  rcases hb with hb|hb
  ·simp[p']at hb
  ·exact .inr hb
 obtain⟨bo,hbo⟩ :∃b,o.GB=some b:=by
  cases hb:o.GB with
  | none=>have:=(vF.none hb).1;rw[zI]at this;rw[this]at wz;simp at wz
  | some b=>exact⟨b,rfl⟩
 obtain⟨hnF,cur,vU,vY,hle,xQ,vR⟩:=vF.some bo hbo;obtain⟨uv,hu1,xg⟩:=vR i x (by rw[zI];exact hx) j _ hc;have hnew:Ac F' w ((os.set id o').set m p') (.sl ys) uv:=by
  simp only[Ac]at xg⊢;obtain⟨q,hq,_,_,hv⟩:=xg;rw[hpp]at hq;cases hq;have h2:=(hv (by rw[hpr])).2;rw[hpx,sK,tP,tm]at h2;rcases h2 with ⟨hb,ad,rfl⟩|⟨b,hb,rfl⟩
  ·have h0:=(zH.none hb).1;rw[hpx]at h0;subst h0;exact⟨ad,0,rfl,qU _,by simp⟩
  ·obtain⟨_,cur2,hcur2,hsz2,hle2,_,hcells2⟩:=zH.some b hb;rw[hpx]at hle2;refine⟨_,p.cap,rfl,hle2,λ_=>⟨b,0,p.row.size,rfl,.inr hb,λx hx=>(zH.lens x (by rw[hpx];exact hx)).1,?_⟩⟩;refine L8 (λx hx=>(zH.lens x (by rw[hpx];exact hx)).1) λq z hz=>LG λr c hcz=>?_;have hzm:z∈p.row.xs:=by rw[hpx];exact pt hz
   obtain⟨u,e1,e2⟩:=hcells2 q z (by rw[hpx];exact hz) r c hcz;refine⟨u,?_,zD z hzm c (pt hcz),vn z hzm c (pt hcz) u e2⟩;rw[rT,sb w b _ cur2 _ _ hcur2];exact e1
 have hnP:∀(q:Nat) (oq:Own) b,q≠m->os[q]?=some oq->oq.owns b->¬ F' b:=λq oq b hq hoq hb hFb=>
  hFb.elim ((hr.rows q oq hoq).nF hb) λh=>hq (hr.inj q m oq p b hoq hpp hb (.inl h))
 refine⟨F',(os.set id o').set m p',⟨?_,λt=>vL _ _ (hr.env t),hr.size,λq oq hq=>?_,λq q' oq oq' b hq hq' hb vy=>?_,λb hb=>?_,hr.defers⟩,⟨rfl,rfl,rfl,qU _,hF,λ_ _=>rfl,λb _ h1 h2=>⟨rfl,?_,λoq hoq hb=>?_⟩,λq oq _ hq=>vq q oq hq⟩⟩
 ·rw[rh,rh,vX];simp only[o',p',hor,hpr]
 ·rcases vJ q oq hq with ⟨_,h2,h⟩|⟨_,rfl⟩|⟨_,rfl⟩
  ·have h0:=hr.rows q oq h;refine⟨h0.pos,h0.lens,h0.none,λb hb=>?_,λb hb=>⟨hnP q oq b h2 h (.inr hb),(h0.mo b hb).2⟩,h0.deep⟩;obtain⟨e1,cur,e2,e3,e4,e5,e6⟩:=h0.some b hb;exact⟨hnP q oq b h2 h (.inl hb),cur,e2,e3,e4,e5,λi' y hy j' c hc=>by obtain⟨u,f1,f2⟩:=e6 i' y hy j' c hc;exact⟨u,f1,vL _ _ f2⟩⟩
  ·refine⟨vF.pos,λy hy=>?_,(λhn=>by simp only[o']at hn;rw[hbo]at hn;cases hn),λb hb=>?_,λb hb=>⟨hnP id o b vZ ho (.inr hb),(vF.mo b hb).2⟩,?_⟩
   ·rcases rB hy with hy|rfl
    ·exact vF.lens y (by rw[zI];exact hy)
    ·have h0:=vF.lens x (by rw[zI];exact pt hx);refine⟨by rw[tp];exact h0.1,λc xH=>?_⟩;rcases rB xH with h|rfl
     ·exact h0.2 c h
     ·rfl
   ·simp only[o']at hb;rw[hbo]at hb;cases hb;refine⟨hnP id o bo vZ ho (.inl hbo),cur,vU,vY,by simpa [o',zI] using hle,xQ,λi' y hy j' c yJ=>?_⟩;simp only[o']at hy⊢;by_cases hi:i'=i
    ·subst hi;rw[qI wz,pz]at hy;subst hy;by_cases hj:j'=j
     ·subst hj;rw[qI zB,pz]at yJ;subst yJ;exact⟨uv,hu1,hnew⟩
     ·rw[qZ (rX hj)]at yJ;obtain⟨u,f1,f2⟩:=vR i' x (by rw[zI];exact hx) j' c yJ;exact⟨u,f1,vL _ _ f2⟩
    ·rw[qZ (rX hi)]at hy;obtain⟨u,f1,f2⟩:=vR i' y (by rw[zI];exact hy) j' c yJ;exact⟨u,f1,vL _ _ f2⟩
   ·refine vF.deep.keep rfl (λ_ h=>h) rfl (λ_ _=>rfl) λi' y j' e2 s2 zs hy yJ=>?_;simp only[o']at hy;rw[zI];by_cases hi:i'=i
    ·subst hi;rw[qI wz,pz]at hy;subst hy;by_cases hj:j'=j
     ·subst hj;rw[qI zB,pz]at yJ;cases yJ
     ·rw[qZ (rX hj)]at yJ;exact⟨x,hx,yJ⟩
    ·rw[qZ (rX hi)]at hy;exact⟨y,hy,yJ⟩
  ·exact⟨zH.pos,by simp[p'],by simp[p'],by simp[p'],λb hb=>⟨λhFb=>hFb.elim (zH.mo b hb).1 (zH.mo b hb).2.2,(zH.mo b hb).2.1,by simp[p']⟩,E7 (by simp[p'])⟩
 ·have zZ:∀b,o'.owns b->o.owns b:=λb hb=>hb;rcases vJ q oq hq with ⟨q1,q2,h⟩|⟨rfl,rfl⟩|⟨rfl,rfl⟩<;>rcases vJ q' oq' hq' with ⟨q1',q2',h'⟩|⟨rfl,rfl⟩|⟨rfl,rfl⟩
  ·exact hr.inj q q' oq oq' b h h' hb vy
  ·exact hr.inj q _ oq o b h ho hb (zZ b vy)
  ·exact hr.inj q _ oq p b h hpp hb (hpn b vy)
  ·exact hr.inj _ q' o oq' b ho h' (zZ b hb) vy
  ·rfl
  ·exact hr.inj _ _ o p b ho hpp (zZ b hb) (hpn b vy)
  ·exact hr.inj _ q' p oq' b hpp h' (hpn b hb) vy
  ·exact hr.inj _ _ p o b hpp ho (hpn b hb) (zZ b vy)
  ·rfl
 ·exact hb.elim (hr.HO b) λh=>zH.lt (.inl h)
 ·exact λhFb=>hFb.elim h1 λh=>h2 p (pt hpp) (.inl h)
 ·obtain⟨q,hq⟩:=qf.1 hoq;rcases vJ q oq hq with ⟨_,_,h⟩|⟨_,rfl⟩|⟨_,rfl⟩
  ·exact h2 oq (pt h) hb
  ·exact h2 o (pt ho) hb
  ·exact h2 p (pt hpp) (hpn b hb)
variable {α β : Type} {l : List α} {enc : α -> List AV}
section
variable {P : Program} {s : St} {x y : Operand} {t el : TypeId} {size bytes id g m : Nat} {zz : List AV} {n i : Int} {kk : IntKind} {u : α} {z : List AV}
end
end
end Go.Abs
namespace Go.Abs
open Go
end Go.Abs
namespace Go.Abs
open Go
section
variable {k : Nat} {α β : Type} {l : List α} {enc : α -> List AV}
end
section
variable {α : Type} {l : List α} {enc : α -> List AV} {P : Program} {s : St} {x y : Operand} {t el : TypeId} {size bytes id g m : Nat} {zz : List AV} {n i j : Int} {kk : IntKind} {u : α} {z z' : List AV}
end
section
variable {P : Program} {k : Nat} {ops : Array Oper} {Q : Exit -> St -> Prop} {ds : List (Option Tmp)} {r : List Oper} {n : Nat} {e : Nat -> AV} {st st' : List Row} {ty : TypeId} {ps : String} {ed : Array Edge} {gd : Option (Nat × Bool)} {T : TypeId} {x y : Operand} {size id g sz off : Nat} {el : TypeId} {α : Type} {l : List α} {enc : α -> List AV} {c : α} {i : Int} {v : AV} {cs x0 x' : List AV} {ag : Bool}
end
section
variable {sel : List Nat} {g size : Nat} {el : TypeId} {a b : Row} {r r' : List Row}
end
end Go.Abs
