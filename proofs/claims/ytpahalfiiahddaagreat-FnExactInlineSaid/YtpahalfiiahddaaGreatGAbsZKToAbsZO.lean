import Derived.Test.YtpahalfiiahddaaGreatGAbsXToAbsZN

namespace Sh
def apart (i j:Int):Option Unit:=if i=j then none else some ()
end Sh
namespace Go.Abs
open Go
section
variable {F : Nat → Prop} {os : List Own} {s : St} {a : Act} {w : World} {k : Nat}
variable {α β : Type} {l : List α} {enc : α → List AV}
theorem MQ (h :∀y,(enc y).all AV.kept=true) :∀z∈l.map enc,z.all AV.kept=true:=fun z hz=>by
 obtain⟨y,_,rfl⟩:=List.mem_map.1 hz
 exact h y
theorem Zw {i:Int} {x:List AV}:(hole l enc i x).length=l.length:=by unfold hole;simp
section
variable {P : Program} {s : St} {x y : Operand} {t el : TypeId} {size bytes id g m : Nat} {zz : List AV} {n i : Int} {kk : IntKind} {u : α} {z : List AV}
theorem LS (he:By P t=some ⟨el,size,bytes,zz⟩) (hx:s.ev x=.own id g m) (hy:s.ev y=.int kk n) (hr:s.st[id]?=some ⟨g,el,size,hole l enc i z⟩) (hm:m=l.length) (hg:Sh.get l n=some u) :
  AQ P s (.indexAddr t x y) (.ptr id g n.toNat 0):=fun K hk=>by
 show Gl P s.st t (s.ev x) (s.ev y) K
 rw[hx,hy];subst hm;exact Aj _ he ⟨(Sh.get_some hg).1,(Sh.get_some hg).2.2,Aj _ hr ⟨rfl,rfl,by simpa [Zw] using hk⟩⟩
end
end
end Go.Abs



namespace Go.Abs
open Go
def Z1 (id g N:Nat):AV→AV
 | .own id' g' n=>if id'=id∧g'=g then .own N 0 n else .own id' g' n
 | v=>v
def cQ (id g N:Nat):AV→AV
 | .agg cs=>.agg (cs.map (Z1 id g N))
 | .DE cs=>.DE (cs.map (Z1 id g N))
 | v=>Z1 id g N v
theorem Sb {k n:Nat} {e:Nat→AV} {L:List (Nat×AV)} {st st':List Row} {id g el size N:Nat} {xs:List (List AV)} (hrow:st[id]?=some ⟨g,el,size,xs⟩) (hN:st.length=N)
  (h:ME (fun t=>cQ id g N (e t)) L) (hst:st.set id ⟨g+1,el,size,[]⟩ ++ [⟨0,el,size,xs⟩]=st'):Wk k ⟨n,e,st⟩ ⟨n,AL L,st'⟩:=by
 refine Wk.trans (s':=⟨n,fun t=>cQ id g N (e t),st'⟩) ?_ (AS h)
 intro F os a w hr
 subst hst;subst hN
 obtain⟨o,ho,hor⟩:=hr.row hrow
 have hok:=hr.rows id o ho
 have hlen:os.length=st.length:=by have:=congrArg List.length hr.st;simpa using this
 have hil:=(List.getElem?_eq_some_iff.1 ho).1
 let o1:Own:=⟨{ o.row with gen:=o.row.gen+1,xs:=[] },none,0,Dv⟩
 let o2:Own:=⟨{ o.row with gen:=0 },o.Eb,o.cap,o.more⟩
 have hget :∀(i:Nat) (oi:Own),(os.set id o1 ++ [o2])[i]?=some oi→(i≠id∧os[i]?=some oi)∨(i=id∧oi=o1)∨(i=os.length∧oi=o2):=fun i oi hi=>by
  by_cases h1:i < os.length
  ·rw[List.getElem?_append_left (by simpa using h1)] at hi
   by_cases h3:i=id
   ·subst h3;rw[List.getElem?_set_self hil] at hi;exact .inr (.inl ⟨rfl,by simpa using hi.symm⟩)
   ·rw[List.getElem?_set_ne (Ne.symm h3)] at hi;exact .inl ⟨h3,hi⟩
  ·rw[List.getElem?_append_right (by simp;omega)] at hi
   simp only[List.length_set] at hi
   have:i - os.length < 1:=(List.getElem?_eq_some_iff.1 hi).1
   have h4:i=os.length:=by omega
   subst h4
   simp only[Nat.sub_self,List.getElem?_cons_zero,Option.some.injEq] at hi
   exact .inr (.inr ⟨rfl,hi.symm⟩)
 have hnew:(os.set id o1 ++ [o2])[st.length]?=some o2:=by rw[← hlen,List.getElem?_append_right (by simp)];simp
 have hos:D3 os (os.set id o1 ++ [o2]):=fun i oi hi=>by
  have hl:=(List.getElem?_eq_some_iff.1 hi).1
  rw[List.getElem?_append_left (by simpa using hl)]
  by_cases h3:i=id
  ·subst h3
   rw[ho] at hi;cases hi
   exact⟨o1,by rw[List.getElem?_set_self hil],by simp[o1],rfl,fun e=>by simp[o1] at e⟩
  ·rw[List.getElem?_set_ne (Ne.symm h3)]
   exact⟨oi,hi,Nat.le_refl _,rfl,fun _=>⟨rfl,rfl,rfl⟩⟩
 have hmono :∀x v,Ae F w os x v→Ae F w (os.set id o1 ++ [o2]) x v:=fun x v h=>B6 (fun _ h=>h) (fun _ _=>rfl) os _ hos x v h
 have hog:o.row.gen=g:=by rw[hor]
 have h0 :∀x v,Ae F w os x v→Ae F w (os.set id o1 ++ [o2]) (Z1 id g st.length x) v:=fun x v hx=>by
  cases x with
  | own id' g' m=>
   simp only[Z1]
   split
   ·rename_i hif
    obtain⟨rfl,rfl⟩:=hif
    simp only[Ae] at hx ⊢
    obtain⟨o',ho',_,hsh,f3⟩:=hx
    rw[ho] at ho';cases ho'
    obtain⟨f4,f5⟩:=f3 hog
    exact⟨o2,hnew,Nat.le_refl _,hsh,fun _=>⟨f4,f5⟩⟩
   ·exact hmono _ _ hx
  | _=>exact hmono _ _ hx
 have hL :∀xs us,BG F w os xs us→BG F w (os.set id o1 ++ [o2]) (xs.map (Z1 id g st.length)) us:=fun xs us h=>
  Cv (by simp[A6 h]) fun i x u hx hu=>by
   simp only[List.getElem?_map,Option.map_eq_some_iff] at hx
   obtain⟨y,hy,rfl⟩:=hx
   obtain⟨u',e1,e2⟩:=BX h i y hy
   rw[hu] at e1;cases e1
   exact h0 _ _ e2
 have hown :∀(i:Nat) (oi:Own) b,(os.set id o1 ++ [o2])[i]?=some oi→oi.owns b→∃(i':Nat) (oi':Own),os[i']?=some oi'∧oi'.owns b∧((i'=id∧i=os.length)∨(i'≠id∧i=i')):=fun i oi b hi hb=>by
  rcases hget i oi hi with ⟨h1,h3⟩ | ⟨rfl,rfl⟩ | ⟨rfl,rfl⟩
  ·exact⟨i,oi,h3,hb,.inr ⟨h1,rfl⟩⟩
  ·rcases hb with hb | hb
   ·simp[o1] at hb
   ·exact hb.elim
  ·exact⟨id,o,ho,hb,.inl ⟨rfl,rfl⟩⟩
 have h:=hr.Tl (k:=k) (FF.refl w none) (by simp) hos (fun i oi hi=>by
   rcases hget i oi hi with ⟨h1,h3⟩ | ⟨rfl,rfl⟩ | ⟨rfl,rfl⟩
   ·exact .inl ⟨h3,by simp⟩
   ·exact .inr ⟨hok.pos,by simp[o1],by simp[o1],by simp[o1],fun b hb=>hb.elim,Cs (by simp[o1])⟩
   ·refine .inr ⟨hok.pos,hok.lens,hok.none,fun b hb=>?_,hok.mo,hok.deep.keep rfl (fun _ h=>h) rfl (fun _ _=>rfl) (fun i' x j' e' s' ys h1 h2=>⟨x,h1,h2⟩)⟩
    obtain⟨e1,cur,e2,e3,e4,e5,e6⟩:=hok.some b hb
    exact⟨e1,cur,e2,e3,e4,e5,fun i' x hx j' c hcj=>by obtain⟨u,f1,f2⟩:=e6 i' x hx j' c hcj;exact⟨u,f1,hmono _ _ f2⟩⟩)
  (fun i j' oi oj b hi hj hbi hbj=>by
   obtain⟨i',oi',e1,e2,e3⟩:=hown i oi b hi hbi
   obtain⟨j'',oj',f1,f2,f3⟩:=hown j' oj b hj hbj
   have:=hr.inj i' j'' oi' oj' b e1 f1 e2 f2
   subst this
   omega)
  (fun o' ho' b hb=>by
   obtain⟨i,hi⟩:=List.mem_iff_getElem?.1 ho'
   obtain⟨i',oi',e1,e2,_⟩:=hown i o' b hi hb
   exact .inr ⟨oi',List.mem_of_getElem? e1,e2⟩)
  (by simp)
 refine⟨F,_,?_,h.2.1⟩
 have h1:=h.1
 have e1:o1.row=⟨g+1,el,size,[]⟩:=by simp only[o1,hor]
 have e3:o2.row=⟨0,el,size,xs⟩:=by simp only[o2,hor]
 have h2:List.map Own.row (os.set id o1 ++ [o2])=st.set id ⟨g+1,el,size,[]⟩ ++ [⟨0,el,size,xs⟩]:=by
  rw[List.map_append,List.map_set,hr.st,List.map_cons,List.map_nil,e1,e3]
 refine⟨h2,fun t=>?_,h1.size,h1.rows,h1.inj,h1.EO,h1.defers⟩
 have he:=hr.env t
 show Ae F w _ (cQ id g st.length (e t)) _
 simp only at he
 generalize e t=x at he ⊢
 cases x with
 | agg cs=>simp only[cQ,Ae] at he ⊢;obtain⟨us,e,h⟩:=he;exact⟨us,e,hL _ _ h⟩
 | DE cs=>simp only[cQ,Ae] at he ⊢;obtain⟨us,e,h⟩:=he;exact⟨us,e,hL _ _ h⟩
 | _=>exact h0 _ _ he
end Go.Abs



namespace Go.Abs
open Go
section
variable {k : Nat} {α β : Type} {l : List α} {enc : α → List AV}
theorem Ht {id m g size sz nn j:Nat} {el el':TypeId} {i:Int} {c:α} {ys:List β} {encY:β→List AV} {x x':List AV} {e:Nat→AV} {st st':List Row} (hrow:st[id]?=some ⟨g,el,size,hole l enc i x⟩) (hi:Sh.get l i=some c) (hc:x[j]?=some (.dv el' sz (ys.map encY)))
  (hm:st.length=m) (hx':x.set j (.own m 0 ys.length)=x') (hst:st.set id ⟨g,el,size,hole l enc i x'⟩ ++ [⟨0,el',sz,ys.map encY⟩]=st'):Wk k ⟨nn,e,st⟩ ⟨nn,e,st'⟩:=
 Ql hrow (Be hi) hc hm (n:=ys.length) (by simp) (by rw[Rk,hx'];exact hst)
end
section
variable {α : Type} {l : List α} {enc : α → List AV} {P : Program} {s : St} {x y : Operand} {t el : TypeId} {size bytes id g m : Nat} {zz : List AV} {n i j : Int} {kk : IntKind} {u : α} {z z' : List AV}
end
section
variable {P : Program} {k : Nat} {ops : Array Oper} {Q : Exit → St → Prop} {ds : List (Option Tmp)} {r : List Oper} {n : Nat} {e : Nat → AV} {st st' : List Row} {ty : TypeId} {ps : String} {ed : Array Edge} {gd : Option (Nat × Bool)} {T : TypeId} {x y : Operand} {size id g sz off : Nat} {el : TypeId} {α : Type} {l : List α} {enc : α → List AV} {c : α} {i : Int} {v : AV} {cs x0 x' : List AV} {ag : Bool}
theorem ZZ (hg:GO ds gd e) (ht:Ch P T=some (ag,sz)) (hx:St.ev ⟨n,e,st⟩ x=.ptr id g i.toNat off) (hr:st[id]?=some ⟨g,el,size,hole l enc i x0⟩) (hi:Sh.get l i=some c) (hv:St.ev ⟨n,e,st⟩ y=v) (hc:JF v=some cs) (hn:cs.length=sz) (hle:off+cs.length≤size)
  (hx':F7 x0 off cs=x') (hst:st.set id ⟨g,el,size,hole l enc i x'⟩=st') (hk:AO P k ops Q (ds ++ [none]) r ⟨n,e,st'⟩):AO P k ops Q ds (⟨none,.store T x y,ty,ps,ed,gd⟩ :: r) ⟨n,e,st⟩:=by
 refine Ay hg ht hx hr (Be hi) hv hc hn hle ?_ hk
 rw[← hst,hx',Rk]
end
section
variable {sel : List Nat} {g size : Nat} {el : TypeId} {a b : Row} {r r' : List Row}
end
end Go.Abs

