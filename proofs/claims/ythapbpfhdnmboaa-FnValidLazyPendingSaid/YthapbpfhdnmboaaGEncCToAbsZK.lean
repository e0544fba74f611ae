import Derived.Test.YthapbpfhdnmboaaGEncToEncB
import Derived.Test.YthapbpfhdnmboaaAbsW
import Derived.Lib.AppendZerosOnto
import Derived.OrdersHeld

namespace RC
open Go Go.Abs
inductive Hq where
 | mk (op num:Int) (kids:List Hq)
def Hq.op:Hq→Int | .mk o _ _=>o
def Hq.num:Hq→Int | .mk _ n _=>n
def Hq.kids:Hq→List Hq | .mk _ _ k=>k
end RC



namespace Go.Abs
open Go
variable {P : Program} {F : Nat → Prop} {os : List Ai} {s : St} {a : Act} {w : World} {k : Nat}
end Go.Abs



namespace Go.Abs
open Go
variable {P : Program} {F : Nat → Prop} {os : List Ai} {s : St} {a : Act} {w : World} {k : Nat}
variable {α β : Type} {l : List α} {enc : α → List AV}
section
variable {ops : Array Oper} {Q : Exit → St → Prop} {ds : List (Option Tmp)} {r : List Oper} {n : Nat} {e : Nat → AV} {st st' : List Row} {ty : TypeId} {ps : String} {ed : Array Edge} {t : Tmp} {v : AV} {gd : Option (Nat × Bool)} {T : TypeId} {x y : Operand} {ag : Bool} {sz id g size : Nat} {el : TypeId} {cs : List AV} {c : α} {i : Int}
end
end Go.Abs



namespace Go.Abs
open Go
variable {P : Program} {F : Nat → Prop} {os : List Ai} {s : St} {a : Act} {w : World} {k : Nat}
section
variable {α : Type} {l : List α} {enc : α → List AV}
variable {ops : Array Oper} {Q : Exit → St → Prop} {ds : List (Option Tmp)} {r : List Oper} {n : Nat} {e : Nat → AV} {st st' : List Row} {ty : TypeId} {ps : String} {ed : Array Edge} {t : Tmp} {T : TypeId} {x y : Operand} {m bytes size : Nat} {el : TypeId} {zz : List AV} {u : α} {j : Int} {kk kk' : IntKind}
end
end Go.Abs



namespace Go.Abs
open Go
variable {P : Program} {F : Nat → Prop} {os : List Ai} {s : St} {a : Act} {w : World} {k : Nat}
variable {α β : Type} {l : List α} {enc : α → List AV}
end Go.Abs
namespace Go.Abs
open Go
section
variable {P : Program} {k : Nat} {α : Type} {l l' : List α} {enc : α → List AV} {c : α}
variable {ops : Array Oper} {Q : Exit → St → Prop} {ds : List (Option Tmp)} {r : List Oper} {n : Nat} {e : Nat → AV} {st st' : List Row} {ty : TypeId} {ps : String} {ed : Array Edge} {t : Tmp} {gd : Option (Nat × Bool)} {T : TypeId} {x y : Operand} {bytes size id g m q gq size' : Nat} {el el' : TypeId} {zz cs : List AV}
end
end Go.Abs



namespace Go.Abs
open Go
variable {P : Program} {F : Nat → Prop} {os : List Ai} {s : St} {a : Act} {w : World} {k : Nat}
variable {α : Type} {l : List α} {enc enc' : α → List AV} {n id g m size : Nat} {e : Nat → AV} {st st' : List Row} {L : List (Nat × AV)} {el : TypeId} {xs : List (List AV)}
end Go.Abs



namespace RC
open Go Go.Abs
end RC



namespace Go.Abs
open Go
variable {P : Program} {F : Nat → Prop} {os : List Ai} {s : St} {a : Act} {w : World} {k : Nat}
section
variable {P : Program} {ops : Array Oper} {Q : Exit → St → Prop} {n N f i : Nat} {listed listed' : Array Bool} {e : Nat → AV} {ty : TypeId} {p : String} {ed : Array Edge} {t : Tmp} {α : Type} {l l2 l' : List α} {enc : α → List AV} {x y : Operand} {g m size bytes : Nat} {el : TypeId} {zz : List AV} {T : TypeId} {IA : List Row} {k : Nat}
theorem AG (h:listed=listed') {s:St} (ha:AX P k ops Q N f listed s):AX P k ops Q N f listed' s:=h ▸ ha
theorem Et {s:St} (h :∀A:Nat→Array Bool→St→Prop,(∀f l s,A f l s↔AX P k ops Q N f l s)→A f listed s):AX P k ops Q N f listed s:=
 h (AX P k ops Q N) (fun _ _ _=>Iff.rfl)
end
section
variable {P : Program} {ds : List (Option Tmp)} {r : List Oper} {KS : St → Prop} {n : Nat} {e : Nat → AV} {st : List Row} {ty : TypeId} {ps : String} {ed : Array Edge} {t : Tmp} {gd : Option (Nat × Bool)} {α : Type} {l l' : List α} {enc : α → List AV} {x : Operand} {size bytes : Nat} {el T : TypeId} {zz : List AV}
end
end Go.Abs



namespace Go.Abs
open Go
section
variable {P : Program} {k : Nat} {ops : Array Oper} {Q : Exit → St → Prop} {ds : List (Option Tmp)} {r : List Oper} {n : Nat} {e : Nat → AV} {st st' : List Row} {ty : TypeId} {p : String} {ed : Array Edge} {t : Tmp} {x y : Operand} {size bytes m : Nat} {el T Tn : TypeId} {zz : List AV} {α : Type} {enc : α → List AV} {u : α} {l' : List α} {kk : IntKind} {j : Int} {v : AV} {o : Oper}
end
section
variable {P : Program} {ds : List (Option Tmp)} {r : List Oper} {KS : St → Prop} {n : Nat} {e : Nat → AV} {st : List Row} {ty : TypeId} {ps : String} {ed : Array Edge} {t : Tmp} {gd : Option (Nat × Bool)} {α : Type} {l : List α} {enc : α → List AV} {u : α} {x y : Operand} {size bytes : Nat} {el T : TypeId} {zz : List AV} {kk kk' : IntKind} {j : Int}
end
section
variable {P : Program} {k : Nat} {ops : Array Oper} {Q : Exit → St → Prop} {ds : List (Option Tmp)} {r : List Oper} {n : Nat} {e : Nat → AV} {st st' : List Row} {ty : TypeId} {p : String} {ed : Array Edge} {t : Tmp} {x y : Operand} {size bytes m : Nat} {el T : TypeId} {zz : List AV} {kk kk' : IntKind} {c : Nat}
end
end Go.Abs



namespace Go.Abs
open Go
variable {P : Program} {n : Nat} {e : Nat → AV} {st : List Row} {t : Tmp} {ty : TypeId} {ps : String} {ed : Array Edge} {x : Operand}
end Go.Abs



namespace Go.Abs
open Go
section
variable {P : Program} {k : Nat} {ops : Array Oper} {Q : Exit → St → Prop} {N f i : Nat} {listed listed' : Array Bool} {s s' : St} {o : Oper}
end
section
variable {P : Program} {n : Nat} {e : Nat → AV} {st : List Row} {t : Tmp} {ty : TypeId} {ps : String} {ed : Array Edge} {x : Operand}
end
section
variable {P : Program} {k : Nat} {α : Type} {l : List α} {enc : α → List AV}
variable {ops : Array Oper} {Q : Exit → St → Prop} {ds : List (Option Tmp)} {r : List Oper} {n : Nat} {e : Nat → AV} {st st' : List Row} {ty : TypeId} {ps : String} {ed : Array Edge} {v : AV} {gd : Option (Nat × Bool)} {T : TypeId} {x y : Operand} {ag : Bool} {sz id g size off : Nat} {el : TypeId} {cs cs' : List AV} {c : α} {i : Int}
end
end Go.Abs



namespace Go.Abs
open Go
end Go.Abs



namespace Go.Abs
open Go
section
variable {P : Program} {k : Nat} {ops : Array Oper} {Q : Exit → St → Prop} {ds : List (Option Tmp)} {r : List Oper} {n : Nat} {e : Nat → AV} {st st' : List Row} {ty : TypeId} {ps : String} {ed : Array Edge} {gd : Option (Nat × Bool)} {T : TypeId} {x y : Operand} {size id g sz : Nat} {el : TypeId} {α : Type} {l : List α} {enc : α → List AV} {c : α} {i : Int} {v : AV} {cs x0 : List AV} {ag : Bool}
end
end Go.Abs



namespace Go.Abs
open Go
structure MS where
 n:Nat
 e:Nat→AV
 x:Row
 z:List Row
def MS.st (R:List Row) (m:MS):St:=⟨m.n,m.e,m.x :: (R ++ m.z)⟩
def MS.put (m:MS) (d:Option Tmp) (v:AV):MS:=match d with
 | some d=>{ m with e:=DE m.e d v }
 | none=>m
def MS.ev (m:MS) (x:Operand):AV:=St.ev ⟨m.n,m.e,[]⟩ x
inductive Kind where
 | q
 | l (x y:Row)
 | a (row:Row)
def Kind.D:Kind→Row→List Row→Prop
 | .q,_,_=>True
 | .l x0 _,x,_=>x=x0
 | .a _,_,z=>z=[]
section
variable {P : Program} {k : Nat} {ops : Array Oper} {md : Region.Mode} {R : List Row}
end
section
variable {P : Program} {k : Nat} {R : List Row} {ds : List (Option Tmp)} {r : List Oper} {K : MS → Prop} {n : Nat} {e : Nat → AV} {x0 : Row} {z0 : List Row} {t : Tmp} {op : Op} {ty : TypeId} {ps : String} {ed : Array Edge} {gd : Option (Nat × Bool)} {v : AV}
end
end Go.Abs



namespace Go.Abs
open Go
section
variable {P : Program} {k : Nat} {α : Type} {l : List α} {enc : α → List AV} {ops : Array Oper} {Q : Exit → St → Prop} {ds : List (Option Tmp)} {r : List Oper} {n : Nat} {e : Nat → AV} {st st' : List Row} {ty : TypeId} {ps : String} {ed : Array Edge} {t : Tmp} {gd : Option (Nat × Bool)} {T : TypeId} {bytes size m : Nat} {el : TypeId} {zz : List AV}
end
end Go.Abs



namespace Go.Abs
open Go
def Pt (id g N:Nat):AV→AV
 | .own id' g' n=>if id'=id∧g'=g then .own N 0 n else .own id' g' n
 | v=>v
def QE (id g N:Nat):AV→AV
 | .agg cs=>.agg (cs.map (Pt id g N))
 | .BI cs=>.BI (cs.map (Pt id g N))
 | v=>Pt id g N v
theorem Ju {k n:Nat} {e:Nat→AV} {L:List (Nat×AV)} {st st':List Row} {id g el size N:Nat} {xs:List (List AV)} (hrow:st[id]?=some ⟨g,el,size,xs⟩) (hN:st.length=N)
  (h:ME (fun t=>QE id g N (e t)) L) (hst:st.set id ⟨g+1,el,size,[]⟩ ++ [⟨0,el,size,xs⟩]=st'):Wk k ⟨n,e,st⟩ ⟨n,AM L,st'⟩:=by
 refine Wk.trans (s':=⟨n,fun t=>QE id g N (e t),st'⟩) ?_ (AF h)
 intro F os a w hr
 subst hst;subst hN
 obtain⟨o,ho,hor⟩:=hr.row hrow
 have hok:=hr.rows id o ho
 have hlen:os.length=st.length:=by have:=congrArg List.length hr.st;simpa using this
 have hil:=(List.getElem?_eq_some_iff.1 ho).1
 let o1:Ai:=⟨{ o.row with gen:=o.row.gen+1,xs:=[] },none,0,ED⟩
 let o2:Ai:=⟨{ o.row with gen:=0 },o.Cz,o.cap,o.more⟩
 have hget :∀(i:Nat) (oi:Ai),(os.set id o1 ++ [o2])[i]?=some oi→(i≠id∧os[i]?=some oi)∨(i=id∧oi=o1)∨(i=os.length∧oi=o2):=fun i oi hi=>by
  by_cases h1:i < os.length
  ·rw[List.getElem?_append_left (by simpa using h1)] at hi
   by_cases h3:i=id
   ·subst h3;rw[List.getElem?_set_self hil] at hi;exact .inr (.inl ⟨rfl,by simpa using hi.symm⟩)
   ·rw[List.getElem?_set_ne (Ne.symm h3)] at hi;exact .inl ⟨h3,hi⟩
  ·rw[List.getElem?_append_right (by simp;omega)] at hi
   simp only[List.length_set] at hi
   have:i - os.length < 1:=(List.getElem?_eq_some_iff.1 hi).1
   have h4:i=os.length:=by omega
   subst h4
   simp only[Nat.sub_self,List.getElem?_cons_zero,Option.some.injEq] at hi
   exact .inr (.inr ⟨rfl,hi.symm⟩)
 have hnew:(os.set id o1 ++ [o2])[st.length]?=some o2:=by rw[← hlen,List.getElem?_append_right (by simp)];simp
 have hos:DG os (os.set id o1 ++ [o2]):=fun i oi hi=>by
  have hl:=(List.getElem?_eq_some_iff.1 hi).1
  rw[List.getElem?_append_left (by simpa using hl)]
  by_cases h3:i=id
  ·subst h3
   rw[ho] at hi;cases hi
   exact⟨o1,by rw[List.getElem?_set_self hil],by simp[o1],rfl,fun e=>by simp[o1] at e⟩
  ·rw[List.getElem?_set_ne (Ne.symm h3)]
   exact⟨oi,hi,Nat.le_refl _,rfl,fun _=>⟨rfl,rfl,rfl⟩⟩
 have hmono :∀x v,AT F w os x v→AT F w (os.set id o1 ++ [o2]) x v:=fun x v h=>B7 (fun _ h=>h) (fun _ _=>rfl) os _ hos x v h
 have hog:o.row.gen=g:=by rw[hor]
 have h0 :∀x v,AT F w os x v→AT F w (os.set id o1 ++ [o2]) (Pt id g st.length x) v:=fun x v hx=>by
  cases x with
  | own id' g' m=>
   simp only[Pt]
   split
   ·rename_i hif
    obtain⟨rfl,rfl⟩:=hif
    simp only[AT] at hx ⊢
    obtain⟨o',ho',_,hsh,f3⟩:=hx
    rw[ho] at ho';cases ho'
    obtain⟨f4,f5⟩:=f3 hog
    exact⟨o2,hnew,Nat.le_refl _,hsh,fun _=>⟨f4,f5⟩⟩
   ·exact hmono _ _ hx
  | _=>exact hmono _ _ hx
 have hL :∀xs us,Ay F w os xs us→Ay F w (os.set id o1 ++ [o2]) (xs.map (Pt id g st.length)) us:=fun xs us h=>
  Bg (by simp[Ao h]) fun i x u hx hu=>by
   simp only[List.getElem?_map,Option.map_eq_some_iff] at hx
   obtain⟨y,hy,rfl⟩:=hx
   obtain⟨u',e1,e2⟩:=A6 h i y hy
   rw[hu] at e1;cases e1
   exact h0 _ _ e2
 have hown :∀(i:Nat) (oi:Ai) b,(os.set id o1 ++ [o2])[i]?=some oi→oi.Bh b→∃(i':Nat) (oi':Ai),os[i']?=some oi'∧oi'.Bh b∧((i'=id∧i=os.length)∨(i'≠id∧i=i')):=fun i oi b hi hb=>by
  rcases hget i oi hi with ⟨h1,h3⟩ | ⟨rfl,rfl⟩ | ⟨rfl,rfl⟩
  ·exact⟨i,oi,h3,hb,.inr ⟨h1,rfl⟩⟩
  ·rcases hb with hb | hb
   ·simp[o1] at hb
   ·exact hb.elim
  ·exact⟨id,o,ho,hb,.inl ⟨rfl,rfl⟩⟩
 have h:=hr.ML (k:=k) (EY w none) (by simp) hos (fun i oi hi=>by
   rcases hget i oi hi with ⟨h1,h3⟩ | ⟨rfl,rfl⟩ | ⟨rfl,rfl⟩
   ·exact .inl ⟨h3,by simp⟩
   ·exact .inr ⟨hok.pos,by simp[o1],by simp[o1],by simp[o1],fun b hb=>hb.elim,DZ (by simp[o1])⟩
   ·refine .inr ⟨hok.pos,hok.lens,hok.none,fun b hb=>?_,hok.mo,hok.deep.HL rfl (fun _ h=>h) rfl (fun _ _=>rfl) (fun i' x j' e' s' ys h1 h2=>⟨x,h1,h2⟩)⟩
    obtain⟨e1,cur,e2,e3,e4,e5,e6⟩:=hok.some b hb
    exact⟨e1,cur,e2,e3,e4,e5,fun i' x hx j' c hcj=>by obtain⟨u,f1,f2⟩:=e6 i' x hx j' c hcj;exact⟨u,f1,hmono _ _ f2⟩⟩)
  (fun i j' oi oj b hi hj hbi hbj=>by
   obtain⟨i',oi',e1,e2,e3⟩:=hown i oi b hi hbi
   obtain⟨j'',oj',f1,f2,f3⟩:=hown j' oj b hj hbj
   have:=hr.inj i' j'' oi' oj' b e1 f1 e2 f2
   subst this
   omega)
  (fun o' ho' b hb=>by
   obtain⟨i,hi⟩:=List.mem_iff_getElem?.1 ho'
   obtain⟨i',oi',e1,e2,_⟩:=hown i o' b hi hb
   exact .inr ⟨oi',List.mem_of_getElem? e1,e2⟩)
  (by simp)
 refine⟨F,_,?_,h.2.1⟩
 have h1:=h.1
 have e1:o1.row=⟨g+1,el,size,[]⟩:=by simp only[o1,hor]
 have e3:o2.row=⟨0,el,size,xs⟩:=by simp only[o2,hor]
 have h2:List.map Ai.row (os.set id o1 ++ [o2])=st.set id ⟨g+1,el,size,[]⟩ ++ [⟨0,el,size,xs⟩]:=by
  rw[List.map_append,List.map_set,hr.st,List.map_cons,List.map_nil,e1,e3]
 refine⟨h2,fun t=>?_,h1.size,h1.rows,h1.inj,h1.DB,h1.defers⟩
 have he:=hr.env t
 show AT F w _ (QE id g st.length (e t)) _
 simp only at he
 generalize e t=x at he ⊢
 cases x with
 | agg cs=>simp only[QE,AT] at he ⊢;obtain⟨us,e,h⟩:=he;exact⟨us,e,hL _ _ h⟩
 | BI cs=>simp only[QE,AT] at he ⊢;obtain⟨us,e,h⟩:=he;exact⟨us,e,hL _ _ h⟩
 | _=>exact h0 _ _ he
end Go.Abs



namespace Go.Abs
open Go
def SH (e:Nat→AV):List (Nat×AV)→List AV
 | []=>[]
 | (t,_) :: r=>e t :: SH e r
def SN:List (Nat×AV)→List AV
 | []=>[]
 | (_,v) :: r=>v :: SN r
theorem ME.same {e:Nat→AV} :∀{L:List (Nat×AV)},SH e L=SN L→ME e L
 | [],_=>trivial
 | (t,v) :: r,h=>by
  simp only[SH,SN,List.cons.injEq] at h
  obtain⟨h1,h2⟩:=h
  subst h1
  exact⟨.rfl,ME.same h2⟩
section
variable {P : Program} {k : Nat} {R : List Row} {ds : List (Option Tmp)} {r : List Oper} {K : MS → Prop} {n : Nat} {e : Nat → AV} {x0 : Row} {z0 : List Row} {t : Tmp} {op : Op} {ty : TypeId} {ps : String} {ed : Array Edge} {gd : Option (Nat × Bool)}
end
section
variable {P : Program} {k : Nat} {s : St} {ops : Array Oper} {Q : Exit → St → Prop} {ds : List (Option Tmp)} {r : List Oper} {n : Nat} {e : Nat → AV} {st st' : List Row} {ty : TypeId} {ps : String} {ed : Array Edge} {d : Option Tmp} {v v' : AV} {gd : Option (Nat × Bool)}
variable {f : FuncId} {ars : Array Operand} {ts : Array TypeId} {args args' : List AV} {rows0 rows1 : List Row}
end
theorem Ag.le {P:Program} {f:FuncId} {args args':List AV} {st:List Row} {R:AV→List Row→Prop} (h:Ag P f args' st R) (hl:PV args args'):Ag P f args st R:=fun F os w vs h1 h2=>h F os w vs h1 (hl.rep h2)
end Go.Abs



namespace Sh
def apart (i j:Int):Option Unit:=if i=j then none else some ()
end Sh
namespace Go.Abs
open Go
section
variable {F : Nat → Prop} {os : List Ai} {s : St} {a : Act} {w : World} {k : Nat}
theorem Ez {id m g gm size sz n i j nn:Nat} {el el':TypeId} {xs ys:List (List AV)} {x:List AV} {e:Nat→AV} {st st':List Row} (hrow:st[id]?=some ⟨g,el,size,xs⟩) (hx:xs[i]?=some x) (hc:x[j]?=some (.own m gm n))
  (hm:st[m]?=some ⟨gm,el',sz,ys⟩) (hn:n=ys.length) (hne:id≠m) (hkm:k≤m) (hp:DC ys) (hst:(st.set id ⟨g,el,size,xs.set i (x.set j (.sl ys))⟩).set m ⟨gm+1,el',sz,[]⟩=st') :
  Wk k ⟨nn,e,st⟩ ⟨nn,e,st'⟩:=fun F os a w hr=>by
 subst hst;subst hn
 obtain⟨o,ho,hor⟩:=hr.row hrow
 obtain⟨p,hpp,hpr⟩:=hr.row hm
 have hok:=hr.rows id o ho
 have hpk:=hr.rows m p hpp
 have hst:os.map Ai.row=st:=hr.st
 have hxs:o.row.xs=xs:=by rw[hor]
 have hpx:p.row.xs=ys:=by rw[hpr]
 have hpl :∀x∈p.row.xs,∀c∈x,c.leaf=true:=fun x hx c hc=>by
  have h1:=hp x (by rw[← hpx];exact hx) c hc
  have h2:=(hpk.lens x hx).2 c hc
  cases c <;> simp_all [simple,AV.leaf,AV.kept]
 let o':Ai:={ o with row:={ o.row with xs:=xs.set i (x.set j (.sl ys)) } }
 let p':Ai:=⟨{ p.row with gen:=p.row.gen+1,xs:=[] },none,0,p.more⟩
 let F':Nat→Prop:=fun b=>F b∨p.Cz=some b
 have hF :∀b,F b→F' b:=fun _ h=>.inl h
 have hil:i < xs.length:=(List.getElem?_eq_some_iff.1 hx).1
 have hjl:j < x.length:=(List.getElem?_eq_some_iff.1 hc).1
 have hidl:=(List.getElem?_eq_some_iff.1 ho).1
 have hml:=(List.getElem?_eq_some_iff.1 hpp).1
 have hget :∀(q:Nat) (oq:Ai),((os.set id o').set m p')[q]?=some oq→(q≠id∧q≠m∧os[q]?=some oq)∨(q=id∧oq=o')∨(q=m∧oq=p'):=fun q oq hq=>by
  by_cases e:q=m
  ·subst e
   rw[List.getElem?_set_self (by simpa using hml),Option.some.injEq] at hq
   exact .inr (.inr ⟨rfl,hq.symm⟩)
  ·rw[List.getElem?_set_ne (Ne.symm e)] at hq
   by_cases e2:q=id
   ·subst e2
    rw[List.getElem?_set_self hidl,Option.some.injEq] at hq
    exact .inr (.inl ⟨rfl,hq.symm⟩)
   ·rw[List.getElem?_set_ne (Ne.symm e2)] at hq
    exact .inl ⟨e2,e,hq⟩
 have hos:DG os ((os.set id o').set m p'):=fun q oq hq=>by
  by_cases e:q=m
  ·subst e
   rw[hpp] at hq;cases hq
   exact⟨p',List.getElem?_set_self (by simpa using hml),Nat.le_succ _,rfl,fun e=>by simp[p'] at e⟩
  ·rw[List.getElem?_set_ne (Ne.symm e)]
   by_cases e2:q=id
   ·subst e2
    rw[ho] at hq;cases hq
    exact⟨o',List.getElem?_set_self hidl,Nat.le_refl _,rfl,fun _=>⟨rfl,rfl,by simp[o',hxs]⟩⟩
   ·rw[List.getElem?_set_ne (Ne.symm e2)]
    exact⟨oq,hq,Nat.le_refl _,rfl,fun _=>⟨rfl,rfl,rfl⟩⟩
 have hmono :∀y v,AT F w os y v→AT F' w ((os.set id o').set m p') y v:=fun y v h=>B7 hF (fun _ _=>rfl) os _ hos y v h
 have hcell :∀x∈p.row.xs,∀c∈x,∀u,AT F w os c u→AT F' w [] c u:=fun x hx c hc u hu=>
  B7 hF (fun _ _=>rfl) [] [] (by simp) c u (EI (hp x (by rw[← hpx];exact hx) c hc) [] hu)
 have hpn :∀b,p'.Bh b→p.Bh b:=fun b hb=>by
  rcases hb with hb | hb
  ·simp[p'] at hb
  ·exact .inr hb
 obtain⟨bo,hbo⟩ :∃b,o.Cz=some b:=by
  cases hb:o.Cz with
  | none=>have:=(hok.none hb).1;rw[hxs] at this;rw[this] at hil;simp at hil
  | some b=>exact⟨b,rfl⟩
 obtain⟨hnF,cur,hcur,hsz,hle,hmax,hcells⟩:=hok.some bo hbo
 obtain⟨uv,hu1,hu2⟩:=hcells i x (by rw[hxs];exact hx) j _ hc
 have hnew:AT F' w ((os.set id o').set m p') (.sl ys) uv:=by
  simp only[AT] at hu2 ⊢
  obtain⟨q,hq,_,_,hv⟩:=hu2
  rw[hpp] at hq;cases hq
  have h2:=(hv (by rw[hpr])).2
  rw[hpx,Nat.sub_self,Nat.zero_mul,Nat.sub_zero] at h2
  rcases h2 with ⟨hb,ad,rfl⟩ | ⟨b,hb,rfl⟩
  ·have h0:=(hpk.none hb).1
   rw[hpx] at h0
   subst h0
   exact⟨ad,0,rfl,Nat.le_refl _,by simp⟩
  ·obtain⟨_,cur2,hcur2,hsz2,hle2,_,hcells2⟩:=hpk.some b hb
   rw[hpx] at hle2
   refine⟨_,p.cap,rfl,hle2,fun _=>⟨b,0,p.row.size,rfl,.inr hb,fun x hx=>(hpk.lens x (by rw[hpx];exact hx)).1,?_⟩⟩
   refine Es (fun x hx=>(hpk.lens x (by rw[hpx];exact hx)).1) fun q z hz=>ES fun r c hcz=>?_
   have hzm:z∈p.row.xs:=by rw[hpx];exact List.mem_of_getElem? hz
   obtain⟨u,e1,e2⟩:=hcells2 q z (by rw[hpx];exact hz) r c hcz
   refine⟨u,?_,hpl z hzm c (List.mem_of_getElem? hcz),hcell z hzm c (List.mem_of_getElem? hcz) u e2⟩
   rw[Nat.zero_add,cell_of_row w b _ cur2 _ _ hcur2]
   exact e1
 have hnP :∀(q:Nat) (oq:Ai) b,q≠m→os[q]?=some oq→oq.Bh b→¬ F' b:=fun q oq b hq hoq hb hFb=>
  hFb.elim ((hr.rows q oq hoq).nF hb) fun h=>hq (hr.inj q m oq p b hoq hpp hb (.inl h))
 refine⟨F',(os.set id o').set m p',⟨?_,fun t=>hmono _ _ (hr.env t),hr.size,fun q oq hq=>?_,fun q q' oq oq' b hq hq' hb hb'=>?_,fun b hb=>?_,hr.defers⟩,⟨rfl,rfl,rfl,Nat.le_refl _,hF,fun _ _=>rfl,fun b _ h1 h2=>⟨rfl,?_,fun oq hoq hb=>?_⟩,fun q oq _ hq=>hos q oq hq⟩⟩
 ·rw[List.map_set,List.map_set,hst]
  simp only[o',p',hor,hpr]
 ·rcases hget q oq hq with ⟨_,h2,h⟩ | ⟨_,rfl⟩ | ⟨_,rfl⟩
  ·have h0:=hr.rows q oq h
   refine⟨h0.pos,h0.lens,h0.none,fun b hb=>?_,fun b hb=>⟨hnP q oq b h2 h (.inr hb),(h0.mo b hb).2⟩,h0.deep⟩
   obtain⟨e1,cur,e2,e3,e4,e5,e6⟩:=h0.some b hb
   exact⟨hnP q oq b h2 h (.inl hb),cur,e2,e3,e4,e5,fun i' y hy j' c hc=>by obtain⟨u,f1,f2⟩:=e6 i' y hy j' c hc;exact⟨u,f1,hmono _ _ f2⟩⟩
  ·refine⟨hok.pos,fun y hy=>?_,(fun hn=>by simp only[o'] at hn;rw[hbo] at hn;cases hn),fun b hb=>?_,fun b hb=>⟨hnP id o b hne ho (.inr hb),(hok.mo b hb).2⟩,?_⟩
   ·rcases List.mem_or_eq_of_mem_set hy with hy | rfl
    ·exact hok.lens y (by rw[hxs];exact hy)
    ·have h0:=hok.lens x (by rw[hxs];exact List.mem_of_getElem? hx)
     refine⟨by rw[List.length_set];exact h0.1,fun c hcm=>?_⟩
     rcases List.mem_or_eq_of_mem_set hcm with h | rfl
     ·exact h0.2 c h
     ·rfl
   ·simp only[o'] at hb
    rw[hbo] at hb;cases hb
    refine⟨hnP id o bo hne ho (.inl hbo),cur,hcur,hsz,by simpa [o',hxs] using hle,hmax,fun i' y hy j' c hcy=>?_⟩
    simp only[o'] at hy ⊢
    by_cases hi:i'=i
    ·subst hi
     rw[List.getElem?_set_self hil,Option.some.injEq] at hy
     subst hy
     by_cases hj:j'=j
     ·subst hj
      rw[List.getElem?_set_self hjl,Option.some.injEq] at hcy
      subst hcy
      exact⟨uv,hu1,hnew⟩
     ·rw[List.getElem?_set_ne (Ne.symm hj)] at hcy
      obtain⟨u,f1,f2⟩:=hcells i' x (by rw[hxs];exact hx) j' c hcy
      exact⟨u,f1,hmono _ _ f2⟩
    ·rw[List.getElem?_set_ne (Ne.symm hi)] at hy
     obtain⟨u,f1,f2⟩:=hcells i' y (by rw[hxs];exact hy) j' c hcy
     exact⟨u,f1,hmono _ _ f2⟩
   ·refine hok.deep.HL rfl (fun _ h=>h) rfl (fun _ _=>rfl) fun i' y j' e2 s2 zs hy hcy=>?_
    simp only[o'] at hy
    rw[hxs]
    by_cases hi:i'=i
    ·subst hi
     rw[List.getElem?_set_self hil,Option.some.injEq] at hy
     subst hy
     by_cases hj:j'=j
     ·subst hj
      rw[List.getElem?_set_self hjl,Option.some.injEq] at hcy
      cases hcy
     ·rw[List.getElem?_set_ne (Ne.symm hj)] at hcy
      exact⟨x,hx,hcy⟩
    ·rw[List.getElem?_set_ne (Ne.symm hi)] at hy
     exact⟨y,hy,hcy⟩
  ·exact⟨hpk.pos,by simp[p'],by simp[p'],by simp[p'],fun b hb=>⟨fun hFb=>hFb.elim (hpk.mo b hb).1 (hpk.mo b hb).2.2,(hpk.mo b hb).2.1,by simp[p']⟩,DZ (by simp[p'])⟩
 ·have hown :∀b,o'.Bh b→o.Bh b:=fun b hb=>hb
  rcases hget q oq hq with ⟨q1,q2,h⟩ | ⟨rfl,rfl⟩ | ⟨rfl,rfl⟩ <;> rcases hget q' oq' hq' with ⟨q1',q2',h'⟩ | ⟨rfl,rfl⟩ | ⟨rfl,rfl⟩
  ·exact hr.inj q q' oq oq' b h h' hb hb'
  ·exact hr.inj q _ oq o b h ho hb (hown b hb')
  ·exact hr.inj q _ oq p b h hpp hb (hpn b hb')
  ·exact hr.inj _ q' o oq' b ho h' (hown b hb) hb'
  ·rfl
  ·exact hr.inj _ _ o p b ho hpp (hown b hb) (hpn b hb')
  ·exact hr.inj _ q' p oq' b hpp h' (hpn b hb) hb'
  ·exact hr.inj _ _ p o b hpp ho (hpn b hb) (hown b hb')
  ·rfl
 ·exact hb.elim (hr.DB b) fun h=>hpk.lt (.inl h)
 ·exact fun hFb=>hFb.elim h1 fun h=>h2 p (List.mem_of_getElem? hpp) (.inl h)
 ·obtain⟨q,hq⟩:=List.mem_iff_getElem?.1 hoq
  rcases hget q oq hq with ⟨_,_,h⟩ | ⟨_,rfl⟩ | ⟨_,rfl⟩
  ·exact h2 oq (List.mem_of_getElem? h) hb
  ·exact h2 o (List.mem_of_getElem? ho) hb
  ·exact h2 p (List.mem_of_getElem? hpp) (hpn b hb)
variable {α β : Type} {l : List α} {enc : α → List AV}
section
variable {P : Program} {s : St} {x y : Operand} {t el : TypeId} {size bytes id g m : Nat} {zz : List AV} {n i : Int} {kk : IntKind} {u : α} {z : List AV}
end
end
end Go.Abs

