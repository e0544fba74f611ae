import Derived.Test.YtobjlimoekffaaaGreatAbsU

namespace Go.Abs
open Go
section
variable {P : Program} {k : Nat} {ops : Array Oper} {Q : Exit → St → Prop} {N f i : Nat} {listed : Array Bool} {s s' : St} {o : Oper}
end
section
variable {P : Program} {n : Nat} {e : Nat → AV} {st : List Row} {t : Tmp} {ty : TypeId} {ps : String} {ed : Array Edge} {x : Operand} {v : AV}
end
theorem GQ {k n:Nat} {e:Nat→AV} {st st':List Row} (h:st=st'):Wk k ⟨n,e,st⟩ ⟨n,e,st'⟩:=h ▸ RS _ _
section
variable {P : Program} {k : Nat}
variable {ops : Array Oper} {Q : Exit → St → Prop} {ds : List (Option Tmp)} {r : List Oper} {n : Nat} {e : Nat → AV} {st st' : List Row} {ty : TypeId} {ps : String} {ed : Array Edge} {d : Option Tmp} {v v' : AV} {gd : Option (Nat × Bool)}
variable {f : FuncId} {ars : Array Operand} {ts : Array TypeId} {args args' : List AV} {rowsP rows0 rows1 rows1' rows2 rows2' : List Row}
theorem OH {tf:Tmp} {caps:List AV} (Ap:List Nat) (hg:GO ds gd e) (hfn:e tf=.fn f caps) (hb:AZ P f=true) (hc:AY P f args' rows0 fun r st=>r=v∧st=rows1 ++ rows2) (ha:ars.toList.map (St.ev ⟨n,e,st⟩) ++ caps=args) (hnd:Ap.Nodup) (hlt:Ap.all (· < st.length)=true)
  (hp:Cg st Ap=rowsP) (hs:SR Ap rowsP rows0) (hf:args.map (Jv Ap)=args') (hlen:rows1.length=Ap.length) (h1:UN Ap st.length rows1 rows1') (h2:UN Ap st.length rows2 rows2') (hv:VT Ap st.length v=v') (hst':Hb Ap rows1' 0 st ++ rows2'=st')
  (hk:AO P k ops Q (ds ++ [d]) r (St.put ⟨n,e,st'⟩ d v')):AO P k ops Q ds (⟨d,.call ⟨.value (.tmp tf),ars,ts⟩,ty,ps,ed,gd⟩ :: r) ⟨n,e,st⟩:=by
 subst hst';subst ha;subst hv;subst hp
 refine KJ hg ?_
 rw[Oi,show (St.mk n e st).env tf=e tf from rfl,hfn]
 refine⟨hb,MP fun hle=>?_⟩
 obtain⟨e1,e2⟩:=hs.spec (st0:=st) hle (fun row hrow=>by
  obtain⟨i,_,hi⟩:=List.mem_filterMap.1 hrow
  exact List.mem_of_getElem? hi)
 refine Ng Ap hc hnd (fun i hi=>by simpa using List.all_eq_true.1 hlt i hi) e1 e2 hf hlen (fun row hrow=>by
  rcases List.mem_append.1 hrow with h | h
  ·exact h1.leaf row h
  ·exact h2.leaf row h) fun _=>?_
 simp only[h1.spec,h2.spec]
 exact hk
end
theorem TY {P:Program} {k:Nat} {c:Code} {Q:Exit→St→Prop} {s:St} (h :∀K:St→Prop,(∀s',Q .normal s'→K s')→AW P k c (UY K Q) s):AW P k c Q s:=
 (h (fun s'=>Q .normal s') fun _ h=>h).mono fun e s' hq=>by cases e <;> exact hq
end Go.Abs

