import Derived.Test.YtfkncfjpobjbjaaCopyC
set_option linter.all false
namespace Go.Abs
open Go RC
section
variable {P : Program} {k : Nat} {ops : Array Oper} {Q : Exit -> St -> Prop} {ds : List (Option Tmp)} {r : List Oper} {n : Nat} {e : Nat -> AV} {st : List Row} {o : Oper}
theorem Pe {C:List Row->AV->Prop}(hn:o.guard=none)(h :∀F os a w,Rel F os ⟨n,e,st⟩ a w->∃st' v,C st' v/\∃z w' F' os',(execOp a.eval o).run P w=.ok (.value z) w'/\Rel F' os' ⟨n,e,st'⟩ a w'/\AF F' w' os' v z/\Ext F os w F' os' w' k)
  (hk :∀st' v,C st' v->AO P k ops Q (ds++[o.dst]) r (St.put ⟨n,e,st'⟩ o.dst v)):AO P k ops Q ds (o::r) ⟨n,e,st⟩:=by
 intro hl Vk Uj F os a w hr Q' hQ;have ho:ops[ds.length]?=some o:=by have:=hl 0;simpa using this.symm
 have Yr:Bo n o.dst=true:=Uj o (by have:=Ro (l:=ops.toList) (i:=ds.length) (by simpa using ho);exact this);have X4 :∀(j:Nat),r[j]?=ops[(ds++[o.dst]).length+j]?:=λj=>by
  have:=hl (j+1);simp only[SK]at this;rw[this];congr 1;simp;omega
 have V5 :∀(j:Nat) d,(ds++[o.dst])[j]?=some d->(ops[j]?).map (·.dst)=some d:=λj d hj=>by
  rcases Sb j ds.length with h1|h1|h1
  ·rw[Rx h1]at hj;exact Vk j d hj
  ·subst h1;rw[Ds,Rr]at hj;rw[ho];simp[hj]
  ·rw[SI (by simp;omega)]at hj;cases hj
 obtain⟨st',v,hC,z,w',F',os',h1,h2,h3,h4⟩:=h F os a w hr;unfold wpList;rw[R1 (by unfold Region.wanted;rw[hn])];refine .inl ?_;unfold Oper.wp;rw[h1];simp only[Oper.upon];refine hk st' v hC X4 V5 (by cases o.dst<;>exact Uj) F' os' _ w' (h2.put Yr h3) Q' λ_ _ _ hp=>hQ _ _ _ (hp.trans h4)
section
variable {ty : TypeId} {p : String} {ed : Array Edge} {t : Tmp} {x y : Operand} {bytes id g q gq : Nat} {el jh T : TypeId} {zz : List AV} {pre l l' : List Int} {v : Int}
variable {α : Type} {enc : α -> List AV} {pr m : List α} {u : α} {j : Int} {kk : IntKind} {size : Nat} {s : St}
end
end
end Go.Abs
