import Derived.Test.YtpahalfiiahddaaGreatAbsRB
import Derived.Test.YtpahalfiiahddaaGreatSMR
import Derived.Test.YtpahalfiiahddaaGreatGAbsZPToSSDefs

namespace Go.Abs
open Go RC Go.ChangeShapes Go.WideShapes Go.ChangeAt Go.RowKit
section
variable {H : Type} {encH : TypeId × Value → H} {P : Program} {w : World}
theorem Rd.exprs {tE tEE tI:TypeId} (oE:Lj encH P w tE [tI,tI,tEE]) (uEE:P.underlying tEE=some (.slice tE)) (cE:0 < P.cellsOf tE) (hI:Rd encH P w tI eI GL) :
  ∀N,VI encH P w N tE A4 Bn:=by
 intro N
 induction N with
 | zero=>exact fun fuel cs x h=>absurd h (Nat.not_lt_zero _)
 | succ N ih=>
  intro fuel cs x hN h
  obtain⟨hl,n,rfl,hf⟩:=oE fuel cs x h
  match cs,hl with
  | [c0,c1,c2],_=>
   obtain⟨y0,h0⟩:=hf 0 _ _ rfl rfl
   obtain⟨y1,h1⟩:=hf 1 _ _ rfl rfl
   obtain⟨y2,h2⟩:=hf 2 _ _ rfl rfl
   obtain⟨a0,r0,l0,g0⟩:=hI _ _ _ h0
   obtain⟨a1,r1,l1,g1⟩:=hI _ _ _ h1
   obtain⟨a2,r2,l2,g2⟩:=VI.slice uEE cE ih _ _ _ (by omega) h2
   have e:A4 (.mk a0 a1 a2)=eI a0 ++ (eI a1 ++ eS A4 a2):=by rw[Aw];rfl
   refine⟨.mk a0 a1 a2,?_,?_,.mk g0 g1 g2.2 g2.1⟩
   ·rw[e];exact D6 r0 (D6 r1 r2)
   ·intro c hc
    rw[e,List.mem_append,List.mem_append] at hc
    rcases hc with hc | hc | hc
    ·exact l0 c hc
    ·exact l1 c hc
    ·exact l2 c hc
theorem Rd.expr {tE tEE tI:TypeId} (oE:Lj encH P w tE [tI,tI,tEE]) (uEE:P.underlying tEE=some (.slice tE)) (cE:0 < P.cellsOf tE) (hI:Rd encH P w tI eI GL):Rd encH P w tE A4 Bn:=
 Vg fun N=>Rd.exprs oE uEE cE hI N
end
end Go.Abs

