import Derived.Test.YtccficmcdkcpnaaGreatGAbsXToAbsZN
set_option linter.all false
namespace Sh
def apart (i j:Int):Option Unit:=if i=j then none else some ()
end Sh
namespace Go.Abs
open Go
section
variable {F : Nat -> Prop} {os : List Own} {s : St} {a : Act} {w : World} {k : Nat}
variable {α β : Type} {l : List α} {enc : α -> List AV}
theorem df {i:Int}{x:List AV}:(hole l enc i x).length=l.length:=by unfold hole;simp
section
variable {P : Program} {s : St} {x y : Operand} {t el : TypeId} {size bytes id g m : Nat} {zz : List AV} {n i : Int} {kk : IntKind} {u : α} {z : List AV}
theorem Rs (he:CH P t=some ⟨el,size,bytes,zz⟩)(hx:s.ev x=.own id g m)(hy:s.ev y=.int kk n)(hr:s.st[id]?=some ⟨g,el,size,hole l enc i z⟩)(hm:m=l.length)(hg:Sh.get l n=some u):
  AQ P s (.indexAddr t x y) (.ptr id g n.toNat 0):=λK hk=>by
 show IX P s.st t (s.ev x) (s.ev y) K;rw[hx,hy];subst hm;exact Ai _ he ⟨(Sh.get_some hg).1,(Sh.get_some hg).2.2,Ai _ hr ⟨rfl,rfl,by simpa [df] using hk⟩⟩
end
end
end Go.Abs
namespace Go.Abs
open Go
end Go.Abs
namespace Go.Abs
open Go
section
variable {k : Nat} {α β : Type} {l : List α} {enc : α -> List AV}
end
section
variable {α : Type} {l : List α} {enc : α -> List AV} {P : Program} {s : St} {x y : Operand} {t el : TypeId} {size bytes id g m : Nat} {zz : List AV} {n i j : Int} {kk : IntKind} {u : α} {z z' : List AV}
end
section
variable {P : Program} {k : Nat} {ops : Array Oper} {Q : Exit -> St -> Prop} {ds : List (Option Tmp)} {r : List Oper} {n : Nat} {e : Nat -> AV} {st st' : List Row} {ty : TypeId} {ps : String} {ed : Array Edge} {gd : Option (Nat × Bool)} {T : TypeId} {x y : Operand} {size id g sz off : Nat} {el : TypeId} {α : Type} {l : List α} {enc : α -> List AV} {c : α} {i : Int} {v : AV} {cs x0 x' : List AV} {ag : Bool}
theorem cd (hg:GO ds gd e)(ht:CF P T=some (ag,sz))(hx:St.ev ⟨n,e,st⟩ x=.ptr id g i.toNat off)(hr:st[id]?=some ⟨g,el,size,hole l enc i x0⟩)(hi:Sh.get l i=some c)(hv:St.ev ⟨n,e,st⟩ y=v)(hc:Jq v=some cs)(hn:cs.length=sz)(hle:off+cs.length<=size)
  (uG:Gf x0 off cs=x') (ra:st.set id ⟨g,el,size,hole l enc i x'⟩=st') (hk:AO P k ops Q (ds++[none]) r ⟨n,e,st'⟩):AO P k ops Q ds (⟨none,.store T x y,ty,ps,ed,gd⟩::r) ⟨n,e,st⟩:=by
 refine Al hg ht hx hr (FV hi) hv hc hn hle ?_ hk;rw[<- ra,uG,QL]
end
def SX (sel:List Nat)(l l':List Row):Prop:=∀st0:List Row,(∀row∈st0,∀x∈row.xs,∀c∈x,c.kept=true)->(∀row∈l,row∈st0)->l.map (Bh sel)=l'/\KO l'
section
variable {sel : List Nat} {g size : Nat} {el : TypeId} {a b : Row} {r r' : List Row}
theorem SX.nil:SX sel [] []:=λ_ _ _=>⟨rfl,λ_ h=>by cases h⟩
theorem SX.cons (h:SR sel [a] [b])(hl:SX sel r r'):SX sel (a::r) (b::r'):=λst0 h0 hm=>by
 obtain⟨h1,h2⟩:=h.spec h0 (λrow hr=>hm row (by rw[nQ]at hr;subst hr;exact oQ ..));obtain⟨h3,h4⟩:=hl st0 h0 (λrow hr=>hm row (nv _ hr));simp only[mz,od,qI,and_true]at h1;refine⟨by rw[mz,h1,h3],λrow hr=>?_⟩;rcases mr.1 hr with rfl|hr
 ·exact h2 _ (oQ ..)
 ·exact h4 row hr
theorem SX.deep {xs:List (List AV)}(hp:B8 xs)(hl:SX sel r r'):SX sel (⟨g,el,size,xs⟩::r) (⟨g,el,size,xs⟩::r'):=.cons (.deep hp .nil) hl
theorem SX.pure {xs:List (List AV)}(hp:F9 xs)(hl:SX sel r r'):SX sel (⟨g,el,size,xs⟩::r) (⟨g,el,size,xs⟩::r'):=.cons (.pure hp .nil) hl
theorem SX.raw {cs cs':List AV}(hc:cs.map (Ht sel)=cs')(hp:cs'.all AV.leaf=true)(hl:SX sel r r'):SX sel (⟨g,el,size,[cs]⟩::r) (⟨g,el,size,[cs']⟩::r'):=.cons (.raw hc hp .nil) hl
end
theorem Wk.kz {k n:Nat}{e:Nat->AV}{st st1 st':List Row}{L:List (Nat×AV)}(sel:List Nat)(hk:sel.take k=List.range k)(tX:sel.Nodup)(rh:sel.all (·<st.length)=true)(hp:B9 st sel=st1)(hs:SX sel st1 st')(h:ME (λt=>Jg sel (e t)) L):
  Wk k ⟨n,e,st⟩ ⟨n,AM L,st'⟩:=λF os a w hr=>by
 have hle:=P2 hr;obtain⟨h1,h2⟩:=hs st hle (λrow rK=>by
  rw[<- hp]at rK;obtain⟨i,_,hi⟩:=oM.1 rK;exact mS hi)
 exact RH sel hk tX rh (by rw[hp];exact h1) h2 h F os a w hr
end Go.Abs
