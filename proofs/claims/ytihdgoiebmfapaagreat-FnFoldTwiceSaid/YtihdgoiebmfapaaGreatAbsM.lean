import Derived.Test.YtihdgoiebmfapaaGreatAbsL
namespace Go.Abs
open Go
structure gw {α:Type} (a:α):Type where
def iV {α:Type}(K:α->Prop)(_:gw K):α->Prop:=K
def hold (p:Prop)(_:gw p):Prop:=p
section
variable {P : Program} {k : Nat} {K : AV -> Prop} {a b : Int} {t : TypeId} {s : St}
theorem wrap_i64 {n:Int}(h1:-9223372036854775808<=n)(h2:n<=9223372036854775807):IntKind.i64.wrap n=n:=IntWalk.i64_in n ⟨h1,h2⟩
def iv:AV->Int
 | .int _ n=>n
 | _=>0
end
section
variable {P : Program} {k : Nat} {ds : List (Option Tmp)} {o : Oper} {r : List Oper} {KS : St -> Prop} {s : St} {d : Option Tmp} {ty : TypeId} {p : String} {e : Array Edge} {g : Option (Nat × Bool)} {A B : Prop}
variable {x y z : Operand} {t t' : TypeId}
theorem ZB:Kf P k ⟨d,.binOp .eql t x (.const (.slice none 0 0)) t',ty,p,e,g⟩ s KS=XN P t s.st (s.ev x) (iV (λv=>KS (s.put d v)) ⟨⟩):=rfl
theorem cb:Kf P k ⟨d,.store t x y,ty,p,e,g⟩ s KS=Xz P s.st t (s.ev x) (s.ev y) (iV (λst=>KS (St.put ⟨s.n,s.env,st⟩ d .E2)) ⟨⟩):=rfl
def bO {α β:Type}(K:α->β->Prop)(_:gw K):α->β->Prop:=K
theorem WS:Kf P k ⟨d,.makeSlice t x y,ty,p,e,g⟩ s KS=aO P s.st t (s.ev x) (s.ev y) (bO (λv st=>KS (St.put ⟨s.n,s.env,st⟩ d v)) ⟨⟩):=rfl
theorem U6 {n:Nat}{parts:Array (Nat×Operand)}:Kf P k ⟨d,.buildSlice t n parts,ty,p,e,g⟩ s KS=OB P s.st t n (parts.toList.map λp=>(p.1,s.ev p.2)) (bO (λv st=>KS (St.put ⟨s.n,s.env,st⟩ d v)) ⟨⟩):=rfl
theorem Sv {lo hi mx:Option Operand}:Kf P k ⟨d,.slice t x lo hi mx,ty,p,e,g⟩ s KS=UL P s.st t (s.ev x) (lo.map s.ev) (hi.map s.ev) (mx.map s.ev) (bO (λv st=>KS (St.put ⟨s.n,s.env,st⟩ d v)) ⟨⟩):=rfl
theorem Ux:Kf P k ⟨d,.call ⟨.builtin .append,#[x,y],#[t,t']⟩,ty,p,e,g⟩ s KS=(t=t'/\VI P s.st t (s.ev x) (s.ev y) (bO (λv st=>KS (St.put ⟨s.n,s.env,st⟩ d v)) ⟨⟩)):=rfl
theorem NS {f:FuncId}{args:Array Operand}{ts:Array TypeId}:Kf P k ⟨d,.call ⟨.value (.func f),args,ts⟩,ty,p,e,g⟩ s KS=(Dl P f=true/\callThen P k s f (args.toList.map s.ev++[]) d KS):=rfl
theorem XU {f:Tmp}{args:Array Operand}{ts:Array TypeId}:Kf P k ⟨d,.call ⟨.value (.tmp f),args,ts⟩,ty,p,e,g⟩ s KS=Ue (s.env f) λf caps=>Dl P f=true/\callThen P k s f (args.toList.map s.ev++caps) d KS:=rfl
variable {K : AV -> Prop}
end
section
variable {P : Program} {st : List Row} {t : TypeId} {K : AV -> Prop} {K2 : AV -> List Row -> Prop} {id g i off n : Nat} {kk kk' : IntKind} {j j' : Int} {x v : AV} {xs : List (List AV)} {cs : List AV}
end
section
variable {sel : List Nat}
end
section
variable {id g n : Nat} {xs : List (List AV)} {cs : List AV} {e : Nat -> AV} {t : Nat}
theorem eG:BL id g xs (.own id g n)=.sl (xs.drop (xs.length-n)):=by simp[BL,HJ]
theorem cL:HJ id g xs (.own id g n)=.sl (xs.drop (xs.length-n)):=by simp[HJ]
end
theorem Cj {P:Program}{f:FuncId}{args:List AV}{v:AV}(hv:flat v=true)(h:Ab P f args [] λr _=>r=v):Ab P f args [] λr st=>r=v/\st=[]:=by
 intro F os w vs hs hl;refine (h F os w vs hs hl).mono ?_;rintro e w' ⟨u,r,st',F',os',rfl,rfl,h1,h2,h3⟩;refine⟨u,r,[],F',[],rfl,⟨rfl,rfl⟩,G4.nil h1.FT,JP hv [] h2,⟨h3.sys,h3.tape,h3.output,h3.size,h3.Mr,h3.II,λb h4 h5 h6=>?_,λi o hi=>absurd hi (by simp)⟩⟩;obtain⟨g1,g2,_⟩:=h3.other b h4 h5 h6;exact⟨g1,g2,by simp⟩
end Go.Abs
