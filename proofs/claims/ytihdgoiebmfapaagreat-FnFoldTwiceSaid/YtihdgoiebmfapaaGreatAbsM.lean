import Derived.Test.YtihdgoiebmfapaaGreatAbsL
set_option linter.all false
namespace Go.Abs
open Go
structure gp {α:Type} (a:α):Type where
def iU {α:Type}(K:α->Prop)(_:gp K):α->Prop:=K
def hold (p:Prop)(_:gp p):Prop:=p
section
variable {P : Program} {k : Nat} {K : AV -> Prop} {a b : Int} {t : TypeId} {s : St}
theorem wrap_i64 {n:Int}(h1:-9223372036854775808<=n)(h2:n<=9223372036854775807):IntKind.i64.wrap n=n:=IntWalk.i64_in n ⟨h1,h2⟩
def iv:AV->Int
 | .int _ n=>n
 | _=>0
end
section
variable {P : Program} {k : Nat} {ds : List (Option Tmp)} {o : Oper} {r : List Oper} {KS : St -> Prop} {s : St} {d : Option Tmp} {ty : TypeId} {p : String} {e : Array Edge} {g : Option (Nat × Bool)} {A B : Prop}
variable {x y z : Operand} {t t' : TypeId}
theorem Yq:Kp P k ⟨d,.binOp .eql t x (.const (.slice none 0 0)) t',ty,p,e,g⟩ s KS=XV P t s.st (s.ev x) (iU (λv=>KS (s.put d v)) ⟨⟩):=rfl
theorem cW:Kp P k ⟨d,.store t x y,ty,p,e,g⟩ s KS=X4 P s.st t (s.ev x) (s.ev y) (iU (λst=>KS (St.put ⟨s.n,s.env,st⟩ d .E2)) ⟨⟩):=rfl
def aw {α β:Type}(K:α->β->Prop)(_:gp K):α->β->Prop:=K
theorem WG:Kp P k ⟨d,.makeSlice t x y,ty,p,e,g⟩ s KS=aS P s.st t (s.ev x) (s.ev y) (aw (λv st=>KS (St.put ⟨s.n,s.env,st⟩ d v)) ⟨⟩):=rfl
theorem VP {n:Nat}{parts:Array (Nat×Operand)}:Kp P k ⟨d,.buildSlice t n parts,ty,p,e,g⟩ s KS=N4 P s.st t n (parts.toList.map λp=>(p.1,s.ev p.2)) (aw (λv st=>KS (St.put ⟨s.n,s.env,st⟩ d v)) ⟨⟩):=rfl
theorem S0 {lo hi mx:Option Operand}:Kp P k ⟨d,.slice t x lo hi mx,ty,p,e,g⟩ s KS=US P s.st t (s.ev x) (lo.map s.ev) (hi.map s.ev) (mx.map s.ev) (aw (λv st=>KS (St.put ⟨s.n,s.env,st⟩ d v)) ⟨⟩):=rfl
theorem Uk:Kp P k ⟨d,.call ⟨.builtin .append,#[x,y],#[t,t']⟩,ty,p,e,g⟩ s KS=(t=t'/\VE P s.st t (s.ev x) (s.ev y) (aw (λv st=>KS (St.put ⟨s.n,s.env,st⟩ d v)) ⟨⟩)):=rfl
theorem NL {f:FuncId}{args:Array Operand}{ts:Array TypeId}:Kp P k ⟨d,.call ⟨.value (.func f),args,ts⟩,ty,p,e,g⟩ s KS=(Dl P f=true/\callThen P k s f (args.toList.map s.ev++[]) d KS):=rfl
theorem Xo {f:Tmp}{args:Array Operand}{ts:Array TypeId}:Kp P k ⟨d,.call ⟨.value (.tmp f),args,ts⟩,ty,p,e,g⟩ s KS=Uw (s.env f) λf pc=>Dl P f=true/\callThen P k s f (args.toList.map s.ev++pc) d KS:=rfl
variable {K : AV -> Prop}
end
section
variable {P : Program} {st : List Row} {t : TypeId} {K : AV -> Prop} {K2 : AV -> List Row -> Prop} {id g i off n : Nat} {kk sX : IntKind} {j j' : Int} {x v : AV} {xs : List (List AV)} {cs : List AV}
end
section
variable {sel : List Nat}
end
section
variable {id g n : Nat} {xs : List (List AV)} {cs : List AV} {e : Nat -> AV} {t : Nat}
theorem eH:BL id g xs (.own id g n)=.sl (xs.drop (xs.length-n)):=by simp[BL,HR]
theorem cY:HR id g xs (.own id g n)=.sl (xs.drop (xs.length-n)):=by simp[HR]
end
theorem Cj {P:Program}{f:FuncId}{args:List AV}{v:AV}(hv:flat v=true)(h:Ab P f args [] λr _=>r=v):Ab P f args [] λr st=>r=v/\st=[]:=by
 intro F os w vs hs hl;refine (h F os w vs hs hl).mono ?_;rintro e w' ⟨u,r,st',F',os',rfl,rfl,h1,h2,h3⟩;refine⟨u,r,[],F',[],rfl,⟨rfl,rfl⟩,G4.nil h1.FR,JX hv [] h2,⟨h3.sys,h3.tape,h3.output,h3.size,h3.NB,h3.IJ,λb h4 h5 h6=>?_,λi o hi=>absurd hi (by simp)⟩⟩;obtain⟨g1,g2,_⟩:=h3.other b h4 h5 h6;exact⟨g1,g2,by simp⟩
end Go.Abs
