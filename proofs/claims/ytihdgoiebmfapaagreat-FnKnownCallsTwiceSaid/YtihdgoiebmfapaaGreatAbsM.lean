import Derived.Test.YtihdgoiebmfapaaGreatAbsL
set_option linter.all false
namespace Go.Abs
open Go
structure du {α:Type} (a:α):Type where
def fH {α:Type}(K:α->Prop)(_:du K):α->Prop:=K
def hold (p:Prop)(_:du p):Prop:=p
section
variable {P : Program} {k : Nat} {K : AV -> Prop} {a b : Int} {t : TypeId} {s : St}
theorem wrap_i64 {n:Int}(h1:-9223372036854775808<=n)(h2:n<=9223372036854775807):IntKind.i64.wrap n=n:=IntWalk.i64_in n ⟨h1,h2⟩
def iv:AV->Int
 | .int _ n=>n
 | _=>0
end
section
variable {P : Program} {k : Nat} {ds : List (Option Tmp)} {o : Oper} {r : List Oper} {KS : St -> Prop} {s : St} {d : Option Tmp} {ty : TypeId} {p : String} {e : Array Edge} {g : Option (Nat × Bool)} {A B : Prop}
variable {x y z : Operand} {t t' : TypeId}
theorem XU:KN P k ⟨d,.binOp .eql t x (.const (.slice none 0 0)) t',ty,p,e,g⟩ s KS=WZ P t s.st (s.ev x) (fH (λv=>KS (s.put d v)) ⟨⟩):=rfl
theorem aA:KN P k ⟨d,.store t x y,ty,p,e,g⟩ s KS=WG P s.st t (s.ev x) (s.ev y) (fH (λst=>KS (St.put ⟨s.n,s.env,st⟩ d .E2)) ⟨⟩):=rfl
def Y5 {α β:Type}(K:α->β->Prop)(_:du K):α->β->Prop:=K
theorem U0:KN P k ⟨d,.makeSlice t x y,ty,p,e,g⟩ s KS=YP P s.st t (s.ev x) (s.ev y) (Y5 (λv st=>KS (St.put ⟨s.n,s.env,st⟩ d v)) ⟨⟩):=rfl
theorem Uh {n:Nat}{parts:Array (Nat×Operand)}:KN P k ⟨d,.buildSlice t n parts,ty,p,e,g⟩ s KS=Ng P s.st t n (parts.toList.map λp=>(p.1,s.ev p.2)) (Y5 (λv st=>KS (St.put ⟨s.n,s.env,st⟩ d v)) ⟨⟩):=rfl
theorem Rv {lo hi mx:Option Operand}:KN P k ⟨d,.slice t x lo hi mx,ty,p,e,g⟩ s KS=TO P s.st t (s.ev x) (lo.map s.ev) (hi.map s.ev) (mx.map s.ev) (Y5 (λv st=>KS (St.put ⟨s.n,s.env,st⟩ d v)) ⟨⟩):=rfl
theorem UZ:KN P k ⟨d,.call ⟨.builtin .append,#[x,y],#[t,t']⟩,ty,p,e,g⟩ s KS=(t=t'/\UM P s.st t (s.ev x) (s.ev y) (Y5 (λv st=>KS (St.put ⟨s.n,s.env,st⟩ d v)) ⟨⟩)):=rfl
theorem Mh {f:FuncId}{args:Array Operand}{ts:Array TypeId}:KN P k ⟨d,.call ⟨.value (.func f),args,ts⟩,ty,p,e,g⟩ s KS=(D1 P f=true/\callThen P k s f (args.toList.map s.ev++[]) d KS):=rfl
theorem Vx {f:Tmp}{args:Array Operand}{ts:Array TypeId}:KN P k ⟨d,.call ⟨.value (.tmp f),args,ts⟩,ty,p,e,g⟩ s KS=Ug (s.env f) λf mP=>D1 P f=true/\callThen P k s f (args.toList.map s.ev++mP) d KS:=rfl
variable {K : AV -> Prop}
end
section
variable {P : Program} {st : List Row} {t : TypeId} {K : AV -> Prop} {K2 : AV -> List Row -> Prop} {id g i off n : Nat} {kk pL : IntKind} {j j' : Int} {x v : AV} {xs : List (List AV)} {cs : List AV}
end
section
variable {sel : List Nat}
end
section
variable {id g n : Nat} {xs : List (List AV)} {cs : List AV} {e : Nat -> AV} {t : Nat}
theorem bY:BJ id g xs (.own id g n)=.sl (xs.drop (xs.length-n)):=by simp[BJ,G5]
theorem Z8:G5 id g xs (.own id g n)=.sl (xs.drop (xs.length-n)):=by simp[G5]
end
theorem DA {P:Program}{f:FuncId}{args:List AV}{v:AV}(hv:flat v=true)(h:Ac P f args [] λr _=>r=v):Ac P f args [] λr st=>r=v/\st=[]:=by
 intro F os w vs hs hl;refine (h F os w vs hs hl).mono ?_;rintro e w' ⟨u,r,st',F',os',rfl,rfl,h1,h2,h3⟩;refine⟨u,r,[],F',[],rfl,⟨rfl,rfl⟩,G9.nil h1.GG,I1 hv [] h2,⟨h3.sys,h3.tape,h3.output,h3.size,h3.OF,h3.Ir,λb h4 h5 h6=>?_,λi o hi=>absurd hi (by simp)⟩⟩;obtain⟨g1,g2,_⟩:=h3.other b h4 h5 h6;exact⟨g1,g2,by simp⟩
end Go.Abs
