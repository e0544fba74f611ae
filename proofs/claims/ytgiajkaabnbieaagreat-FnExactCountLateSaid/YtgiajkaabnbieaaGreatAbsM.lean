import Derived.Test.YtgiajkaabnbieaaGreatAbsL
set_option linter.all false
namespace Go.Abs
open Go
structure ji {α:Type} (a:α):Type where
def lg {α:Type}(K:α->Prop)(_:ji K):α->Prop:=K
def hold (p:Prop)(_:ji p):Prop:=p
section
variable {P : Program} {k : Nat} {K : AV -> Prop} {a b : Int} {t : TypeId} {s : St}
theorem wrap_i64 {n:Int}(h1:-9223372036854775808<=n)(h2:n<=9223372036854775807):IntKind.i64.wrap n=n:=IntWalk.i64_in n ⟨h1,h2⟩
def iv:AV->Int
 | .int _ n=>n
 | _=>0
def ol:AV->Nat
 | .own _ _ n=>n
 | _=>0
end
section
variable {P : Program} {k : Nat} {ds : List (Option Tmp)} {o : Oper} {r : List Oper} {KS : St -> Prop} {s : St} {d : Option Tmp} {ty : TypeId} {p : String} {e : Array Edge} {g : Option (Nat × Bool)} {A B : Prop}
variable {x y z : Operand} {t t' : TypeId}
theorem Zi:LU P k ⟨d,.binOp .eql t x (.const (.slice none 0 0)) t',ty,p,e,g⟩ s KS=YX P t s.st (s.ev x) (lg (λv=>KS (s.put d v)) ⟨⟩):=rfl
theorem eA:LU P k ⟨d,.store t x y,ty,p,e,g⟩ s KS=YG P s.st t (s.ev x) (s.ev y) (lg (λst=>KS (St.put ⟨s.n,s.env,st⟩ d .FN)) ⟨⟩):=rfl
def cu {α β:Type}(K:α->β->Prop)(_:ji K):α->β->Prop:=K
theorem Wu:LU P k ⟨d,.makeSlice t x y,ty,p,e,g⟩ s KS=bY P s.st t (s.ev x) (s.ev y) (cu (λv st=>KS (St.put ⟨s.n,s.env,st⟩ d v)) ⟨⟩):=rfl
theorem VZ {n:Nat}{parts:Array (Nat×Operand)}:LU P k ⟨d,.buildSlice t n parts,ty,p,e,g⟩ s KS=O1 P s.st t n (parts.toList.map λp=>(p.1,s.ev p.2)) (cu (λv st=>KS (St.put ⟨s.n,s.env,st⟩ d v)) ⟨⟩):=rfl
theorem TU {lo hi mx:Option Operand}:LU P k ⟨d,.slice t x lo hi mx,ty,p,e,g⟩ s KS=VF P s.st t (s.ev x) (lo.map s.ev) (hi.map s.ev) (mx.map s.ev) (cu (λv st=>KS (St.put ⟨s.n,s.env,st⟩ d v)) ⟨⟩):=rfl
theorem V9:LU P k ⟨d,.call ⟨.builtin .append,#[x,y],#[t,t']⟩,ty,p,e,g⟩ s KS=(t=t'/\Vu P s.st t (s.ev x) (s.ev y) (cu (λv st=>KS (St.put ⟨s.n,s.env,st⟩ d v)) ⟨⟩)):=rfl
theorem L4 {f:FuncId}{args:Array Operand}{ts:Array TypeId}:LU P k ⟨d,.call ⟨.value (.func f),args,ts⟩,ty,p,e,g⟩ s KS=(Er P f=true/\callThen P k s f (args.toList.map s.ev++[]) d KS):=rfl
theorem Ya {f:Tmp}{args:Array Operand}{ts:Array TypeId}:LU P k ⟨d,.call ⟨.value (.tmp f),args,ts⟩,ty,p,e,g⟩ s KS=Vt (s.env f) λf rp=>Er P f=true/\callThen P k s f (args.toList.map s.ev++rp) d KS:=rfl
variable {K : AV -> Prop}
end
section
variable {P : Program} {st : List Row} {t : TypeId} {K : AV -> Prop} {K2 : AV -> List Row -> Prop} {id g i off n : Nat} {kk tz : IntKind} {j j' : Int} {x v : AV} {xs : List (List AV)} {cs : List AV}
end
section
variable {sel : List Nat}
end
section
variable {id g n : Nat} {xs : List (List AV)} {cs : List AV} {e : Nat -> AV} {t : Nat}
theorem eh:CQ id g xs (.own id g n)=.sl (xs.drop (xs.length-n)):=by simp[CQ,Hr]
theorem eP:Hr id g xs (.own id g n)=.sl (xs.drop (xs.length-n)):=by simp[Hr]
end
theorem FK {P:Program}{f:FuncId}{args:List AV}{v:AV}(hv:flat v=true)(h:AS P f args [] λr _=>r=v):AS P f args [] λr st=>r=v/\st=[]:=by
 intro F os w vs hs hl;refine (h F os w vs hs hl).mono ?_;rintro e w' ⟨u,r,st',F',os',rfl,rfl,h1,h2,h3⟩;refine⟨u,r,[],F',[],rfl,⟨rfl,rfl⟩,GU.nil h1.F6,Mw hv [] h2,⟨h3.sys,h3.tape,h3.output,h3.size,h3.OO,h3.H8,λb h4 h5 h6=>?_,λi o hi=>absurd hi (by simp)⟩⟩;obtain⟨g1,g2,_⟩:=h3.other b h4 h5 h6;exact⟨g1,g2,by simp⟩
end Go.Abs
