import Derived.Test.YtihdgoiebmfapaaGreatAbsL
set_option linter.all false
namespace Go.Abs
open Go
structure jg {α:Type} (a:α):Type where
def kM {α:Type}(K:α->Prop)(_:jg K):α->Prop:=K
def hold (p:Prop)(_:jg p):Prop:=p
section
variable {P : Program} {k : Nat} {K : AV -> Prop} {a b : Int} {t : TypeId} {s : St}
theorem wrap_i64 {n:Int}(h1:-9223372036854775808<=n)(h2:n<=9223372036854775807):IntKind.i64.wrap n=n:=IntWalk.i64_in n ⟨h1,h2⟩
def iv:AV->Int
 | .int _ n=>n
 | _=>0
end
section
variable {P : Program} {k : Nat} {ds : List (Option Tmp)} {o : Oper} {r : List Oper} {KS : St -> Prop} {s : St} {d : Option Tmp} {ty : TypeId} {p : String} {e : Array Edge} {g : Option (Nat × Bool)} {A B : Prop}
variable {x y z : Operand} {t t' : TypeId}
theorem ZN:Kx P k ⟨d,.binOp .eql t x (.const (.slice none 0 0)) t',ty,p,e,g⟩ s KS=Yf P t s.st (s.ev x) (kM (λv=>KS (s.put d v)) ⟨⟩):=rfl
theorem eA:Kx P k ⟨d,.store t x y,ty,p,e,g⟩ s KS=Ym P s.st t (s.ev x) (s.ev y) (kM (λst=>KS (St.put ⟨s.n,s.env,st⟩ d .E7)) ⟨⟩):=rfl
def ca {α β:Type}(K:α->β->Prop)(_:jg K):α->β->Prop:=K
theorem XE:Kx P k ⟨d,.makeSlice t x y,ty,p,e,g⟩ s KS=cM P s.st t (s.ev x) (s.ev y) (ca (λv st=>KS (St.put ⟨s.n,s.env,st⟩ d v)) ⟨⟩):=rfl
theorem VY {n:Nat}{parts:Array (Nat×Operand)}:Kx P k ⟨d,.buildSlice t n parts,ty,p,e,g⟩ s KS=O4 P s.st t n (parts.toList.map λp=>(p.1,s.ev p.2)) (ca (λv st=>KS (St.put ⟨s.n,s.env,st⟩ d v)) ⟨⟩):=rfl
theorem TD {lo hi mx:Option Operand}:Kx P k ⟨d,.slice t x lo hi mx,ty,p,e,g⟩ s KS=U4 P s.st t (s.ev x) (lo.map s.ev) (hi.map s.ev) (mx.map s.ev) (ca (λv st=>KS (St.put ⟨s.n,s.env,st⟩ d v)) ⟨⟩):=rfl
theorem Wd:Kx P k ⟨d,.call ⟨.builtin .append,#[x,y],#[t,t']⟩,ty,p,e,g⟩ s KS=(t=t'/\Vr P s.st t (s.ev x) (s.ev y) (ca (λv st=>KS (St.put ⟨s.n,s.env,st⟩ d v)) ⟨⟩)):=rfl
theorem Nf {f:FuncId}{args:Array Operand}{ts:Array TypeId}:Kx P k ⟨d,.call ⟨.value (.func f),args,ts⟩,ty,p,e,g⟩ s KS=(Dq P f=true/\callThen P k s f (args.toList.map s.ev++[]) d KS):=rfl
theorem YS {f:Tmp}{args:Array Operand}{ts:Array TypeId}:Kx P k ⟨d,.call ⟨.value (.tmp f),args,ts⟩,ty,p,e,g⟩ s KS=VS (s.env f) λf rT=>Dq P f=true/\callThen P k s f (args.toList.map s.ev++rT) d KS:=rfl
variable {K : AV -> Prop}
end
section
variable {P : Program} {st : List Row} {t : TypeId} {K : AV -> Prop} {K2 : AV -> List Row -> Prop} {id g i off n : Nat} {kk uV : IntKind} {j j' : Int} {x v : AV} {xs : List (List AV)} {cs : List AV}
end
section
variable {sel : List Nat}
end
section
variable {id g n : Nat} {xs : List (List AV)} {cs : List AV} {e : Nat -> AV} {t : Nat}
theorem gB:BL id g xs (.own id g n)=.sl (xs.drop (xs.length-n)):=by simp[BL,HT]
theorem eL:HT id g xs (.own id g n)=.sl (xs.drop (xs.length-n)):=by simp[HT]
end
theorem Ci {P:Program}{f:FuncId}{args:List AV}{v:AV}(hv:flat v=true)(h:Ab P f args [] λr _=>r=v):Ab P f args [] λr st=>r=v/\st=[]:=by
 intro F os w vs hs hl;refine (h F os w vs hs hl).mono ?_;rintro e w' ⟨u,r,st',F',os',rfl,rfl,h1,h2,h3⟩;refine⟨u,r,[],F',[],rfl,⟨rfl,rfl⟩,HF.nil h1.FR,Jd hv [] h2,⟨h3.sys,h3.tape,h3.output,h3.size,h3.NQ,h3.IX,λb h4 h5 h6=>?_,λi o hi=>absurd hi (by simp)⟩⟩;obtain⟨g1,g2,_⟩:=h3.other b h4 h5 h6;exact⟨g1,g2,by simp⟩
end Go.Abs
