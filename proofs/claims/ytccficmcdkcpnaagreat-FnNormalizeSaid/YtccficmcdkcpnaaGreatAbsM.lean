import Derived.Test.YtccficmcdkcpnaaGreatAbsL
set_option linter.all false
namespace Go.Abs
open Go
structure nX {α:Type} (a:α):Type where
def pL {α:Type}(K:α->Prop)(_:nX K):α->Prop:=K
def hold (p:Prop)(_:nX p):Prop:=p
section
variable {P : Program} {k : Nat} {K : AV -> Prop} {a b : Int} {t : TypeId} {s : St}
theorem wrap_i64 {n:Int}(h1:-9223372036854775808<=n)(h2:n<=9223372036854775807):IntKind.i64.wrap n=n:=IntWalk.i64_in n ⟨h1,h2⟩
def iv:AV->Int
 | .int _ n=>n
 | _=>0
end
section
variable {P : Program} {k : Nat} {ds : List (Option Tmp)} {o : Oper} {r : List Oper} {KS : St -> Prop} {s : St} {d : Option Tmp} {ty : TypeId} {p : String} {e : Array Edge} {g : Option (Nat × Bool)} {A B : Prop}
variable {x y z : Operand} {t t' : TypeId}
theorem cZ:NG P k ⟨d,.binOp .eql t x (.const (.slice none 0 0)) t',ty,p,e,g⟩ s KS=bB P t s.st (s.ev x) (pL (λv=>KS (s.put d v)) ⟨⟩):=rfl
theorem iz:NG P k ⟨d,.store t x y,ty,p,e,g⟩ s KS=Z5 P s.st t (s.ev x) (s.ev y) (pL (λst=>KS (St.put ⟨s.n,s.env,st⟩ d .FZ)) ⟨⟩):=rfl
def gO {α β:Type}(K:α->β->Prop)(_:nX K):α->β->Prop:=K
theorem Yv:NG P k ⟨d,.makeSlice t x y,ty,p,e,g⟩ s KS=eE P s.st t (s.ev x) (s.ev y) (gO (λv st=>KS (St.put ⟨s.n,s.env,st⟩ d v)) ⟨⟩):=rfl
theorem Xd {n:Nat}{parts:Array (Nat×Operand)}:NG P k ⟨d,.buildSlice t n parts,ty,p,e,g⟩ s KS=Qp P s.st t n (parts.toList.map λp=>(p.1,s.ev p.2)) (gO (λv st=>KS (St.put ⟨s.n,s.env,st⟩ d v)) ⟨⟩):=rfl
theorem VC {lo hi mx:Option Operand}:NG P k ⟨d,.slice t x lo hi mx,ty,p,e,g⟩ s KS=W1 P s.st t (s.ev x) (lo.map s.ev) (hi.map s.ev) (mx.map s.ev) (gO (λv st=>KS (St.put ⟨s.n,s.env,st⟩ d v)) ⟨⟩):=rfl
theorem fD:NG P k ⟨d,.call ⟨.builtin .append,#[x,y],#[t,t']⟩,ty,p,e,g⟩ s KS=(t=t'/\Yc P s.st t (s.ev x) (s.ev y) (gO (λv st=>KS (St.put ⟨s.n,s.env,st⟩ d v)) ⟨⟩)):=rfl
theorem Ps {f:FuncId}{args:Array Operand}{ts:Array TypeId}:NG P k ⟨d,.call ⟨.value (.func f),args,ts⟩,ty,p,e,g⟩ s KS=(Cr P f=true/\callThen P k s f (args.toList.map s.ev++[]) d KS):=rfl
theorem aD {f:Tmp}{args:Array Operand}{ts:Array TypeId}:NG P k ⟨d,.call ⟨.value (.tmp f),args,ts⟩,ty,p,e,g⟩ s KS=XX (s.env f) λf first vp=>Cr P f=true/\callThen P k s f (first++(args.toList.map s.ev++vp)) d KS:=rfl
variable {K : AV -> Prop}
end
section
variable {P : Program} {st : List Row} {t : TypeId} {K : AV -> Prop} {K2 : AV -> List Row -> Prop} {id g i off n : Nat} {kk yr : IntKind} {j j' : Int} {x v : AV} {xs : List (List AV)} {cs : List AV}
end
section
variable {sel : List Nat}
end
section
variable {id g n : Nat} {xs : List (List AV)} {cs : List AV} {e : Nat -> AV} {t : Nat}
theorem jc:Bg id g xs (.own id g n)=.sl (xs.drop (xs.length-n)):=by simp[Bg,Gs]
theorem iK:Gs id g xs (.own id g n)=.sl (xs.drop (xs.length-n)):=by simp[Gs]
end
theorem Dd {P:Program}{f:FuncId}{args:List AV}{v:AV}(hv:flat v=true)(h:BS P f args [] λr _=>r=v):BS P f args [] λr st=>r=v/\st=[]:=by
 intro F os w vs hs hl;refine (h F os w vs hs hl).mono ?_;rintro e w' ⟨u,r,st',F',os',rfl,rfl,h1,h2,h3⟩;refine⟨u,r,[],F',[],rfl,⟨rfl,rfl⟩,IY.nil h1.HO,J1 hv [] h2,⟨h3.sys,h3.tape,h3.output,h3.size,h3.RI,h3.KX,λb h4 h5 h6=>?_,λi o hi=>absurd hi (by simp)⟩⟩;obtain⟨g1,g2,_⟩:=h3.other b h4 h5 h6;exact⟨g1,g2,by simp⟩
end Go.Abs
