import Derived.Test.YtccficmcdkcpnaaGreatAbsL
set_option linter.all false
namespace Go.Abs
open Go
structure js {α:Type} (a:α):Type where
def lB {α:Type}(K:α->Prop)(_:js K):α->Prop:=K
def hold (p:Prop)(_:js p):Prop:=p
section
variable {P : Program} {k : Nat} {K : AV -> Prop} {a b : Int} {t : TypeId} {s : St}
theorem wrap_i64 {n:Int}(h1:-9223372036854775808<=n)(h2:n<=9223372036854775807):IntKind.i64.wrap n=n:=IntWalk.i64_in n ⟨h1,h2⟩
def iv:AV->Int
 | .int _ n=>n
 | _=>0
end
section
variable {P : Program} {k : Nat} {ds : List (Option Tmp)} {o : Oper} {r : List Oper} {KS : St -> Prop} {s : St} {d : Option Tmp} {ty : TypeId} {p : String} {e : Array Edge} {g : Option (Nat × Bool)} {A B : Prop}
variable {x y z : Operand} {t t' : TypeId}
theorem ZQ:KR P k ⟨d,.binOp .eql t x (.const (.slice none 0 0)) t',ty,p,e,g⟩ s KS=Xt P t s.st (s.ev x) (lB (λv=>KS (s.put d v)) ⟨⟩):=rfl
theorem du:KR P k ⟨d,.store t x y,ty,p,e,g⟩ s KS=YC P s.st t (s.ev x) (s.ev y) (lB (λst=>KS (St.put ⟨s.n,s.env,st⟩ d .FQ)) ⟨⟩):=rfl
def bh {α β:Type}(K:α->β->Prop)(_:js K):α->β->Prop:=K
theorem Wh:KR P k ⟨d,.makeSlice t x y,ty,p,e,g⟩ s KS=bQ P s.st t (s.ev x) (s.ev y) (bh (λv st=>KS (St.put ⟨s.n,s.env,st⟩ d v)) ⟨⟩):=rfl
theorem VG {n:Nat}{parts:Array (Nat×Operand)}:KR P k ⟨d,.buildSlice t n parts,ty,p,e,g⟩ s KS=Ny P s.st t n (parts.toList.map λp=>(p.1,s.ev p.2)) (bh (λv st=>KS (St.put ⟨s.n,s.env,st⟩ d v)) ⟨⟩):=rfl
theorem Tg {lo hi mx:Option Operand}:KR P k ⟨d,.slice t x lo hi mx,ty,p,e,g⟩ s KS=Ug P s.st t (s.ev x) (lo.map s.ev) (hi.map s.ev) (mx.map s.ev) (bh (λv st=>KS (St.put ⟨s.n,s.env,st⟩ d v)) ⟨⟩):=rfl
theorem VJ:KR P k ⟨d,.call ⟨.builtin .append,#[x,y],#[t,t']⟩,ty,p,e,g⟩ s KS=(t=t'/\Vf P s.st t (s.ev x) (s.ev y) (bh (λv st=>KS (St.put ⟨s.n,s.env,st⟩ d v)) ⟨⟩)):=rfl
theorem Kl {f:FuncId}{args:Array Operand}{ts:Array TypeId}:KR P k ⟨d,.call ⟨.value (.func f),args,ts⟩,ty,p,e,g⟩ s KS=(Dy P f=true/\callThen P k s f (args.toList.map s.ev++[]) d KS):=rfl
theorem Rq {f:Tmp}{args:Array Operand}{ts:Array TypeId}:KR P k ⟨d,.call ⟨.value (.tmp f),args,ts⟩,ty,p,e,g⟩ s KS=Vl (s.env f) λf first sM=>Dy P f=true/\callThen P k s f (first++(args.toList.map s.ev++sM)) d KS:=rfl
variable {K : AV -> Prop}
end
section
variable {P : Program} {st : List Row} {t : TypeId} {K : AV -> Prop} {K2 : AV -> List Row -> Prop} {id g i off n : Nat} {kk uz : IntKind} {j j' : Int} {x v : AV} {xs : List (List AV)} {cs : List AV}
end
section
variable {sel : List Nat}
end
section
variable {id g n : Nat} {xs : List (List AV)} {cs : List AV} {e : Nat -> AV} {t : Nat}
theorem ee:Ct id g xs (.own id g n)=.sl (xs.drop (xs.length-n)):=by simp[Ct,Je]
theorem cx:Je id g xs (.own id g n)=.sl (xs.drop (xs.length-n)):=by simp[Je]
end
theorem FH {P:Program}{f:FuncId}{args:List AV}{v:AV}(hv:flat v=true)(h:BJ P f args [] λr _=>r=v):BJ P f args [] λr st=>r=v/\st=[]:=by
 intro F os w vs hs hl;refine (h F os w vs hs hl).mono ?_;rintro e w' ⟨u,r,st',F',os',rfl,rfl,h1,h2,h3⟩;refine⟨u,r,[],F',[],rfl,⟨rfl,rfl⟩,FT.nil h1.FU,Lu hv [] h2,⟨h3.sys,h3.tape,h3.output,h3.size,h3.Ng,h3.HP,λb h4 h5 h6=>?_,λi o hi=>absurd hi (by simp)⟩⟩;obtain⟨g1,g2,_⟩:=h3.other b h4 h5 h6;exact⟨g1,g2,by simp⟩
end Go.Abs
