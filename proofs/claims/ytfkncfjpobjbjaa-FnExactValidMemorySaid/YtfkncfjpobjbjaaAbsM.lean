import Derived.Test.YtfkncfjpobjbjaaAbsL
set_option linter.all false
namespace Go.Abs
open Go
structure Ql {α:Type} (a:α):Type where
def RW {α:Type}(K:α->Prop)(_:Ql K):α->Prop:=K
def hold (p:Prop)(_:Ql p):Prop:=p
section
variable {P : Program} {k : Nat} {K : AV -> Prop} {a b : Int} {t : TypeId} {s : St}
theorem wrap_i64 {n:Int}(h1:-9223372036854775808<=n)(h2:n<=9223372036854775807):IntKind.i64.wrap n=n:=IntWalk.i64_in n ⟨h1,h2⟩
theorem Ko {n:Int}(h1:-18446744073709551616<=n)(h2:n < -9223372036854775808):IntKind.i64.wrap n=n+18446744073709551616:=by
 have h3:IntKind.i64.bits=64:=rfl;have h4:IntKind.i64.signed=true:=rfl;simp only[IntKind.wrap,h3,h4];have e1:(2:Int) ^ 64=18446744073709551616:=by decide
 have e2:(2:Int) ^ (64-1)=9223372036854775808:=by decide
 rw[e1,e2];have:n % 18446744073709551616=n+18446744073709551616:=by omega
 rw[this];simp only[TO,SF];split<;>omega
def iv:AV->Int
 | .int _ n=>n
 | _=>0
end
section
variable {P : Program} {k : Nat} {ds : List (Option Tmp)} {o : Oper} {r : List Oper} {KS : St -> Prop} {s : St} {d : Option Tmp} {ty : TypeId} {p : String} {e : Array Edge} {g : Option (Nat × Bool)} {A B : Prop}
variable {x y z : Operand} {t t' : TypeId}
theorem MC:D8 P k ⟨d,.binOp .eql t x (.const (.slice none 0 0)) t',ty,p,e,g⟩ s KS=LQ P t s.st (s.ev x) (RW (λv=>KS (s.put d v)) ⟨⟩):=rfl
theorem OJ:D8 P k ⟨d,.store t x y,ty,p,e,g⟩ s KS=Ld P s.st t (s.ev x) (s.ev y) (RW (λst=>KS (St.put ⟨s.n,s.env,st⟩ d .Bk)) ⟨⟩):=rfl
def Ns {α β:Type}(K:α->β->Prop)(_:Ql K):α->β->Prop:=K
theorem J6:D8 P k ⟨d,.makeSlice t x y,ty,p,e,g⟩ s KS=Mi P s.st t (s.ev x) (s.ev y) (Ns (λv st=>KS (St.put ⟨s.n,s.env,st⟩ d v)) ⟨⟩):=rfl
theorem Jt {n:Nat}{parts:Array (Nat×Operand)}:D8 P k ⟨d,.buildSlice t n parts,ty,p,e,g⟩ s KS=Fe P s.st t n (parts.toList.map λp=>(p.1,s.ev p.2)) (Ns (λv st=>KS (St.put ⟨s.n,s.env,st⟩ d v)) ⟨⟩):=rfl
theorem Kt {lo hi mx:Option Operand}:D8 P k ⟨d,.slice t x lo hi mx,ty,p,e,g⟩ s KS=LV P s.st t (s.ev x) (lo.map s.ev) (hi.map s.ev) (mx.map s.ev) (Ns (λv st=>KS (St.put ⟨s.n,s.env,st⟩ d v)) ⟨⟩):=rfl
theorem Jo:D8 P k ⟨d,.call ⟨.builtin .append,#[x,y],#[t,t']⟩,ty,p,e,g⟩ s KS=(t=t'/\JQ P s.st t (s.ev x) (s.ev y) (Ns (λv st=>KS (St.put ⟨s.n,s.env,st⟩ d v)) ⟨⟩)):=rfl
theorem EB {f:FuncId}{args:Array Operand}{ts:Array TypeId}:D8 P k ⟨d,.call ⟨.value (.func f),args,ts⟩,ty,p,e,g⟩ s KS=(AZ P f=true/\callThen P k s f (args.toList.map s.ev++[]) d KS):=rfl
theorem Lm {f:Tmp}{args:Array Operand}{ts:Array TypeId}:D8 P k ⟨d,.call ⟨.value (.tmp f),args,ts⟩,ty,p,e,g⟩ s KS=JL (s.env f) λf Uh=>AZ P f=true/\callThen P k s f (args.toList.map s.ev++Uh) d KS:=rfl
variable {K : AV -> Prop}
end
section
variable {P : Program} {st : List Row} {t : TypeId} {K : AV -> Prop} {K2 : AV -> List Row -> Prop} {id g i off n : Nat} {kk Yn : IntKind} {j j' : Int} {x v : AV} {xs : List (List AV)} {cs : List AV}
end
section
variable {AP : List Nat}
end
section
variable {id g n : Nat} {xs : List (List AV)} {cs : List AV} {e : Nat -> AV} {t : Nat}
theorem Od:Dw id g xs (.own id g n)=.sl (xs.drop (xs.length-n)):=by simp[Dw,Dm]
theorem N7:Dm id g xs (.own id g n)=.sl (xs.drop (xs.length-n)):=by simp[Dm]
end
theorem AY.flat {P:Program}{f:FuncId}{args:List AV}{v:AV}(hv:flat v=true)(h:AY P f args [] λr _=>r=v):AY P f args [] λr st=>r=v/\st=[]:=by
 intro F os w vs hs hl;refine (h F os w vs hs hl).mono ?_;rintro e w' ⟨u,r,st',F',os',rfl,rfl,h1,h2,h3⟩;refine⟨u,r,[],F',[],rfl,⟨rfl,rfl⟩,B9.nil h1.CL,FK hv [] h2,⟨h3.sys,h3.tape,h3.output,h3.size,h3.FP,h3.C8,λb h4 h5 h6=>?_,λi o hi=>absurd hi (by simp)⟩⟩;obtain⟨g1,g2,_⟩:=h3.other b h4 h5 h6;exact⟨g1,g2,by simp⟩
end Go.Abs
