import Derived.Test.YtfkncfjpobjbjaaAbsL
set_option linter.all false
namespace Go.Abs
open Go
structure Qr {α:Type} (a:α):Type where
def Qx {α:Type}(K:α->Prop)(_:Qr K):α->Prop:=K
def hold (p:Prop)(_:Qr p):Prop:=p
section
variable {P : Program} {k : Nat} {K : AV -> Prop} {a b : Int} {t : TypeId} {s : St}
theorem wrap_i64 {n:Int}(h1:-9223372036854775808<=n)(h2:n<=9223372036854775807):IntKind.i64.wrap n=n:=IntWalk.i64_in n ⟨h1,h2⟩
theorem KP {n:Int}(h1:-18446744073709551616<=n)(h2:n < -9223372036854775808):IntKind.i64.wrap n=n+18446744073709551616:=by
 have h3:IntKind.i64.bits=64:=rfl;have h4:IntKind.i64.signed=true:=rfl;simp only[IntKind.wrap,h3,h4];have e1:(2:Int) ^ 64=18446744073709551616:=by decide
 have e2:(2:Int) ^ (64-1)=9223372036854775808:=by decide
 rw[e1,e2];have:n % 18446744073709551616=n+18446744073709551616:=by omega
 rw[this];simp only[TS,SJ];split<;>omega
def iv:AV->Int
 | .int _ n=>n
 | _=>0
end
section
variable {P : Program} {k : Nat} {ds : List (Option Tmp)} {o : Oper} {r : List Oper} {KS : St -> Prop} {s : St} {d : Option Tmp} {ty : TypeId} {p : String} {e : Array Edge} {g : Option (Nat × Bool)} {A B : Prop}
variable {x y z : Operand} {t t' : TypeId}
theorem L5:D8 P k ⟨d,.binOp .eql t x (.const (.slice none 0 0)) t',ty,p,e,g⟩ s KS=LL P t s.st (s.ev x) (Qx (λv=>KS (s.put d v)) ⟨⟩):=rfl
theorem OI:D8 P k ⟨d,.store t x y,ty,p,e,g⟩ s KS=LI P s.st t (s.ev x) (s.ev y) (Qx (λst=>KS (St.put ⟨s.n,s.env,st⟩ d .Bl)) ⟨⟩):=rfl
def Nr {α β:Type}(K:α->β->Prop)(_:Qr K):α->β->Prop:=K
theorem KA:D8 P k ⟨d,.makeSlice t x y,ty,p,e,g⟩ s KS=NN P s.st t (s.ev x) (s.ev y) (Nr (λv st=>KS (St.put ⟨s.n,s.env,st⟩ d v)) ⟨⟩):=rfl
theorem Jp {n:Nat}{parts:Array (Nat×Operand)}:D8 P k ⟨d,.buildSlice t n parts,ty,p,e,g⟩ s KS=Fq P s.st t n (parts.toList.map λp=>(p.1,s.ev p.2)) (Nr (λv st=>KS (St.put ⟨s.n,s.env,st⟩ d v)) ⟨⟩):=rfl
theorem K0 {lo hi mx:Option Operand}:D8 P k ⟨d,.slice t x lo hi mx,ty,p,e,g⟩ s KS=LO P s.st t (s.ev x) (lo.map s.ev) (hi.map s.ev) (mx.map s.ev) (Nr (λv st=>KS (St.put ⟨s.n,s.env,st⟩ d v)) ⟨⟩):=rfl
theorem JB:D8 P k ⟨d,.call ⟨.builtin .append,#[x,y],#[t,t']⟩,ty,p,e,g⟩ s KS=(t=t'/\Je P s.st t (s.ev x) (s.ev y) (Nr (λv st=>KS (St.put ⟨s.n,s.env,st⟩ d v)) ⟨⟩)):=rfl
theorem EE {f:FuncId}{args:Array Operand}{ts:Array TypeId}:D8 P k ⟨d,.call ⟨.value (.func f),args,ts⟩,ty,p,e,g⟩ s KS=(AZ P f=true/\callThen P k s f (args.toList.map s.ev++[]) d KS):=rfl
theorem LY {f:Tmp}{args:Array Operand}{ts:Array TypeId}:D8 P k ⟨d,.call ⟨.value (.tmp f),args,ts⟩,ty,p,e,g⟩ s KS=JQ (s.env f) λf Ul=>AZ P f=true/\callThen P k s f (args.toList.map s.ev++Ul) d KS:=rfl
variable {K : AV -> Prop}
end
section
variable {P : Program} {st : List Row} {t : TypeId} {K : AV -> Prop} {K2 : AV -> List Row -> Prop} {id g i off n : Nat} {kk Ys : IntKind} {j j' : Int} {x v : AV} {xs : List (List AV)} {cs : List AV}
end
section
variable {AP : List Nat}
end
section
variable {id g n : Nat} {xs : List (List AV)} {cs : List AV} {e : Nat -> AV} {t : Nat}
theorem PI:DT id g xs (.own id g n)=.sl (xs.drop (xs.length-n)):=by simp[DT,Dk]
theorem N9:Dk id g xs (.own id g n)=.sl (xs.drop (xs.length-n)):=by simp[Dk]
end
theorem AY.flat {P:Program}{f:FuncId}{args:List AV}{v:AV}(hv:flat v=true)(h:AY P f args [] λr _=>r=v):AY P f args [] λr st=>r=v/\st=[]:=by
 intro F os w vs hs hl;refine (h F os w vs hs hl).mono ?_;rintro e w' ⟨u,r,st',F',os',rfl,rfl,h1,h2,h3⟩;refine⟨u,r,[],F',[],rfl,⟨rfl,rfl⟩,CA.nil h1.CL,FZ hv [] h2,⟨h3.sys,h3.tape,h3.output,h3.size,h3.FT,h3.DC,λb h4 h5 h6=>?_,λi o hi=>absurd hi (by simp)⟩⟩;obtain⟨g1,g2,_⟩:=h3.other b h4 h5 h6;exact⟨g1,g2,by simp⟩
end Go.Abs
