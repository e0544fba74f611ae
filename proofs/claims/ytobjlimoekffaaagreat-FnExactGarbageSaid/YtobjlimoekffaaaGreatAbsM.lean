import Derived.Test.YtobjlimoekffaaaGreatAbsL
namespace Go.Abs
open Go
structure bM {α:Type} (a:α):Type where
def eE {α:Type} (K:α→Prop) (_:bM K):α→Prop:=K
def hold (p:Prop) (_:bM p):Prop:=p
section
variable {P : Program} {k : Nat} {K : AV → Prop} {a b : Int} {t : TypeId} {s : St}
theorem wrap_i64 {n:Int} (h1:-9223372036854775808≤n) (h2:n≤9223372036854775807):IntKind.i64.wrap n=n:=IntWalk.i64_in n ⟨h1,h2⟩
theorem TQ {n:Int} (h1:-18446744073709551616≤n) (h2:n < -9223372036854775808):IntKind.i64.wrap n=n+18446744073709551616:=by
 have h3:IntKind.i64.bits=64:=rfl
 have h4:IntKind.i64.signed=true:=rfl
 simp only[IntKind.wrap,h3,h4]
 have e1:(2:Int) ^ 64=18446744073709551616:=by decide
 have e2:(2:Int) ^ (64 - 1)=9223372036854775808:=by decide
 rw[e1,e2]
 have:n % 18446744073709551616=n+18446744073709551616:=by omega
 rw[this]
 simp only[Bool.true_and,decide_eq_true_eq]
 split <;> omega
def iv:AV→Int
 | .int _ n=>n
 | _=>0
end
section
variable {P : Program} {k : Nat} {ds : List (Option Tmp)} {o : Oper} {r : List Oper} {KS : St → Prop} {s : St} {d : Option Tmp} {ty : TypeId} {p : String} {e : Array Edge} {g : Option (Nat × Bool)} {A B : Prop}
variable {x y z : Operand} {t t' : TypeId}
theorem Vh:I4 P k ⟨d,.binOp .eql t x (.const (.slice none 0 0)) t',ty,p,e,g⟩ s KS=Tu P t s.st (s.ev x) (eE (fun v=>KS (s.put d v)) ⟨⟩):=rfl
theorem XZ:I4 P k ⟨d,.store t x y,ty,p,e,g⟩ s KS=UX P s.st t (s.ev x) (s.ev y) (eE (fun st=>KS (St.put ⟨s.n,s.env,st⟩ d .EO)) ⟨⟩):=rfl
def XO {α β:Type} (K:α→β→Prop) (_:bM K):α→β→Prop:=K
theorem S3:I4 P k ⟨d,.makeSlice t x y,ty,p,e,g⟩ s KS=WI P s.st t (s.ev x) (s.ev y) (XO (fun v st=>KS (St.put ⟨s.n,s.env,st⟩ d v)) ⟨⟩):=rfl
theorem R9 {n:Nat} {parts:Array (Nat×Operand)}:I4 P k ⟨d,.buildSlice t n parts,ty,p,e,g⟩ s KS=LZ P s.st t n (parts.toList.map fun p=>(p.1,s.ev p.2)) (XO (fun v st=>KS (St.put ⟨s.n,s.env,st⟩ d v)) ⟨⟩):=rfl
theorem Te {lo hi mx:Option Operand}:I4 P k ⟨d,.slice t x lo hi mx,ty,p,e,g⟩ s KS=T1 P s.st t (s.ev x) (lo.map s.ev) (hi.map s.ev) (mx.map s.ev) (XO (fun v st=>KS (St.put ⟨s.n,s.env,st⟩ d v)) ⟨⟩):=rfl
theorem WX:I4 P k ⟨d,.call ⟨.builtin .append,#[x,y],#[t,t']⟩,ty,p,e,g⟩ s KS=(t=t'∧Q5 P s.st t (s.ev x) (s.ev y) (XO (fun v st=>KS (St.put ⟨s.n,s.env,st⟩ d v)) ⟨⟩)):=rfl
theorem Ki {f:FuncId} {args:Array Operand} {ts:Array TypeId}:I4 P k ⟨d,.call ⟨.value (.func f),args,ts⟩,ty,p,e,g⟩ s KS=(AZ P f=true∧callThen P k s f (args.toList.map s.ev ++ []) d KS):=rfl
theorem Oi {f:Tmp} {args:Array Operand} {ts:Array TypeId}:I4 P k ⟨d,.call ⟨.value (.tmp f),args,ts⟩,ty,p,e,g⟩ s KS=RJ (s.env f) fun f caps=>AZ P f=true∧callThen P k s f (args.toList.map s.ev ++ caps) d KS:=rfl
variable {K : AV → Prop}
end
section
variable {P : Program} {st : List Row} {t : TypeId} {K : AV → Prop} {K2 : AV → List Row → Prop} {id g i off n : Nat} {kk kk' : IntKind} {j j' : Int} {x v : AV} {xs : List (List AV)} {cs : List AV}
end
section
variable {Ap : List Nat}
end
section
variable {id g n : Nat} {xs : List (List AV)} {cs : List AV} {e : Nat → AV} {t : Nat}
theorem ZW:EW id g xs (.own id g n)=.sl (xs.drop (xs.length - n)):=by simp[EW,Iz]
theorem Xn:Iz id g xs (.own id g n)=.sl (xs.drop (xs.length - n)):=by simp[Iz]
end
theorem J1 {P:Program} {f:FuncId} {args:List AV} {v:AV} (hv:flat v=true) (h:AY P f args [] fun r _=>r=v):AY P f args [] fun r st=>r=v∧st=[]:=by
 intro F os w vs hs hl
 refine (h F os w vs hs hl).mono ?_
 rintro e w' ⟨u,r,st',F',os',rfl,rfl,h1,h2,h3⟩
 refine⟨u,r,[],F',[],rfl,⟨rfl,rfl⟩,Fg.nil h1.FX,Jp hv [] h2,⟨h3.sys,h3.tape,h3.output,h3.size,h3.MY,h3.JC,fun b h4 h5 h6=>?_,fun i o hi=>absurd hi (by simp)⟩⟩
 obtain⟨g1,g2,_⟩:=h3.other b h4 h5 h6
 exact⟨g1,g2,by simp⟩
end Go.Abs

