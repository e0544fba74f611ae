import Derived.Test.YthapbpfhdnmboaaAbsL
namespace Go.Abs
open Go
structure R1 {α:Type} (a:α):Type where
def TK {α:Type} (K:α→Prop) (_:R1 K):α→Prop:=K
def hold (p:Prop) (_:R1 p):Prop:=p
section
variable {P : Program} {k : Nat} {K : AV → Prop} {a b : Int} {t : TypeId} {s : St}
theorem wrap_i64 {n:Int} (h1:-9223372036854775808≤n) (h2:n≤9223372036854775807):IntKind.i64.wrap n=n:=IntWalk.i64_in n ⟨h1,h2⟩
theorem Pn {n:Int} (h1:-18446744073709551616≤n) (h2:n < -9223372036854775808):IntKind.i64.wrap n=n+18446744073709551616:=by
 have h3:IntKind.i64.bits=64:=rfl
 have h4:IntKind.i64.signed=true:=rfl
 simp only[IntKind.wrap,h3,h4]
 have e1:(2:Int) ^ 64=18446744073709551616:=by decide
 have e2:(2:Int) ^ (64 - 1)=9223372036854775808:=by decide
 rw[e1,e2]
 have:n % 18446744073709551616=n+18446744073709551616:=by omega
 rw[this]
 simp only[Bool.true_and,decide_eq_true_eq]
 split <;> omega
def iv:AV→Int
 | .int _ n=>n
 | _=>0
end
section
variable {P : Program} {k : Nat} {ds : List (Option Tmp)} {o : Oper} {r : List Oper} {KS : St → Prop} {s : St} {d : Option Tmp} {ty : TypeId} {p : String} {e : Array Edge} {g : Option (Nat × Bool)} {A B : Prop}
variable {x y z : Operand} {t t' : TypeId}
theorem Nq:FB P k ⟨d,.binOp .eql t x (.const (.slice none 0 0)) t',ty,p,e,g⟩ s KS=Ms P t s.st (s.ev x) (TK (fun v=>KS (s.put d v)) ⟨⟩):=rfl
theorem Pj:FB P k ⟨d,.store t x y,ty,p,e,g⟩ s KS=NR P s.st t (s.ev x) (s.ev y) (TK (fun st=>KS (St.put ⟨s.n,s.env,st⟩ d .CV)) ⟨⟩):=rfl
def PI {α β:Type} (K:α→β→Prop) (_:R1 K):α→β→Prop:=K
theorem Ln:FB P k ⟨d,.makeSlice t x y,ty,p,e,g⟩ s KS=O0 P s.st t (s.ev x) (s.ev y) (PI (fun v st=>KS (St.put ⟨s.n,s.env,st⟩ d v)) ⟨⟩):=rfl
theorem LK {n:Nat} {parts:Array (Nat×Operand)}:FB P k ⟨d,.buildSlice t n parts,ty,p,e,g⟩ s KS=G8 P s.st t n (parts.toList.map fun p=>(p.1,s.ev p.2)) (PI (fun v st=>KS (St.put ⟨s.n,s.env,st⟩ d v)) ⟨⟩):=rfl
theorem MY {lo hi mx:Option Operand}:FB P k ⟨d,.slice t x lo hi mx,ty,p,e,g⟩ s KS=NN P s.st t (s.ev x) (lo.map s.ev) (hi.map s.ev) (mx.map s.ev) (PI (fun v st=>KS (St.put ⟨s.n,s.env,st⟩ d v)) ⟨⟩):=rfl
theorem Ou:FB P k ⟨d,.call ⟨.builtin .append,#[x,y],#[t,t']⟩,ty,p,e,g⟩ s KS=(t=t'∧Kd P s.st t (s.ev x) (s.ev y) (PI (fun v st=>KS (St.put ⟨s.n,s.env,st⟩ d v)) ⟨⟩)):=rfl
theorem GU {f:FuncId} {args:Array Operand} {ts:Array TypeId}:FB P k ⟨d,.call ⟨.value (.func f),args,ts⟩,ty,p,e,g⟩ s KS=(Al P f=true∧callThen P k s f (args.toList.map s.ev ++ []) d KS):=rfl
theorem Mn {f:Tmp} {args:Array Operand} {ts:Array TypeId}:FB P k ⟨d,.call ⟨.value (.tmp f),args,ts⟩,ty,p,e,g⟩ s KS=LU (s.env f) fun f caps=>Al P f=true∧callThen P k s f (args.toList.map s.ev ++ caps) d KS:=rfl
variable {K : AV → Prop}
end
section
variable {P : Program} {st : List Row} {t : TypeId} {K : AV → Prop} {K2 : AV → List Row → Prop} {id g i off n : Nat} {kk kk' : IntKind} {j j' : Int} {x v : AV} {xs : List (List AV)} {cs : List AV}
end
section
variable {Ab : List Nat}
end
section
variable {id g n : Nat} {xs : List (List AV)} {cs : List AV} {e : Nat → AV} {t : Nat}
theorem Qb:A2 id g xs (.own id g n)=.sl (xs.drop (xs.length - n)):=by simp[A2,E6]
theorem Pc:E6 id g xs (.own id g n)=.sl (xs.drop (xs.length - n)):=by simp[E6]
end
theorem Ag.flat {P:Program} {f:FuncId} {args:List AV} {v:AV} (hv:flat v=true) (h:Ag P f args [] fun r _=>r=v):Ag P f args [] fun r st=>r=v∧st=[]:=by
 intro F os w vs hs hl
 refine (h F os w vs hs hl).mono ?_
 rintro e w' ⟨u,r,st',F',os',rfl,rfl,h1,h2,h3⟩
 refine⟨u,r,[],F',[],rfl,⟨rfl,rfl⟩,DP.nil h1.DB,Fh hv [] h2,⟨h3.sys,h3.tape,h3.output,h3.size,h3.HG,h3.Ev,fun b h4 h5 h6=>?_,fun i o hi=>absurd hi (by simp)⟩⟩
 obtain⟨g1,g2,_⟩:=h3.other b h4 h5 h6
 exact⟨g1,g2,by simp⟩
end Go.Abs

