import Derived.Test.YthapbpfhdnmboaaAbsL
namespace Go.Abs
open Go
structure Ru {α:Type} (a:α):Type where
def S4 {α:Type} (K:α→Prop) (_:Ru K):α→Prop:=K
def hold (p:Prop) (_:Ru p):Prop:=p
section
variable {P : Program} {k : Nat} {K : AV → Prop} {a b : Int} {t : TypeId} {s : St}
theorem wrap_i64 {n:Int} (h1:-9223372036854775808≤n) (h2:n≤9223372036854775807):IntKind.i64.wrap n=n:=IntWalk.i64_in n ⟨h1,h2⟩
theorem PY {n:Int} (h1:-18446744073709551616≤n) (h2:n < -9223372036854775808):IntKind.i64.wrap n=n+18446744073709551616:=by
 have h3:IntKind.i64.bits=64:=rfl
 have h4:IntKind.i64.signed=true:=rfl
 simp only[IntKind.wrap,h3,h4]
 have e1:(2:Int) ^ 64=18446744073709551616:=by decide
 have e2:(2:Int) ^ (64 - 1)=9223372036854775808:=by decide
 rw[e1,e2]
 have:n % 18446744073709551616=n+18446744073709551616:=by omega
 rw[this]
 simp only[Bool.true_and,decide_eq_true_eq]
 split <;> omega
def iv:AV→Int
 | .int _ n=>n
 | _=>0
end
section
variable {P : Program} {k : Nat} {ds : List (Option Tmp)} {o : Oper} {r : List Oper} {KS : St → Prop} {s : St} {d : Option Tmp} {ty : TypeId} {p : String} {e : Array Edge} {g : Option (Nat × Bool)} {A B : Prop}
variable {x y z : Operand} {t t' : TypeId}
theorem Nh:E9 P k ⟨d,.binOp .eql t x (.const (.slice none 0 0)) t',ty,p,e,g⟩ s KS=NN P t s.st (s.ev x) (S4 (fun v=>KS (s.put d v)) ⟨⟩):=rfl
theorem PR:E9 P k ⟨d,.store t x y,ty,p,e,g⟩ s KS=Mz P s.st t (s.ev x) (s.ev y) (S4 (fun st=>KS (St.put ⟨s.n,s.env,st⟩ d .CU)) ⟨⟩):=rfl
def PM {α β:Type} (K:α→β→Prop) (_:Ru K):α→β→Prop:=K
theorem Lc:E9 P k ⟨d,.makeSlice t x y,ty,p,e,g⟩ s KS=Ot P s.st t (s.ev x) (s.ev y) (PM (fun v st=>KS (St.put ⟨s.n,s.env,st⟩ d v)) ⟨⟩):=rfl
theorem LI {n:Nat} {parts:Array (Nat×Operand)}:E9 P k ⟨d,.buildSlice t n parts,ty,p,e,g⟩ s KS=Gs P s.st t n (parts.toList.map fun p=>(p.1,s.ev p.2)) (PM (fun v st=>KS (St.put ⟨s.n,s.env,st⟩ d v)) ⟨⟩):=rfl
theorem MK {lo hi mx:Option Operand}:E9 P k ⟨d,.slice t x lo hi mx,ty,p,e,g⟩ s KS=NB P s.st t (s.ev x) (lo.map s.ev) (hi.map s.ev) (mx.map s.ev) (PM (fun v st=>KS (St.put ⟨s.n,s.env,st⟩ d v)) ⟨⟩):=rfl
theorem Of:E9 P k ⟨d,.call ⟨.builtin .append,#[x,y],#[t,t']⟩,ty,p,e,g⟩ s KS=(t=t'∧Ke P s.st t (s.ev x) (s.ev y) (PM (fun v st=>KS (St.put ⟨s.n,s.env,st⟩ d v)) ⟨⟩)):=rfl
theorem Ga {f:FuncId} {args:Array Operand} {ts:Array TypeId}:E9 P k ⟨d,.call ⟨.value (.func f),args,ts⟩,ty,p,e,g⟩ s KS=(Al P f=true∧callThen P k s f (args.toList.map s.ev ++ []) d KS):=rfl
theorem Mc {f:Tmp} {args:Array Operand} {ts:Array TypeId}:E9 P k ⟨d,.call ⟨.value (.tmp f),args,ts⟩,ty,p,e,g⟩ s KS=Ku (s.env f) fun f caps=>Al P f=true∧callThen P k s f (args.toList.map s.ev ++ caps) d KS:=rfl
variable {K : AV → Prop}
end
section
variable {P : Program} {st : List Row} {t : TypeId} {K : AV → Prop} {K2 : AV → List Row → Prop} {id g i off n : Nat} {kk kk' : IntKind} {j j' : Int} {x v : AV} {xs : List (List AV)} {cs : List AV}
end
section
variable {Ab : List Nat}
end
section
variable {id g n : Nat} {xs : List (List AV)} {cs : List AV} {e : Nat → AV} {t : Nat}
theorem P4:A1 id g xs (.own id g n)=.sl (xs.drop (xs.length - n)):=by simp[A1,E6]
theorem Pv:E6 id g xs (.own id g n)=.sl (xs.drop (xs.length - n)):=by simp[E6]
end
theorem Ag.flat {P:Program} {f:FuncId} {args:List AV} {v:AV} (hv:flat v=true) (h:Ag P f args [] fun r _=>r=v):Ag P f args [] fun r st=>r=v∧st=[]:=by
 intro F os w vs hs hl
 refine (h F os w vs hs hl).mono ?_
 rintro e w' ⟨u,r,st',F',os',rfl,rfl,h1,h2,h3⟩
 refine⟨u,r,[],F',[],rfl,⟨rfl,rfl⟩,DL.nil h1.C5,Fi hv [] h2,⟨h3.sys,h3.tape,h3.output,h3.size,h3.HH,h3.Ew,fun b h4 h5 h6=>?_,fun i o hi=>absurd hi (by simp)⟩⟩
 obtain⟨g1,g2,_⟩:=h3.other b h4 h5 h6
 exact⟨g1,g2,by simp⟩
end Go.Abs

