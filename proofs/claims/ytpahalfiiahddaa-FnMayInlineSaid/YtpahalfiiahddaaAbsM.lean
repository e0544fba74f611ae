import Derived.Test.YtpahalfiiahddaaAbsL
namespace Go.Abs
open Go
structure Yu {α:Type} (a:α):Type where
def Zh {α:Type} (K:α→Prop) (_:Yu K):α→Prop:=K
def hold (p:Prop) (_:Yu p):Prop:=p
section
variable {P : Program} {k : Nat} {K : AV → Prop} {a b : Int} {t : TypeId} {s : St}
theorem wrap_i64 {n:Int} (h1:-9223372036854775808≤n) (h2:n≤9223372036854775807):IntKind.i64.wrap n=n:=IntWalk.i64_in n ⟨h1,h2⟩
def iv:AV→Int
 | .int _ n=>n
 | _=>0
end
section
variable {P : Program} {k : Nat} {ds : List (Option Tmp)} {o : Oper} {r : List Oper} {KS : St → Prop} {s : St} {d : Option Tmp} {ty : TypeId} {p : String} {e : Array Edge} {g : Option (Nat × Bool)} {A B : Prop}
variable {x y z : Operand} {t t' : TypeId}
theorem S6:IT P k ⟨d,.binOp .eql t x (.const (.slice none 0 0)) t',ty,p,e,g⟩ s KS=Sp P t s.st (s.ev x) (Zh (fun v=>KS (s.put d v)) ⟨⟩):=rfl
theorem Vb:IT P k ⟨d,.store t x y,ty,p,e,g⟩ s KS=SU P s.st t (s.ev x) (s.ev y) (Zh (fun st=>KS (St.put ⟨s.n,s.env,st⟩ d .D4)) ⟨⟩):=rfl
def U5 {α β:Type} (K:α→β→Prop) (_:Yu K):α→β→Prop:=K
theorem RV:IT P k ⟨d,.makeSlice t x y,ty,p,e,g⟩ s KS=T7 P s.st t (s.ev x) (s.ev y) (U5 (fun v st=>KS (St.put ⟨s.n,s.env,st⟩ d v)) ⟨⟩):=rfl
theorem P6 {n:Nat} {parts:Array (Nat×Operand)}:IT P k ⟨d,.buildSlice t n parts,ty,p,e,g⟩ s KS=Ke P s.st t n (parts.toList.map fun p=>(p.1,s.ev p.2)) (U5 (fun v st=>KS (St.put ⟨s.n,s.env,st⟩ d v)) ⟨⟩):=rfl
theorem O4 {lo hi mx:Option Operand}:IT P k ⟨d,.slice t x lo hi mx,ty,p,e,g⟩ s KS=Pu P s.st t (s.ev x) (lo.map s.ev) (hi.map s.ev) (mx.map s.ev) (U5 (fun v st=>KS (St.put ⟨s.n,s.env,st⟩ d v)) ⟨⟩):=rfl
theorem UU:IT P k ⟨d,.call ⟨.builtin .append,#[x,y],#[t,t']⟩,ty,p,e,g⟩ s KS=(t=t'∧QL P s.st t (s.ev x) (s.ev y) (U5 (fun v st=>KS (St.put ⟨s.n,s.env,st⟩ d v)) ⟨⟩)):=rfl
theorem J6 {f:FuncId} {args:Array Operand} {ts:Array TypeId}:IT P k ⟨d,.call ⟨.value (.func f),args,ts⟩,ty,p,e,g⟩ s KS=(Aq P f=true∧callThen P k s f (args.toList.map s.ev ++ []) d KS):=rfl
theorem Sk {f:Tmp} {args:Array Operand} {ts:Array TypeId}:IT P k ⟨d,.call ⟨.value (.tmp f),args,ts⟩,ty,p,e,g⟩ s KS=Qd (s.env f) fun f caps=>Aq P f=true∧callThen P k s f (args.toList.map s.ev ++ caps) d KS:=rfl
variable {K : AV → Prop}
end
section
variable {P : Program} {st : List Row} {t : TypeId} {K : AV → Prop} {K2 : AV → List Row → Prop} {id g i off n : Nat} {kk kk' : IntKind} {j j' : Int} {x v : AV} {xs : List (List AV)} {cs : List AV}
end
section
variable {An : List Nat}
end
section
variable {id g n : Nat} {xs : List (List AV)} {cs : List AV} {e : Nat → AV} {t : Nat}
theorem WK:A7 id g xs (.own id g n)=.sl (xs.drop (xs.length - n)):=by simp[A7,Gj]
theorem Vm:Gj id g xs (.own id g n)=.sl (xs.drop (xs.length - n)):=by simp[Gj]
end
theorem D3 {P:Program} {f:FuncId} {args:List AV} {v:AV} (hv:flat v=true) (h:Ai P f args [] fun r _=>r=v):Ai P f args [] fun r st=>r=v∧st=[]:=by
 intro F os w vs hs hl
 refine (h F os w vs hs hl).mono ?_
 rintro e w' ⟨u,r,st',F',os',rfl,rfl,h1,h2,h3⟩
 refine⟨u,r,[],F',[],rfl,⟨rfl,rfl⟩,Fe.nil h1.E6,HG hv [] h2,⟨h3.sys,h3.tape,h3.output,h3.size,h3.Kv,h3.H3,fun b h4 h5 h6=>?_,fun i o hi=>absurd hi (by simp)⟩⟩
 obtain⟨g1,g2,_⟩:=h3.other b h4 h5 h6
 exact⟨g1,g2,by simp⟩
end Go.Abs

