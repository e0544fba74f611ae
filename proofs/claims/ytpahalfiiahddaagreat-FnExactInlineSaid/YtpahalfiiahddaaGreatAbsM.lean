import Derived.Test.YtpahalfiiahddaaGreatAbsL
namespace Go.Abs
open Go
structure eG {α:Type} (a:α):Type where
def eu {α:Type} (K:α→Prop) (_:eG K):α→Prop:=K
def hold (p:Prop) (_:eG p):Prop:=p
section
variable {P : Program} {k : Nat} {K : AV → Prop} {a b : Int} {t : TypeId} {s : St}
theorem wrap_i64 {n:Int} (h1:-9223372036854775808≤n) (h2:n≤9223372036854775807):IntKind.i64.wrap n=n:=IntWalk.i64_in n ⟨h1,h2⟩
def iv:AV→Int
 | .int _ n=>n
 | _=>0
end
section
variable {P : Program} {k : Nat} {ds : List (Option Tmp)} {o : Oper} {r : List Oper} {KS : St → Prop} {s : St} {d : Option Tmp} {ty : TypeId} {p : String} {e : Array Edge} {g : Option (Nat × Bool)} {A B : Prop}
variable {x y z : Operand} {t t' : TypeId}
theorem XG:Jq P k ⟨d,.binOp .eql t x (.const (.slice none 0 0)) t',ty,p,e,g⟩ s KS=WG P t s.st (s.ev x) (eu (fun v=>KS (s.put d v)) ⟨⟩):=rfl
theorem aE:Jq P k ⟨d,.store t x y,ty,p,e,g⟩ s KS=Vw P s.st t (s.ev x) (s.ev y) (eu (fun st=>KS (St.put ⟨s.n,s.env,st⟩ d .Eu)) ⟨⟩):=rfl
def Zd {α β:Type} (K:α→β→Prop) (_:eG K):α→β→Prop:=K
theorem Ur:Jq P k ⟨d,.makeSlice t x y,ty,p,e,g⟩ s KS=Yk P s.st t (s.ev x) (s.ev y) (Zd (fun v st=>KS (St.put ⟨s.n,s.env,st⟩ d v)) ⟨⟩):=rfl
theorem Td {n:Nat} {parts:Array (Nat×Operand)}:Jq P k ⟨d,.buildSlice t n parts,ty,p,e,g⟩ s KS=Mn P s.st t n (parts.toList.map fun p=>(p.1,s.ev p.2)) (Zd (fun v st=>KS (St.put ⟨s.n,s.env,st⟩ d v)) ⟨⟩):=rfl
theorem Rl {lo hi mx:Option Operand}:Jq P k ⟨d,.slice t x lo hi mx,ty,p,e,g⟩ s KS=TH P s.st t (s.ev x) (lo.map s.ev) (hi.map s.ev) (mx.map s.ev) (Zd (fun v st=>KS (St.put ⟨s.n,s.env,st⟩ d v)) ⟨⟩):=rfl
theorem Ui:Jq P k ⟨d,.call ⟨.builtin .append,#[x,y],#[t,t']⟩,ty,p,e,g⟩ s KS=(t=t'∧Ub P s.st t (s.ev x) (s.ev y) (Zd (fun v st=>KS (St.put ⟨s.n,s.env,st⟩ d v)) ⟨⟩)):=rfl
theorem Lq {f:FuncId} {args:Array Operand} {ts:Array TypeId}:Jq P k ⟨d,.call ⟨.value (.func f),args,ts⟩,ty,p,e,g⟩ s KS=(DI P f=true∧callThen P k s f (args.toList.map s.ev ++ []) d KS):=rfl
theorem V1 {f:Tmp} {args:Array Operand} {ts:Array TypeId}:Jq P k ⟨d,.call ⟨.value (.tmp f),args,ts⟩,ty,p,e,g⟩ s KS=Uj (s.env f) fun f caps=>DI P f=true∧callThen P k s f (args.toList.map s.ev ++ caps) d KS:=rfl
variable {K : AV → Prop}
end
section
variable {P : Program} {st : List Row} {t : TypeId} {K : AV → Prop} {K2 : AV → List Row → Prop} {id g i off n : Nat} {kk kk' : IntKind} {j j' : Int} {x v : AV} {xs : List (List AV)} {cs : List AV}
end
section
variable {sel : List Nat}
end
section
variable {id g n : Nat} {xs : List (List AV)} {cs : List AV} {e : Nat → AV} {t : Nat}
theorem bj:DN id g xs (.own id g n)=.sl (xs.drop (xs.length - n)):=by simp[DN,JA]
theorem aM:JA id g xs (.own id g n)=.sl (xs.drop (xs.length - n)):=by simp[JA]
end
theorem EM {P:Program} {f:FuncId} {args:List AV} {v:AV} (hv:flat v=true) (h:Aa P f args [] fun r _=>r=v):Aa P f args [] fun r st=>r=v∧st=[]:=by
 intro F os w vs hs hl
 refine (h F os w vs hs hl).mono ?_
 rintro e w' ⟨u,r,st',F',os',rfl,rfl,h1,h2,h3⟩
 refine⟨u,r,[],F',[],rfl,⟨rfl,rfl⟩,Ft.nil h1.EO,Hq hv [] h2,⟨h3.sys,h3.tape,h3.output,h3.size,h3.LY,h3.HP,fun b h4 h5 h6=>?_,fun i o hi=>absurd hi (by simp)⟩⟩
 obtain⟨g1,g2,_⟩:=h3.other b h4 h5 h6
 exact⟨g1,g2,by simp⟩
end Go.Abs

