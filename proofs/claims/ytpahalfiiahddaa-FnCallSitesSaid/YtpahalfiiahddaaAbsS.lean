import GoSem.ClaimJoined

namespace Go.Abs
open Go
def Td (T:List (List Nat)):(fuel:Nat)→(todo seen:List Nat)→List Nat
 | 0,_,seen=>seen.reverse
 | _,[],seen=>seen.reverse
 | n+1,f :: todo,seen=>if seen.contains f then Td T n todo seen else Td T n ((T[f]?).getD [] ++ todo) (f :: seen)
def VY (T:List (List Nat)):Nat:=1+(T.map fun l=>l.length+1).sum
def Rl (T:List (List Nat)) (f:Nat):List Nat:=Td T (VY T) [f] []
def XU (T:List (List Nat)) (f:Nat):Bool:=(Rl T f).any fun g=>((T[g]?).getD []).any fun h=>(Rl T h).contains g
variable {P : Program} {T : List (List Nat)}
theorem TH (hT:P.funcs.toList.map P.leadsTo=T) (g:Nat):(P.funcs[g]?).elim [] P.leadsTo=(T[g]?).getD []:=by
 subst hT
 simp only[List.getElem?_map,Array.getElem?_toList]
 cases P.funcs[g]? <;> rfl
theorem Iz (hT:P.funcs.toList.map P.leadsTo=T) :∀(n:Nat) (todo seen:List Nat),P.closureVia n todo seen=Td T n todo seen
 | 0,_,_=>by simp[Program.closureVia,Td]
 | n+1,[],_=>by simp[Program.closureVia,Td]
 | n+1,f :: todo,seen=>by
  unfold Program.closureVia Td
  rw[TH hT,Iz hT n,Iz hT n]
theorem LS (hT:P.funcs.toList.map P.leadsTo=T) (f:Nat):P.closure f=Rl T f:=by
 unfold Program.closure Rl VY
 rw[Iz hT]
 congr 2
 rw[← hT,List.map_map]
 rfl
theorem W2 (hT:P.funcs.toList.map P.leadsTo=T) {f:Nat} (hu:P.unfollowed f=false):P.recurses f=XU T f:=by
 unfold Program.recurses XU
 rw[hu,Bool.false_or,LS hT]
 congr 1
 funext g
 rw[TH hT]
 congr 1
 funext h
 rw[LS hT]
theorem Qs {f:Nat} (hu:P.unfollowed f=true):P.recurses f=true:=by
 unfold Program.recurses
 rw[hu,Bool.true_or]
def Jx:List Char:=[Char.ofNat 99,Char.ofNat 117,Char.ofNat 116]
theorem YN:Jx= "cut".toList:=by decide
theorem PW (rest:List (List Char)):stripLifts liftWords (Jx :: rest)=([],Jx :: rest):=by
 unfold stripLifts
 rfl
theorem Qz {rest:List (List Char)} (hw:behindMainWord (wordsSigns P.initOrder.toList)=Jx :: rest):P.headLifts=[]:=by
 unfold Program.headLifts
 rw[hw,PW]
 simp
theorem Vv {rest:List (List Char)} (hw:behindMainWord (wordsSigns P.initOrder.toList)=Jx :: rest):P.make=some .cut:=by
 unfold Program.make
 rw[hw]
 have h1:(Jx == "gc".toList)=false:=by decide
 have h2:(Jx == "spec".toList)=false:=by decide
 have h3:(Jx == "cut".toList)=true:=by decide
 simp only[h1,h2,h3]
 rfl
theorem QP {rest:List (List Char)} (hw:behindMainWord (wordsSigns P.initOrder.toList)=Jx :: rest):P.liftsFinal=false:=by
 unfold Program.liftsFinal
 rw[Qz hw,hw]
 have h1:(some Jx == some "carried".toList)=false:=by decide
 simp only[List.head?_cons,h1]
 rfl
theorem Rc {rest:List (List Char)} (hw:behindMainWord (wordsSigns P.initOrder.toList)=Jx :: rest) (h1:P.laysLater=false) (h2:P.bearsReflect=false) (h3:P.doorFits []=true):P.mayEnter=true:=by
 unfold Program.mayEnter
 rw[hw]
 simp only[PW,h1,h2,h3]
 have e1:((Jx :: rest).head? == some "cut".toList)=true:=by
  rw[List.head?_cons];decide
 rw[e1]
 simp
end Go.Abs

