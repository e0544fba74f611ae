import GoSem.ClaimJoined

namespace Go.Abs
open Go
def OR (T:List (List Nat)):(fuel:Nat)→(todo seen:List Nat)→List Nat
 | 0,_,seen=>seen.reverse
 | _,[],seen=>seen.reverse
 | n+1,f :: todo,seen=>if seen.contains f then OR T n todo seen else OR T n ((T[f]?).getD [] ++ todo) (f :: seen)
def QL (T:List (List Nat)):Nat:=1+(T.map fun l=>l.length+1).sum
def NI (T:List (List Nat)) (f:Nat):List Nat:=OR T (QL T) [f] []
def Rm (T:List (List Nat)) (f:Nat):Bool:=(NI T f).any fun g=>((T[g]?).getD []).any fun h=>(NI T h).contains g
variable {P : Program} {T : List (List Nat)}
theorem N2 (hT:P.funcs.toList.map P.leadsTo=T) (g:Nat):(P.funcs[g]?).elim [] P.leadsTo=(T[g]?).getD []:=by
 subst hT
 simp only[List.getElem?_map,Array.getElem?_toList]
 cases P.funcs[g]? <;> rfl
theorem Fu (hT:P.funcs.toList.map P.leadsTo=T) :∀(n:Nat) (todo seen:List Nat),P.closureVia n todo seen=OR T n todo seen
 | 0,_,_=>by simp[Program.closureVia,OR]
 | n+1,[],_=>by simp[Program.closureVia,OR]
 | n+1,f :: todo,seen=>by
  unfold Program.closureVia OR
  rw[N2 hT,Fu hT n,Fu hT n]
theorem Hk (hT:P.funcs.toList.map P.leadsTo=T) (f:Nat):P.closure f=NI T f:=by
 unfold Program.closure NI QL
 rw[Fu hT]
 congr 2
 rw[← hT,List.map_map]
 rfl
theorem RP (hT:P.funcs.toList.map P.leadsTo=T) {f:Nat} (hu:P.unfollowed f=false):P.recurses f=Rm T f:=by
 unfold Program.recurses Rm
 rw[hu,Bool.false_or,Hk hT]
 congr 1
 funext g
 rw[N2 hT]
 congr 1
 funext h
 rw[Hk hT]
theorem Le {f:Nat} (hu:P.unfollowed f=true):P.recurses f=true:=by
 unfold Program.recurses
 rw[hu,Bool.true_or]
def Gk:List Char:=[Char.ofNat 99,Char.ofNat 117,Char.ofNat 116]
theorem S8:Gk= "cut".toList:=by decide
theorem Kb (rest:List (List Char)):stripLifts liftWords (Gk :: rest)=([],Gk :: rest):=by
 unfold stripLifts
 rfl
theorem LY {rest:List (List Char)} (hw:behindMainWord (wordsSigns P.initOrder.toList)=Gk :: rest):P.headLifts=[]:=by
 unfold Program.headLifts
 rw[hw,Kb]
 simp
theorem Qt {rest:List (List Char)} (hw:behindMainWord (wordsSigns P.initOrder.toList)=Gk :: rest):P.make=some .cut:=by
 unfold Program.make
 rw[hw]
 have h1:(Gk == "gc".toList)=false:=by decide
 have h2:(Gk == "spec".toList)=false:=by decide
 have h3:(Gk == "cut".toList)=true:=by decide
 simp only[h1,h2,h3]
 rfl
theorem Ki {rest:List (List Char)} (hw:behindMainWord (wordsSigns P.initOrder.toList)=Gk :: rest):P.liftsFinal=false:=by
 unfold Program.liftsFinal
 rw[LY hw,hw]
 have h1:(some Gk == some "carried".toList)=false:=by decide
 simp only[List.head?_cons,h1]
 rfl
theorem NO {rest:List (List Char)} (hw:behindMainWord (wordsSigns P.initOrder.toList)=Gk :: rest) (h1:P.laysLater=false) (h2:P.bearsReflect=false) (h3:P.doorFits []=true):P.mayEnter=true:=by
 unfold Program.mayEnter
 rw[hw]
 simp only[Kb,h1,h2,h3]
 have e1:((Gk :: rest).head? == some "cut".toList)=true:=by
  rw[List.head?_cons];decide
 rw[e1]
 simp
end Go.Abs

