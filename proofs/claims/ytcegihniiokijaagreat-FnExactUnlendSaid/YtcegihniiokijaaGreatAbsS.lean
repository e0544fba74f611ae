import GoSem.ClaimJoined

namespace Go.Abs
open Go
def WE (T:List (List Nat)):(fuel:Nat)→(todo seen:List Nat)→List Nat
 | 0,_,seen=>seen.reverse
 | _,[],seen=>seen.reverse
 | n+1,f :: todo,seen=>if seen.contains f then WE T n todo seen else WE T n ((T[f]?).getD [] ++ todo) (f :: seen)
def Yt (T:List (List Nat)):Nat:=1+(T.map fun l=>l.length+1).sum
def T6 (T:List (List Nat)) (f:Nat):List Nat:=WE T (Yt T) [f] []
def aH (T:List (List Nat)) (f:Nat):Bool:=(T6 T f).any fun g=>((T[g]?).getD []).any fun h=>(T6 T h).contains g
variable {P : Program} {T : List (List Nat)}
theorem Ue (hT:P.funcs.toList.map P.leadsTo=T) (g:Nat):(P.funcs[g]?).elim [] P.leadsTo=(T[g]?).getD []:=by
 subst hT
 simp only[List.getElem?_map,Array.getElem?_toList]
 cases P.funcs[g]? <;> rfl
theorem J0 (hT:P.funcs.toList.map P.leadsTo=T) :∀(n:Nat) (todo seen:List Nat),P.closureVia n todo seen=WE T n todo seen
 | 0,_,_=>by simp[Program.closureVia,WE]
 | n+1,[],_=>by simp[Program.closureVia,WE]
 | n+1,f :: todo,seen=>by
  unfold Program.closureVia WE
  rw[Ue hT,J0 hT n,J0 hT n]
theorem MM (hT:P.funcs.toList.map P.leadsTo=T) (f:Nat):P.closure f=T6 T f:=by
 unfold Program.closure T6 Yt
 rw[J0 hT]
 congr 2
 rw[← hT,List.map_map]
 rfl
theorem Zc (hT:P.funcs.toList.map P.leadsTo=T) {f:Nat} (hu:P.unfollowed f=false):P.recurses f=aH T f:=by
 unfold Program.recurses aH
 rw[hu,Bool.false_or,MM hT]
 congr 1
 funext g
 rw[Ue hT]
 congr 1
 funext h
 rw[MM hT]
theorem SW {f:Nat} (hu:P.unfollowed f=true):P.recurses f=true:=by
 unfold Program.recurses
 rw[hu,Bool.true_or]
def Kr:List Char:=[Char.ofNat 99,Char.ofNat 117,Char.ofNat 116]
theorem cY:Kr= "cut".toList:=by decide
theorem Ra (rest:List (List Char)):stripLifts liftWords (Kr :: rest)=([],Kr :: rest):=by
 unfold stripLifts
 rfl
theorem SY {rest:List (List Char)} (hw:behindMainWord (wordsSigns P.initOrder.toList)=Kr :: rest):P.headLifts=[]:=by
 unfold Program.headLifts
 rw[hw,Ra]
 simp
theorem Y6 {rest:List (List Char)} (hw:behindMainWord (wordsSigns P.initOrder.toList)=Kr :: rest):P.make=some .cut:=by
 unfold Program.make
 rw[hw]
 have h1:(Kr == "gc".toList)=false:=by decide
 have h2:(Kr == "spec".toList)=false:=by decide
 have h3:(Kr == "cut".toList)=true:=by decide
 simp only[h1,h2,h3]
 rfl
theorem R4 {rest:List (List Char)} (hw:behindMainWord (wordsSigns P.initOrder.toList)=Kr :: rest):P.liftsFinal=false:=by
 unfold Program.liftsFinal
 rw[SY hw,hw]
 have h1:(some Kr == some "carried".toList)=false:=by decide
 simp only[List.head?_cons,h1]
 rfl
theorem Te {rest:List (List Char)} (hw:behindMainWord (wordsSigns P.initOrder.toList)=Kr :: rest) (h1:P.laysLater=false) (h2:P.bearsReflect=false) (h3:P.doorFits []=true):P.mayEnter=true:=by
 unfold Program.mayEnter
 rw[hw]
 simp only[Ra,h1,h2,h3]
 have e1:((Kr :: rest).head? == some "cut".toList)=true:=by
  rw[List.head?_cons];decide
 rw[e1]
 simp
end Go.Abs

