import GoSem.ClaimJoined

namespace Go.Abs
open Go
def Xh (T:List (List Nat)):(fuel:Nat)→(todo seen:List Nat)→List Nat
 | 0,_,seen=>seen.reverse
 | _,[],seen=>seen.reverse
 | n+1,f :: todo,seen=>if seen.contains f then Xh T n todo seen else Xh T n ((T[f]?).getD [] ++ todo) (f :: seen)
def aS (T:List (List Nat)):Nat:=1+(T.map fun l=>l.length+1).sum
def U5 (T:List (List Nat)) (f:Nat):List Nat:=Xh T (aS T) [f] []
def cZ (T:List (List Nat)) (f:Nat):Bool:=(U5 T f).any fun g=>((T[g]?).getD []).any fun h=>(U5 T h).contains g
variable {P : Program} {T : List (List Nat)}
theorem V5 (hT:P.funcs.toList.map P.leadsTo=T) (g:Nat):(P.funcs[g]?).elim [] P.leadsTo=(T[g]?).getD []:=by
 subst hT
 simp only[List.getElem?_map,Array.getElem?_toList]
 cases P.funcs[g]? <;> rfl
theorem KI (hT:P.funcs.toList.map P.leadsTo=T) :∀(n:Nat) (todo seen:List Nat),P.closureVia n todo seen=Xh T n todo seen
 | 0,_,_=>by simp[Program.closureVia,Xh]
 | n+1,[],_=>by simp[Program.closureVia,Xh]
 | n+1,f :: todo,seen=>by
  unfold Program.closureVia Xh
  rw[V5 hT,KI hT n,KI hT n]
theorem Mz (hT:P.funcs.toList.map P.leadsTo=T) (f:Nat):P.closure f=U5 T f:=by
 unfold Program.closure U5 aS
 rw[KI hT]
 congr 2
 rw[← hT,List.map_map]
 rfl
theorem bR (hT:P.funcs.toList.map P.leadsTo=T) {f:Nat} (hu:P.unfollowed f=false):P.recurses f=cZ T f:=by
 unfold Program.recurses cZ
 rw[hu,Bool.false_or,Mz hT]
 congr 1
 funext g
 rw[V5 hT]
 congr 1
 funext h
 rw[Mz hT]
theorem T4 {f:Nat} (hu:P.unfollowed f=true):P.recurses f=true:=by
 unfold Program.recurses
 rw[hu,Bool.true_or]
def Lo:List Char:=[Char.ofNat 99,Char.ofNat 117,Char.ofNat 116]
theorem eH:Lo= "cut".toList:=by decide
theorem Sm (rest:List (List Char)):stripLifts liftWords (Lo :: rest)=([],Lo :: rest):=by
 unfold stripLifts
 rfl
theorem T3 {rest:List (List Char)} (hw:behindMainWord (wordsSigns P.initOrder.toList)=Lo :: rest):P.headLifts=[]:=by
 unfold Program.headLifts
 rw[hw,Sm]
 simp
theorem aT {rest:List (List Char)} (hw:behindMainWord (wordsSigns P.initOrder.toList)=Lo :: rest):P.make=some .cut:=by
 unfold Program.make
 rw[hw]
 have h1:(Lo == "gc".toList)=false:=by decide
 have h2:(Lo == "spec".toList)=false:=by decide
 have h3:(Lo == "cut".toList)=true:=by decide
 simp only[h1,h2,h3]
 rfl
theorem SV {rest:List (List Char)} (hw:behindMainWord (wordsSigns P.initOrder.toList)=Lo :: rest):P.liftsFinal=false:=by
 unfold Program.liftsFinal
 rw[T3 hw,hw]
 have h1:(some Lo == some "carried".toList)=false:=by decide
 simp only[List.head?_cons,h1]
 rfl
theorem Uz {rest:List (List Char)} (hw:behindMainWord (wordsSigns P.initOrder.toList)=Lo :: rest) (h1:P.laysLater=false) (h2:P.bearsReflect=false) (h3:P.doorFits []=true):P.mayEnter=true:=by
 unfold Program.mayEnter
 rw[hw]
 simp only[Sm,h1,h2,h3]
 have e1:((Lo :: rest).head? == some "cut".toList)=true:=by
  rw[List.head?_cons];decide
 rw[e1]
 simp
end Go.Abs

