import GoSem.ClaimJoined

namespace Go.Abs
open Go
def Wj (T:List (List Nat)):(fuel:Nat)→(todo seen:List Nat)→List Nat
 | 0,_,seen=>seen.reverse
 | _,[],seen=>seen.reverse
 | n+1,f :: todo,seen=>if seen.contains f then Wj T n todo seen else Wj T n ((T[f]?).getD [] ++ todo) (f :: seen)
def YH (T:List (List Nat)):Nat:=1+(T.map fun l=>l.length+1).sum
def T8 (T:List (List Nat)) (f:Nat):List Nat:=Wj T (YH T) [f] []
def aF (T:List (List Nat)) (f:Nat):Bool:=(T8 T f).any fun g=>((T[g]?).getD []).any fun h=>(T8 T h).contains g
variable {P : Program} {T : List (List Nat)}
theorem Uf (hT:P.funcs.toList.map P.leadsTo=T) (g:Nat):(P.funcs[g]?).elim [] P.leadsTo=(T[g]?).getD []:=by
 subst hT
 simp only[List.getElem?_map,Array.getElem?_toList]
 cases P.funcs[g]? <;> rfl
theorem Jn (hT:P.funcs.toList.map P.leadsTo=T) :∀(n:Nat) (todo seen:List Nat),P.closureVia n todo seen=Wj T n todo seen
 | 0,_,_=>by simp[Program.closureVia,Wj]
 | n+1,[],_=>by simp[Program.closureVia,Wj]
 | n+1,f :: todo,seen=>by
  unfold Program.closureVia Wj
  rw[Uf hT,Jn hT n,Jn hT n]
theorem G1 (hT:P.funcs.toList.map P.leadsTo=T) (f:Nat):P.closure f=T8 T f:=by
 unfold Program.closure T8 YH
 rw[Jn hT]
 congr 2
 rw[← hT,List.map_map]
 rfl
theorem Zk (hT:P.funcs.toList.map P.leadsTo=T) {f:Nat} (hu:P.unfollowed f=false):P.recurses f=aF T f:=by
 unfold Program.recurses aF
 rw[hu,Bool.false_or,G1 hT]
 congr 1
 funext g
 rw[Uf hT]
 congr 1
 funext h
 rw[G1 hT]
theorem SV {f:Nat} (hu:P.unfollowed f=true):P.recurses f=true:=by
 unfold Program.recurses
 rw[hu,Bool.true_or]
def LB:List Char:=[Char.ofNat 99,Char.ofNat 117,Char.ofNat 116]
theorem ee:LB= "cut".toList:=by decide
theorem SB (rest:List (List Char)):stripLifts liftWords (LB :: rest)=([],LB :: rest):=by
 unfold stripLifts
 rfl
theorem Sd {rest:List (List Char)} (hw:behindMainWord (wordsSigns P.initOrder.toList)=LB :: rest):P.headLifts=[]:=by
 unfold Program.headLifts
 rw[hw,SB]
 simp
theorem Yf {rest:List (List Char)} (hw:behindMainWord (wordsSigns P.initOrder.toList)=LB :: rest):P.make=some .cut:=by
 unfold Program.make
 rw[hw]
 have h1:(LB == "gc".toList)=false:=by decide
 have h2:(LB == "spec".toList)=false:=by decide
 have h3:(LB == "cut".toList)=true:=by decide
 simp only[h1,h2,h3]
 rfl
theorem R3 {rest:List (List Char)} (hw:behindMainWord (wordsSigns P.initOrder.toList)=LB :: rest):P.liftsFinal=false:=by
 unfold Program.liftsFinal
 rw[Sd hw,hw]
 have h1:(some LB == some "carried".toList)=false:=by decide
 simp only[List.head?_cons,h1]
 rfl
theorem T4 {rest:List (List Char)} (hw:behindMainWord (wordsSigns P.initOrder.toList)=LB :: rest) (h1:P.laysLater=false) (h2:P.bearsReflect=false) (h3:P.doorFits []=true):P.mayEnter=true:=by
 unfold Program.mayEnter
 rw[hw]
 simp only[SB,h1,h2,h3]
 have e1:((LB :: rest).head? == some "cut".toList)=true:=by
  rw[List.head?_cons];decide
 rw[e1]
 simp
end Go.Abs

