import GoSem.ClaimJoined

namespace Go.Abs
open Go
def UJ (T:List (List Nat)):(fuel:Nat)→(todo seen:List Nat)→List Nat
 | 0,_,seen=>seen.reverse
 | _,[],seen=>seen.reverse
 | n+1,f :: todo,seen=>if seen.contains f then UJ T n todo seen else UJ T n ((T[f]?).getD [] ++ todo) (f :: seen)
def WX (T:List (List Nat)):Nat:=1+(T.map fun l=>l.length+1).sum
def Sr (T:List (List Nat)) (f:Nat):List Nat:=UJ T (WX T) [f] []
def X0 (T:List (List Nat)) (f:Nat):Bool:=(Sr T f).any fun g=>((T[g]?).getD []).any fun h=>(Sr T h).contains g
variable {P : Program} {T : List (List Nat)}
theorem S4 (hT:P.funcs.toList.map P.leadsTo=T) (g:Nat):(P.funcs[g]?).elim [] P.leadsTo=(T[g]?).getD []:=by
 subst hT
 simp only[List.getElem?_map,Array.getElem?_toList]
 cases P.funcs[g]? <;> rfl
theorem JV (hT:P.funcs.toList.map P.leadsTo=T) :∀(n:Nat) (todo seen:List Nat),P.closureVia n todo seen=UJ T n todo seen
 | 0,_,_=>by simp[Program.closureVia,UJ]
 | n+1,[],_=>by simp[Program.closureVia,UJ]
 | n+1,f :: todo,seen=>by
  unfold Program.closureVia UJ
  rw[S4 hT,JV hT n,JV hT n]
theorem Lr (hT:P.funcs.toList.map P.leadsTo=T) (f:Nat):P.closure f=Sr T f:=by
 unfold Program.closure Sr WX
 rw[JV hT]
 congr 2
 rw[← hT,List.map_map]
 rfl
theorem XV (hT:P.funcs.toList.map P.leadsTo=T) {f:Nat} (hu:P.unfollowed f=false):P.recurses f=X0 T f:=by
 unfold Program.recurses X0
 rw[hu,Bool.false_or,Lr hT]
 congr 1
 funext g
 rw[S4 hT]
 congr 1
 funext h
 rw[Lr hT]
theorem RO {f:Nat} (hu:P.unfollowed f=true):P.recurses f=true:=by
 unfold Program.recurses
 rw[hu,Bool.true_or]
def KH:List Char:=[Char.ofNat 99,Char.ofNat 117,Char.ofNat 116]
theorem ZY:KH= "cut".toList:=by decide
theorem QH (rest:List (List Char)):stripLifts liftWords (KH :: rest)=([],KH :: rest):=by
 unfold stripLifts
 rfl
theorem Rh {rest:List (List Char)} (hw:behindMainWord (wordsSigns P.initOrder.toList)=KH :: rest):P.headLifts=[]:=by
 unfold Program.headLifts
 rw[hw,QH]
 simp
theorem W3 {rest:List (List Char)} (hw:behindMainWord (wordsSigns P.initOrder.toList)=KH :: rest):P.make=some .cut:=by
 unfold Program.make
 rw[hw]
 have h1:(KH == "gc".toList)=false:=by decide
 have h2:(KH == "spec".toList)=false:=by decide
 have h3:(KH == "cut".toList)=true:=by decide
 simp only[h1,h2,h3]
 rfl
theorem Qg {rest:List (List Char)} (hw:behindMainWord (wordsSigns P.initOrder.toList)=KH :: rest):P.liftsFinal=false:=by
 unfold Program.liftsFinal
 rw[Rh hw,hw]
 have h1:(some KH == some "carried".toList)=false:=by decide
 simp only[List.head?_cons,h1]
 rfl
theorem SX {rest:List (List Char)} (hw:behindMainWord (wordsSigns P.initOrder.toList)=KH :: rest) (h1:P.laysLater=false) (h2:P.bearsReflect=false) (h3:P.doorFits []=true):P.mayEnter=true:=by
 unfold Program.mayEnter
 rw[hw]
 simp only[QH,h1,h2,h3]
 have e1:((KH :: rest).head? == some "cut".toList)=true:=by
  rw[List.head?_cons];decide
 rw[e1]
 simp
end Go.Abs

