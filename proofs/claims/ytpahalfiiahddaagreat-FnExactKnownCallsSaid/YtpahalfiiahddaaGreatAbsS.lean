import GoSem.ClaimJoined

namespace Go.Abs
open Go
def Vh (T:List (List Nat)):(fuel:Nat)→(todo seen:List Nat)→List Nat
 | 0,_,seen=>seen.reverse
 | _,[],seen=>seen.reverse
 | n+1,f :: todo,seen=>if seen.contains f then Vh T n todo seen else Vh T n ((T[f]?).getD [] ++ todo) (f :: seen)
def XP (T:List (List Nat)):Nat:=1+(T.map fun l=>l.length+1).sum
def Tk (T:List (List Nat)) (f:Nat):List Nat:=Vh T (XP T) [f] []
def Y3 (T:List (List Nat)) (f:Nat):Bool:=(Tk T f).any fun g=>((T[g]?).getD []).any fun h=>(Tk T h).contains g
variable {P : Program} {T : List (List Nat)}
theorem UK (hT:P.funcs.toList.map P.leadsTo=T) (g:Nat):(P.funcs[g]?).elim [] P.leadsTo=(T[g]?).getD []:=by
 subst hT
 simp only[List.getElem?_map,Array.getElem?_toList]
 cases P.funcs[g]? <;> rfl
theorem J2 (hT:P.funcs.toList.map P.leadsTo=T) :∀(n:Nat) (todo seen:List Nat),P.closureVia n todo seen=Vh T n todo seen
 | 0,_,_=>by simp[Program.closureVia,Vh]
 | n+1,[],_=>by simp[Program.closureVia,Vh]
 | n+1,f :: todo,seen=>by
  unfold Program.closureVia Vh
  rw[UK hT,J2 hT n,J2 hT n]
theorem My (hT:P.funcs.toList.map P.leadsTo=T) (f:Nat):P.closure f=Tk T f:=by
 unfold Program.closure Tk XP
 rw[J2 hT]
 congr 2
 rw[← hT,List.map_map]
 rfl
theorem Yn (hT:P.funcs.toList.map P.leadsTo=T) {f:Nat} (hu:P.unfollowed f=false):P.recurses f=Y3 T f:=by
 unfold Program.recurses Y3
 rw[hu,Bool.false_or,My hT]
 congr 1
 funext g
 rw[UK hT]
 congr 1
 funext h
 rw[My hT]
theorem SL {f:Nat} (hu:P.unfollowed f=true):P.recurses f=true:=by
 unfold Program.recurses
 rw[hu,Bool.true_or]
def Kz:List Char:=[Char.ofNat 99,Char.ofNat 117,Char.ofNat 116]
theorem aF:Kz= "cut".toList:=by decide
theorem Qs (rest:List (List Char)):stripLifts liftWords (Kz :: rest)=([],Kz :: rest):=by
 unfold stripLifts
 rfl
theorem SA {rest:List (List Char)} (hw:behindMainWord (wordsSigns P.initOrder.toList)=Kz :: rest):P.headLifts=[]:=by
 unfold Program.headLifts
 rw[hw,Qs]
 simp
theorem Wy {rest:List (List Char)} (hw:behindMainWord (wordsSigns P.initOrder.toList)=Kz :: rest):P.make=some .cut:=by
 unfold Program.make
 rw[hw]
 have h1:(Kz == "gc".toList)=false:=by decide
 have h2:(Kz == "spec".toList)=false:=by decide
 have h3:(Kz == "cut".toList)=true:=by decide
 simp only[h1,h2,h3]
 rfl
theorem RK {rest:List (List Char)} (hw:behindMainWord (wordsSigns P.initOrder.toList)=Kz :: rest):P.liftsFinal=false:=by
 unfold Program.liftsFinal
 rw[SA hw,hw]
 have h1:(some Kz == some "carried".toList)=false:=by decide
 simp only[List.head?_cons,h1]
 rfl
theorem Tf {rest:List (List Char)} (hw:behindMainWord (wordsSigns P.initOrder.toList)=Kz :: rest) (h1:P.laysLater=false) (h2:P.bearsReflect=false) (h3:P.doorFits []=true):P.mayEnter=true:=by
 unfold Program.mayEnter
 rw[hw]
 simp only[Qs,h1,h2,h3]
 have e1:((Kz :: rest).head? == some "cut".toList)=true:=by
  rw[List.head?_cons];decide
 rw[e1]
 simp
end Go.Abs

