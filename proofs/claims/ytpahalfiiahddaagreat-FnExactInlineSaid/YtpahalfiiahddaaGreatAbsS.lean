import GoSem.ClaimJoined

namespace Go.Abs
open Go
def Yv (T:List (List Nat)):(fuel:Nat)→(todo seen:List Nat)→List Nat
 | 0,_,seen=>seen.reverse
 | _,[],seen=>seen.reverse
 | n+1,f :: todo,seen=>if seen.contains f then Yv T n todo seen else Yv T n ((T[f]?).getD [] ++ todo) (f :: seen)
def bt (T:List (List Nat)):Nat:=1+(T.map fun l=>l.length+1).sum
def Vu (T:List (List Nat)) (f:Nat):List Nat:=Yv T (bt T) [f] []
def dk (T:List (List Nat)) (f:Nat):Bool:=(Vu T f).any fun g=>((T[g]?).getD []).any fun h=>(Vu T h).contains g
variable {P : Program} {T : List (List Nat)}
theorem Wz (hT:P.funcs.toList.map P.leadsTo=T) (g:Nat):(P.funcs[g]?).elim [] P.leadsTo=(T[g]?).getD []:=by
 subst hT
 simp only[List.getElem?_map,Array.getElem?_toList]
 cases P.funcs[g]? <;> rfl
theorem LB (hT:P.funcs.toList.map P.leadsTo=T) :∀(n:Nat) (todo seen:List Nat),P.closureVia n todo seen=Yv T n todo seen
 | 0,_,_=>by simp[Program.closureVia,Yv]
 | n+1,[],_=>by simp[Program.closureVia,Yv]
 | n+1,f :: todo,seen=>by
  unfold Program.closureVia Yv
  rw[Wz hT,LB hT n,LB hT n]
theorem OK (hT:P.funcs.toList.map P.leadsTo=T) (f:Nat):P.closure f=Vu T f:=by
 unfold Program.closure Vu bt
 rw[LB hT]
 congr 2
 rw[← hT,List.map_map]
 rfl
theorem dW (hT:P.funcs.toList.map P.leadsTo=T) {f:Nat} (hu:P.unfollowed f=false):P.recurses f=dk T f:=by
 unfold Program.recurses dk
 rw[hu,Bool.false_or,OK hT]
 congr 1
 funext g
 rw[Wz hT]
 congr 1
 funext h
 rw[OK hT]
theorem Uw {f:Nat} (hu:P.unfollowed f=true):P.recurses f=true:=by
 unfold Program.recurses
 rw[hu,Bool.true_or]
def MA:List Char:=[Char.ofNat 99,Char.ofNat 117,Char.ofNat 116]
theorem ef:MA= "cut".toList:=by decide
theorem Tv (rest:List (List Char)):stripLifts liftWords (MA :: rest)=([],MA :: rest):=by
 unfold stripLifts
 rfl
theorem Uv {rest:List (List Char)} (hw:behindMainWord (wordsSigns P.initOrder.toList)=MA :: rest):P.headLifts=[]:=by
 unfold Program.headLifts
 rw[hw,Tv]
 simp
theorem ax {rest:List (List Char)} (hw:behindMainWord (wordsSigns P.initOrder.toList)=MA :: rest):P.make=some .cut:=by
 unfold Program.make
 rw[hw]
 have h1:(MA == "gc".toList)=false:=by decide
 have h2:(MA == "spec".toList)=false:=by decide
 have h3:(MA == "cut".toList)=true:=by decide
 simp only[h1,h2,h3]
 rfl
theorem UL {rest:List (List Char)} (hw:behindMainWord (wordsSigns P.initOrder.toList)=MA :: rest):P.liftsFinal=false:=by
 unfold Program.liftsFinal
 rw[Uv hw,hw]
 have h1:(some MA == some "carried".toList)=false:=by decide
 simp only[List.head?_cons,h1]
 rfl
theorem WZ {rest:List (List Char)} (hw:behindMainWord (wordsSigns P.initOrder.toList)=MA :: rest) (h1:P.laysLater=false) (h2:P.bearsReflect=false) (h3:P.doorFits []=true):P.mayEnter=true:=by
 unfold Program.mayEnter
 rw[hw]
 simp only[Tv,h1,h2,h3]
 have e1:((MA :: rest).head? == some "cut".toList)=true:=by
  rw[List.head?_cons];decide
 rw[e1]
 simp
end Go.Abs

