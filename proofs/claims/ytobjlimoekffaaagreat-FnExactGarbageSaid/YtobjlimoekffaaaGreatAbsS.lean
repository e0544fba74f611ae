import GoSem.ClaimJoined

namespace Go.Abs
open Go
def WH (T:List (List Nat)):(fuel:Nat)→(todo seen:List Nat)→List Nat
 | 0,_,seen=>seen.reverse
 | _,[],seen=>seen.reverse
 | n+1,f :: todo,seen=>if seen.contains f then WH T n todo seen else WH T n ((T[f]?).getD [] ++ todo) (f :: seen)
def Y8 (T:List (List Nat)):Nat:=1+(T.map fun l=>l.length+1).sum
def UH (T:List (List Nat)) (f:Nat):List Nat:=WH T (Y8 T) [f] []
def ax (T:List (List Nat)) (f:Nat):Bool:=(UH T f).any fun g=>((T[g]?).getD []).any fun h=>(UH T h).contains g
variable {P : Program} {T : List (List Nat)}
theorem VV (hT:P.funcs.toList.map P.leadsTo=T) (g:Nat):(P.funcs[g]?).elim [] P.leadsTo=(T[g]?).getD []:=by
 subst hT
 simp only[List.getElem?_map,Array.getElem?_toList]
 cases P.funcs[g]? <;> rfl
theorem KA (hT:P.funcs.toList.map P.leadsTo=T) :∀(n:Nat) (todo seen:List Nat),P.closureVia n todo seen=WH T n todo seen
 | 0,_,_=>by simp[Program.closureVia,WH]
 | n+1,[],_=>by simp[Program.closureVia,WH]
 | n+1,f :: todo,seen=>by
  unfold Program.closureVia WH
  rw[VV hT,KA hT n,KA hT n]
theorem HI (hT:P.funcs.toList.map P.leadsTo=T) (f:Nat):P.closure f=UH T f:=by
 unfold Program.closure UH Y8
 rw[KA hT]
 congr 2
 rw[← hT,List.map_map]
 rfl
theorem Z5 (hT:P.funcs.toList.map P.leadsTo=T) {f:Nat} (hu:P.unfollowed f=false):P.recurses f=ax T f:=by
 unfold Program.recurses ax
 rw[hu,Bool.false_or,HI hT]
 congr 1
 funext g
 rw[VV hT]
 congr 1
 funext h
 rw[HI hT]
theorem So {f:Nat} (hu:P.unfollowed f=true):P.recurses f=true:=by
 unfold Program.recurses
 rw[hu,Bool.true_or]
def Kp:List Char:=[Char.ofNat 99,Char.ofNat 117,Char.ofNat 116]
theorem eP:Kp= "cut".toList:=by decide
theorem RH (rest:List (List Char)):stripLifts liftWords (Kp :: rest)=([],Kp :: rest):=by
 unfold stripLifts
 rfl
theorem S6 {rest:List (List Char)} (hw:behindMainWord (wordsSigns P.initOrder.toList)=Kp :: rest):P.headLifts=[]:=by
 unfold Program.headLifts
 rw[hw,RH]
 simp
theorem Zb {rest:List (List Char)} (hw:behindMainWord (wordsSigns P.initOrder.toList)=Kp :: rest):P.make=some .cut:=by
 unfold Program.make
 rw[hw]
 have h1:(Kp == "gc".toList)=false:=by decide
 have h2:(Kp == "spec".toList)=false:=by decide
 have h3:(Kp == "cut".toList)=true:=by decide
 simp only[h1,h2,h3]
 rfl
theorem SU {rest:List (List Char)} (hw:behindMainWord (wordsSigns P.initOrder.toList)=Kp :: rest):P.liftsFinal=false:=by
 unfold Program.liftsFinal
 rw[S6 hw,hw]
 have h1:(some Kp == some "carried".toList)=false:=by decide
 simp only[List.head?_cons,h1]
 rfl
theorem Tv {rest:List (List Char)} (hw:behindMainWord (wordsSigns P.initOrder.toList)=Kp :: rest) (h1:P.laysLater=false) (h2:P.bearsReflect=false) (h3:P.doorFits []=true):P.mayEnter=true:=by
 unfold Program.mayEnter
 rw[hw]
 simp only[RH,h1,h2,h3]
 have e1:((Kp :: rest).head? == some "cut".toList)=true:=by
  rw[List.head?_cons];decide
 rw[e1]
 simp
end Go.Abs

