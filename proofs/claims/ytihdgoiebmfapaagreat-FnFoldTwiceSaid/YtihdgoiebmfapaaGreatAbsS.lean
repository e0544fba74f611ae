import GoSem.ClaimJoined
set_option linter.all false
namespace Go.Abs
open Go
def aZ (T:List (List Nat)):(fuel:Nat)->(todo seen:List Nat)->List Nat
 | 0,_,seen=>seen.reverse
 | _,[],seen=>seen.reverse
 | n+1,f::todo,seen=>if seen.contains f then aZ T n todo seen else aZ T n ((T[f]?).getD []++todo) (f::seen)
def dF (T:List (List Nat)):Nat:=1+(T.map λl=>l.length+1).sum
def Xp (T:List (List Nat))(f:Nat):List Nat:=aZ T (dF T) [f] []
def gF (T:List (List Nat))(f:Nat):Bool:=(Xp T f).any λg=>((T[g]?).getD []).any λh=>(Xp T h).contains g
variable {P : Program} {T : List (List Nat)}
theorem ZV (hT:P.funcs.toList.map P.leadsTo=T)(g:Nat):(P.funcs[g]?).elim [] P.leadsTo=(T[g]?).getD []:=by
 subst hT;simp only[List.getElem?_map,Array.getElem?_toList];cases P.funcs[g]?<;>rfl
theorem MN (hT:P.funcs.toList.map P.leadsTo=T):∀(n:Nat) (todo seen:List Nat),P.closureVia n todo seen=aZ T n todo seen
 | 0,_,_=>by simp[Program.closureVia,aZ]
 | n+1,[],_=>by simp[Program.closureVia,aZ]
 | n+1,f::todo,seen=>by
  unfold Program.closureVia aZ;rw[ZV hT,MN hT n,MN hT n]
theorem PJ (hT:P.funcs.toList.map P.leadsTo=T)(f:Nat):P.closure f=Xp T f:=by
 unfold Program.closure Xp dF;rw[MN hT];congr 2;rw[<- hT,List.map_map];rfl
theorem fU (hT:P.funcs.toList.map P.leadsTo=T){f:Nat}(hu:P.unfollowed f=false):P.recurses f=gF T f:=by
 unfold Program.recurses gF;rw[hu,Bool.false_or,PJ hT];congr 1;funext g;rw[ZV hT];congr 1;funext h;rw[PJ hT]
theorem WK {f:Nat}(hu:P.unfollowed f=true):P.recurses f=true:=by
 unfold Program.recurses;rw[hu,Bool.true_or]
def Nb:List Char:=[Char.ofNat 99,Char.ofNat 117,Char.ofNat 116]
theorem iS:Nb= "cut".toList:=by decide
theorem Uj (rest:List (List Char)):stripLifts liftWords (Nb::rest)=([],Nb::rest):=by
 unfold stripLifts;rfl
theorem Wi {rest:List (List Char)}(hw:behindMainWord (wordsSigns P.initOrder.toList)=Nb::rest):P.headLifts=[]:=by
 unfold Program.headLifts;rw[hw,Uj];simp
theorem da {rest:List (List Char)}(hw:behindMainWord (wordsSigns P.initOrder.toList)=Nb::rest):P.make=some .cut:=by
 unfold Program.make;rw[hw];have h1:(Nb == "gc".toList)=false:=by decide
 have h2:(Nb == "spec".toList)=false:=by decide
 have h3:(Nb == "cut".toList)=true:=by decide
 simp only[h1,h2,h3];rfl
theorem Ue {rest:List (List Char)}(hw:behindMainWord (wordsSigns P.initOrder.toList)=Nb::rest):P.liftsFinal=false:=by
 unfold Program.liftsFinal;rw[Wi hw,hw];have h1:(some Nb==some "carried".toList)=false:=by decide
 simp only[List.head?_cons,h1];rfl
theorem Xj {rest:List (List Char)}(hw:behindMainWord (wordsSigns P.initOrder.toList)=Nb::rest)(h1:P.laysLater=false)(h2:P.bearsReflect=false)(h3:P.doorFits []=true):P.mayEnter=true:=by
 unfold Program.mayEnter;rw[hw];simp only[Uj,h1,h2,h3];have e1:((Nb::rest).head?==some "cut".toList)=true:=by
  rw[List.head?_cons];decide
 rw[e1];simp
end Go.Abs
