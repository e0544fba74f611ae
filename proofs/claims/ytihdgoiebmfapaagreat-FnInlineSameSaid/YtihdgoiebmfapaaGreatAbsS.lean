import GoSem.ClaimJoined
set_option linter.all false
namespace Go.Abs
open Go
def ef (T:List (List Nat)):(fuel:Nat)->(todo seen:List Nat)->List Nat
 |0,_,seen=>seen.reverse
 |_,[],seen=>seen.reverse
 |n+1,f::todo,seen=>if seen.contains f then ef T n todo seen else ef T n ((T[f]?).getD []++todo) (f::seen)
def ia (T:List (List Nat)):Nat:=1+(T.map λl=>l.length+1).sum
def aQ (T:List (List Nat))(f:Nat):List Nat:=ef T (ia T) [f] []
def mD (T:List (List Nat))(f:Nat):Bool:=(aQ T f).any λg=>((T[g]?).getD []).any λh=>(aQ T h).contains g
variable {P : Program} {T : List (List Nat)}
theorem bt (hT:P.funcs.toList.map P.leadsTo=T)(g:Nat):(P.funcs[g]?).elim [] P.leadsTo=(T[g]?).getD []:=by
 subst hT;simp only[List.getElem?_map,Array.getElem?_toList];cases P.funcs[g]?<;>rfl
theorem Nq (hT:P.funcs.toList.map P.leadsTo=T):∀(n:Nat) (todo seen:List Nat),P.closureVia n todo seen=ef T n todo seen
 |0,_,_=>by simp[Program.closureVia,ef]
 |n+1,[],_=>by simp[Program.closureVia,ef]
 |n+1,f::todo,seen=>by
  unfold Program.closureVia ef;rw[bt hT,Nq hT n,Nq hT n]
theorem QT (hT:P.funcs.toList.map P.leadsTo=T)(f:Nat):P.closure f=aQ T f:=by
 unfold Program.closure aQ ia;rw[Nq hT];congr 2;rw[<- hT,List.map_map];rfl
theorem ky (hT:P.funcs.toList.map P.leadsTo=T){f:Nat}(hu:P.unfollowed f=false):P.recurses f=mD T f:=by
 unfold Program.recurses mD;rw[hu,Bool.false_or,QT hT];congr 1;funext g;rw[bt hT];congr 1;funext h;rw[QT hT]
theorem Yq {f:Nat}(hu:P.unfollowed f=true):P.recurses f=true:=by
 unfold Program.recurses;rw[hu,Bool.true_or]
def O0:List Char:=[Char.ofNat 99,Char.ofNat 117,Char.ofNat 116]
theorem oJ:O0= "cut".toList:=by decide
theorem Xw (rest:List (List Char)):stripLifts liftWords (O0::rest)=([],O0::rest):=by
 unfold stripLifts;rfl
theorem Y2 {rest:List (List Char)}(hw:behindMainWord (wordsSigns P.initOrder.toList)=O0::rest):P.headLifts=[]:=by
 unfold Program.headLifts;rw[hw,Xw];simp
theorem jE {rest:List (List Char)}(hw:behindMainWord (wordsSigns P.initOrder.toList)=O0::rest):P.make=some .cut:=by
 unfold Program.make;rw[hw];have h1:(O0 == "gc".toList)=false:=by decide
 have h2:(O0 == "spec".toList)=false:=by decide
 have h3:(O0 == "cut".toList)=true:=by decide
 simp only[h1,h2,h3];rfl
theorem YE {rest:List (List Char)}(hw:behindMainWord (wordsSigns P.initOrder.toList)=O0::rest):P.liftsFinal=false:=by
 unfold Program.liftsFinal;rw[Y2 hw,hw];have h1:(some O0==some "carried".toList)=false:=by decide
 simp only[List.head?_cons,h1];rfl
theorem bA {rest:List (List Char)}(hw:behindMainWord (wordsSigns P.initOrder.toList)=O0::rest)(h1:P.laysLater=false)(h2:P.bearsReflect=false)(h3:P.doorFits []=true):P.mayEnter=true:=by
 unfold Program.mayEnter;rw[hw];simp only[Xw,h1,h2,h3];have e1:((O0::rest).head?==some "cut".toList)=true:=by
  rw[List.head?_cons];decide
 rw[e1];simp
end Go.Abs
