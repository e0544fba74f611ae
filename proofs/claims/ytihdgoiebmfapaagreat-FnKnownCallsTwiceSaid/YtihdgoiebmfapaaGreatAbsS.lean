import GoSem.ClaimJoined
set_option linter.all false
namespace Go.Abs
open Go
def YE (T:List (List Nat)):(fuel:Nat)->(todo seen:List Nat)->List Nat
 | 0,_,seen=>seen.reverse
 | _,[],seen=>seen.reverse
 | n+1,f::todo,seen=>if seen.contains f then YE T n todo seen else YE T n ((T[f]?).getD []++todo) (f::seen)
def bK (T:List (List Nat)):Nat:=1+(T.map λl=>l.length+1).sum
def Wl (T:List (List Nat))(f:Nat):List Nat:=YE T (bK T) [f] []
def cr (T:List (List Nat))(f:Nat):Bool:=(Wl T f).any λg=>((T[g]?).getD []).any λh=>(Wl T h).contains g
variable {P : Program} {T : List (List Nat)}
theorem Xk (hT:P.funcs.toList.map P.leadsTo=T)(g:Nat):(P.funcs[g]?).elim [] P.leadsTo=(T[g]?).getD []:=by
 subst hT;simp only[List.getElem?_map,Array.getElem?_toList];cases P.funcs[g]?<;>rfl
theorem L0 (hT:P.funcs.toList.map P.leadsTo=T):∀(n:Nat) (todo seen:List Nat),P.closureVia n todo seen=YE T n todo seen
 | 0,_,_=>by simp[Program.closureVia,YE]
 | n+1,[],_=>by simp[Program.closureVia,YE]
 | n+1,f::todo,seen=>by
  unfold Program.closureVia YE;rw[Xk hT,L0 hT n,L0 hT n]
theorem Oa (hT:P.funcs.toList.map P.leadsTo=T)(f:Nat):P.closure f=Wl T f:=by
 unfold Program.closure Wl bK;rw[L0 hT];congr 2;rw[<- hT,List.map_map];rfl
theorem cf (hT:P.funcs.toList.map P.leadsTo=T){f:Nat}(hu:P.unfollowed f=false):P.recurses f=cr T f:=by
 unfold Program.recurses cr;rw[hu,Bool.false_or,Oa hT];congr 1;funext g;rw[Xk hT];congr 1;funext h;rw[Oa hT]
theorem VE {f:Nat}(hu:P.unfollowed f=true):P.recurses f=true:=by
 unfold Program.recurses;rw[hu,Bool.true_or]
def Mv:List Char:=[Char.ofNat 99,Char.ofNat 117,Char.ofNat 116]
theorem eV:Mv= "cut".toList:=by decide
theorem UF (rest:List (List Char)):stripLifts liftWords (Mv::rest)=([],Mv::rest):=by
 unfold stripLifts;rfl
theorem VB {rest:List (List Char)}(hw:behindMainWord (wordsSigns P.initOrder.toList)=Mv::rest):P.headLifts=[]:=by
 unfold Program.headLifts;rw[hw,UF];simp
theorem bV {rest:List (List Char)}(hw:behindMainWord (wordsSigns P.initOrder.toList)=Mv::rest):P.make=some .cut:=by
 unfold Program.make;rw[hw];have h1:(Mv == "gc".toList)=false:=by decide
 have h2:(Mv == "spec".toList)=false:=by decide
 have h3:(Mv == "cut".toList)=true:=by decide
 simp only[h1,h2,h3];rfl
theorem Tp {rest:List (List Char)}(hw:behindMainWord (wordsSigns P.initOrder.toList)=Mv::rest):P.liftsFinal=false:=by
 unfold Program.liftsFinal;rw[VB hw,hw];have h1:(some Mv==some "carried".toList)=false:=by decide
 simp only[List.head?_cons,h1];rfl
theorem WE {rest:List (List Char)}(hw:behindMainWord (wordsSigns P.initOrder.toList)=Mv::rest)(h1:P.laysLater=false)(h2:P.bearsReflect=false)(h3:P.doorFits []=true):P.mayEnter=true:=by
 unfold Program.mayEnter;rw[hw];simp only[UF,h1,h2,h3];have e1:((Mv::rest).head?==some "cut".toList)=true:=by
  rw[List.head?_cons];decide
 rw[e1];simp
end Go.Abs
