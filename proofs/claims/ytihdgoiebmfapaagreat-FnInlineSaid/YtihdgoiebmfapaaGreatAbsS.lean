import GoSem.ClaimJoined
set_option linter.all false
namespace Go.Abs
open Go
def dt (T:List (List Nat)):(fuel:Nat)->(todo seen:List Nat)->List Nat
 |0,_,seen=>seen.reverse
 |_,[],seen=>seen.reverse
 |n+1,f::todo,seen=>if seen.contains f then dt T n todo seen else dt T n ((T[f]?).getD []++todo) (f::seen)
def ja (T:List (List Nat)):Nat:=1+(T.map λl=>l.length+1).sum
def bD (T:List (List Nat))(f:Nat):List Nat:=dt T (ja T) [f] []
def mH (T:List (List Nat))(f:Nat):Bool:=(bD T f).any λg=>((T[g]?).getD []).any λh=>(bD T h).contains g
variable {P : Program} {T : List (List Nat)}
theorem ca (hT:P.funcs.toList.map P.leadsTo=T)(g:Nat):(P.funcs[g]?).elim [] P.leadsTo=(T[g]?).getD []:=by
 subst hT;simp only[List.getElem?_map,Array.getElem?_toList];cases P.funcs[g]?<;>rfl
theorem NU (hT:P.funcs.toList.map P.leadsTo=T):∀(n:Nat) (todo seen:List Nat),P.closureVia n todo seen=dt T n todo seen
 |0,_,_=>by simp[Program.closureVia,dt]
 |n+1,[],_=>by simp[Program.closureVia,dt]
 |n+1,f::todo,seen=>by
  unfold Program.closureVia dt;rw[ca hT,NU hT n,NU hT n]
theorem QR (hT:P.funcs.toList.map P.leadsTo=T)(f:Nat):P.closure f=bD T f:=by
 unfold Program.closure bD ja;rw[NU hT];congr 2;rw[<- hT,List.map_map];rfl
theorem lz (hT:P.funcs.toList.map P.leadsTo=T){f:Nat}(hu:P.unfollowed f=false):P.recurses f=mH T f:=by
 unfold Program.recurses mH;rw[hu,Bool.false_or,QR hT];congr 1;funext g;rw[ca hT];congr 1;funext h;rw[QR hT]
theorem Y1 {f:Nat}(hu:P.unfollowed f=true):P.recurses f=true:=by
 unfold Program.recurses;rw[hu,Bool.true_or]
def Ok:List Char:=[Char.ofNat 99,Char.ofNat 117,Char.ofNat 116]
theorem oU:Ok= "cut".toList:=by decide
theorem XK (rest:List (List Char)):stripLifts liftWords (Ok::rest)=([],Ok::rest):=by
 unfold stripLifts;rfl
theorem Yw {rest:List (List Char)}(hw:behindMainWord (wordsSigns P.initOrder.toList)=Ok::rest):P.headLifts=[]:=by
 unfold Program.headLifts;rw[hw,XK];simp
theorem kK {rest:List (List Char)}(hw:behindMainWord (wordsSigns P.initOrder.toList)=Ok::rest):P.make=some .cut:=by
 unfold Program.make;rw[hw];have h1:(Ok == "gc".toList)=false:=by decide
 have h2:(Ok == "spec".toList)=false:=by decide
 have h3:(Ok == "cut".toList)=true:=by decide
 simp only[h1,h2,h3];rfl
theorem Xm {rest:List (List Char)}(hw:behindMainWord (wordsSigns P.initOrder.toList)=Ok::rest):P.liftsFinal=false:=by
 unfold Program.liftsFinal;rw[Yw hw,hw];have h1:(some Ok==some "carried".toList)=false:=by decide
 simp only[List.head?_cons,h1];rfl
theorem aj {rest:List (List Char)}(hw:behindMainWord (wordsSigns P.initOrder.toList)=Ok::rest)(h1:P.laysLater=false)(h2:P.bearsReflect=false)(h3:P.doorFits []=true):P.mayEnter=true:=by
 unfold Program.mayEnter;rw[hw];simp only[XK,h1,h2,h3];have e1:((Ok::rest).head?==some "cut".toList)=true:=by
  rw[List.head?_cons];decide
 rw[e1];simp
end Go.Abs
