import GoSem.ClaimJoined
set_option linter.all false
namespace Go.Abs
open Go
def eo (T:List (List Nat)):(fuel:Nat)->(todo seen:List Nat)->List Nat
 | 0,_,seen=>seen.reverse
 | _,[],seen=>seen.reverse
 | n+1,f::todo,seen=>if seen.contains f then eo T n todo seen else eo T n ((T[f]?).getD []++todo) (f::seen)
def jf (T:List (List Nat)):Nat:=1+(T.map λl=>l.length+1).sum
def aL (T:List (List Nat))(f:Nat):List Nat:=eo T (jf T) [f] []
def nC (T:List (List Nat))(f:Nat):Bool:=(aL T f).any λg=>((T[g]?).getD []).any λh=>(aL T h).contains g
variable {P : Program} {T : List (List Nat)}
theorem cv (hT:P.funcs.toList.map P.leadsTo=T)(g:Nat):(P.funcs[g]?).elim [] P.leadsTo=(T[g]?).getD []:=by
 subst hT;simp only[List.getElem?_map,Array.getElem?_toList];cases P.funcs[g]?<;>rfl
theorem OY (hT:P.funcs.toList.map P.leadsTo=T):∀(n:Nat) (todo seen:List Nat),P.closureVia n todo seen=eo T n todo seen
 | 0,_,_=>by simp[Program.closureVia,eo]
 | n+1,[],_=>by simp[Program.closureVia,eo]
 | n+1,f::todo,seen=>by
  unfold Program.closureVia eo;rw[cv hT,OY hT n,OY hT n]
theorem SX (hT:P.funcs.toList.map P.leadsTo=T)(f:Nat):P.closure f=aL T f:=by
 unfold Program.closure aL jf;rw[OY hT];congr 2;rw[<- hT,List.map_map];rfl
theorem mg (hT:P.funcs.toList.map P.leadsTo=T){f:Nat}(hu:P.unfollowed f=false):P.recurses f=nC T f:=by
 unfold Program.recurses nC;rw[hu,Bool.false_or,SX hT];congr 1;funext g;rw[cv hT];congr 1;funext h;rw[SX hT]
theorem ZC {f:Nat}(hu:P.unfollowed f=true):P.recurses f=true:=by
 unfold Program.recurses;rw[hu,Bool.true_or]
def QX:List Char:=[Char.ofNat 99,Char.ofNat 117,Char.ofNat 116]
theorem od:QX= "cut".toList:=by decide
theorem YN (rest:List (List Char)):stripLifts liftWords (QX::rest)=([],QX::rest):=by
 unfold stripLifts;rfl
theorem Yt {rest:List (List Char)}(hw:behindMainWord (wordsSigns P.initOrder.toList)=QX::rest):P.headLifts=[]:=by
 unfold Program.headLifts;rw[hw,YN];simp
theorem kD {rest:List (List Char)}(hw:behindMainWord (wordsSigns P.initOrder.toList)=QX::rest):P.make=some .cut:=by
 unfold Program.make;rw[hw];have h1:(QX == "gc".toList)=false:=by decide
 have h2:(QX == "spec".toList)=false:=by decide
 have h3:(QX == "cut".toList)=true:=by decide
 simp only[h1,h2,h3];rfl
theorem Xq {rest:List (List Char)}(hw:behindMainWord (wordsSigns P.initOrder.toList)=QX::rest):P.liftsFinal=false:=by
 unfold Program.liftsFinal;rw[Yt hw,hw];have h1:(some QX==some "carried".toList)=false:=by decide
 simp only[List.head?_cons,h1];rfl
theorem Z3 {rest:List (List Char)}(hw:behindMainWord (wordsSigns P.initOrder.toList)=QX::rest)(h1:P.laysLater=false)(h2:P.bearsReflect=false)(h3:P.doorFits []=true):P.mayEnter=true:=by
 unfold Program.mayEnter;rw[hw];simp only[YN,h1,h2,h3];have e1:((QX::rest).head?==some "cut".toList)=true:=by
  rw[List.head?_cons];decide
 rw[e1];simp
end Go.Abs
