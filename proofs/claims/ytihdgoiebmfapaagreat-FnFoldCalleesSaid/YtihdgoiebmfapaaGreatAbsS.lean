import GoSem.ClaimJoined
namespace Go.Abs
open Go
def bR (T:List (List Nat)):(fuel:Nat)->(todo seen:List Nat)->List Nat
 | 0,_,seen=>seen.reverse
 | _,[],seen=>seen.reverse
 | n+1,f::todo,seen=>if seen.contains f then bR T n todo seen else bR T n ((T[f]?).getD []++todo) (f::seen)
def gW (T:List (List Nat)):Nat:=1+(T.map λl=>l.length+1).sum
def Y6 (T:List (List Nat))(f:Nat):List Nat:=bR T (gW T) [f] []
def jB (T:List (List Nat))(f:Nat):Bool:=(Y6 T f).any λg=>((T[g]?).getD []).any λh=>(Y6 T h).contains g
variable {P : Program} {T : List (List Nat)}
theorem Zz (hT:P.funcs.toList.map P.leadsTo=T)(g:Nat):(P.funcs[g]?).elim [] P.leadsTo=(T[g]?).getD []:=by
 subst hT;simp only[List.getElem?_map,Array.getElem?_toList];cases P.funcs[g]?<;>rfl
theorem My (hT:P.funcs.toList.map P.leadsTo=T):∀(n:Nat) (todo seen:List Nat),P.closureVia n todo seen=bR T n todo seen
 | 0,_,_=>by simp[Program.closureVia,bR]
 | n+1,[],_=>by simp[Program.closureVia,bR]
 | n+1,f::todo,seen=>by
  unfold Program.closureVia bR;rw[Zz hT,My hT n,My hT n]
theorem Pp (hT:P.funcs.toList.map P.leadsTo=T)(f:Nat):P.closure f=Y6 T f:=by
 unfold Program.closure Y6 gW;rw[My hT];congr 2;rw[<- hT,List.map_map];rfl
theorem hU (hT:P.funcs.toList.map P.leadsTo=T){f:Nat}(hu:P.unfollowed f=false):P.recurses f=jB T f:=by
 unfold Program.recurses jB;rw[hu,Bool.false_or,Pp hT];congr 1;funext g;rw[Zz hT];congr 1;funext h;rw[Pp hT]
theorem XG {f:Nat}(hu:P.unfollowed f=true):P.recurses f=true:=by
 unfold Program.recurses;rw[hu,Bool.true_or]
def N7:List Char:=[Char.ofNat 99,Char.ofNat 117,Char.ofNat 116]
theorem kQ:N7= "cut".toList:=by decide
theorem V7 (rest:List (List Char)):stripLifts liftWords (N7::rest)=([],N7::rest):=by
 unfold stripLifts;rfl
theorem XP {rest:List (List Char)}(hw:behindMainWord (wordsSigns P.initOrder.toList)=N7::rest):P.headLifts=[]:=by
 unfold Program.headLifts;rw[hw,V7];simp
theorem ep {rest:List (List Char)}(hw:behindMainWord (wordsSigns P.initOrder.toList)=N7::rest):P.make=some .cut:=by
 unfold Program.make;rw[hw];have h1:(N7 == "gc".toList)=false:=by decide
 have h2:(N7 == "spec".toList)=false:=by decide
 have h3:(N7 == "cut".toList)=true:=by decide
 simp only[h1,h2,h3];rfl
theorem Ws {rest:List (List Char)}(hw:behindMainWord (wordsSigns P.initOrder.toList)=N7::rest):P.liftsFinal=false:=by
 unfold Program.liftsFinal;rw[XP hw,hw];have h1:(some N7==some "carried".toList)=false:=by decide
 simp only[List.head?_cons,h1];rfl
theorem ZB {rest:List (List Char)}(hw:behindMainWord (wordsSigns P.initOrder.toList)=N7::rest)(h1:P.laysLater=false)(h2:P.bearsReflect=false)(h3:P.doorFits []=true):P.mayEnter=true:=by
 unfold Program.mayEnter;rw[hw];simp only[V7,h1,h2,h3];have e1:((N7::rest).head?==some "cut".toList)=true:=by
  rw[List.head?_cons];decide
 rw[e1];simp
end Go.Abs
