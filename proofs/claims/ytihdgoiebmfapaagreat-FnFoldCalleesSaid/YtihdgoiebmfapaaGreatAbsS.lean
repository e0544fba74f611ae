import GoSem.ClaimJoined
namespace Go.Abs
open Go
def cF (T:List (List Nat)):(fuel:Nat)->(todo seen:List Nat)->List Nat
 | 0,_,seen=>seen.reverse
 | _,[],seen=>seen.reverse
 | n+1,f::todo,seen=>if seen.contains f then cF T n todo seen else cF T n ((T[f]?).getD []++todo) (f::seen)
def gb (T:List (List Nat)):Nat:=1+(T.map λl=>l.length+1).sum
def Y6 (T:List (List Nat))(f:Nat):List Nat:=cF T (gb T) [f] []
def jF (T:List (List Nat))(f:Nat):Bool:=(Y6 T f).any λg=>((T[g]?).getD []).any λh=>(Y6 T h).contains g
variable {P : Program} {T : List (List Nat)}
theorem Zi (hT:P.funcs.toList.map P.leadsTo=T)(g:Nat):(P.funcs[g]?).elim [] P.leadsTo=(T[g]?).getD []:=by
 subst hT;simp only[List.getElem?_map,Array.getElem?_toList];cases P.funcs[g]?<;>rfl
theorem Mc (hT:P.funcs.toList.map P.leadsTo=T):∀(n:Nat) (todo seen:List Nat),P.closureVia n todo seen=cF T n todo seen
 | 0,_,_=>by simp[Program.closureVia,cF]
 | n+1,[],_=>by simp[Program.closureVia,cF]
 | n+1,f::todo,seen=>by
  unfold Program.closureVia cF;rw[Zi hT,Mc hT n,Mc hT n]
theorem P9 (hT:P.funcs.toList.map P.leadsTo=T)(f:Nat):P.closure f=Y6 T f:=by
 unfold Program.closure Y6 gb;rw[Mc hT];congr 2;rw[<- hT,List.map_map];rfl
theorem gh (hT:P.funcs.toList.map P.leadsTo=T){f:Nat}(hu:P.unfollowed f=false):P.recurses f=jF T f:=by
 unfold Program.recurses jF;rw[hu,Bool.false_or,P9 hT];congr 1;funext g;rw[Zi hT];congr 1;funext h;rw[P9 hT]
theorem XU {f:Nat}(hu:P.unfollowed f=true):P.recurses f=true:=by
 unfold Program.recurses;rw[hu,Bool.true_or]
def OK:List Char:=[Char.ofNat 99,Char.ofNat 117,Char.ofNat 116]
theorem kJ:OK= "cut".toList:=by decide
theorem Wp (rest:List (List Char)):stripLifts liftWords (OK::rest)=([],OK::rest):=by
 unfold stripLifts;rfl
theorem Xj {rest:List (List Char)}(hw:behindMainWord (wordsSigns P.initOrder.toList)=OK::rest):P.headLifts=[]:=by
 unfold Program.headLifts;rw[hw,Wp];simp
theorem ep {rest:List (List Char)}(hw:behindMainWord (wordsSigns P.initOrder.toList)=OK::rest):P.make=some .cut:=by
 unfold Program.make;rw[hw];have h1:(OK == "gc".toList)=false:=by decide
 have h2:(OK == "spec".toList)=false:=by decide
 have h3:(OK == "cut".toList)=true:=by decide
 simp only[h1,h2,h3];rfl
theorem WL {rest:List (List Char)}(hw:behindMainWord (wordsSigns P.initOrder.toList)=OK::rest):P.liftsFinal=false:=by
 unfold Program.liftsFinal;rw[Xj hw,hw];have h1:(some OK==some "carried".toList)=false:=by decide
 simp only[List.head?_cons,h1];rfl
theorem Yv {rest:List (List Char)}(hw:behindMainWord (wordsSigns P.initOrder.toList)=OK::rest)(h1:P.laysLater=false)(h2:P.bearsReflect=false)(h3:P.doorFits []=true):P.mayEnter=true:=by
 unfold Program.mayEnter;rw[hw];simp only[Wp,h1,h2,h3];have e1:((OK::rest).head?==some "cut".toList)=true:=by
  rw[List.head?_cons];decide
 rw[e1];simp
end Go.Abs
