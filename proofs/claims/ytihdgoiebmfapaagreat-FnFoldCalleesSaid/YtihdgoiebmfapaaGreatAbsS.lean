import GoSem.ClaimJoined
set_option linter.all false
namespace Go.Abs
open Go
def aw (T:List (List Nat)):(fuel:Nat)->(todo seen:List Nat)->List Nat
 | 0,_,seen=>seen.reverse
 | _,[],seen=>seen.reverse
 | n+1,f::todo,seen=>if seen.contains f then aw T n todo seen else aw T n ((T[f]?).getD []++todo) (f::seen)
def ec (T:List (List Nat)):Nat:=1+(T.map λl=>l.length+1).sum
def YR (T:List (List Nat))(f:Nat):List Nat:=aw T (ec T) [f] []
def jB (T:List (List Nat))(f:Nat):Bool:=(YR T f).any λg=>((T[g]?).getD []).any λh=>(YR T h).contains g
variable {P : Program} {T : List (List Nat)}
theorem aY (hT:P.funcs.toList.map P.leadsTo=T)(g:Nat):(P.funcs[g]?).elim [] P.leadsTo=(T[g]?).getD []:=by
 subst hT;simp only[List.getElem?_map,Array.getElem?_toList];cases P.funcs[g]?<;>rfl
theorem My (hT:P.funcs.toList.map P.leadsTo=T):∀(n:Nat) (todo seen:List Nat),P.closureVia n todo seen=aw T n todo seen
 | 0,_,_=>by simp[Program.closureVia,aw]
 | n+1,[],_=>by simp[Program.closureVia,aw]
 | n+1,f::todo,seen=>by
  unfold Program.closureVia aw;rw[aY hT,My hT n,My hT n]
theorem Pb (hT:P.funcs.toList.map P.leadsTo=T)(f:Nat):P.closure f=YR T f:=by
 unfold Program.closure YR ec;rw[My hT];congr 2;rw[<- hT,List.map_map];rfl
theorem hU (hT:P.funcs.toList.map P.leadsTo=T){f:Nat}(hu:P.unfollowed f=false):P.recurses f=jB T f:=by
 unfold Program.recurses jB;rw[hu,Bool.false_or,Pb hT];congr 1;funext g;rw[aY hT];congr 1;funext h;rw[Pb hT]
theorem XS {f:Nat}(hu:P.unfollowed f=true):P.recurses f=true:=by
 unfold Program.recurses;rw[hu,Bool.true_or]
def OL:List Char:=[Char.ofNat 99,Char.ofNat 117,Char.ofNat 116]
theorem kF:OL= "cut".toList:=by decide
theorem Ws (rest:List (List Char)):stripLifts liftWords (OL::rest)=([],OL::rest):=by
 unfold stripLifts;rfl
theorem Xk {rest:List (List Char)}(hw:behindMainWord (wordsSigns P.initOrder.toList)=OL::rest):P.headLifts=[]:=by
 unfold Program.headLifts;rw[hw,Ws];simp
theorem gI {rest:List (List Char)}(hw:behindMainWord (wordsSigns P.initOrder.toList)=OL::rest):P.make=some .cut:=by
 unfold Program.make;rw[hw];have h1:(OL == "gc".toList)=false:=by decide
 have h2:(OL == "spec".toList)=false:=by decide
 have h3:(OL == "cut".toList)=true:=by decide
 simp only[h1,h2,h3];rfl
theorem Vz {rest:List (List Char)}(hw:behindMainWord (wordsSigns P.initOrder.toList)=OL::rest):P.liftsFinal=false:=by
 unfold Program.liftsFinal;rw[Xk hw,hw];have h1:(some OL==some "carried".toList)=false:=by decide
 simp only[List.head?_cons,h1];rfl
theorem Yw {rest:List (List Char)}(hw:behindMainWord (wordsSigns P.initOrder.toList)=OL::rest)(h1:P.laysLater=false)(h2:P.bearsReflect=false)(h3:P.doorFits []=true):P.mayEnter=true:=by
 unfold Program.mayEnter;rw[hw];simp only[Ws,h1,h2,h3];have e1:((OL::rest).head?==some "cut".toList)=true:=by
  rw[List.head?_cons];decide
 rw[e1];simp
end Go.Abs
