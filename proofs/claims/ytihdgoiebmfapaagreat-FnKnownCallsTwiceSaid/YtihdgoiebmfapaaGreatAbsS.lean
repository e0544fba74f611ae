import GoSem.ClaimJoined
namespace Go.Abs
open Go
def YH (T:List (List Nat)):(fuel:Nat)->(todo seen:List Nat)->List Nat
 | 0,_,seen=>seen.reverse
 | _,[],seen=>seen.reverse
 | n+1,f::todo,seen=>if seen.contains f then YH T n todo seen else YH T n ((T[f]?).getD []++todo) (f::seen)
def aR (T:List (List Nat)):Nat:=1+(T.map λl=>l.length+1).sum
def WV (T:List (List Nat))(f:Nat):List Nat:=YH T (aR T) [f] []
def cy (T:List (List Nat))(f:Nat):Bool:=(WV T f).any λg=>((T[g]?).getD []).any λh=>(WV T h).contains g
variable {P : Program} {T : List (List Nat)}
theorem XZ (hT:P.funcs.toList.map P.leadsTo=T)(g:Nat):(P.funcs[g]?).elim [] P.leadsTo=(T[g]?).getD []:=by
 subst hT;simp only[List.getElem?_map,Array.getElem?_toList];cases P.funcs[g]?<;>rfl
theorem Ld (hT:P.funcs.toList.map P.leadsTo=T):∀(n:Nat) (todo seen:List Nat),P.closureVia n todo seen=YH T n todo seen
 | 0,_,_=>by simp[Program.closureVia,YH]
 | n+1,[],_=>by simp[Program.closureVia,YH]
 | n+1,f::todo,seen=>by
  unfold Program.closureVia YH;rw[XZ hT,Ld hT n,Ld hT n]
theorem Og (hT:P.funcs.toList.map P.leadsTo=T)(f:Nat):P.closure f=WV T f:=by
 unfold Program.closure WV aR;rw[Ld hT];congr 2;rw[<- hT,List.map_map];rfl
theorem cF (hT:P.funcs.toList.map P.leadsTo=T){f:Nat}(hu:P.unfollowed f=false):P.recurses f=cy T f:=by
 unfold Program.recurses cy;rw[hu,Bool.false_or,Og hT];congr 1;funext g;rw[XZ hT];congr 1;funext h;rw[Og hT]
theorem VO {f:Nat}(hu:P.unfollowed f=true):P.recurses f=true:=by
 unfold Program.recurses;rw[hu,Bool.true_or]
def Mo:List Char:=[Char.ofNat 99,Char.ofNat 117,Char.ofNat 116]
theorem fD:Mo= "cut".toList:=by decide
theorem Td (rest:List (List Char)):stripLifts liftWords (Mo::rest)=([],Mo::rest):=by
 unfold stripLifts;rfl
theorem U6 {rest:List (List Char)}(hw:behindMainWord (wordsSigns P.initOrder.toList)=Mo::rest):P.headLifts=[]:=by
 unfold Program.headLifts;rw[hw,Td];simp
theorem aa {rest:List (List Char)}(hw:behindMainWord (wordsSigns P.initOrder.toList)=Mo::rest):P.make=some .cut:=by
 unfold Program.make;rw[hw];have h1:(Mo == "gc".toList)=false:=by decide
 have h2:(Mo == "spec".toList)=false:=by decide
 have h3:(Mo == "cut".toList)=true:=by decide
 simp only[h1,h2,h3];rfl
theorem Uc {rest:List (List Char)}(hw:behindMainWord (wordsSigns P.initOrder.toList)=Mo::rest):P.liftsFinal=false:=by
 unfold Program.liftsFinal;rw[U6 hw,hw];have h1:(some Mo==some "carried".toList)=false:=by decide
 simp only[List.head?_cons,h1];rfl
theorem V2 {rest:List (List Char)}(hw:behindMainWord (wordsSigns P.initOrder.toList)=Mo::rest)(h1:P.laysLater=false)(h2:P.bearsReflect=false)(h3:P.doorFits []=true):P.mayEnter=true:=by
 unfold Program.mayEnter;rw[hw];simp only[Td,h1,h2,h3];have e1:((Mo::rest).head?==some "cut".toList)=true:=by
  rw[List.head?_cons];decide
 rw[e1];simp
end Go.Abs
