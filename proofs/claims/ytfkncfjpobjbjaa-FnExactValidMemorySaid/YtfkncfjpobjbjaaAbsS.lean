import GoSem.ClaimJoined
set_option linter.all false
namespace Go.Abs
open Go
def Mv (T:List (List Nat)):(fuel:Nat)->(todo seen:List Nat)->List Nat
 | 0,_,seen=>seen.reverse
 | _,[],seen=>seen.reverse
 | n+1,f::todo,seen=>if seen.contains f then Mv T n todo seen else Mv T n ((T[f]?).getD []++todo) (f::seen)
def PI (T:List (List Nat)):Nat:=1+(T.map λl=>l.length+1).sum
def Ll (T:List (List Nat))(f:Nat):List Nat:=Mv T (PI T) [f] []
def QA (T:List (List Nat))(f:Nat):Bool:=(Ll T f).any λg=>((T[g]?).getD []).any λh=>(Ll T h).contains g
variable {P : Program} {T : List (List Nat)}
theorem MI (hT:P.funcs.toList.map P.leadsTo=T)(g:Nat):(P.funcs[g]?).elim [] P.leadsTo=(T[g]?).getD []:=by
 subst hT;simp only[List.getElem?_map,Array.getElem?_toList];cases P.funcs[g]?<;>rfl
theorem Es (hT:P.funcs.toList.map P.leadsTo=T):∀(n:Nat) (todo seen:List Nat),P.closureVia n todo seen=Mv T n todo seen
 | 0,_,_=>by simp[Program.closureVia,Mv]
 | n+1,[],_=>by simp[Program.closureVia,Mv]
 | n+1,f::todo,seen=>by
  unfold Program.closureVia Mv;rw[MI hT,Es hT n,Es hT n]
theorem Ge (hT:P.funcs.toList.map P.leadsTo=T)(f:Nat):P.closure f=Ll T f:=by
 unfold Program.closure Ll PI;rw[Es hT];congr 2;rw[<- hT,List.map_map];rfl
theorem Py (hT:P.funcs.toList.map P.leadsTo=T){f:Nat}(hu:P.unfollowed f=false):P.recurses f=QA T f:=by
 unfold Program.recurses QA;rw[hu,Bool.false_or,Ge hT];congr 1;funext g;rw[MI hT];congr 1;funext h;rw[Ge hT]
theorem KB {f:Nat}(hu:P.unfollowed f=true):P.recurses f=true:=by
 unfold Program.recurses;rw[hu,Bool.true_or]
def FW:List Char:=[Char.ofNat 99,Char.ofNat 117,Char.ofNat 116]
theorem RO:FW= "cut".toList:=by decide
theorem JJ (rest:List (List Char)):stripLifts liftWords (FW::rest)=([],FW::rest):=by
 unfold stripLifts;rfl
theorem KF {rest:List (List Char)}(hw:behindMainWord (wordsSigns P.initOrder.toList)=FW::rest):P.headLifts=[]:=by
 unfold Program.headLifts;rw[hw,JJ];simp
theorem O0 {rest:List (List Char)}(hw:behindMainWord (wordsSigns P.initOrder.toList)=FW::rest):P.make=some .cut:=by
 unfold Program.make;rw[hw];have h1:(FW == "gc".toList)=false:=by decide
 have h2:(FW == "spec".toList)=false:=by decide
 have h3:(FW == "cut".toList)=true:=by decide
 simp only[h1,h2,h3];rfl
theorem Jg {rest:List (List Char)}(hw:behindMainWord (wordsSigns P.initOrder.toList)=FW::rest):P.liftsFinal=false:=by
 unfold Program.liftsFinal;rw[KF hw,hw];have h1:(some FW==some "carried".toList)=false:=by decide
 simp only[List.head?_cons,h1];rfl
theorem Kx {rest:List (List Char)}(hw:behindMainWord (wordsSigns P.initOrder.toList)=FW::rest)(h1:P.laysLater=false)(h2:P.bearsReflect=false)(h3:P.doorFits []=true):P.mayEnter=true:=by
 unfold Program.mayEnter;rw[hw];simp only[JJ,h1,h2,h3];have e1:((FW::rest).head?==some "cut".toList)=true:=by
  rw[List.head?_cons];decide
 rw[e1];simp
end Go.Abs
