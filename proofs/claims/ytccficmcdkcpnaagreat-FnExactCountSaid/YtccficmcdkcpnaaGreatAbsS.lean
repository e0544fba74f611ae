import GoSem.ClaimJoined
set_option linter.all false
namespace Go.Abs
open Go
def il (T:List (List Nat)):(fuel:Nat)->(todo seen:List Nat)->List Nat
 | 0,_,seen=>seen.reverse
 | _,[],seen=>seen.reverse
 | n+1,f::todo,seen=>if seen.contains f then il T n todo seen else il T n ((T[f]?).getD []++todo) (f::seen)
def ob (T:List (List Nat)):Nat:=1+(T.map λl=>l.length+1).sum
def dw (T:List (List Nat))(f:Nat):List Nat:=il T (ob T) [f] []
def rM (T:List (List Nat))(f:Nat):Bool:=(dw T f).any λg=>((T[g]?).getD []).any λh=>(dw T h).contains g
variable {P : Program} {T : List (List Nat)}
theorem fw (hT:P.funcs.toList.map P.leadsTo=T)(g:Nat):(P.funcs[g]?).elim [] P.leadsTo=(T[g]?).getD []:=by
 subst hT;simp only[List.getElem?_map,Array.getElem?_toList];cases P.funcs[g]?<;>rfl
theorem Pm (hT:P.funcs.toList.map P.leadsTo=T):∀(n:Nat) (todo seen:List Nat),P.closureVia n todo seen=il T n todo seen
 | 0,_,_=>by simp[Program.closureVia,il]
 | n+1,[],_=>by simp[Program.closureVia,il]
 | n+1,f::todo,seen=>by
  unfold Program.closureVia il;rw[fw hT,Pm hT n,Pm hT n]
theorem TQ (hT:P.funcs.toList.map P.leadsTo=T)(f:Nat):P.closure f=dw T f:=by
 unfold Program.closure dw ob;rw[Pm hT];congr 2;rw[<- hT,List.map_map];rfl
theorem ph (hT:P.funcs.toList.map P.leadsTo=T){f:Nat}(hu:P.unfollowed f=false):P.recurses f=rM T f:=by
 unfold Program.recurses rM;rw[hu,Bool.false_or,TQ hT];congr 1;funext g;rw[fw hT];congr 1;funext h;rw[TQ hT]
theorem bG {f:Nat}(hu:P.unfollowed f=true):P.recurses f=true:=by
 unfold Program.recurses;rw[hu,Bool.true_or]
def RL:List Char:=[Char.ofNat 99,Char.ofNat 117,Char.ofNat 116]
theorem tu:RL= "cut".toList:=by decide
theorem ZW (rest:List (List Char)):stripLifts liftWords (RL::rest)=([],RL::rest):=by
 unfold stripLifts;rfl
theorem bM {rest:List (List Char)}(hw:behindMainWord (wordsSigns P.initOrder.toList)=RL::rest):P.headLifts=[]:=by
 unfold Program.headLifts;rw[hw,ZW];simp
theorem oE {rest:List (List Char)}(hw:behindMainWord (wordsSigns P.initOrder.toList)=RL::rest):P.make=some .cut:=by
 unfold Program.make;rw[hw];have h1:(RL == "gc".toList)=false:=by decide
 have h2:(RL == "spec".toList)=false:=by decide
 have h3:(RL == "cut".toList)=true:=by decide
 simp only[h1,h2,h3];rfl
theorem ae {rest:List (List Char)}(hw:behindMainWord (wordsSigns P.initOrder.toList)=RL::rest):P.liftsFinal=false:=by
 unfold Program.liftsFinal;rw[bM hw,hw];have h1:(some RL==some "carried".toList)=false:=by decide
 simp only[List.head?_cons,h1];rfl
theorem eG {rest:List (List Char)}(hw:behindMainWord (wordsSigns P.initOrder.toList)=RL::rest)(h1:P.laysLater=false)(h2:P.bearsReflect=false)(h3:P.doorFits []=true):P.mayEnter=true:=by
 unfold Program.mayEnter;rw[hw];simp only[ZW,h1,h2,h3];have e1:((RL::rest).head?==some "cut".toList)=true:=by
  rw[List.head?_cons];decide
 rw[e1];simp
end Go.Abs
