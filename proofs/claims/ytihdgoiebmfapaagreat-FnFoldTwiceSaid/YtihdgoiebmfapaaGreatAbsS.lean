import GoSem.ClaimJoined
namespace Go.Abs
open Go
def ae (T:List (List Nat)):(fuel:Nat)->(todo seen:List Nat)->List Nat
 | 0,_,seen=>seen.reverse
 | _,[],seen=>seen.reverse
 | n+1,f::todo,seen=>if seen.contains f then ae T n todo seen else ae T n ((T[f]?).getD []++todo) (f::seen)
def eL (T:List (List Nat)):Nat:=1+(T.map λl=>l.length+1).sum
def XR (T:List (List Nat))(f:Nat):List Nat:=ae T (eL T) [f] []
def gK (T:List (List Nat))(f:Nat):Bool:=(XR T f).any λg=>((T[g]?).getD []).any λh=>(XR T h).contains g
variable {P : Program} {T : List (List Nat)}
theorem ZN (hT:P.funcs.toList.map P.leadsTo=T)(g:Nat):(P.funcs[g]?).elim [] P.leadsTo=(T[g]?).getD []:=by
 subst hT;simp only[List.getElem?_map,Array.getElem?_toList];cases P.funcs[g]?<;>rfl
theorem Ma (hT:P.funcs.toList.map P.leadsTo=T):∀(n:Nat) (todo seen:List Nat),P.closureVia n todo seen=ae T n todo seen
 | 0,_,_=>by simp[Program.closureVia,ae]
 | n+1,[],_=>by simp[Program.closureVia,ae]
 | n+1,f::todo,seen=>by
  unfold Program.closureVia ae;rw[ZN hT,Ma hT n,Ma hT n]
theorem PO (hT:P.funcs.toList.map P.leadsTo=T)(f:Nat):P.closure f=XR T f:=by
 unfold Program.closure XR eL;rw[Ma hT];congr 2;rw[<- hT,List.map_map];rfl
theorem fV (hT:P.funcs.toList.map P.leadsTo=T){f:Nat}(hu:P.unfollowed f=false):P.recurses f=gK T f:=by
 unfold Program.recurses gK;rw[hu,Bool.false_or,PO hT];congr 1;funext g;rw[ZN hT];congr 1;funext h;rw[PO hT]
theorem WC {f:Nat}(hu:P.unfollowed f=true):P.recurses f=true:=by
 unfold Program.recurses;rw[hu,Bool.true_or]
def NZ:List Char:=[Char.ofNat 99,Char.ofNat 117,Char.ofNat 116]
theorem jD:NZ= "cut".toList:=by decide
theorem Up (rest:List (List Char)):stripLifts liftWords (NZ::rest)=([],NZ::rest):=by
 unfold stripLifts;rfl
theorem Wl {rest:List (List Char)}(hw:behindMainWord (wordsSigns P.initOrder.toList)=NZ::rest):P.headLifts=[]:=by
 unfold Program.headLifts;rw[hw,Up];simp
theorem dr {rest:List (List Char)}(hw:behindMainWord (wordsSigns P.initOrder.toList)=NZ::rest):P.make=some .cut:=by
 unfold Program.make;rw[hw];have h1:(NZ == "gc".toList)=false:=by decide
 have h2:(NZ == "spec".toList)=false:=by decide
 have h3:(NZ == "cut".toList)=true:=by decide
 simp only[h1,h2,h3];rfl
theorem Vy {rest:List (List Char)}(hw:behindMainWord (wordsSigns P.initOrder.toList)=NZ::rest):P.liftsFinal=false:=by
 unfold Program.liftsFinal;rw[Wl hw,hw];have h1:(some NZ==some "carried".toList)=false:=by decide
 simp only[List.head?_cons,h1];rfl
theorem YF {rest:List (List Char)}(hw:behindMainWord (wordsSigns P.initOrder.toList)=NZ::rest)(h1:P.laysLater=false)(h2:P.bearsReflect=false)(h3:P.doorFits []=true):P.mayEnter=true:=by
 unfold Program.mayEnter;rw[hw];simp only[Up,h1,h2,h3];have e1:((NZ::rest).head?==some "cut".toList)=true:=by
  rw[List.head?_cons];decide
 rw[e1];simp
end Go.Abs
