import GoSem.ClaimJoined
set_option linter.all false
namespace Go.Abs
open Go
def bZ (T:List (List Nat)):(fuel:Nat)->(todo seen:List Nat)->List Nat
 | 0,_,seen=>seen.reverse
 | _,[],seen=>seen.reverse
 | n+1,f::todo,seen=>if seen.contains f then bZ T n todo seen else bZ T n ((T[f]?).getD []++todo) (f::seen)
def ew (T:List (List Nat)):Nat:=1+(T.map λl=>l.length+1).sum
def XW (T:List (List Nat))(f:Nat):List Nat:=bZ T (ew T) [f] []
def jV (T:List (List Nat))(f:Nat):Bool:=(XW T f).any λg=>((T[g]?).getD []).any λh=>(XW T h).contains g
variable {P : Program} {T : List (List Nat)}
theorem Zz (hT:P.funcs.toList.map P.leadsTo=T)(g:Nat):(P.funcs[g]?).elim [] P.leadsTo=(T[g]?).getD []:=by
 subst hT;simp only[List.getElem?_map,Array.getElem?_toList];cases P.funcs[g]?<;>rfl
theorem MU (hT:P.funcs.toList.map P.leadsTo=T):∀(n:Nat) (todo seen:List Nat),P.closureVia n todo seen=bZ T n todo seen
 | 0,_,_=>by simp[Program.closureVia,bZ]
 | n+1,[],_=>by simp[Program.closureVia,bZ]
 | n+1,f::todo,seen=>by
  unfold Program.closureVia bZ;rw[Zz hT,MU hT n,MU hT n]
theorem Pf (hT:P.funcs.toList.map P.leadsTo=T)(f:Nat):P.closure f=XW T f:=by
 unfold Program.closure XW ew;rw[MU hT];congr 2;rw[<- hT,List.map_map];rfl
theorem jN (hT:P.funcs.toList.map P.leadsTo=T){f:Nat}(hu:P.unfollowed f=false):P.recurses f=jV T f:=by
 unfold Program.recurses jV;rw[hu,Bool.false_or,Pf hT];congr 1;funext g;rw[Zz hT];congr 1;funext h;rw[Pf hT]
theorem WW {f:Nat}(hu:P.unfollowed f=true):P.recurses f=true:=by
 unfold Program.recurses;rw[hu,Bool.true_or]
def Nf:List Char:=[Char.ofNat 99,Char.ofNat 117,Char.ofNat 116]
theorem lh:Nf= "cut".toList:=by decide
theorem Um (rest:List (List Char)):stripLifts liftWords (Nf::rest)=([],Nf::rest):=by
 unfold stripLifts;rfl
theorem Wd {rest:List (List Char)}(hw:behindMainWord (wordsSigns P.initOrder.toList)=Nf::rest):P.headLifts=[]:=by
 unfold Program.headLifts;rw[hw,Um];simp
theorem eO {rest:List (List Char)}(hw:behindMainWord (wordsSigns P.initOrder.toList)=Nf::rest):P.make=some .cut:=by
 unfold Program.make;rw[hw];have h1:(Nf == "gc".toList)=false:=by decide
 have h2:(Nf == "spec".toList)=false:=by decide
 have h3:(Nf == "cut".toList)=true:=by decide
 simp only[h1,h2,h3];rfl
theorem VB {rest:List (List Char)}(hw:behindMainWord (wordsSigns P.initOrder.toList)=Nf::rest):P.liftsFinal=false:=by
 unfold Program.liftsFinal;rw[Wd hw,hw];have h1:(some Nf==some "carried".toList)=false:=by decide
 simp only[List.head?_cons,h1];rfl
theorem YB {rest:List (List Char)}(hw:behindMainWord (wordsSigns P.initOrder.toList)=Nf::rest)(h1:P.laysLater=false)(h2:P.bearsReflect=false)(h3:P.doorFits []=true):P.mayEnter=true:=by
 unfold Program.mayEnter;rw[hw];simp only[Um,h1,h2,h3];have e1:((Nf::rest).head?==some "cut".toList)=true:=by
  rw[List.head?_cons];decide
 rw[e1];simp
end Go.Abs
