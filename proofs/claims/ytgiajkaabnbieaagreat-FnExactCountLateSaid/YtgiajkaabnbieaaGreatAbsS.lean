import GoSem.ClaimJoined
set_option linter.all false
namespace Go.Abs
open Go
def ah (T:List (List Nat)):(fuel:Nat)->(todo seen:List Nat)->List Nat
 | 0,_,seen=>seen.reverse
 | _,[],seen=>seen.reverse
 | n+1,f::todo,seen=>if seen.contains f then ah T n todo seen else ah T n ((T[f]?).getD []++todo) (f::seen)
def gV (T:List (List Nat)):Nat:=1+(T.map λl=>l.length+1).sum
def Y3 (T:List (List Nat))(f:Nat):List Nat:=ah T (gV T) [f] []
def jW (T:List (List Nat))(f:Nat):Bool:=(Y3 T f).any λg=>((T[g]?).getD []).any λh=>(Y3 T h).contains g
variable {P : Program} {T : List (List Nat)}
theorem Y9 (hT:P.funcs.toList.map P.leadsTo=T)(g:Nat):(P.funcs[g]?).elim [] P.leadsTo=(T[g]?).getD []:=by
 subst hT;simp only[List.getElem?_map,Array.getElem?_toList];cases P.funcs[g]?<;>rfl
theorem NX (hT:P.funcs.toList.map P.leadsTo=T):∀(n:Nat) (todo seen:List Nat),P.closureVia n todo seen=ah T n todo seen
 | 0,_,_=>by simp[Program.closureVia,ah]
 | n+1,[],_=>by simp[Program.closureVia,ah]
 | n+1,f::todo,seen=>by
  unfold Program.closureVia ah;rw[Y9 hT,NX hT n,NX hT n]
theorem Pq (hT:P.funcs.toList.map P.leadsTo=T)(f:Nat):P.closure f=Y3 T f:=by
 unfold Program.closure Y3 gV;rw[NX hT];congr 2;rw[<- hT,List.map_map];rfl
theorem gu (hT:P.funcs.toList.map P.leadsTo=T){f:Nat}(hu:P.unfollowed f=false):P.recurses f=jW T f:=by
 unfold Program.recurses jW;rw[hu,Bool.false_or,Pq hT];congr 1;funext g;rw[Y9 hT];congr 1;funext h;rw[Pq hT]
theorem XI {f:Nat}(hu:P.unfollowed f=true):P.recurses f=true:=by
 unfold Program.recurses;rw[hu,Bool.true_or]
def Oc:List Char:=[Char.ofNat 99,Char.ofNat 117,Char.ofNat 116]
theorem lT:Oc= "cut".toList:=by decide
theorem Wf (rest:List (List Char)):stripLifts liftWords (Oc::rest)=([],Oc::rest):=by
 unfold stripLifts;rfl
theorem Wx {rest:List (List Char)}(hw:behindMainWord (wordsSigns P.initOrder.toList)=Oc::rest):P.headLifts=[]:=by
 unfold Program.headLifts;rw[hw,Wf];simp
theorem fO {rest:List (List Char)}(hw:behindMainWord (wordsSigns P.initOrder.toList)=Oc::rest):P.make=some .cut:=by
 unfold Program.make;rw[hw];have h1:(Oc == "gc".toList)=false:=by decide
 have h2:(Oc == "spec".toList)=false:=by decide
 have h3:(Oc == "cut".toList)=true:=by decide
 simp only[h1,h2,h3];rfl
theorem Wh {rest:List (List Char)}(hw:behindMainWord (wordsSigns P.initOrder.toList)=Oc::rest):P.liftsFinal=false:=by
 unfold Program.liftsFinal;rw[Wx hw,hw];have h1:(some Oc==some "carried".toList)=false:=by decide
 simp only[List.head?_cons,h1];rfl
theorem YB {rest:List (List Char)}(hw:behindMainWord (wordsSigns P.initOrder.toList)=Oc::rest)(h1:P.laysLater=false)(h2:P.bearsReflect=false)(h3:P.doorFits []=true):P.mayEnter=true:=by
 unfold Program.mayEnter;rw[hw];simp only[Wf,h1,h2,h3];have e1:((Oc::rest).head?==some "cut".toList)=true:=by
  rw[List.head?_cons];decide
 rw[e1];simp
end Go.Abs
