import GoSem.ClaimJoined
set_option linter.all false
namespace Go.Abs
open Go
def Mt (T:List (List Nat)):(fuel:Nat)->(todo seen:List Nat)->List Nat
 | 0,_,seen=>seen.reverse
 | _,[],seen=>seen.reverse
 | n+1,f::todo,seen=>if seen.contains f then Mt T n todo seen else Mt T n ((T[f]?).getD []++todo) (f::seen)
def Ov (T:List (List Nat)):Nat:=1+(T.map λl=>l.length+1).sum
def Lc (T:List (List Nat))(f:Nat):List Nat:=Mt T (Ov T) [f] []
def QK (T:List (List Nat))(f:Nat):Bool:=(Lc T f).any λg=>((T[g]?).getD []).any λh=>(Lc T h).contains g
variable {P : Program} {T : List (List Nat)}
theorem MX (hT:P.funcs.toList.map P.leadsTo=T)(g:Nat):(P.funcs[g]?).elim [] P.leadsTo=(T[g]?).getD []:=by
 subst hT;simp only[List.getElem?_map,Array.getElem?_toList];cases P.funcs[g]?<;>rfl
theorem Em (hT:P.funcs.toList.map P.leadsTo=T):∀(n:Nat) (todo seen:List Nat),P.closureVia n todo seen=Mt T n todo seen
 | 0,_,_=>by simp[Program.closureVia,Mt]
 | n+1,[],_=>by simp[Program.closureVia,Mt]
 | n+1,f::todo,seen=>by
  unfold Program.closureVia Mt;rw[MX hT,Em hT n,Em hT n]
theorem GQ (hT:P.funcs.toList.map P.leadsTo=T)(f:Nat):P.closure f=Lc T f:=by
 unfold Program.closure Lc Ov;rw[Em hT];congr 2;rw[<- hT,List.map_map];rfl
theorem Pp (hT:P.funcs.toList.map P.leadsTo=T){f:Nat}(hu:P.unfollowed f=false):P.recurses f=QK T f:=by
 unfold Program.recurses QK;rw[hu,Bool.false_or,GQ hT];congr 1;funext g;rw[MX hT];congr 1;funext h;rw[GQ hT]
theorem KE {f:Nat}(hu:P.unfollowed f=true):P.recurses f=true:=by
 unfold Program.recurses;rw[hu,Bool.true_or]
def FK:List Char:=[Char.ofNat 99,Char.ofNat 117,Char.ofNat 116]
theorem Q7:FK= "cut".toList:=by decide
theorem J0 (rest:List (List Char)):stripLifts liftWords (FK::rest)=([],FK::rest):=by
 unfold stripLifts;rfl
theorem KD {rest:List (List Char)}(hw:behindMainWord (wordsSigns P.initOrder.toList)=FK::rest):P.headLifts=[]:=by
 unfold Program.headLifts;rw[hw,J0];simp
theorem PB {rest:List (List Char)}(hw:behindMainWord (wordsSigns P.initOrder.toList)=FK::rest):P.make=some .cut:=by
 unfold Program.make;rw[hw];have h1:(FK == "gc".toList)=false:=by decide
 have h2:(FK == "spec".toList)=false:=by decide
 have h3:(FK == "cut".toList)=true:=by decide
 simp only[h1,h2,h3];rfl
theorem JP {rest:List (List Char)}(hw:behindMainWord (wordsSigns P.initOrder.toList)=FK::rest):P.liftsFinal=false:=by
 unfold Program.liftsFinal;rw[KD hw,hw];have h1:(some FK==some "carried".toList)=false:=by decide
 simp only[List.head?_cons,h1];rfl
theorem LN {rest:List (List Char)}(hw:behindMainWord (wordsSigns P.initOrder.toList)=FK::rest)(h1:P.laysLater=false)(h2:P.bearsReflect=false)(h3:P.doorFits []=true):P.mayEnter=true:=by
 unfold Program.mayEnter;rw[hw];simp only[J0,h1,h2,h3];have e1:((FK::rest).head?==some "cut".toList)=true:=by
  rw[List.head?_cons];decide
 rw[e1];simp
end Go.Abs
