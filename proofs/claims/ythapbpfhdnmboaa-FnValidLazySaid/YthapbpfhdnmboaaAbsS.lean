import GoSem.ClaimJoined

namespace Go.Abs
open Go
def OX (T:List (List Nat)):(fuel:Nat)→(todo seen:List Nat)→List Nat
 | 0,_,seen=>seen.reverse
 | _,[],seen=>seen.reverse
 | n+1,f :: todo,seen=>if seen.contains f then OX T n todo seen else OX T n ((T[f]?).getD [] ++ todo) (f :: seen)
def Qf (T:List (List Nat)):Nat:=1+(T.map fun l=>l.length+1).sum
def Mt (T:List (List Nat)) (f:Nat):List Nat:=OX T (Qf T) [f] []
def Ri (T:List (List Nat)) (f:Nat):Bool:=(Mt T f).any fun g=>((T[g]?).getD []).any fun h=>(Mt T h).contains g
variable {P : Program} {T : List (List Nat)}
theorem NV (hT:P.funcs.toList.map P.leadsTo=T) (g:Nat):(P.funcs[g]?).elim [] P.leadsTo=(T[g]?).getD []:=by
 subst hT
 simp only[List.getElem?_map,Array.getElem?_toList]
 cases P.funcs[g]? <;> rfl
theorem Fz (hT:P.funcs.toList.map P.leadsTo=T) :∀(n:Nat) (todo seen:List Nat),P.closureVia n todo seen=OX T n todo seen
 | 0,_,_=>by simp[Program.closureVia,OX]
 | n+1,[],_=>by simp[Program.closureVia,OX]
 | n+1,f :: todo,seen=>by
  unfold Program.closureVia OX
  rw[NV hT,Fz hT n,Fz hT n]
theorem HN (hT:P.funcs.toList.map P.leadsTo=T) (f:Nat):P.closure f=Mt T f:=by
 unfold Program.closure Mt Qf
 rw[Fz hT]
 congr 2
 rw[← hT,List.map_map]
 rfl
theorem RQ (hT:P.funcs.toList.map P.leadsTo=T) {f:Nat} (hu:P.unfollowed f=false):P.recurses f=Ri T f:=by
 unfold Program.recurses Ri
 rw[hu,Bool.false_or,HN hT]
 congr 1
 funext g
 rw[NV hT]
 congr 1
 funext h
 rw[HN hT]
theorem La {f:Nat} (hu:P.unfollowed f=true):P.recurses f=true:=by
 unfold Program.recurses
 rw[hu,Bool.true_or]
def Gl:List Char:=[Char.ofNat 99,Char.ofNat 117,Char.ofNat 116]
theorem TB:Gl= "cut".toList:=by decide
theorem KF (rest:List (List Char)):stripLifts liftWords (Gl :: rest)=([],Gl :: rest):=by
 unfold stripLifts
 rfl
theorem Lk {rest:List (List Char)} (hw:behindMainWord (wordsSigns P.initOrder.toList)=Gl :: rest):P.headLifts=[]:=by
 unfold Program.headLifts
 rw[hw,KF]
 simp
theorem P8 {rest:List (List Char)} (hw:behindMainWord (wordsSigns P.initOrder.toList)=Gl :: rest):P.make=some .cut:=by
 unfold Program.make
 rw[hw]
 have h1:(Gl == "gc".toList)=false:=by decide
 have h2:(Gl == "spec".toList)=false:=by decide
 have h3:(Gl == "cut".toList)=true:=by decide
 simp only[h1,h2,h3]
 rfl
theorem Kk {rest:List (List Char)} (hw:behindMainWord (wordsSigns P.initOrder.toList)=Gl :: rest):P.liftsFinal=false:=by
 unfold Program.liftsFinal
 rw[Lk hw,hw]
 have h1:(some Gl == some "carried".toList)=false:=by decide
 simp only[List.head?_cons,h1]
 rfl
theorem Mv {rest:List (List Char)} (hw:behindMainWord (wordsSigns P.initOrder.toList)=Gl :: rest) (h1:P.laysLater=false) (h2:P.bearsReflect=false) (h3:P.doorFits []=true):P.mayEnter=true:=by
 unfold Program.mayEnter
 rw[hw]
 simp only[KF,h1,h2,h3]
 have e1:((Gl :: rest).head? == some "cut".toList)=true:=by
  rw[List.head?_cons];decide
 rw[e1]
 simp
end Go.Abs

