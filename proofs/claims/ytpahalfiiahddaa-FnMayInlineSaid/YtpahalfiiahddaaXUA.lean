import Derived.Test.YtpahalfiiahddaaGYGFToUGDefs

namespace RC
open Go
def ins:List Int→Int→List Int
 | [],x=>[x]
 | a :: r,x=>if x≤a then (if x < a then x :: a :: r else a :: r) else a :: ins r x
def Jf:List Int→Int→Bool
 | [],_=>false
 | a :: r,x=>if x≤a then true else Jf r x
def LF (l:List Int) (x:Int):List Int:=if Jf l x then ins l x else l
theorem WT :∀(l:List Int) (x:Int),ins l x=if Jf l x then LF l x else LF l x ++ [x]
 | [],x=>by simp[ins,Jf,LF]
 | a :: r,x=>by
  have ih:=WT r x
  simp only[LF,Jf,ins] at ih ⊢
  by_cases h:x≤a
  ·simp[h]
  ·simp only[h,if_false] at ih ⊢
   by_cases hd:Jf r x=true
   ·simp[hd]
   ·simp only[hd,if_false] at ih ⊢
    simp[ih]
theorem PY {l:List Int} {x:Int} (hl:l.length≤1048576) {N i:Nat} (hi:i≤l.length) (hN:l.length - i < N) :∀acc:List Int,acc.length≤1048576+i→CQ l x N true (i:Int) acc=some (true,acc ++ l.drop i):=by
 refine BX l.length (fun N i=>∀acc:List Int,acc.length≤1048576+i→CQ l x N true (i:Int) acc=some (true,acc ++ l.drop i)) ?_ ?_ hi hN
 ·intro n acc _
  rw[CQ,if_neg (by simp[AT])];simp
 ·intro n i hi ih acc ha
  obtain⟨y,hy,_⟩:=Bj hi
  rw[CQ,if_pos (by simp[AT];omega),BB hy]
  simp only[Bool.not_true,Bool.false_eq_true,if_false,Option.bind_some]
  rw[Ep _ _ 8 (by simp;omega) (by simp;omega)]
  simp only[Option.bind_some]
  rw[BI (by omega) (by omega),show ((i:Int) + 1)=((i+1:Nat):Int) by omega,ih _ (by simp;omega),drop_cons hy]
  simp
theorem RX {l:List Int} {x:Int} (hl:l.length≤1048576) {N i:Nat} (hi:i≤l.length) (hN:l.length - i < N) :∀acc:List Int,acc.length≤i→CQ l x N false (i:Int) acc=some (Jf (l.drop i) x,acc ++ LF (l.drop i) x):=by
 refine BX l.length (fun N i=>l.length - i < N→∀acc:List Int,acc.length≤i→CQ l x N false (i:Int) acc=some (Jf (l.drop i) x,acc ++ LF (l.drop i) x)) ?_ ?_ hi hN hN
 ·intro n _ acc _
  rw[CQ,if_neg (by simp[AT])];simp[Jf,LF]
 ·intro n i hi ih hf acc ha
  obtain⟨y,hy,_⟩:=Bj hi
  have ih:=ih (by omega)
  rw[CQ,if_pos (by simp[AT];omega),BB hy]
  simp only[Bool.not_false,if_true,Option.bind_some]
  rw[BI (n:=(i:Int) + 1) (by omega) (by omega),show ((i:Int) + 1)=((i+1:Nat):Int) by omega,drop_cons hy]
  have done:=PY (l:=l) (x:=x) hl (N:=n) (i:=i+1) (by omega) (by omega)
  by_cases h:x≤y
  ·simp only[h,decide_true,if_true]
   by_cases h2:x < y
   ·simp only[h2,decide_true,if_true]
    rw[Ep acc [x] 8 (by simp;omega) (by simp;omega)]
    simp only[Option.bind_some]
    rw[Ep _ _ 8 (by simp;omega) (by simp;omega)]
    simp only[Option.bind_some]
    rw[done _ (by simp;omega)]
    simp[Jf,LF,ins,h,h2]
   ·simp only[h2,decide_false,Bool.false_eq_true,if_false,Option.bind_some]
    rw[Ep _ _ 8 (by simp;omega) (by simp;omega)]
    simp only[Option.bind_some]
    rw[done _ (by simp;omega)]
    simp[Jf,LF,ins,h,h2]
  ·simp only[h,decide_false,Bool.false_eq_true,if_false,Option.bind_some]
   rw[Ep _ _ 8 (by simp;omega) (by simp;omega)]
   simp only[Option.bind_some]
   rw[ih _ (by simp;omega)]
   simp only[Jf,LF,ins,h,if_false,List.append_assoc,List.singleton_append]
   cases Jf (l.drop (i+1)) x <;> simp
theorem Pd {l:List Int} {x:Int} (hl:l.length≤1048576) {N:Nat} (hN:2000000≤N):FV N l x=some (ins l x):=by
 unfold FV
 have:=RX (l:=l) (x:=x) hl (Nat.zero_le _) (by omega:l.length - 0 < N) [] (by simp)
 rw[show ((0:Nat):Int)=0 from rfl,List.drop_zero] at this
 rw[this]
 simp only[Option.bind_some,List.nil_append]
 rw[WT]
 cases hd:Jf l x with
 | true=>simp
 | false=>
  simp only[Bool.not_false,if_true,Bool.false_eq_true,if_false]
  have e:LF l x=l:=by simp[LF,hd]
  rw[e,Ep _ _ 8 (by simp;omega) (by simp;omega)]
  rfl
mutual
def vs:Step→List Int | .mk o _ _ a k=>if Zi o then [] else a ++ ZS k
def ZS:List (Il Step)→List Int | []=>[] | b :: k=>aC b ++ ZS k
def aC:Il Step→List Int | ⟨ss,r⟩=>ZI ss ++ [r]
def ZI:List Step→List Int | []=>[] | s :: l=>vs s ++ ZI l
end
end RC

