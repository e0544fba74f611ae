import Derived.Test.YtobjlimoekffaaaGreatIWB

namespace RC
open Go
def nx (i:Ag) (t:Nat):List Int:=
 if i.op=22 then [i.num] else if i.op=20 then [(t:Int) + 1,i.num] else if i.op=21 then i.jumps else if i.op=23∨i.op=24 then [] else [(t:Int) + 1]
def sx (i:Ag) (t:Nat):List Int:=
 if i.op=22 then [i.num] else if i.op=20 then ins [(t:Int) + 1] i.num else if i.op=21 then i.jumps.foldl ins [] else if i.op=23∨i.op=24 then [] else [(t:Int) + 1]
theorem MF :∀(l acc:List Int) (y:Int),y∈l.foldl ins acc↔y∈acc∨y∈l
 | [],acc,y=>by simp
 | a :: r,acc,y=>by
  rw[List.foldl_cons,MF r,R3]
  simp only[List.mem_cons]
  constructor
  ·rintro ((h | h) | h) <;> simp[h]
  ·rintro (h | h | h) <;> simp[h]
theorem MV :∀(l acc:List Int),(l.foldl ins acc).length≤acc.length+l.length
 | [],acc=>by simp
 | a :: r,acc=>by
  rw[List.foldl_cons]
  have:=MV r (ins acc a)
  have:=Ou acc a
  simp only[List.length_cons];omega
theorem YK (i:Ag) (t:Nat) (x:Int):x∈sx i t↔x∈nx i t:=by
 unfold sx nx
 split
 ·rfl
 split
 ·rw[R3];simp[or_comm]
 split
 ·rw[MF];simp
 rfl
theorem aL (i:Ag) (t:Nat):(sx i t).length≤i.jumps.length+2:=by
 unfold sx
 split
 ·simp
 split
 ·have:=Ou [(t:Int) + 1] i.num;simp at this;omega
 split
 ·have:=MV i.jumps [];simp at this;omega
 split <;> simp
theorem aF (i:Ag) (t:Nat):(nx i t).length≤i.jumps.length+2:=by
 unfold nx
 split
 ·simp
 split
 ·simp
 split
 ·omega
 split <;> simp
theorem cO {L t:Nat} {i:Ag} (h:leads L t i) :∀x∈nx i t,(t:Int) < x∧x < (L:Int):=by
 intro x hx
 obtain⟨h1,h2,h3⟩:=h
 unfold nx at hx
 split at hx
 ·rename_i e;simp only[List.mem_singleton] at hx;subst hx;exact h1 (.inl e)
 split at hx
 ·rename_i e1 e
  have:=h3 (by omega) (by omega)
  simp only[List.mem_cons,List.not_mem_nil,or_false] at hx
  rcases hx with rfl | rfl
  ·omega
  ·exact h1 (.inr e)
 split at hx
 ·rename_i e;exact h2 e x hx
 split at hx
 ·simp at hx
 ·rename_i e1 e2 e3 e4
  have:=h3 (by omega) (by omega)
  simp only[List.mem_singleton] at hx
  omega
theorem X7 {i:Ag} {t:Nat} (ht:t≤2000):Fi i (t:Int)=some (nx i t):=by
 unfold Fi nx
 rw[As (n:=(t:Int) + 1) (by omega) (by omega)]
 by_cases h1:i.op=22
 ·simp[h1]
 by_cases h2:i.op=20
 ·simp[h2]
 by_cases h3:i.op=21
 ·simp[h3]
 by_cases h4:i.op=23
 ·simp[h4]
 by_cases h5:i.op=24
 ·simp[h5]
 simp[h1,h2,h3,h4,h5]
theorem Sg {c:Ag} (hl:c.jumps.length≤1048576) {N0:Nat} (hN0:2000000≤N0) {N i:Nat} (hi:i≤c.jumps.length) (hN:c.jumps.length - i < N) :∀acc:List Int,acc.length≤i→D9 N0 c N (i:Int) acc=some ((c.jumps.drop i).foldl ins acc):=by
 refine BM c.jumps.length (fun N i=>∀acc:List Int,acc.length≤i→D9 N0 c N (i:Int) acc=some ((c.jumps.drop i).foldl ins acc)) ?_ ?_ hi hN
 ·intro n acc _
  rw[D9,if_neg (by simp[AK])];simp
 ·intro n i hi ih acc ha
  obtain⟨y,hy,_⟩:=BR hi
  rw[D9,if_pos (by simp[AK];omega),Ak hy]
  simp only[Option.bind_some]
  rw[Jg (by omega) hN0]
  simp only[Option.bind_some]
  have:=Ou acc y
  rw[As (by omega) (by omega),show ((i:Int) + 1)=((i+1:Nat):Int) by omega,ih _ (by omega),drop_cons hy,List.foldl_cons]
theorem V7 {code:List Ag} {t:Nat} {i:Ag} (hi:code[t]?=some i) (ht:t≤2000) (hl:i.jumps.length≤1048576) {N:Nat} (hN:2000000≤N):IP N code (t:Int)=some (sx i t):=by
 unfold IP sx
 rw[Ak hi]
 simp only[Option.bind_some]
 have e:=Sg hl hN (Nat.zero_le _) (by omega:i.jumps.length - 0 < N) [] (by simp)
 rw[show ((0:Nat):Int)=0 from rfl,List.drop_zero] at e
 rw[e,As (n:=(t:Int) + 1) (by omega) (by omega),Jg (by simp) hN]
 by_cases h4:i.op=23
 ·simp[h4]
 by_cases h5:i.op=24
 ·simp[h5]
 by_cases h1:i.op=22
 ·simp[h1]
 by_cases h2:i.op=20
 ·simp[h2]
 by_cases h3:i.op=21
 ·simp[h3]
 simp[h1,h2,h3,h4,h5]
def run:Nat→List Ag→(Nat→Bool)→Nat→Bool
 | _,[],m=>m
 | t,i :: r,m=>run (t+1) r (if m t then Gz m (nx i t) else m)
theorem RX {m:Nat→Bool} {n:Nat} (hn:n≤1048576) {N:Nat} (hN:2000000≤N):E8 N (rowOf n m)=some (BK (mk m n 0)):=by
 unfold E8
 have:=LF (m:=m) hn (Nat.zero_le n) (by omega:n - 0 < N) [] (by simp)
 rw[show ((0:Nat):Int)=0 from rfl,show BK []=[] from rfl] at this
 rw[this];rfl
end RC

