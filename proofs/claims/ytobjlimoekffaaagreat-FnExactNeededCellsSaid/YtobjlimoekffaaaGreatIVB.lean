import Derived.Test.YtobjlimoekffaaaGreatIVA
import Derived.Test.YtobjlimoekffaaaGreatGPlainAToIMJ

namespace RC
open Go
def Ek {τ:Type} (st:Nat→τ→τ):Nat→τ→τ
 | 0,s=>s
 | i+1,s=>st i (Ek st i s)
theorem Jh {τ ρ γ:Type} (len:Nat) (L:Nat→Int→ρ→Option γ) (fin:ρ→γ) (row:τ→ρ) (ok:Nat→Bool) (st:Nat→τ→τ) (J:Nat→τ→Prop) (Bad:γ→Prop)
  (h0 :∀n r,L (n+1) (len:Int) r=some (fin r))
  (hs :∀n i s,i < len→J i s→(ok i=true→J (i+1) (st i s)∧L (n+1) (i:Int) (row s)=L n ((i+1:Nat):Int) (row (st i s)))∧(ok i=false→∃e,Bad e∧L (n+1) (i:Int) (row s)=some e))
  {N:Nat} (hN:len < N) {s:τ} (hJ:J 0 s) :
  ((∀j,j < len→ok j=true)∧L N 0 (row s)=some (fin (row (Ek st len s)))∧J len (Ek st len s))∨((∃j,j < len∧ok j=false)∧∃e,Bad e∧L N 0 (row s)=some e):=by
 have key :∀i,i≤len→((∀j,j < i→ok j=true)∧J i (Ek st i s)∧L N 0 (row s)=L (N - i) (i:Int) (row (Ek st i s)))∨((∃j,j < len∧ok j=false)∧∃e,Bad e∧L N 0 (row s)=some e):=by
  intro i
  induction i with
  | zero=>intro _;exact .inl ⟨fun j h=>absurd h (Nat.not_lt_zero j),hJ,rfl⟩
  | succ i ih=>
   intro hi
   rcases ih (by omega) with ⟨a,b,c⟩ | d
   ·obtain⟨m,hm⟩ :∃m,N - i=m+1:=⟨N - i - 1,by omega⟩
    have h:=hs m i (Ek st i s) (by omega) b
    cases ho:ok i with
    | true=>
     obtain⟨g1,g2⟩:=h.1 ho
     refine .inl ⟨fun j hj=>?_,g1,?_⟩
     ·rcases Nat.lt_or_ge j i with g | g
      ·exact a j g
      ·rw[show j=i by omega];exact ho
     ·rw[c,hm,g2,show N - (i+1)=m by omega];rfl
    | false=>
     obtain⟨e,g1,g2⟩:=h.2 ho
     exact .inr ⟨⟨i,by omega,ho⟩,e,g1,by rw[c,hm,g2]⟩
   ·exact .inr d
 rcases key len (Nat.le_refl _) with ⟨a,b,c⟩ | d
 ·obtain⟨m,hm⟩ :∃m,N - len=m+1:=⟨N - len - 1,by omega⟩
  exact .inl ⟨a,by rw[c,hm,h0],b⟩
 ·exact .inr d
def Cv (l:List Int) (r:Nat):Int:=(l[r]?).getD 0
theorem GB {l:List Int} {r:Nat} (h:r < l.length):Sh.get l (r:Int)=some (Cv l r):=by
 obtain⟨x,hx,_⟩:=BS h
 rw[Ai hx];unfold Cv;rw[hx];rfl
theorem MR {l:List Int} {r:Nat} (h:r < l.length):Cv l r∈l:=by
 obtain⟨x,hx,hm⟩:=BS h
 unfold Cv;rw[hx];exact hm
theorem RU {n:Nat} {F:Nat→Int} {w:Int} (h1:1000≤w) (h2:w - 1000 < (n:Int)):Sh.get (rowOf n F) (w - 1000)=some (F (w - 1000).toNat):=by
 obtain⟨q,hq⟩:=Int.eq_ofNat_of_zero_le (by omega:0≤w - 1000)
 rw[hq]
 exact Ai (Bc (by omega))
theorem RK {n:Nat} {F:Nat→Int} {w v:Int} (h1:1000≤w):Sh.put (rowOf n F) (w - 1000) v=rowOf n (fun j=>if (j:Int) + 1000=w then v else F j):=by
 obtain⟨q,hq⟩:=Int.eq_ofNat_of_zero_le (by omega:0≤w - 1000)
 rw[hq,ET,E4]
 refine Bj fun j _=>?_
 by_cases h:j=q
 ·rw[if_pos h,if_pos (by omega)]
 ·rw[if_neg h,if_neg (by omega)]
def KY (f:Ah) (r:Nat) (G:Nat→Int):Nat→Int:=fun j=>if (j:Int) + 1000=Cv f.held r then G j+1 else G j
def LJ (f:Ah) (r:Nat) (F:Nat→Int):Nat→Int:=fun j=>if 0 < Cv f.own r∧(j:Int) + 1000=Cv f.Ab r then F j+Cv f.own r else F j
def H2 (f:Ah) (G:Nat→Int):Nat→Int:=Ek (KY f) f.held.length G
def Ki (f:Ah) (F:Nat→Int):Nat→Int:=Ek (LJ f) f.own.length F
def BZ (s:Ay) (i:Nat):Ah:=(s.AT[i]?).getD ⟨0,0,0,[],[],[]⟩
def G7 (s:Ay) (k:Nat) (G:Nat→Int):Nat→Int:=Ek (fun i=>H2 (BZ s i)) k G
def Ld (s:Ay) (k:Nat) (F:Nat→Int):Nat→Int:=Ek (fun i=>Ki (BZ s i)) k F
theorem HZ {s:Ay} {i:Nat} (h:i < s.AT.length):Sh.get s.AT (i:Int)=some (BZ s i)∧BZ s i∈s.AT∧s.AT[i]?=some (BZ s i):=by
 obtain⟨x,hx,hm⟩:=BS h
 have:BZ s i=x:=by unfold BZ;rw[hx];rfl
 rw[this];exact⟨Ai hx,hm,hx⟩
theorem Nt {st:Nat→(Nat→Int)→Nat→Int} (A:Nat→Int) (h :∀i F,st i (fun j=>A j+F j)=fun j=>A j+st i F j) :∀(n:Nat) (F:Nat→Int),Ek st n (fun j=>A j+F j)=fun j=>A j+Ek st n F j
 | 0,_=>rfl
 | n+1,F=>by
  show st n (Ek st n _)=_
  rw[Nt A h n F,h];rfl
theorem ZC (f:Ah) (A:Nat→Int) (r:Nat) (F:Nat→Int):LJ f r (fun j=>A j+F j)=fun j=>A j+LJ f r F j:=by
 funext j;unfold LJ
 dsimp only
 split <;> omega
theorem Xt (s:Ay) (k:Nat) (A F:Nat→Int):Ld s k (fun j=>A j+F j)=fun j=>A j+Ld s k F j:=
 Nt A (fun i F=>Nt A (ZC (BZ s i) A) _ F) k F
theorem R2 {st:Nat→(Nat→Int)→Nat→Int} {hit:Nat→Prop} {j:Nat} {n:Nat} (h1 :∀i F,i < n→hit i→F j+1≤st i F j) (h2 :∀i F,i < n→¬ hit i→st i F j=F j) (F:Nat→Int) :
  ((∃i,i < n∧hit i)→F j+1≤Ek st n F j)∧((¬∃i,i < n∧hit i)→Ek st n F j=F j):=by
 induction n with
 | zero=>exact⟨fun⟨i,h,_⟩=>absurd h (Nat.not_lt_zero i),fun _=>rfl⟩
 | succ n ih=>
  obtain⟨a,b⟩:=ih (fun i F hi=>h1 i F (by omega)) (fun i F hi=>h2 i F (by omega))
  have c1:=h1 n (Ek st n F) (by omega)
  have c2:=h2 n (Ek st n F) (by omega)
  show ((∃i,i < n+1∧hit i)→F j+1≤st n (Ek st n F) j)∧((¬∃i,i < n+1∧hit i)→st n (Ek st n F) j=F j)
  by_cases hn:hit n
  ·have c:=c1 hn
   refine⟨fun _=>?_,fun h=>absurd ⟨n,by omega,hn⟩ h⟩
   by_cases hx :∃i,i < n∧hit i
   ·have:=a hx;omega
   ·have:=b hx;omega
  ·have c:=c2 hn
   rw[c]
   refine⟨fun⟨i,hi,hh⟩=>a ⟨i,?_,hh⟩,fun h=>b fun⟨i,hi,hh⟩=>h ⟨i,by omega,hh⟩⟩
   rcases Nat.lt_or_ge i n with g | g
   ·exact g
   ·exact absurd (show hit n by rw[show n=i by omega];exact hh) hn
def TD (f:Ah) (j:Nat):Prop:=∃r,r < f.held.length∧(j:Int) + 1000=Cv f.held r
theorem Q2 (f:Ah) (j:Nat) (G:Nat→Int):(TD f j→G j+1≤H2 f G j)∧(¬ TD f j→H2 f G j=G j):=
 R2 (hit:=fun r=>(j:Int) + 1000=Cv f.held r) (fun i F _ h=>by unfold KY;rw[if_pos h];omega) (fun i F _ h=>by unfold KY;rw[if_neg h]) G
theorem R5 (s:Ay) (j k:Nat) (G:Nat→Int):((∃i,i < k∧TD (BZ s i) j)→G j+1≤G7 s k G j)∧((¬∃i,i < k∧TD (BZ s i) j)→G7 s k G j=G j):=
 R2 (hit:=fun i=>TD (BZ s i) j) (fun i F _ h=>(Q2 (BZ s i) j F).1 h) (fun i F _ h=>(Q2 (BZ s i) j F).2 h) G
end RC

