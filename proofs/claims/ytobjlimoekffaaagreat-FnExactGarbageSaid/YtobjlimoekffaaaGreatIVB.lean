import Derived.Test.YtobjlimoekffaaaGreatIVA
import Derived.Test.YtobjlimoekffaaaGreatGPlainAToIMJ

namespace RC
open Go
def Er {τ:Type} (st:Nat→τ→τ):Nat→τ→τ
 | 0,s=>s
 | i+1,s=>st i (Er st i s)
theorem Jt {τ ρ γ:Type} (len:Nat) (L:Nat→Int→ρ→Option γ) (fin:ρ→γ) (row:τ→ρ) (ok:Nat→Bool) (st:Nat→τ→τ) (J:Nat→τ→Prop) (Bad:γ→Prop)
  (h0 :∀n r,L (n+1) (len:Int) r=some (fin r))
  (hs :∀n i s,i < len→J i s→(ok i=true→J (i+1) (st i s)∧L (n+1) (i:Int) (row s)=L n ((i+1:Nat):Int) (row (st i s)))∧(ok i=false→∃e,Bad e∧L (n+1) (i:Int) (row s)=some e))
  {N:Nat} (hN:len < N) {s:τ} (hJ:J 0 s) :
  ((∀j,j < len→ok j=true)∧L N 0 (row s)=some (fin (row (Er st len s)))∧J len (Er st len s))∨((∃j,j < len∧ok j=false)∧∃e,Bad e∧L N 0 (row s)=some e):=by
 have key :∀i,i≤len→((∀j,j < i→ok j=true)∧J i (Er st i s)∧L N 0 (row s)=L (N - i) (i:Int) (row (Er st i s)))∨((∃j,j < len∧ok j=false)∧∃e,Bad e∧L N 0 (row s)=some e):=by
  intro i
  induction i with
  | zero=>intro _;exact .inl ⟨fun j h=>absurd h (Nat.not_lt_zero j),hJ,rfl⟩
  | succ i ih=>
   intro hi
   rcases ih (by omega) with ⟨a,b,c⟩ | d
   ·obtain⟨m,hm⟩ :∃m,N - i=m+1:=⟨N - i - 1,by omega⟩
    have h:=hs m i (Er st i s) (by omega) b
    cases ho:ok i with
    | true=>
     obtain⟨g1,g2⟩:=h.1 ho
     refine .inl ⟨fun j hj=>?_,g1,?_⟩
     ·rcases Nat.lt_or_ge j i with g | g
      ·exact a j g
      ·rw[show j=i by omega];exact ho
     ·rw[c,hm,g2,show N - (i+1)=m by omega];rfl
    | false=>
     obtain⟨e,g1,g2⟩:=h.2 ho
     exact .inr ⟨⟨i,by omega,ho⟩,e,g1,by rw[c,hm,g2]⟩
   ·exact .inr d
 rcases key len (Nat.le_refl _) with ⟨a,b,c⟩ | d
 ·obtain⟨m,hm⟩ :∃m,N - len=m+1:=⟨N - len - 1,by omega⟩
  exact .inl ⟨a,by rw[c,hm,h0],b⟩
 ·exact .inr d
def Cy (l:List Int) (r:Nat):Int:=(l[r]?).getD 0
theorem Fy {l:List Int} {r:Nat} (h:r < l.length):Sh.get l (r:Int)=some (Cy l r):=by
 obtain⟨x,hx,_⟩:=BR h
 rw[Ak hx];unfold Cy;rw[hx];rfl
theorem MZ {l:List Int} {r:Nat} (h:r < l.length):Cy l r∈l:=by
 obtain⟨x,hx,hm⟩:=BR h
 unfold Cy;rw[hx];exact hm
theorem RU {n:Nat} {F:Nat→Int} {w:Int} (h1:1000≤w) (h2:w - 1000 < (n:Int)):Sh.get (rowOf n F) (w - 1000)=some (F (w - 1000).toNat):=by
 obtain⟨q,hq⟩:=Int.eq_ofNat_of_zero_le (by omega:0≤w - 1000)
 rw[hq]
 exact Ak (Bd (by omega))
theorem Rb {n:Nat} {F:Nat→Int} {w v:Int} (h1:1000≤w):Sh.put (rowOf n F) (w - 1000) v=rowOf n (fun j=>if (j:Int) + 1000=w then v else F j):=by
 obtain⟨q,hq⟩:=Int.eq_ofNat_of_zero_le (by omega:0≤w - 1000)
 rw[hq,Ec,FA]
 refine Bj fun j _=>?_
 by_cases h:j=q
 ·rw[if_pos h,if_pos (by omega)]
 ·rw[if_neg h,if_neg (by omega)]
def Kj (f:Ai) (r:Nat) (G:Nat→Int):Nat→Int:=fun j=>if (j:Int) + 1000=Cy f.held r then G j+1 else G j
def LI (f:Ai) (r:Nat) (F:Nat→Int):Nat→Int:=fun j=>if 0 < Cy f.own r∧(j:Int) + 1000=Cy f.Ab r then F j+Cy f.own r else F j
def H8 (f:Ai) (G:Nat→Int):Nat→Int:=Er (Kj f) f.held.length G
def LG (f:Ai) (F:Nat→Int):Nat→Int:=Er (LI f) f.own.length F
def Ba (s:Av) (i:Nat):Ai:=(s.AT[i]?).getD ⟨0,0,0,[],[],[]⟩
def HG (s:Av) (k:Nat) (G:Nat→Int):Nat→Int:=Er (fun i=>H8 (Ba s i)) k G
def Ln (s:Av) (k:Nat) (F:Nat→Int):Nat→Int:=Er (fun i=>LG (Ba s i)) k F
theorem Hu {s:Av} {i:Nat} (h:i < s.AT.length):Sh.get s.AT (i:Int)=some (Ba s i)∧Ba s i∈s.AT∧s.AT[i]?=some (Ba s i):=by
 obtain⟨x,hx,hm⟩:=BR h
 have:Ba s i=x:=by unfold Ba;rw[hx];rfl
 rw[this];exact⟨Ak hx,hm,hx⟩
theorem OI {st:Nat→(Nat→Int)→Nat→Int} (A:Nat→Int) (h :∀i F,st i (fun j=>A j+F j)=fun j=>A j+st i F j) :∀(n:Nat) (F:Nat→Int),Er st n (fun j=>A j+F j)=fun j=>A j+Er st n F j
 | 0,_=>rfl
 | n+1,F=>by
  show st n (Er st n _)=_
  rw[OI A h n F,h];rfl
theorem Yi (f:Ai) (A:Nat→Int) (r:Nat) (F:Nat→Int):LI f r (fun j=>A j+F j)=fun j=>A j+LI f r F j:=by
 funext j;unfold LI
 dsimp only
 split <;> omega
theorem Xm (s:Av) (k:Nat) (A F:Nat→Int):Ln s k (fun j=>A j+F j)=fun j=>A j+Ln s k F j:=
 OI A (fun i F=>OI A (Yi (Ba s i) A) _ F) k F
theorem SX {st:Nat→(Nat→Int)→Nat→Int} {hit:Nat→Prop} {j:Nat} {n:Nat} (h1 :∀i F,i < n→hit i→F j+1≤st i F j) (h2 :∀i F,i < n→¬ hit i→st i F j=F j) (F:Nat→Int) :
  ((∃i,i < n∧hit i)→F j+1≤Er st n F j)∧((¬∃i,i < n∧hit i)→Er st n F j=F j):=by
 induction n with
 | zero=>exact⟨fun⟨i,h,_⟩=>absurd h (Nat.not_lt_zero i),fun _=>rfl⟩
 | succ n ih=>
  obtain⟨a,b⟩:=ih (fun i F hi=>h1 i F (by omega)) (fun i F hi=>h2 i F (by omega))
  have c1:=h1 n (Er st n F) (by omega)
  have c2:=h2 n (Er st n F) (by omega)
  show ((∃i,i < n+1∧hit i)→F j+1≤st n (Er st n F) j)∧((¬∃i,i < n+1∧hit i)→st n (Er st n F) j=F j)
  by_cases hn:hit n
  ·have c:=c1 hn
   refine⟨fun _=>?_,fun h=>absurd ⟨n,by omega,hn⟩ h⟩
   by_cases hx :∃i,i < n∧hit i
   ·have:=a hx;omega
   ·have:=b hx;omega
  ·have c:=c2 hn
   rw[c]
   refine⟨fun⟨i,hi,hh⟩=>a ⟨i,?_,hh⟩,fun h=>b fun⟨i,hi,hh⟩=>h ⟨i,by omega,hh⟩⟩
   rcases Nat.lt_or_ge i n with g | g
   ·exact g
   ·exact absurd (show hit n by rw[show n=i by omega];exact hh) hn
def TP (f:Ai) (j:Nat):Prop:=∃r,r < f.held.length∧(j:Int) + 1000=Cy f.held r
theorem SI (f:Ai) (j:Nat) (G:Nat→Int):(TP f j→G j+1≤H8 f G j)∧(¬ TP f j→H8 f G j=G j):=
 SX (hit:=fun r=>(j:Int) + 1000=Cy f.held r) (fun i F _ h=>by unfold Kj;rw[if_pos h];omega) (fun i F _ h=>by unfold Kj;rw[if_neg h]) G
theorem SG (s:Av) (j k:Nat) (G:Nat→Int):((∃i,i < k∧TP (Ba s i) j)→G j+1≤HG s k G j)∧((¬∃i,i < k∧TP (Ba s i) j)→HG s k G j=G j):=
 SX (hit:=fun i=>TP (Ba s i) j) (fun i F _ h=>(SI (Ba s i) j F).1 h) (fun i F _ h=>(SI (Ba s i) j F).2 h) G
end RC

