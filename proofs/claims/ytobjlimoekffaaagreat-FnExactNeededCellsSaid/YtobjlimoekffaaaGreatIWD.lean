import Derived.Test.YtobjlimoekffaaaGreatIWC

namespace RC
open Go
theorem Ot {α:Type} {f g:α→Nat} {a b:Nat} :∀{l:List α},(∀x∈l,f x≤a+b * g x)→(l.map f).sum≤a * l.length+b * (l.map g).sum
 | [],_=>by simp
 | x :: r,h=>by
  have h1:=h x (by simp)
  have h2:=Ot (l:=r) fun y hy=>h y (by simp[hy])
  simp only[List.map_cons,List.sum_cons,List.length_cons,Nat.mul_add]
  omega
theorem Fs {n:Nat} (h:n≤100000000):Sh.w ((n:Int) + 1)=((n+1:Nat):Int):=by
 rw[Au (by omega) (by omega)];rfl
theorem Qw {α:Type} (L:Nat→Int→Int→List α→Option (Int×List α)) (wt:α→Nat) (ok:α→Prop)
  (h0 :∀n k l,L (n+1) k ((l.length:Nat):Int) l=some (k,l))
  (hs :∀n (k:Nat) (A:List α) (x:α) (C:List α),A.length+C.length≤1048576→ok x→k+wt x≤20000000→∃(k':Nat) (y:α),k'≤k+wt x∧L (n+1) k ((A.length:Nat):Int) (A ++ x :: C)=L n k' ((A.length+1:Nat):Int) (A ++ y :: C)) :
  ∀(C A:List α) (k n:Nat),C.length < n→A.length+C.length≤1048576→(∀x∈C,ok x)→k+(C.map wt).sum≤20000000→∃(k':Nat) (l':List α),k'≤k+(C.map wt).sum∧L n k ((A.length:Nat):Int) (A ++ C)=some ((k':Int),l')
 | [],A,k,n,hn,_,_,_=>by
  obtain⟨n,rfl⟩ :∃m,n=m+1:=⟨n - 1,by simp at hn;omega⟩
  refine⟨k,A,by simp,?_⟩
  rw[List.append_nil,h0]
 | x :: C,A,k,n,hn,hl,hok,hk=>by
  simp only[List.length_cons,List.map_cons,List.sum_cons] at hn hl hk ⊢
  obtain⟨n,rfl⟩ :∃m,n=m+1:=⟨n - 1,by omega⟩
  obtain⟨k1,y,h1,h2⟩:=hs n k A x C (by omega) (hok x (by simp)) (by omega)
  obtain⟨k2,l',h3,h4⟩:=Qw L wt ok h0 hs C (A ++ [y]) k1 n (by omega) (by simp;omega) (fun z hz=>hok z (by simp[hz])) (by omega)
  refine⟨k2,l',by omega,?_⟩
  rw[h2,← h4]
  simp
theorem MC {α:Type} {L:Nat→Int→Int→List α→Option (Int×List α)} {wt:α→Nat} {ok:α→Prop}
  (h0 :∀n k l,L (n+1) k ((l.length:Nat):Int) l=some (k,l))
  (hs :∀n (k:Nat) (A:List α) (x:α) (C:List α),A.length+C.length≤1048576→ok x→k+wt x≤20000000→∃(k':Nat) (y:α),k'≤k+wt x∧L (n+1) k ((A.length:Nat):Int) (A ++ x :: C)=L n k' ((A.length+1:Nat):Int) (A ++ y :: C))
  {l:List α} {k N:Nat} (hN:2000000≤N) (hl:l.length≤1048576) (hok :∀x∈l,ok x) (hk:k+(l.map wt).sum≤20000000) :∃(k':Nat) (l':List α),k'≤k+(l.map wt).sum∧L N k 0 l=some ((k':Int),l'):=
 Qw L wt ok h0 hs l [] k N (by omega) (by simp;omega) hok hk
theorem Tl {l:List Bw} {k N:Nat} (hN:2000000≤N) (hl:l.length≤1048576) (hok :∀c∈l,cz c≤1048576) (hk:k+(l.map cz).sum≤20000000) :∃(k':Nat) (l':List Bw),k'≤k+(l.map cz).sum∧G9 N l k=some ((k':Int),l'):=by
 obtain⟨k',l',h1,h2⟩:=MC (L:=Dv N) (wt:=cz) (ok:=fun c=>cz c≤1048576) (fun n k l=>by rw[Dv,if_neg (by simp[AK])]) (fun n k A x C hA hx hk=>by
  rw[Dv,if_pos (by simp[AK];omega),Fc]
  simp only[Option.bind_some]
  rw[EW hx (by omega) hN]
  simp only[Option.bind_some,FO]
  rw[Fs (by omega)]
  exact⟨_,_,Nat.le_refl _,rfl⟩) hN hl hok hk
 refine⟨k',l',h1,?_⟩
 unfold G9
 rw[h2];rfl
def XO (d:Am):Nat:=2+(d.cons.map cz).sum
theorem SM {l:List Am} {k N:Nat} (hN:2000000≤N) (hl:l.length≤1048576) (hok :∀d∈l,dz d≤1048576) (hk:k+(l.map XO).sum≤20000000) :∃(k':Nat) (l':List Am),k'≤k+(l.map XO).sum∧Gh N l k=some ((k':Int),l'):=by
 obtain⟨k',l',h1,h2⟩:=MC (L:=DM N) (wt:=XO) (ok:=fun d=>dz d≤1048576) (fun n k l=>by rw[DM,if_neg (by simp[AK])]) (fun n k A x C hA hx hk=>by
  unfold dz at hx
  unfold XO at hk ⊢
  obtain⟨k1,l1,g1,g2⟩:=Tl (l:=x.cons) (k:=k+1+1) hN (by omega) (fun c hc=>by have:=EX cz hc;omega) (by omega)
  rw[DM,if_pos (by simp[AK];omega),Fs (n:=k) (by omega),Fs (n:=k+1) (by omega),Fs (n:=A.length) (by omega)]
  simp only[Fc,FO,Option.bind_some]
  rw[g2]
  simp only[Option.bind_some]
  exact⟨k1,_,by omega,rfl⟩) hN hl hok hk
 refine⟨k',l',h1,?_⟩
 unfold Gh
 rw[h2];rfl
def VX (i:Ag):Nat:=4+iz i
theorem RR {l:List Ag} {k N:Nat} (hN:2000000≤N) (hl:l.length≤1048576) (hok :∀d∈l,iz d≤1048576) (hk:k+(l.map VX).sum≤20000000) :∃(k':Nat) (l':List Ag),k'≤k+(l.map VX).sum∧GC N l k=some ((k':Int),l'):=by
 obtain⟨k',l',h1,h2⟩:=MC (L:=C2 N) (wt:=VX) (ok:=fun d=>iz d≤1048576) (fun n k l=>by rw[C2,if_neg (by simp[AK])]) (fun n k A x C hA hx hk=>by
  unfold iz at hx
  unfold VX iz at hk ⊢
  rw[C2,if_pos (by simp[AK];omega),Fs (n:=k) (by omega),Fs (n:=k+1) (by omega),Fs (n:=k+1+1) (by omega),Fs (n:=k+1+1+1) (by omega),Fs (n:=A.length) (by omega)]
  simp only[Fc,FO,Option.bind_some]
  rw[EW (by omega) (by omega) hN]
  simp only[Fc,FO,Option.bind_some]
  rw[EW (by omega) (by omega) hN]
  simp only[FO,Option.bind_some]
  exact⟨_,_,by omega,rfl⟩) hN hl hok hk
 refine⟨k',l',h1,?_⟩
 unfold GC
 rw[h2];rfl
def Xd (p:A0):Nat:=2+(p.params.length+p.BH.length+(p.code.map VX).sum)
theorem bk (p:A0):(p.code.map VX).sum≤4 * p.code.length+(p.code.map iz).sum:=by
 have:=Ot (f:=VX) (g:=iz) (a:=4) (b:=1) (l:=p.code) fun x _=>by unfold VX;omega
 omega
theorem SY {l:List A0} {k N:Nat} (hN:2000000≤N) (hl:l.length≤1048576) (hok :∀d∈l,pz d≤1048576) (hk:k+(l.map Xd).sum≤20000000) :∃(k':Nat) (l':List A0),k'≤k+(l.map Xd).sum∧GW N l k=some ((k':Int),l'):=by
 obtain⟨k',l',h1,h2⟩:=MC (L:=DR N) (wt:=Xd) (ok:=fun d=>pz d≤1048576) (fun n k l=>by rw[DR,if_neg (by simp[AK])]) (fun n k A x C hA hx hk=>by
  unfold pz at hx
  unfold Xd at hk ⊢
  obtain⟨k1,l1,g1,g2⟩:=RR (l:=x.code) (k:=k+x.params.length+x.BH.length+1+1) hN (by omega) (fun c hc=>by have:=EX iz hc;omega) (by omega)
  rw[DR,if_pos (by simp[AK];omega),Fs (n:=A.length) (by omega)]
  simp only[Fc,FO,Option.bind_some]
  rw[EW (by omega) (by omega) hN]
  simp only[Fc,FO,Option.bind_some]
  rw[EW (by omega) (by omega) hN]
  simp only[Fc,FO,Option.bind_some]
  rw[Fs (by omega),Fs (by omega),g2]
  simp only[FO,Option.bind_some]
  exact⟨k1,_,by omega,rfl⟩) hN hl hok hk
 refine⟨k',l',h1,?_⟩
 unfold GW
 rw[h2];rfl
end RC

