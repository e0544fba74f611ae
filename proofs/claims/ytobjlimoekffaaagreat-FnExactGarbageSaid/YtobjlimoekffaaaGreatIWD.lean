import Derived.Test.YtobjlimoekffaaaGreatIWC

namespace RC
open Go
theorem O7 {α:Type} {f g:α→Nat} {a b:Nat} :∀{l:List α},(∀x∈l,f x≤a+b * g x)→(l.map f).sum≤a * l.length+b * (l.map g).sum
 | [],_=>by simp
 | x :: r,h=>by
  have h1:=h x (by simp)
  have h2:=O7 (l:=r) fun y hy=>h y (by simp[hy])
  simp only[List.map_cons,List.sum_cons,List.length_cons,Nat.mul_add]
  omega
theorem Fx {n:Nat} (h:n≤100000000):Sh.w ((n:Int) + 1)=((n+1:Nat):Int):=by
 rw[As (by omega) (by omega)];rfl
theorem Rz {α:Type} (L:Nat→Int→Int→List α→Option (Int×List α)) (wt:α→Nat) (ok:α→Prop)
  (h0 :∀n k l,L (n+1) k ((l.length:Nat):Int) l=some (k,l))
  (hs :∀n (k:Nat) (A:List α) (x:α) (C:List α),A.length+C.length≤1048576→ok x→k+wt x≤20000000→∃(k':Nat) (y:α),k'≤k+wt x∧L (n+1) k ((A.length:Nat):Int) (A ++ x :: C)=L n k' ((A.length+1:Nat):Int) (A ++ y :: C)) :
  ∀(C A:List α) (k n:Nat),C.length < n→A.length+C.length≤1048576→(∀x∈C,ok x)→k+(C.map wt).sum≤20000000→∃(k':Nat) (l':List α),k'≤k+(C.map wt).sum∧L n k ((A.length:Nat):Int) (A ++ C)=some ((k':Int),l')
 | [],A,k,n,hn,_,_,_=>by
  obtain⟨n,rfl⟩ :∃m,n=m+1:=⟨n - 1,by simp at hn;omega⟩
  refine⟨k,A,by simp,?_⟩
  rw[List.append_nil,h0]
 | x :: C,A,k,n,hn,hl,hok,hk=>by
  simp only[List.length_cons,List.map_cons,List.sum_cons] at hn hl hk ⊢
  obtain⟨n,rfl⟩ :∃m,n=m+1:=⟨n - 1,by omega⟩
  obtain⟨k1,y,h1,h2⟩:=hs n k A x C (by omega) (hok x (by simp)) (by omega)
  obtain⟨k2,l',h3,h4⟩:=Rz L wt ok h0 hs C (A ++ [y]) k1 n (by omega) (by simp;omega) (fun z hz=>hok z (by simp[hz])) (by omega)
  refine⟨k2,l',by omega,?_⟩
  rw[h2,← h4]
  simp
theorem Mh {α:Type} {L:Nat→Int→Int→List α→Option (Int×List α)} {wt:α→Nat} {ok:α→Prop}
  (h0 :∀n k l,L (n+1) k ((l.length:Nat):Int) l=some (k,l))
  (hs :∀n (k:Nat) (A:List α) (x:α) (C:List α),A.length+C.length≤1048576→ok x→k+wt x≤20000000→∃(k':Nat) (y:α),k'≤k+wt x∧L (n+1) k ((A.length:Nat):Int) (A ++ x :: C)=L n k' ((A.length+1:Nat):Int) (A ++ y :: C))
  {l:List α} {k N:Nat} (hN:2000000≤N) (hl:l.length≤1048576) (hok :∀x∈l,ok x) (hk:k+(l.map wt).sum≤20000000) :∃(k':Nat) (l':List α),k'≤k+(l.map wt).sum∧L N k 0 l=some ((k':Int),l'):=
 Rz L wt ok h0 hs l [] k N (by omega) (by simp;omega) hok hk
theorem Ts {l:List By} {k N:Nat} (hN:2000000≤N) (hl:l.length≤1048576) (hok :∀c∈l,cz c≤1048576) (hk:k+(l.map cz).sum≤20000000) :∃(k':Nat) (l':List By),k'≤k+(l.map cz).sum∧G8 N l k=some ((k':Int),l'):=by
 obtain⟨k',l',h1,h2⟩:=Mh (L:=Dn N) (wt:=cz) (ok:=fun c=>cz c≤1048576) (fun n k l=>by rw[Dn,if_neg (by simp[AK])]) (fun n k A x C hA hx hk=>by
  rw[Dn,if_pos (by simp[AK];omega),Fq]
  simp only[Option.bind_some]
  rw[Eb hx (by omega) hN]
  simp only[Option.bind_some,FP]
  rw[Fx (by omega)]
  exact⟨_,_,Nat.le_refl _,rfl⟩) hN hl hok hk
 refine⟨k',l',h1,?_⟩
 unfold G8
 rw[h2];rfl
def YE (d:An):Nat:=2+(d.cons.map cz).sum
theorem Sv {l:List An} {k N:Nat} (hN:2000000≤N) (hl:l.length≤1048576) (hok :∀d∈l,dz d≤1048576) (hk:k+(l.map YE).sum≤20000000) :∃(k':Nat) (l':List An),k'≤k+(l.map YE).sum∧Gj N l k=some ((k':Int),l'):=by
 obtain⟨k',l',h1,h2⟩:=Mh (L:=DP N) (wt:=YE) (ok:=fun d=>dz d≤1048576) (fun n k l=>by rw[DP,if_neg (by simp[AK])]) (fun n k A x C hA hx hk=>by
  unfold dz at hx
  unfold YE at hk ⊢
  obtain⟨k1,l1,g1,g2⟩:=Ts (l:=x.cons) (k:=k+1+1) hN (by omega) (fun c hc=>by have:=EZ cz hc;omega) (by omega)
  rw[DP,if_pos (by simp[AK];omega),Fx (n:=k) (by omega),Fx (n:=k+1) (by omega),Fx (n:=A.length) (by omega)]
  simp only[Fq,FP,Option.bind_some]
  rw[g2]
  simp only[Option.bind_some]
  exact⟨k1,_,by omega,rfl⟩) hN hl hok hk
 refine⟨k',l',h1,?_⟩
 unfold Gj
 rw[h2];rfl
def VF (i:Ag):Nat:=4+iz i
theorem RY {l:List Ag} {k N:Nat} (hN:2000000≤N) (hl:l.length≤1048576) (hok :∀d∈l,iz d≤1048576) (hk:k+(l.map VF).sum≤20000000) :∃(k':Nat) (l':List Ag),k'≤k+(l.map VF).sum∧GJ N l k=some ((k':Int),l'):=by
 obtain⟨k',l',h1,h2⟩:=Mh (L:=C5 N) (wt:=VF) (ok:=fun d=>iz d≤1048576) (fun n k l=>by rw[C5,if_neg (by simp[AK])]) (fun n k A x C hA hx hk=>by
  unfold iz at hx
  unfold VF iz at hk ⊢
  rw[C5,if_pos (by simp[AK];omega),Fx (n:=k) (by omega),Fx (n:=k+1) (by omega),Fx (n:=k+1+1) (by omega),Fx (n:=k+1+1+1) (by omega),Fx (n:=A.length) (by omega)]
  simp only[Fq,FP,Option.bind_some]
  rw[Eb (by omega) (by omega) hN]
  simp only[Fq,FP,Option.bind_some]
  rw[Eb (by omega) (by omega) hN]
  simp only[FP,Option.bind_some]
  exact⟨_,_,by omega,rfl⟩) hN hl hok hk
 refine⟨k',l',h1,?_⟩
 unfold GJ
 rw[h2];rfl
def Xa (p:A0):Nat:=2+(p.params.length+p.BH.length+(p.code.map VF).sum)
theorem bU (p:A0):(p.code.map VF).sum≤4 * p.code.length+(p.code.map iz).sum:=by
 have:=O7 (f:=VF) (g:=iz) (a:=4) (b:=1) (l:=p.code) fun x _=>by unfold VF;omega
 omega
theorem Sc {l:List A0} {k N:Nat} (hN:2000000≤N) (hl:l.length≤1048576) (hok :∀d∈l,pz d≤1048576) (hk:k+(l.map Xa).sum≤20000000) :∃(k':Nat) (l':List A0),k'≤k+(l.map Xa).sum∧Gi N l k=some ((k':Int),l'):=by
 obtain⟨k',l',h1,h2⟩:=Mh (L:=DN N) (wt:=Xa) (ok:=fun d=>pz d≤1048576) (fun n k l=>by rw[DN,if_neg (by simp[AK])]) (fun n k A x C hA hx hk=>by
  unfold pz at hx
  unfold Xa at hk ⊢
  obtain⟨k1,l1,g1,g2⟩:=RY (l:=x.code) (k:=k+x.params.length+x.BH.length+1+1) hN (by omega) (fun c hc=>by have:=EZ iz hc;omega) (by omega)
  rw[DN,if_pos (by simp[AK];omega),Fx (n:=A.length) (by omega)]
  simp only[Fq,FP,Option.bind_some]
  rw[Eb (by omega) (by omega) hN]
  simp only[Fq,FP,Option.bind_some]
  rw[Eb (by omega) (by omega) hN]
  simp only[Fq,FP,Option.bind_some]
  rw[Fx (by omega),Fx (by omega),g2]
  simp only[FP,Option.bind_some]
  exact⟨k1,_,by omega,rfl⟩) hN hl hok hk
 refine⟨k',l',h1,?_⟩
 unfold Gi
 rw[h2];rfl
end RC

