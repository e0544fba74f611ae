import Derived.Test.YtcegihniiokijaaGreatGXNJToXNL

namespace RC
open Go
theorem VO {α:Type} (L:Nat→Int→Int→List α→Option (Int×List α)) (H:List α→Nat→Int→Int→Option (Int ⊕ Int)) (wt:α→Nat) (ok:α→Prop)
  (h0 :∀n k l,L (n+1) k ((l.length:Nat):Int) l=some (k,l)) (g0 :∀l n k,H l (n+1) k ((l.length:Nat):Int)=some (.inr k))
  (hs :∀n (k:Nat) (A:List α) (x:α) (C:List α),A.length+C.length≤1048576→ok x→k+wt x≤20000000→∃(k':Nat) (y:α),k'≤k+wt x∧L (n+1) k ((A.length:Nat):Int) (A ++ x :: C)=L n k' ((A.length+1:Nat):Int) (A ++ y :: C)∧∀m E,H (A ++ y :: E) (m+1) k ((A.length:Nat):Int)=H (A ++ y :: E) m k' ((A.length+1:Nat):Int)) :
  ∀(C A:List α) (k n:Nat),C.length < n→A.length+C.length≤1048576→(∀x∈C,ok x)→k+(C.map wt).sum≤20000000→∃(k':Nat) (C':List α),k'≤k+(C.map wt).sum∧L n k ((A.length:Nat):Int) (A ++ C)=some ((k':Int),A ++ C')∧∀m,C.length < m→H (A ++ C') m k ((A.length:Nat):Int)=some (.inr (k':Int))
 | [],A,k,n,hn,_,_,_=>by
  obtain⟨n,rfl⟩ :∃m,n=m+1:=⟨n - 1,by simp at hn;omega⟩
  refine⟨k,[],by simp,?_,fun m hm=>?_⟩
  ·rw[List.append_nil,h0]
  ·obtain⟨m,rfl⟩ :∃q,m=q+1:=⟨m - 1,by simp at hm;omega⟩
   rw[List.append_nil,g0]
 | x :: C,A,k,n,hn,hl,hok,hk=>by
  simp only[List.length_cons,List.map_cons,List.sum_cons] at hn hl hk ⊢
  obtain⟨n,rfl⟩ :∃m,n=m+1:=⟨n - 1,by omega⟩
  obtain⟨k1,y,h1,h2,h5⟩:=hs n k A x C (by omega) (hok x (by simp)) (by omega)
  obtain⟨k2,C',h3,h4,h6⟩:=VO L H wt ok h0 g0 hs C (A ++ [y]) k1 n (by omega) (by simp;omega) (fun z hz=>hok z (by simp[hz])) (by omega)
  refine⟨k2,y :: C',by omega,?_,fun m hm=>?_⟩
  ·rw[h2]
   simpa using h4
  ·obtain⟨m,rfl⟩ :∃q,m=q+1:=⟨m - 1,by omega⟩
   rw[h5]
   have:=h6 m (by omega)
   simpa using this
theorem RR {α:Type} {L:Nat→Int→Int→List α→Option (Int×List α)} {H:List α→Nat→Int→Int→Option (Int ⊕ Int)} {wt:α→Nat} {ok:α→Prop}
  (h0 :∀n k l,L (n+1) k ((l.length:Nat):Int) l=some (k,l)) (g0 :∀l n k,H l (n+1) k ((l.length:Nat):Int)=some (.inr k))
  (hs :∀n (k:Nat) (A:List α) (x:α) (C:List α),A.length+C.length≤1048576→ok x→k+wt x≤20000000→∃(k':Nat) (y:α),k'≤k+wt x∧L (n+1) k ((A.length:Nat):Int) (A ++ x :: C)=L n k' ((A.length+1:Nat):Int) (A ++ y :: C)∧∀m E,H (A ++ y :: E) (m+1) k ((A.length:Nat):Int)=H (A ++ y :: E) m k' ((A.length+1:Nat):Int))
  {l:List α} {k N:Nat} (hN:2000000≤N) (hl:l.length≤1048576) (hok :∀x∈l,ok x) (hk:k+(l.map wt).sum≤20000000) :∃(k':Nat) (l':List α),k'≤k+(l.map wt).sum∧L N k 0 l=some ((k':Int),l')∧H l' N k 0=some (.inr (k':Int)):=by
 obtain⟨k',l',h1,h2,h3⟩:=VO L H wt ok h0 g0 hs l [] k N (by omega) (by simp;omega) hok hk
 exact⟨k',l',h1,h2,h3 N (by omega)⟩
theorem Zd {l:List BO} {k N:Nat} (hN:2000000≤N) (hl:l.length≤1048576) (hok :∀c∈l,cz c≤1048576) (hk:k+(l.map cz).sum≤20000000) :∃(k':Nat) (l':List BO),k'≤k+(l.map cz).sum∧G7 N l k=some ((k':Int),l')∧G5 N l' k=some (k':Int):=by
 obtain⟨k',l',h1,h2,h3⟩:=RR (L:=Dv N) (H:=Ds N) (wt:=cz) (ok:=fun c=>cz c≤1048576) (fun n k l=>by rw[Dv,if_neg (by simp[AU])]) (fun l n k=>by rw[Ds,if_neg (by simp[AU])]) (fun n k A x C hA hx hk=>by
  refine⟨k+cz x,⟨J4 k (cz x)⟩,Nat.le_refl _,?_,fun m E=>?_⟩
  ·rw[Dv,if_pos (by simp[AU];omega),EE]
   simp only[Option.bind_some]
   rw[Jr hx (by omega) hN]
   simp only[Option.bind_some,FX]
   rw[Dw (by omega)];rfl
  ·rw[Ds,if_pos (by simp[AU];omega),EE]
   simp only[Option.bind_some]
   rw[Js hx (by omega) hN]
   simp only[Option.bind_some]
   rw[if_neg (by simp <;> omega),Dw (by omega)]) hN hl hok hk
 refine⟨k',l',h1,?_,?_⟩
 ·unfold G7
  rw[h2];rfl
 ·unfold G5
  rw[h3];rfl
theorem Yq {l:List Ag} {k N:Nat} (hN:2000000≤N) (hl:l.length≤1048576) (hok :∀d∈l,dz d≤1048576) (hk:k+(l.map Xn).sum≤20000000) :∃(k':Nat) (l':List Ag),k'≤k+(l.map Xn).sum∧GZ N l k=some ((k':Int),l')∧Gc N l' k=some (k':Int):=by
 obtain⟨k',l',h1,h2,h3⟩:=RR (L:=DY N) (H:=DT N) (wt:=Xn) (ok:=fun d=>dz d≤1048576) (fun n k l=>by rw[DY,if_neg (by simp[AU])]) (fun l n k=>by rw[DT,if_neg (by simp[AU])]) (fun n k A x C hA hx hk=>by
  unfold dz at hx
  unfold Xn at hk ⊢
  obtain⟨k1,l1,g1,g2,g3⟩:=Zd (l:=x.cons) (k:=k+1+1) hN (by omega) (fun c hc=>by have:=E9 cz hc;omega) (by omega)
  refine⟨k1,⟨(k:Int),((k+1:Nat):Int),l1⟩,by omega,?_,fun m E=>?_⟩
  ·rw[DY,if_pos (by simp[AU];omega),Dw (n:=k) (by omega),Dw (n:=k+1) (by omega),Dw (n:=A.length) (by omega)]
   simp only[EE,FX,Option.bind_some]
   rw[g2]
   simp only[Option.bind_some]
  ·rw[DT,if_pos (by simp[AU];omega),EE]
   simp only[Option.bind_some]
   rw[Dw (n:=k) (by omega),Dw (n:=k+1) (by omega),Dw (n:=A.length) (by omega),g3]
   simp only[decide_true,Bool.not_true,Bool.false_eq_true,if_false,Option.bind_some]
   rw[if_neg (by simp <;> omega)]) hN hl hok hk
 refine⟨k',l',h1,?_,?_⟩
 ·unfold GZ
  rw[h2];rfl
 ·unfold Gc
  rw[h3];rfl
def MH (rec:List Step→Int→Option (Int×List Step)) (rech:List Step→Int→Option Int) (l:List Step):Prop:=∀k:Nat,k+Rw l≤20000000→∃(k':Nat) (l':List Step),k'≤k+Rw l∧rec l k=some ((k':Int),l')∧rech l' k=some (k':Int)
theorem XP {rec:List Step→Int→Option (Int×List Step)} {rech:List Step→Int→Option Int} {l:List Block} {k N:Nat} (hN:2000000≤N) (hl:l.length≤1048576) (hok :∀b∈l,MH rec rech b.steps) (hk:k+Sb l≤20000000) :∃(k':Nat) (l':List Block),k'≤k+Sb l∧GD N rec l k=some ((k':Int),l')∧F7 N rech l' k=some (k':Int):=by
 rw[Wt] at hk ⊢
 obtain⟨k',l',h1,h2,h3⟩:=RR (L:=C6 rec) (H:=fun l=>C4 l rech) (wt:=mb) (ok:=fun b=>MH rec rech b.steps) (fun n k l=>by rw[C6,if_neg (by simp[AU])]) (fun l n k=>by rw[C4,if_neg (by simp[AU])]) (fun n k A x C hA hx hk=>by
  rw[cL] at hk ⊢
  obtain⟨k1,l1,g1,g2,g3⟩:=hx k (by omega)
  refine⟨k1+1,⟨l1,(k1:Int)⟩,by omega,?_,fun m E=>?_⟩
  ·rw[C6,if_pos (by simp[AU];omega),Dw (n:=A.length) (by omega)]
   simp only[EE,FX,Option.bind_some]
   rw[g2]
   simp only[EE,FX,Option.bind_some]
   rw[Dw (n:=k1) (by omega)]
  ·rw[C4,if_pos (by simp[AU];omega),EE]
   simp only[Option.bind_some]
   rw[g3]
   simp only[decide_true,Bool.not_true,Bool.false_eq_true,if_false,Option.bind_some]
   rw[if_neg (by simp <;> omega),Dw (n:=k1) (by omega),Dw (n:=A.length) (by omega)]) hN hl hok hk
 refine⟨k',l',h1,?_,?_⟩
 ·unfold GD
  rw[h2];rfl
 ·unfold F7
  rw[h3];rfl
theorem V6 {N:Nat} (hN:2000000≤N) :∀(m:Nat) (l:List Step),l.length+Kl l≤1048576→l.length+Kl l < m→MH (DG N m) (DJ N m) l:=by
 intro m
 induction m with
 | zero=>intro l _ h;omega
 | succ m ih=>
  intro l hl hm k hk
  rw[WY] at hk ⊢
  rw[DG]
  unfold G0
  obtain⟨k',l',h1,h2,h3⟩:=RR (L:=Cn N (DG N m)) (H:=fun l=>Ci N l (DJ N m)) (wt:=ms) (ok:=fun s=>KF s≤1048576∧∀b∈s.kids,MH (DG N m) (DJ N m) b.steps) (fun n k l=>by rw[Cn,if_neg (by simp[AU])]) (fun l n k=>by rw[Ci,if_neg (by simp[AU])]) (fun n k A x C hA hx hk=>by
   have hz:=Jo x
   obtain⟨hx1,hx2⟩:=hx
   rw[cF] at hk ⊢
   obtain⟨o,nu,it,ar,kd⟩:=x
   simp only[Step.args,Step.kids] at hz hx2 hk ⊢
   have e1:=Jr (l:=ar) (by omega) (k:=k+1+1+1) (by omega) hN
   have e2:=Js (m:=ar.length) (by omega) (k:=k+1+1+1) (by omega) hN
   obtain⟨k1,l1,g1,g2,g3⟩:=XP (rec:=DG N m) (rech:=DJ N m) (l:=kd) (k:=k+1+1+1+ar.length) hN (by omega) hx2 (by omega)
   refine⟨k1,⟨(k:Int),((k+1:Nat):Int),((k+1+1:Nat):Int),J4 (k+1+1+1) ar.length,l1⟩,by omega,?_,fun q E=>?_⟩
   ·rw[Cn,if_pos (by simp[AU];omega),Dw (n:=k) (by omega),Dw (n:=k+1) (by omega),Dw (n:=k+1+1) (by omega),Dw (n:=A.length) (by omega)]
    simp only[EE,FX,Option.bind_some,Step.op,Step.num,Step.Ax,Step.args,Step.kids]
    rw[e1]
    simp only[EE,FX,Option.bind_some,Step.op,Step.num,Step.Ax,Step.args,Step.kids]
    rw[g2]
    simp only[Option.bind_some]
   ·rw[Ci,if_pos (by simp[AU];omega),EE]
    simp only[Option.bind_some,Step.op,Step.num,Step.Ax,Step.args,Step.kids]
    rw[Dw (n:=k) (by omega),Dw (n:=k+1) (by omega),Dw (n:=k+1+1) (by omega),Dw (n:=A.length) (by omega),e2]
    simp only[decide_true,Bool.not_true,Bool.false_eq_true,if_false,Option.bind_some]
    rw[if_neg (by simp <;> omega),g3]
    simp only[Option.bind_some]
    rw[if_neg (by simp <;> omega)]) hN (by omega) (fun s hs=>by
    have h1:=UK hs
    have h2:=List.length_pos_of_mem hs
    refine⟨by omega,fun b hb=>?_⟩
    have h3:=Lb hb
    rw[NK] at h3
    exact ih b.steps (by omega) (by omega)) hk
  refine⟨k',l',h1,?_,?_⟩
  ·rw[h2];rfl
  ·rw[DJ]
   unfold G3
   rw[h3];rfl
theorem YI {N:Nat} (hN:2000000≤N) {b:Block} (hb:Bs b):MH (Hu N) (Hq N) b.steps:=by
 unfold Bs at hb
 rw[NK] at hb
 unfold Hu Hq
 exact V6 hN N b.steps hb (by omega)
theorem U9 {l:List Ac} {k N:Nat} (hN:2000000≤N) (hl:l.length≤1048576) (hok :∀r∈l,Iw r≤1048576) (hk:k+(l.map Xz).sum≤20000000) :∃(k':Nat) (l':List Ac),k'≤k+(l.map Xz).sum∧FU N l k=some ((k':Int),l')∧FR N l' k=some (k':Int):=by
 obtain⟨k',l',h1,h2,h3⟩:=RR (L:=CW N) (H:=CT N) (wt:=Xz) (ok:=fun r=>Iw r≤1048576) (fun n k l=>by rw[CW,if_neg (by simp[AU])]) (fun l n k=>by rw[CT,if_neg (by simp[AU])]) (fun n k A x C hA hx hk=>by
  unfold Iw at hx
  unfold Xz at hk ⊢
  have e1:=Jr (l:=x.params) (by omega) (k:=k) (by omega) hN
  have e2:=Jr (l:=x.At) (by omega) (k:=k+x.params.length) (by omega) hN
  have f1:=Js (m:=x.params.length) (by omega) (k:=k) (by omega) hN
  have f2:=Js (m:=x.At.length) (by omega) (k:=k+x.params.length) (by omega) hN
  obtain⟨k1,l1,g1,g2,g3⟩:=YI hN (b:=x.body) (by unfold Bs;omega) (k+x.params.length+x.At.length+1) (by omega)
  refine⟨k1+1,⟨J4 k x.params.length,J4 (k+x.params.length) x.At.length,((k+x.params.length+x.At.length:Nat):Int),⟨l1,(k1:Int)⟩⟩,by omega,?_,fun m E=>?_⟩
  ·rw[CW,if_pos (by simp[AU];omega),Dw (n:=A.length) (by omega)]
   simp only[EE,FX,Option.bind_some]
   rw[e1]
   simp only[EE,FX,Option.bind_some]
   rw[e2]
   simp only[EE,FX,Option.bind_some]
   rw[Dw (n:=k+x.params.length+x.At.length) (by omega),g2]
   simp only[EE,FX,Option.bind_some]
   rw[Dw (n:=k1) (by omega)]
  ·rw[CT,if_pos (by simp[AU];omega),EE,Dw (n:=A.length) (by omega)]
   simp only[Option.bind_some]
   rw[f1]
   simp only[Option.bind_some]
   rw[if_neg (by simp <;> omega),f2]
   simp only[Option.bind_some]
   rw[if_neg (by simp <;> omega),Dw (n:=k+x.params.length+x.At.length) (by omega),g3]
   simp only[decide_true,Bool.not_true,Bool.false_eq_true,if_false,Option.bind_some]
   rw[if_neg (by simp <;> omega),Dw (n:=k1) (by omega)]) hN hl hok hk
 refine⟨k',l',h1,?_,?_⟩
 ·unfold FU
  rw[h2];rfl
 ·unfold FR
  rw[h3];rfl
theorem TC {n:Aj} (hn:Ki n≤1048576) {N:Nat} (hN:2000000≤N) :∃(k:Nat) (d:List Ag) (r:List Ac),FG N n.decls n.AD 1=some ((k:Int),d,r)∧FI N ⟨d,r⟩ 1=some (k:Int):=by
 unfold Ki at hn
 have s1:(n.decls.map Xn).sum≤2 * n.decls.length+1 * (n.decls.map dz).sum:=TX fun d _=>by unfold Xn dz;omega
 have s2:(n.AD.map Xz).sum≤2 * n.AD.length+3 * (n.AD.map Iw).sum:=TX fun r _=>by
  have:=TT r.body.steps
  unfold Xz Iw
  rw[NK];omega
 obtain⟨k1,d,g1,g2,g3⟩:=Yq (l:=n.decls) (k:=1) hN (by omega) (fun d hd=>by have:=E9 dz hd;omega) (by omega)
 obtain⟨k2,r,g4,g5,g6⟩:=U9 (l:=n.AD) (k:=k1) hN (by omega) (fun d hd=>by have:=E9 Iw hd;omega) (by omega)
 refine⟨k2,d,r,?_,?_⟩
 ·unfold FG
  rw[show (1:Int)=((1:Nat):Int) from rfl,g2]
  simp only[Option.bind_some]
  rw[g5];rfl
 ·unfold FI
  rw[show (1:Int)=((1:Nat):Int) from rfl,g3]
  simp only[Option.bind_some]
  rw[if_neg (by simp <;> omega),g6]
  simp only[Option.bind_some]
  rw[if_neg (by simp <;> omega)]
theorem My {n:Aj} (H:Li n):Fw 2000000 n=some true:=by
 have hN:(2000000:Nat)≤2000000:=Nat.le_refl _
 unfold Fw
 rw[UD H (by omega) (by omega) hN]
 simp only[Option.bind_some]
 by_cases h:(1048576:Int) - (Ki n:Int) < 0
 ·rw[EC h];rfl
 ·rw[Fj h]
  have hz:Ki n≤1048576:=by omega
  have S:HI n:=⟨H,hz⟩
  obtain⟨_,b,_,hp,h1,h2⟩:=Sj S hN
  have w1:=Qf S hN h1
  have w2:=Qu S hN h2 (fun e=>(hp e).2)
  generalize hg:(if b then (Ya n,true) else (Aj.mk [] [],false))=g at w1 w2
  have gz:Ki g.1≤1048576:=by
   subst hg
   cases b
   ·simp[Ki]
   ·exact Nat.le_trans Xe hz
  obtain⟨k,d,r,m1,_⟩:=TC hz hN
  obtain⟨k2,d2,r2,m2,m3⟩:=TC gz hN
  rw[if_neg (by simpa using h),Td hz hN]
  simp only[Option.bind_some]
  rw[w1]
  simp only[Option.bind_some]
  rw[w2]
  simp only[Option.bind_some]
  rw[PJ gz hN,PJ hz hN,m1,m2]
  have hk:¬ (k:Int) < 0:=by omega
  have hh:¬ (k2:Int) < 0:=by omega
  simp only[hk,hh,decide_false,decide_true,Bool.not_true,Bool.false_eq_true,if_false,Option.bind_some,bne_self_eq_false,m3]
end RC

