import Derived.Test.YtobjlimoekffaaaGreatGEncCToGCDefs
import Derived.Test.YtobjlimoekffaaaGreatIVG
import Derived.Test.YtobjlimoekffaaaGreatIWD

namespace RC
open Go
theorem ca {A B C:Option Bool} {T:Bool} (h:(Option.bind A fun t=>if t=true then some false else Option.bind B fun t=>if t=true then some false else Option.bind C fun t=>if t=true then some false else some T)=some true):T=true:=by
 cases A with
 | none=>cases h
 | some a=>
  cases a with
  | true=>cases h
  | false=>
   cases B with
   | none=>cases h
   | some b=>
    cases b with
    | true=>cases h
    | false=>
     cases C with
     | none=>cases h
     | some c=>
      cases c with
      | true=>cases h
      | false=>simpa using h
theorem Oa {im:Au} (S:Eo im) {s:Av} (Q:IU s) {N:Nat} (hN:2000000≤N) (h:B2 N im s=some true) :
  Sy N im=true∧∀i,i < s.AT.length→okF im s i=true:=by
 unfold B2 at h
 rw[Ns S Q hN,V4,NM S hN] at h
 have hT:=ca h
 simp only[Bool.and_eq_true] at hT
 refine⟨?_,fun i hi=>G9.1 hT.1 i hi⟩
 cases hv:Sy N im with
 | true=>rfl
 | false=>rw[hv] at h;simp at h
theorem Qi {im:Au} (S:Eo im) {s:Av} (Q:IU s) {N:Nat} (hN:2000000≤N) :∃b,B2 N im s=some b∧FM N im s=some b:=by
 obtain⟨b,h1,h2⟩:=Pq S Q hN
 unfold I1 at h1
 cases h:B2 N im s with
 | none=>rw[h] at h1;cases h1
 | some c=>rw[h] at h1;simp only[Option.bind_some,Option.some.injEq] at h1;subst h1;exact⟨c,rfl,h2⟩
def YD (f:Ai):Nat:=3+fz f
theorem RD {l:List Ai} {k N:Nat} (hN:2000000≤N) (hl:l.length≤1048576) (hok :∀d∈l,fz d≤1048576) (hk:k+(l.map YD).sum≤20000000) :∃(k':Nat) (l':List Ai),k'≤k+(l.map YD).sum∧F3 N l k=some ((k':Int),l'):=by
 obtain⟨k',l',h1,h2⟩:=Mh (L:=DA N) (wt:=YD) (ok:=fun d=>fz d≤1048576) (fun n k l=>by rw[DA,if_neg (by simp[AK])]) (fun n k A x C hA hx hk=>by
  unfold fz at hx
  unfold YD fz at hk ⊢
  rw[DA,if_pos (by simp[AK];omega),Fx (n:=k) (by omega),Fx (n:=k+1) (by omega),Fx (n:=k+1+1) (by omega),Fx (n:=A.length) (by omega)]
  simp only[Fq,FP,Option.bind_some]
  rw[Eb (by omega) (by omega) hN]
  simp only[Fq,FP,Option.bind_some]
  rw[Eb (by omega) (by omega) hN]
  simp only[Fq,FP,Option.bind_some]
  rw[Eb (by omega) (by omega) hN]
  simp only[FP,Option.bind_some]
  exact⟨_,_,by omega,rfl⟩) hN hl hok hk
 refine⟨k',l',h1,?_⟩
 unfold F3
 rw[h2];rfl
theorem Sk {s:Av} (Q:IU s) {k:Nat} (hk:k≤10000000) {N:Nat} (hN:2000000≤N) {a b c d:Int} :∃(k':Nat) (r:List Int×List Cell×List Ai),Gl N s.out s.heap s.AT a b c d k=some ((k':Int),r.1,r.2.1,r.2.2):=by
 have hz:=Q.size
 have hol:s.out.length≤1048576:=by unfold KC at hz;omega
 have hf :∀f∈s.AT,fz f≤1048576:=fun f hf=>Q.fz hf
 have b1:=O7 (f:=YD) (g:=fz) (a:=3) (b:=1) (l:=s.AT) fun d _=>by unfold YD;omega
 have hc:=XJ Q.hp
 obtain⟨k2,l2,g1,g2⟩:=RD (l:=s.AT) (k:=k+s.out.length+Ql s.heap) hN Q.fl hf (by unfold KC at hz;omega)
 refine⟨k2,(KL k s.out.length,PG (k+s.out.length) s.heap,l2),?_⟩
 unfold Gl
 rw[Eb hol (by omega) hN]
 simp only[Option.bind_some]
 rw[Si Q.hp (by omega) hN]
 simp only[Option.bind_some]
 rw[g2];rfl
theorem Sb {x:Au} (h:Lx x≤1048576) {N:Nat} (hN:2000000≤N) :∃(k:Nat) (r:List An×List A0),k≤10000000∧Gh N x.decls x.procs 1=some ((k:Int),r.1,r.2):=by
 have hd :∀d∈x.decls,dz d≤1048576:=fun d hd=>by have:=EZ dz hd;unfold Lx at h;omega
 have hp :∀p∈x.procs,pz p≤1048576:=fun p hp=>by have:=EZ pz hp;unfold Lx at h;omega
 have b1:=O7 (f:=YE) (g:=dz) (a:=2) (b:=1) (l:=x.decls) fun d _=>by unfold YE dz;omega
 have b2:=O7 (f:=Xa) (g:=pz) (a:=2) (b:=4) (l:=x.procs) fun p _=>by have:=bU p;unfold Xa pz;omega
 unfold Lx at h
 obtain⟨k1,l1,g1,g2⟩:=Sv (l:=x.decls) (k:=1) hN (by omega) hd (by omega)
 obtain⟨k2,l2,g3,g4⟩:=Sc (l:=x.procs) (k:=k1) hN (by omega) hp (by omega)
 refine⟨k2,(l1,l2),by omega,?_⟩
 unfold Gh
 rw[show ((1:Nat):Int)=1 from rfl] at g2
 rw[g2]
 simp only[Option.bind_some]
 rw[g4];rfl
end RC

