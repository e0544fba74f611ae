import Derived.Test.YtobjlimoekffaaaGreatGEncCToNCDefs
import Derived.Test.YtobjlimoekffaaaGreatIVG
import Derived.Test.YtobjlimoekffaaaGreatIWD

namespace RC
open Go
theorem bC {A B C:Option Bool} {T:Bool} (h:(Option.bind A fun t=>if t=true then some false else Option.bind B fun t=>if t=true then some false else Option.bind C fun t=>if t=true then some false else some T)=some true):T=true:=by
 cases A with
 | none=>cases h
 | some a=>
  cases a with
  | true=>cases h
  | false=>
   cases B with
   | none=>cases h
   | some b=>
    cases b with
    | true=>cases h
    | false=>
     cases C with
     | none=>cases h
     | some c=>
      cases c with
      | true=>cases h
      | false=>simpa using h
theorem O5 {im:At} (S:Ej im) {s:Ay} (Q:Il s) {N:Nat} (hN:2000000≤N) (h:B3 N im s=some true) :
  Sj N im=true∧∀i,i < s.AT.length→okF im s i=true:=by
 unfold B3 at h
 rw[OK S Q hN,Wr,Mr S hN] at h
 have hT:=bC h
 simp only[Bool.and_eq_true] at hT
 refine⟨?_,fun i hi=>G2.1 hT.1 i hi⟩
 cases hv:Sj N im with
 | true=>rfl
 | false=>rw[hv] at h;simp at h
theorem Qc {im:At} (S:Ej im) {s:Ay} (Q:Il s) {N:Nat} (hN:2000000≤N) :∃b,B3 N im s=some b∧FI N im s=some b:=by
 obtain⟨b,h1,h2⟩:=P0 S Q hN
 unfold Iv at h1
 cases h:B3 N im s with
 | none=>rw[h] at h1;cases h1
 | some c=>rw[h] at h1;simp only[Option.bind_some,Option.some.injEq] at h1;subst h1;exact⟨c,rfl,h2⟩
def Xh (f:Ah):Nat:=3+fz f
theorem Rg {l:List Ah} {k N:Nat} (hN:2000000≤N) (hl:l.length≤1048576) (hok :∀d∈l,fz d≤1048576) (hk:k+(l.map Xh).sum≤20000000) :∃(k':Nat) (l':List Ah),k'≤k+(l.map Xh).sum∧Fw N l k=some ((k':Int),l'):=by
 obtain⟨k',l',h1,h2⟩:=MC (L:=C7 N) (wt:=Xh) (ok:=fun d=>fz d≤1048576) (fun n k l=>by rw[C7,if_neg (by simp[AK])]) (fun n k A x C hA hx hk=>by
  unfold fz at hx
  unfold Xh fz at hk ⊢
  rw[C7,if_pos (by simp[AK];omega),Fs (n:=k) (by omega),Fs (n:=k+1) (by omega),Fs (n:=k+1+1) (by omega),Fs (n:=A.length) (by omega)]
  simp only[Fc,FO,Option.bind_some]
  rw[EW (by omega) (by omega) hN]
  simp only[Fc,FO,Option.bind_some]
  rw[EW (by omega) (by omega) hN]
  simp only[Fc,FO,Option.bind_some]
  rw[EW (by omega) (by omega) hN]
  simp only[FO,Option.bind_some]
  exact⟨_,_,by omega,rfl⟩) hN hl hok hk
 refine⟨k',l',h1,?_⟩
 unfold Fw
 rw[h2];rfl
theorem Sb {s:Ay} (Q:Il s) {k:Nat} (hk:k≤10000000) {N:Nat} (hN:2000000≤N) {a b c d:Int} :∃(k':Nat) (r:List Int×List Cell×List Ah),GY N s.out s.heap s.AT a b c d k=some ((k':Int),r.1,r.2.1,r.2.2):=by
 have hz:=Q.size
 have hol:s.out.length≤1048576:=by unfold J4 at hz;omega
 have hf :∀f∈s.AT,fz f≤1048576:=fun f hf=>Q.fz hf
 have b1:=Ot (f:=Xh) (g:=fz) (a:=3) (b:=1) (l:=s.AT) fun d _=>by unfold Xh;omega
 have hc:=Wy Q.hp
 obtain⟨k2,l2,g1,g2⟩:=Rg (l:=s.AT) (k:=k+s.out.length+Qb s.heap) hN Q.fl hf (by unfold J4 at hz;omega)
 refine⟨k2,(J9 k s.out.length,P2 (k+s.out.length) s.heap,l2),?_⟩
 unfold GY
 rw[EW hol (by omega) hN]
 simp only[Option.bind_some]
 rw[Sg Q.hp (by omega) hN]
 simp only[Option.bind_some]
 rw[g2];rfl
theorem Sk {x:At} (h:Lo x≤1048576) {N:Nat} (hN:2000000≤N) :∃(k:Nat) (r:List Am×List A0),k≤10000000∧GV N x.decls x.procs 1=some ((k:Int),r.1,r.2):=by
 have hd :∀d∈x.decls,dz d≤1048576:=fun d hd=>by have:=EX dz hd;unfold Lo at h;omega
 have hp :∀p∈x.procs,pz p≤1048576:=fun p hp=>by have:=EX pz hp;unfold Lo at h;omega
 have b1:=Ot (f:=XO) (g:=dz) (a:=2) (b:=1) (l:=x.decls) fun d _=>by unfold XO dz;omega
 have b2:=Ot (f:=Xd) (g:=pz) (a:=2) (b:=4) (l:=x.procs) fun p _=>by have:=bk p;unfold Xd pz;omega
 unfold Lo at h
 obtain⟨k1,l1,g1,g2⟩:=SM (l:=x.decls) (k:=1) hN (by omega) hd (by omega)
 obtain⟨k2,l2,g3,g4⟩:=SY (l:=x.procs) (k:=k1) hN (by omega) hp (by omega)
 refine⟨k2,(l1,l2),by omega,?_⟩
 unfold GV
 rw[show ((1:Nat):Int)=1 from rfl] at g2
 rw[g2]
 simp only[Option.bind_some]
 rw[g4];rfl
end RC

