import Derived.Test.YtpahalfiiahddaaGYGFToUGDefs
import Derived.Test.YtpahalfiiahddaaGHMCToXOG
import Derived.Test.YtpahalfiiahddaaGHADefsToFIDefs

namespace RC
open Go
theorem RU {p:Af} {F:Nat} (P:PO p F) {k:Nat} (hk:k < F) {N:Nat} (hN:2000000≤N) (hv:B7 N p=some true):Dh N p (k:Int)=some (cl p F k):=by
 obtain⟨g,hg,_⟩:=Bj (l:=p.funcs) (i:=k) (by rw[P.len];omega)
 unfold Dh
 rw[hv]
 have b1:decide ((k:Int) < 0)=false:=decide_eq_false (by omega)
 have b2:decide ((F:Int)≤(k:Int))=false:=decide_eq_false (by omega)
 simp only[Option.bind_some,Bool.not_true,Bool.false_eq_true,if_false,b1,AT,P.len,b2]
 rw[IY P hg hN]
 simp only[Option.bind_some]
 rw[Jy P hN];rfl
theorem XG {l:List Int} {x:Int} (hl:l.length≤1048576) {N i:Nat} (hi:i≤l.length) (hN:l.length - i < N):En l x N i=some (if x∈l.drop i then Sum.inl true else Sum.inr ()):=by
 refine BX l.length (fun N i=>En l x N i=some (if x∈l.drop i then Sum.inl true else Sum.inr ())) ?_ ?_ hi hN
 ·intro n;rw[En,if_neg (by simp[AT])];simp
 ·intro n i hi ih
  obtain⟨y,hy,_⟩:=Bj hi
  rw[En,if_pos (by simp[AT];omega),BB hy,drop_cons hy]
  simp only[Option.bind_some,List.mem_cons]
  rw[BI (by omega) (by omega),show ((i:Int) + 1)=((i+1:Nat):Int) by omega]
  by_cases h:y=x
  ·simp[h]
  ·have h':¬ x=y:=fun e=>h e.symm
   rw[if_neg (by simpa using h),ih]
   simp[h']
theorem Z4 {l:List Int} {x:Int} (hl:l.length≤1048576) {N:Nat} (hN:2000000≤N):JI N l x=some (decide (x∈l)):=by
 unfold JI
 have:=XG (x:=x) hl (Nat.zero_le _) (by omega:l.length - 0 < N)
 rw[show ((0:Nat):Int)=0 from rfl,List.drop_zero] at this
 rw[this]
 by_cases h:x∈l <;> simp[h,Sh.cont]
open Classical in
theorem Qv {p:Af} {F:Nat} (P:PO p F) {f:Int} {N:Nat} (hN:2000000≤N) (hs:C4 N p=some true) (hv:B7 N p=some true) :∃b,Dg N p f=some b∧EC N p f=some b∧(∀k:Nat,f=(k:Int)→k < F→b=(decide (0 < k) && Ch (fun _ c=>decide (¬ Re p F c.toNat k)) 0 (cl p F k))):=by
 have hF:=P.le
 unfold Dg EC GH
 rw[hs,hv]
 simp only[Option.bind_some,if_true,Bool.not_true,Bool.false_eq_true,if_false,AT,P.len]
 rw[DL,BI (n:=(F:Int) - 1) (by omega) (by omega)]
 simp only[Option.bind_some]
 by_cases h1:f < 1
 ·have:¬ (1≤f):=by omega
  exact⟨false,by simp[this],by simp[h1],fun k hk _=>(by rw[show decide (0 < k)=false from decide_eq_false (by omega)];rfl)⟩
 ·by_cases h2:(F:Int)≤f
  ·have:¬ (f≤(F:Int) - 1):=by omega
   exact⟨false,by simp[this],by simp[h2],fun k hk hk2=>absurd hk (by omega)⟩
  ·obtain⟨k,rfl⟩:=Int.eq_ofNat_of_zero_le (by omega:0≤f)
   have hk:k < F:=by omega
   obtain⟨g,hg,_⟩:=Bj (l:=p.funcs) (i:=k) (by rw[P.len];omega)
   have c1:(1:Int)≤(k:Int):=by omega
   have c2:(k:Int)≤(F:Int) - 1:=by omega
   have hl:=Ng (p:=p) (F:=F) (k:=k)
   have L1:=DF (l:=cl p F k) (CH N p (k:Int) (cl p F k)) (fun _ c=>decide (¬ Re p F c.toNat k)) (fun n=>by rw[CH,if_neg (by simp[AT])]) (fun n i c hc=>by
    have hil:=(List.getElem?_eq_some_iff.1 hc).1
    have hcF:=Lv P c (List.mem_of_getElem? hc)
    obtain⟨j,rfl⟩:=Int.eq_ofNat_of_zero_le hcF.1
    obtain⟨m,a1,a2⟩:=K0 P (c:=j) (by omega) hN
    rw[CH,if_pos (by simp[AT];omega),BB hc]
    simp only[Option.bind_some]
    rw[a1]
    simp only[Option.bind_some]
    rw[Q3 (by omega) hk hN,BI (n:=(i:Int) + 1) (by omega) (by omega),show ((i:Int) + 1)=((i+1:Nat):Int) by omega]
    simp only[Option.bind_some,Int.toNat_natCast]
    have:=a2 k hk
    by_cases hr:Re p F j k
    ·simp[this.2 hr,hr]
    ·have:m k=false:=by
      cases hm:m k with
      | false=>rfl
      | true=>exact absurd (this.1 hm) hr
     simp[this,hr]) (by omega:(cl p F k).length < N)
   have L2:=DF (l:=cl p F k) (CG N p (k:Int) (cl p F k)) (fun _ c=>decide (¬ Re p F c.toNat k)) (fun n=>by rw[CG,if_neg (by simp[AT])]) (fun n i c hc=>by
    have hil:=(List.getElem?_eq_some_iff.1 hc).1
    have hcF:=Lv P c (List.mem_of_getElem? hc)
    obtain⟨j,rfl⟩:=Int.eq_ofNat_of_zero_le hcF.1
    obtain⟨m,a1,a2⟩:=Ix P (c:=j) (by omega) hN hv
    rw[CG,if_pos (by simp[AT];omega),BB hc]
    simp only[Option.bind_some]
    rw[a1]
    simp only[Option.bind_some]
    rw[Nd (by rw[Hm];have:=MM m F 0;omega) hN,BI (n:=(i:Int) + 1) (by omega) (by omega),show ((i:Int) + 1)=((i+1:Nat):Int) by omega]
    simp only[Option.bind_some,Int.toNat_natCast,mem_mk hk]
    have:=a2 k hk
    by_cases hr:Re p F j k
    ·simp[this.2 hr,hr]
    ·have:m k=false:=by
      cases hm:m k with
      | false=>rfl
      | true=>exact absurd (this.1 hm) hr
     simp[this,hr]) (by omega:(cl p F k).length < N)
   have hco:Dh N p (k:Int)=some (cl p F k):=by
    unfold Dh
    rw[hv]
    have b1:decide ((k:Int) < 0)=false:=decide_eq_false (by omega)
    have b2:decide ((F:Int)≤(k:Int))=false:=decide_eq_false (by omega)
    simp only[Option.bind_some,Bool.not_true,Bool.false_eq_true,if_false,b1,AT,P.len,b2]
    rw[IY P hg hN]
    simp only[Option.bind_some]
    rw[Jy P hN];rfl
   refine⟨Ch (fun _ c=>decide (¬ Re p F c.toNat k)) 0 (cl p F k),?_,?_,fun j hj _=>(by have e:j=k:=(by omega);subst e;rw[show decide (0 < j)=true from decide_eq_true (by omega)];rfl)⟩
   ·simp only[c1,c2,decide_true,Bool.and_true,Bool.not_true,Bool.false_eq_true,if_false]
    rw[BB hg]
    simp only[Option.bind_some]
    rw[J5 P hg hN]
    simp only[Option.bind_some]
    rw[L1,DE]
    cases Ch (fun (_:Nat) (c:Int)=>decide (¬ Re p F c.toNat k)) 0 (cl p F k) <;> rfl
   ·simp only[h1,h2,decide_false,Bool.false_eq_true,if_false,Option.bind_some]
    rw[hco]
    simp only[Option.bind_some]
    rw[L2,DE]
    cases Ch (fun (_:Nat) (c:Int)=>decide (¬ Re p F c.toNat k)) 0 (cl p F k) <;> rfl
open Classical in
theorem NG {code:List Int} (h8:Hy U8 code):Gh 2000000 code=some true:=by
 have hN:(2000000:Nat)≤2000000:=Nat.le_refl _
 unfold Gh
 rw[AT]
 by_cases hl:1048576 < (code.length:Int)
 ·rw[if_pos (by simpa using hl)]
 rw[if_neg (by simpa using hl)]
 obtain⟨⟨p,f⟩,hd,P,_,_⟩:=NO h8.1 (by omega) hN
 rw[hd]
 simp only[Option.bind_some]
 have S:=P.small
 dsimp only at S
 obtain⟨v,h1,h2,_⟩:=Hj S hN
 cases v with
 | false=>
  obtain⟨b,e1,e2⟩:=Po S (f:=f) hN
  rw[e1,e2,h2]
  simp
 | true=>
  have PP:=Ro S hN h1
  have hF:=PP.le
  obtain⟨b,e1,e2,e3⟩:=Qv PP (f:=f) hN h1 h2
  rw[e1,e2,h2]
  simp only[Option.bind_some,bne_self_eq_false,Bool.false_eq_true,if_false,Bool.not_true,AT]
  by_cases f0:f < 0
  ·simp[f0]
  by_cases f1:(p.funcs.length:Int)≤f
  ·simp[f0,f1]
  simp only[f0,f1,decide_false,Bool.false_eq_true,if_false,Option.bind_some]
  obtain⟨k,rfl⟩:=Int.eq_ofNat_of_zero_le (by omega:0≤f)
  have hk:k < p.funcs.length:=by omega
  rw[RU PP hk hN h2]
  simp only[Option.bind_some]
  have hcl:=Ng (p:=p) (F:=p.funcs.length) (k:=k)
  have key :∀{N i:Nat},i≤(cl p p.funcs.length k).length→(cl p p.funcs.length k).length - i < N→∀again:Bool,CT 2000000 (cl p p.funcs.length k) (p,(k:Int)) N again (i:Int)=some (again || !Ch (fun _ c=>decide (¬ Re p p.funcs.length c.toNat k)) 0 ((cl p p.funcs.length k).drop i)):=by
   intro N i hi hN2
   refine BX (cl p p.funcs.length k).length (fun N i=>∀again:Bool,CT 2000000 (cl p p.funcs.length k) (p,(k:Int)) N again (i:Int)=some (again || !Ch (fun _ c=>decide (¬ Re p p.funcs.length c.toNat k)) 0 ((cl p p.funcs.length k).drop i))) ?_ ?_ hi hN2
   ·intro n again
    rw[CT,if_neg (by simp[AT]),List.drop_length]
    simp[Ch]
   ·intro n i hi ih again
    obtain⟨c,hc,hcm⟩:=Bj hi
    have hcF:=Lv PP c hcm
    obtain⟨j,rfl⟩:=Int.eq_ofNat_of_zero_le hcF.1
    obtain⟨m,a1,a2⟩:=Ix PP (c:=j) (by omega) hN h2
    have hml:=MM m p.funcs.length 0
    rw[CT,if_pos (by rw[decide_eq_true_eq,AT];omega),BI (by omega) (by omega),show ((i:Int) + 1)=((i+1:Nat):Int) by omega,drop_cons hc]
    have hm:decide ((k:Int)∈Cx (mk m p.funcs.length 0))=decide (Re p p.funcs.length j k):=decide_eq_decide.2 ((mem_mk hk).trans (a2 k hk))
    rw[BB hc]
    simp only[Option.bind_some]
    rw[a1]
    simp only[Option.bind_some]
    rw[Z4 (by rw[Hm];omega) hN,hm]
    simp only[Option.bind_some]
    have cg:Ch (fun (_:Nat) (c:Int)=>decide (¬ Re p p.funcs.length c.toNat k)) (0+1) ((cl p p.funcs.length k).drop (i+1))=Ch (fun (_:Nat) (c:Int)=>decide (¬ Re p p.funcs.length c.toNat k)) 0 ((cl p p.funcs.length k).drop (i+1)):=by
     rw[ET,ET]
    cases again with
    | true=>
     simp only[if_true,Option.bind_some]
     rw[ih];simp
    | false=>
     simp only[Bool.false_eq_true,if_false,Option.bind_some]
     rw[ih]
     simp only[Ch,Int.toNat_natCast,cg]
     by_cases hr:Re p p.funcs.length j k <;> simp[hr]
  have e4:=key (Nat.zero_le _) (by omega:(cl p p.funcs.length k).length - 0 < 2000000) false
  rw[show ((0:Nat):Int)=0 from rfl,List.drop_zero] at e4
  rw[e4,e3 k rfl hk]
  simp only[Option.bind_some,Bool.false_or,Bool.not_not]
  by_cases k0:0 < k
  ·have:(0:Int) < (k:Int):=by omega
   simp[k0,this]
  ·have:¬ (0:Int) < (k:Int):=by omega
   simp[k0,this]
end RC

