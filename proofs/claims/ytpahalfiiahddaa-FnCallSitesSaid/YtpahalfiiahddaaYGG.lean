import Derived.Test.YtpahalfiiahddaaGYGFToUGDefs
import Derived.Test.YtpahalfiiahddaaGHMCToFIDefs

namespace RC
open Go
theorem P8 {p:Ai} (S:GI p) {f:Int} {N:Nat} (hN:2000000≤N) :∃n,E8 N p f=some n∧Fv N p f=some n∧(1≤n→DP N p=some true∧DU N p=some true∧0≤f∧f < (p.funcs.length:Int)∧n=(I8 f p.funcs:Nat)):=by
 obtain⟨b,h1,h2,h3⟩:=Ir S hN
 unfold E8 Fv
 rw[h1,h2]
 simp only[Option.bind_some]
 cases b with
 | false=>exact⟨-1,by simp,by simp,fun h=>absurd h (by omega)⟩
 | true=>
  obtain⟨SO,hen⟩:=h3 rfl
  have hF:=SO.Jo
  have hle:I8 f p.funcs≤120:=by have:=Wc (f:=f) hen;omega
  rw[DR,Aa,BN (by omega) (by omega)]
  by_cases hr:0≤f∧f < (p.funcs.length:Int)
  ·have r1:¬ f < 0:=by omega
   have r2:¬ (p.funcs.length:Int)≤f:=by omega
   have r3:f≤(p.funcs.length:Int) - 1:=by omega
   have K1 :∀{M i:Nat},i≤p.funcs.length→p.funcs.length - i < M→∀c:Nat,c+I8 f (p.funcs.drop i)≤200→Cv N p f M c i=some ((c+I8 f (p.funcs.drop i):Nat):Int):=by
    intro M i hi hM
    refine Bl p.funcs.length (fun M i=>∀c:Nat,c+I8 f (p.funcs.drop i)≤200→Cv N p f M c i=some ((c+I8 f (p.funcs.drop i):Nat):Int)) ?_ ?_ hi hM
    ·intro m c _;rw[Cv,if_neg (by simp[Aa]),List.drop_length];simp[I8]
    ·intro m i hi ih c hc
     obtain⟨x,hx,hxm⟩:=Bq hi
     rw[RT hx] at hc ⊢
     have hx30:=hen x hxm
     rw[Cv,if_pos (by simp[Aa];omega),BL hx]
     simp only[Option.bind_some]
     unfold Jd
     rw[TY hN N x.body (by omega) (by omega)]
     simp only[Option.bind_some]
     rw[BN (n:=(i:Int) + 1) (by omega) (by omega),BN (by omega) (by omega),show ((i:Int) + 1)=((i+1:Nat):Int) by omega,show ((c:Int) + (cse f x.body:Int))=((c+cse f x.body:Nat):Int) by omega,ih (c+cse f x.body) (by omega),Nat.add_assoc]
   have K2 :∀{M i:Nat},i≤p.funcs.length→p.funcs.length - i < M→∀c:Nat,c+I8 f (p.funcs.drop i)≤200→Cs N p M i f c=some ((c+I8 f (p.funcs.drop i):Nat):Int):=by
    intro M i hi hM
    refine Bl p.funcs.length (fun M i=>∀c:Nat,c+I8 f (p.funcs.drop i)≤200→Cs N p M i f c=some ((c+I8 f (p.funcs.drop i):Nat):Int)) ?_ ?_ hi hM
    ·intro m c _;rw[Cs,if_neg (by simp[Aa]),List.drop_length];simp[I8]
    ·intro m i hi ih c hc
     obtain⟨x,hx,hxm⟩:=Bq hi
     rw[RT hx] at hc ⊢
     have hx30:=hen x hxm
     rw[Cs,if_pos (by simp[Aa];omega),BL hx]
     simp only[Option.bind_some]
     unfold Mk
     rw[Wj hN N x.body c (by omega) (by omega) (by omega)]
     simp only[Option.bind_some]
     rw[BN (n:=(i:Int) + 1) (by omega) (by omega),show ((i:Int) + 1)=((i+1:Nat):Int) by omega,ih (c+cse f x.body) (by omega),Nat.add_assoc]
   have k1:=K1 (Nat.zero_le _) (by omega:p.funcs.length - 0 < N) 0 (by rw[List.drop_zero];omega)
   have k2:=K2 (Nat.zero_le _) (by omega:p.funcs.length - 0 < N) 0 (by rw[List.drop_zero];omega)
   rw[show ((0:Nat):Int)=0 from rfl] at k1 k2
   refine⟨((0+I8 f (p.funcs.drop 0):Nat):Int),?_,?_,fun _=>⟨rfl,rfl,hr.1,hr.2,by simp⟩⟩
   ·simp only[hr.1,r3,decide_true,Bool.and_self,Bool.not_true,Bool.false_eq_true,if_false,Option.bind_some]
    rw[k1];rfl
   ·simp only[r1,r2,decide_false,Bool.not_true,Bool.false_eq_true,if_false,Option.bind_some]
    rw[k2];rfl
  ·refine⟨-1,?_,?_,fun h=>absurd h (by omega)⟩
   ·have:(decide (0≤f) && decide (f≤(p.funcs.length:Int) - 1))=false:=by
     rw[Bool.and_eq_false_iff,decide_eq_false_iff_not,decide_eq_false_iff_not];omega
    rw[this];simp
   ·by_cases r1:f < 0
    ·simp[r1]
    ·have r2:(p.funcs.length:Int)≤f:=by omega
     simp[r1,r2]
theorem Su {f:Int} :∀{l:List Ar},1≤I8 f l→∃(i:Nat) (g:Ar),l[i]?=some g∧1≤cse f g.body
 | [],h=>by simp[I8] at h
 | g :: l,h=>by
  by_cases hg:1≤cse f g.body
  ·exact⟨0,g,rfl,hg⟩
  ·have:1≤I8 f l:=by simp only[I8,List.map_cons,List.sum_cons] at h ⊢;omega
   obtain⟨i,x,h1,h2⟩:=Su this
   exact⟨i+1,x,by simpa using h1,h2⟩
mutual
theorem RP {f:Int} :∀e:AP,1≤cse f e→f∈JX e
 | .mk o n k=>fun h=>by
  simp only[cse] at h
  simp only[JX]
  by_cases hc:o=9∧n=f
  ·rw[if_pos (.inl hc.1),hc.2];simp
  ·rw[if_neg hc] at h
   exact List.mem_append_right _ (RK k (by omega))
theorem RK {f:Int} :∀l:List AP,1≤JH f l→f∈HQ l
 | []=>fun h=>by simp[JH] at h
 | e :: l=>fun h=>by
  simp only[JH] at h
  simp only[HQ]
  by_cases he:1≤cse f e
  ·exact List.mem_append_left _ (RP e he)
  ·exact List.mem_append_right _ (RK l (by omega))
end
theorem MF {p:Ai} {F:Nat} (P:PO p F) {k:Nat} (hk:k < F) {N:Nat} (hN:2000000≤N) (hv:DU N p=some true):Fs N p (k:Int)=some (cl p F k):=by
 obtain⟨g,hg,_⟩:=Bq (l:=p.funcs) (i:=k) (by rw[P.len];omega)
 unfold Fs
 rw[hv]
 have b1:decide ((k:Int) < 0)=false:=decide_eq_false (by omega)
 have b2:decide ((F:Int)≤(k:Int))=false:=decide_eq_false (by omega)
 simp only[Option.bind_some,Bool.not_true,Bool.false_eq_true,if_false,b1,Aa,P.len,b2]
 rw[Qn P hg hN]
 simp only[Option.bind_some]
 rw[So P hN];rfl
theorem Wa {l:List Int} {x:Int} (hl:l.length≤1048576) {N i:Nat} (hi:i≤l.length) (hN:l.length - i < N):EW l x N i=some (if x∈l.drop i then Sum.inl true else Sum.inr ()):=by
 refine Bl l.length (fun N i=>EW l x N i=some (if x∈l.drop i then Sum.inl true else Sum.inr ())) ?_ ?_ hi hN
 ·intro n;rw[EW,if_neg (by simp[Aa])];simp
 ·intro n i hi ih
  obtain⟨y,hy,_⟩:=Bq hi
  rw[EW,if_pos (by simp[Aa];omega),BL hy,drop_cons hy]
  simp only[Option.bind_some,List.mem_cons]
  rw[BN (by omega) (by omega),show ((i:Int) + 1)=((i+1:Nat):Int) by omega]
  by_cases h:y=x
  ·simp[h]
  ·have h':¬ x=y:=fun e=>h e.symm
   rw[if_neg (by simpa using h),ih]
   simp[h']
theorem Yq {l:List Int} {x:Int} (hl:l.length≤1048576) {N:Nat} (hN:2000000≤N):Is N l x=some (decide (x∈l)):=by
 unfold Is
 have:=Wa (x:=x) hl (Nat.zero_le _) (by omega:l.length - 0 < N)
 rw[show ((0:Nat):Int)=0 from rfl,List.drop_zero] at this
 rw[this]
 by_cases h:x∈l <;> simp[h,Sh.cont]
theorem Mi {code:List Int} (h8:Hi U8 code):GK 2000000 code=some true:=by
 have hN:(2000000:Nat)≤2000000:=Nat.le_refl _
 unfold GK
 rw[Aa]
 by_cases hl:1048576 < (code.length:Int)
 ·rw[if_pos (by simpa using hl)]
 rw[if_neg (by simpa using hl)]
 obtain⟨⟨p,f⟩,hd,P,_,_⟩:=MU h8.1 (by omega) hN
 rw[hd]
 simp only[Option.bind_some]
 have S:=P.small
 obtain⟨n,e1,e2,e3⟩:=P8 S (f:=f) hN
 dsimp only at S e1 e2 e3
 rw[e1,e2]
 simp only[Option.bind_some,decide_true,Bool.not_true,Bool.false_eq_true,if_false]
 by_cases hn:n < 1
 ·simp[hn]
 ·simp only[hn,decide_false,Bool.false_eq_true,if_false]
  obtain⟨v1,v2,f0,f1,hc⟩:=e3 (by omega)
  have PP:=VA S hN v1
  obtain⟨i0,g,hg,hg2⟩:=Su (l:=p.funcs) (f:=f) (by omega)
  have hfm:f∈cl p p.funcs.length i0:=(Wi PP f).2 (by unfold Rr;rw[hg];exact RP _ hg2)
  have hi0:=(List.getElem?_eq_some_iff.1 hg).1
  have hF:=PP.le
  have key :∀(d i N:Nat),i+d=i0→d < N→Cn 2000000 (p,f) N (i:Int)=some (.inl true):=by
   intro d
   induction d with
   | zero=>
    intro i N hi hN2
    obtain⟨N,rfl⟩ :∃m,N=m+1:=⟨N - 1,by omega⟩
    have:i=i0:=by omega
    subst this
    rw[Cn,if_pos (by rw[decide_eq_true_eq,Aa];show (i:Int) < (p.funcs.length:Int);omega),MF PP (by omega) hN v2]
    simp only[Option.bind_some]
    have hcl:=UE (p:=p) (F:=p.funcs.length) (k:=i)
    rw[Yq (by omega) hN]
    simp[hfm]
   | succ d ih=>
    intro i N hi hN2
    obtain⟨N,rfl⟩ :∃m,N=m+1:=⟨N - 1,by omega⟩
    rw[Cn,if_pos (by rw[decide_eq_true_eq,Aa];show (i:Int) < (p.funcs.length:Int);omega),MF PP (by omega) hN v2]
    simp only[Option.bind_some]
    have hcl:=UE (p:=p) (F:=p.funcs.length) (k:=i)
    rw[Yq (by omega) hN,BN (by omega) (by omega),show ((i:Int) + 1)=((i+1:Nat):Int) by omega,ih (i+1) N (by omega) (by omega)]
    simp only[Option.bind_some]
    split <;> rfl
  have k:=key i0 0 2000000 (by omega) (by omega)
  rw[show ((0:Nat):Int)=0 from rfl] at k
  rw[k];rfl
end RC

