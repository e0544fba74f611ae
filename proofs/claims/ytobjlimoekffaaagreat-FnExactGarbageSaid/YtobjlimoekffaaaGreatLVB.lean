import Derived.Test.YtobjlimoekffaaaGreatLVA
import Derived.Test.YtobjlimoekffaaaGreatIXA
import Derived.Test.YtobjlimoekffaaaGreatGEncCToGCDefs

namespace RC
open Go
theorem cV {A B C:Option Bool} {T:Bool} (h:(Option.bind A fun t=>if t=true then some false else Option.bind B fun t=>if t=true then some false else Option.bind C fun t=>if t=true then some false else some T)=some true):C=some false:=by
 cases A with
 | none=>cases h
 | some a=>
  cases a with
  | true=>cases h
  | false=>
   cases B with
   | none=>cases h
   | some b=>
    cases b with
    | true=>cases h
    | false=>
     cases C with
     | none=>cases h
     | some c=>
      cases c with
      | true=>cases h
      | false=>rfl
theorem Rr {im:Au} (S:Eo im) {s:Av} (Q:IU s) {N:Nat} (hN:2000000≤N) (h:B2 N im s=some true):VH s.heap:=by
 obtain⟨bh,r,h1,_,_,_,h5,_⟩:=KQ Q.hp hN
 unfold B2 at h
 rw[Ns S Q hN,V4] at h
 have hC:=cV h
 rw[h1] at hC
 refine h5.1 ?_
 split at hC
 ·cases hC
 ·cases ha:FN N s.out with
  | none=>rw[ha] at hC;cases hC
  | some b=>
   rw[ha] at hC
   cases b with
   | false=>cases hC
   | true=>cases bh with
    | false=>cases hC
    | true=>rfl
theorem Sm {h:List Cell} (H:Hp h) (V:VH h) {W:List Int} (hW :∀w∈W,E3 w) (hWl2:W.length≤1048576) {N:Nat} (hN:2000000≤N) (hd:W.length+GB h≤3000000) (hdN:W.length+GB h < N) :
  ∃m,FK N h W=some (BK (mk m h.length 0))∧Gu N h W=some (BK (mk m h.length 0)):=by
 obtain⟨out,h1,h2,_,h3⟩:=RV H hW hWl2 hN hd hdN
 obtain⟨m,_,rfl⟩:=h3 V
 obtain⟨b,r,h4,_,_,_,h5,_⟩:=KQ H hN
 have hb:=h5.2 V
 subst hb
 refine⟨m,?_,h2⟩
 unfold Kl at h1
 rw[h4] at h1
 simp only[Option.bind_some,Bool.not_true,Bool.false_eq_true,if_false] at h1
 cases hs:FK N h W with
 | none=>rw[hs] at h1;cases h1
 | some o=>rw[hs] at h1;exact h1
theorem Ub {l:List Int} {d:Int} (hl:l.length≤1048576) {N:Nat} (hN:2000000≤N):EX N l d=some (l.filter fun x=>!decide (x=d)):=by
 unfold EX
 have e:=QN (d:=d) hl (Nat.zero_le _) (by omega:l.length - 0 < N) [] (by simp)
 rw[show ((0:Nat):Int)=0 from rfl,List.drop_zero,List.nil_append] at e
 rw[e];rfl
def Xy (f:Ai) (x:Int):Int:=Cy f.Ab x.toNat
theorem Vg {f:Ai} {l:List Int} (hl:l.length≤1048576) (hin :∀x∈l,0≤x∧x < (f.Ab.length:Int)) {N i:Nat} (hi:i≤l.length) (hN:l.length - i < N) :∀acc:List Int,acc.length≤i→Dd f l N (i:Int) acc=some (acc ++ (l.drop i).map (Xy f)):=by
 refine BM l.length (fun N i=>∀acc:List Int,acc.length≤i→Dd f l N (i:Int) acc=some (acc ++ (l.drop i).map (Xy f))) ?_ ?_ hi hN
 ·intro n acc _
  rw[Dd,if_neg (by simp[AK])];simp
 ·intro n i hi ih acc ha
  obtain⟨y,hy,hm⟩:=BR hi
  obtain⟨h0,h1⟩:=hin y hm
  obtain⟨j,rfl⟩:=Int.eq_ofNat_of_zero_le h0
  rw[Dd,if_pos (by simp[AK];omega),Ak hy,drop_cons hy,List.map_cons]
  simp only[Option.bind_some]
  rw[Fy (by omega)]
  simp only[Option.bind_some]
  rw[Eh _ _ 8 (by simp;omega) (by simp;omega)]
  simp only[Option.bind_some]
  rw[As (by omega) (by omega),show ((i:Int) + 1)=((i+1:Nat):Int) by omega,ih _ (by simp;omega),List.append_assoc]
  rfl
theorem Va {f:Ai} {l:List Int} (hl:l.length≤1048576) (hin :∀x∈l,0≤x∧x < (f.Ab.length:Int)) {N:Nat} (hN:2000000≤N):Hj N f l=some (l.map (Xy f)):=by
 unfold Hj
 have e:=Vg hl hin (Nat.zero_le _) (by omega:l.length - 0 < N) [] (by simp)
 rw[show ((0:Nat):Int)=0 from rfl,List.drop_zero,List.nil_append] at e
 rw[e];rfl
def LQ (s:Av) (k:Nat) (x:Int):Bool:=decide (k+1=s.AT.length) || !decide (x=(Ba s (k+1)).dst)
theorem aR {s:Av} (hfl:s.AT.length≤1048576) {k:Nat} (hk:k < s.AT.length) {f:Ai} {l:List Int} (hl:l.length≤1048576) (hin :∀x∈l,0≤x∧x < (f.Ab.length:Int)) {N i:Nat} (hi:i≤l.length) (hN:l.length - i < N) :
  ∀acc:List Int,acc.length+(l.length - i)≤4000000→CG f s l (k:Int) N (i:Int) acc=some (acc ++ ((l.drop i).filter (LQ s k)).map (Xy f)):=by
 refine BM l.length (fun N i=>∀acc:List Int,acc.length+(l.length - i)≤4000000→CG f s l (k:Int) N (i:Int) acc=some (acc ++ ((l.drop i).filter (LQ s k)).map (Xy f))) ?_ ?_ hi hN
 ·intro n acc _
  rw[CG,if_neg (by simp[AK])];simp
 ·intro n i hi ih acc ha
  obtain⟨y,hy,hm⟩:=BR hi
  obtain⟨h0,h1⟩:=hin y hm
  rw[CG,if_pos (by simp[AK];omega),Ak hy,drop_cons hy,List.filter_cons]
  simp only[Option.bind_some]
  rw[AK,As (n:=(s.AT.length:Int) - 1) (by omega) (by omega),As (n:=(i:Int) + 1) (by omega) (by omega),As (n:=(k:Int) + 1) (by omega) (by omega),show ((i:Int) + 1)=((i+1:Nat):Int) by omega,show ((k:Int) + 1)=((k+1:Nat):Int) by omega]
  have e1:Option.bind (if decide ((k:Int)=(s.AT.length:Int) - 1)=true then some true else Option.bind (Sh.get s.AT ((k+1:Nat):Int)) fun c38=>some (!decide (y=c38.dst))) (fun b=>some b)=some (LQ s k y):=by
   unfold LQ
   by_cases hl:k+1=s.AT.length
   ·have:(k:Int)=(s.AT.length:Int) - 1:=by omega
    simp[hl,this]
   ·have hne:¬ (k:Int)=(s.AT.length:Int) - 1:=by omega
    rw[(Hu (s:=s) (i:=k+1) (by omega)).1]
    simp[hl,hne]
  have e2:(if decide ((k:Int)=(s.AT.length:Int) - 1)=true then some true else Option.bind (Sh.get s.AT ((k+1:Nat):Int)) fun c38=>some (!decide (y=c38.dst)))=some (LQ s k y):=by
   rw[← e1]
   cases (if decide ((k:Int)=(s.AT.length:Int) - 1)=true then some true else Option.bind (Sh.get s.AT ((k+1:Nat):Int)) fun c38=>some (!decide (y=c38.dst))) <;> rfl
  rw[e2]
  simp only[Option.bind_some]
  cases hu:LQ s k y with
  | false=>
   simp only[Bool.false_eq_true,if_false,Option.bind_some]
   exact ih acc (by omega)
  | true=>
   simp only[if_true]
   obtain⟨j,rfl⟩:=Int.eq_ofNat_of_zero_le h0
   rw[Fy (by omega)]
   simp only[Option.bind_some]
   rw[Eh _ _ 8 (by simp;omega) (by simp;omega)]
   simp only[Option.bind_some]
   rw[ih _ (by simp;omega),List.append_assoc]
   rfl
theorem XW {im:Au} (S:Eo im) {s:Av} (Q:IU s) {N0:Nat} (hN0:2000000≤N0) (hv:Sy N0 im=true) (hf :∀i,i < s.AT.length→okF im s i=true) :∀(d k:Nat),k+d=s.AT.length→∀(N1 N2:Nat) (acc:List Int),d < N1→d < N2→acc.length≤hb s k→(∀w∈acc,E3 w)→
  ∃W,DL N0 im s N1 (k:Int) acc=some W∧Ce N0 im s N2 (k:Int) acc=some W∧W.length≤hb s s.AT.length∧∀w∈W,E3 w:=by
 have hfl:=Q.fl
 intro d
 induction d with
 | zero=>
  intro k hk N1 N2 acc h1 h2 ha hw
  obtain⟨N1,rfl⟩ :∃m,N1=m+1:=⟨N1 - 1,by omega⟩
  obtain⟨N2,rfl⟩ :∃m,N2=m+1:=⟨N2 - 1,by omega⟩
  have hb:=Q.hb k
  have hkk:k=s.AT.length:=by omega
  subst hkk
  exact⟨acc,by rw[DL,if_neg (by simp[AK])],by rw[Ce,if_neg (by simp[AK])],by omega,hw⟩
 | succ d ih=>
  intro k hk N1 N2 acc h1 h2 ha hw
  obtain⟨N1,rfl⟩ :∃m,N1=m+1:=⟨N1 - 1,by omega⟩
  obtain⟨N2,rfl⟩ :∃m,N2=m+1:=⟨N2 - 1,by omega⟩
  have hkl:k < s.AT.length:=by omega
  have hb1:=Q.hb (k+1)
  have hb0:=Oz hkl
  obtain⟨g1,g2,g3⟩:=Hu hkl
  have hok:=hf k hkl
  unfold okF at hok
  simp only[Bool.and_eq_true] at hok
  have hfv:=hok.1
  unfold N4 at hfv
  simp only[Bool.and_eq_true] at hfv
  obtain⟨hpo,hle,_⟩:=hfv
  obtain⟨p1,p2⟩:=Pm hpo
  unfold JH at hpo
  unfold Ra at hle
  simp only[Bool.and_eq_true,decide_eq_true_eq] at hpo hle
  obtain⟨l1,l2,l3,_,_⟩:=hle
  have A:=Z7 S hN0 hv p2
  obtain⟨q,hq⟩:=Int.eq_ofNat_of_zero_le hpo.1
  obtain⟨b,hbq⟩:=Int.eq_ofNat_of_zero_le l1
  have hp:im.procs[q]?=some (Up im (Ba s k)):=by rw[hq] at p1;rwa [Oc] at p1
  obtain⟨n,m,tab,r1,r2,s1,s2,s3⟩:=Rk hp A (a:=b) (by omega) hN0
  have hml:=mk_le m n
  have hnr:(Ba s k).Ab.length=n:=by omega
  have hin :∀x∈BK (mk m n 0),0≤x∧x < ((Ba s k).Ab.length:Int):=fun x hx=>by have:=ZH x hx;omega
  have hfzn:n≤fz (Ba s k):=by unfold fz;omega
  have hreg:=(Q.fin g2).Ab.1
  generalize hL:BK (mk m n 0)=L at *
  have hflt:(L.filter (LQ s k)).length≤n:=by have:=List.length_filter_le (LQ s k) L;omega
  have hin2 :∀x∈L.filter (LQ s k),0≤x∧x < ((Ba s k).Ab.length:Int):=fun x hx=>hin x (List.mem_filter.1 hx).1
  have e1:=aR hfl hkl (f:=Ba s k) (by omega) hin (Nat.zero_le _) (by omega:L.length - 0 < N0) acc (by omega)
  rw[show ((0:Nat):Int)=0 from rfl,List.drop_zero] at e1
  obtain⟨W,w1,w2,w3,w4⟩:=ih (k+1) (by omega) N1 N2 (acc ++ (L.filter (LQ s k)).map (Xy (Ba s k))) (by omega) (by omega) (by simp;omega) (fun w hw'=>by
   rcases List.mem_append.1 hw' with h | h
   ·exact hw w h
   ·obtain⟨x,hx,rfl⟩:=List.mem_map.1 h
    obtain⟨x0,x1⟩:=hin2 x hx
    exact hreg _ (MZ (by omega)))
  refine⟨W,?_,?_,w3,w4⟩
  ·rw[DL,if_pos (by simp[AK];omega),g1]
   simp only[Option.bind_some]
   rw[p1]
   simp only[Option.bind_some]
   rw[hbq,s1]
   simp only[Option.bind_some]
   rw[s2]
   simp only[Option.bind_some]
   rw[AK,As (n:=(s.AT.length:Int) - 1) (by omega) (by omega),As (n:=(k:Int) + 1) (by omega) (by omega),show ((k:Int) + 1)=((k+1:Nat):Int) by omega]
   have e3:(if decide ((k:Int) < (s.AT.length:Int) - 1)=true then Option.bind (Sh.get s.AT ((k+1:Nat):Int)) fun c27=>Option.bind (EX N0 L c27.dst) fun q28=>some q28 else some L)=some (L.filter (LQ s k)):=by
    by_cases hl:k+1=s.AT.length
    ·have hne:¬ (k:Int) < (s.AT.length:Int) - 1:=by omega
     rw[if_neg (by simpa using hne)]
     congr 1
     refine (List.filter_eq_self.2 fun x _=>?_).symm
     unfold LQ;simp[hl]
    ·have hlt:(k:Int) < (s.AT.length:Int) - 1:=by omega
     rw[if_pos (by simpa using hlt),(Hu (s:=s) (i:=k+1) (by omega)).1]
     simp only[Option.bind_some]
     rw[Ub (by omega) hN0]
     simp only[Option.bind_some]
     congr 1
     refine List.filter_congr fun x _=>?_
     unfold LQ;simp[hl]
   rw[e3]
   simp only[Option.bind_some]
   rw[Va (by omega) hin2 hN0]
   simp only[Option.bind_some]
   rw[Eh _ _ 8 (by simp;omega) (by simp;omega)]
   simp only[Option.bind_some]
   exact w1
  ·rw[Ce,if_pos (by simp[AK];omega),g1]
   simp only[Option.bind_some]
   rw[hq,hbq,s3]
   simp only[Option.bind_some]
   rw[e1]
   simp only[Option.bind_some]
   rw[As (n:=(k:Int) + 1) (by omega) (by omega),show ((k:Int) + 1)=((k+1:Nat):Int) by omega]
   exact w2
theorem Ty {im:Au} (S:Eo im) {s:Av} (Q:IU s) {N:Nat} (hN:2000000≤N) (h1:B2 N im s=some true) :
  ∃(W:List Int) (m:Nat→Bool),Gk N im s=some W∧FK N s.heap W=some (BK (mk m s.heap.length 0))∧Fk N im s=some (BK (mk m s.heap.length 0)):=by
 have hfl:=Q.fl
 obtain⟨hv,hf⟩:=Oa S Q hN h1
 have V:=Rr S Q hN h1
 obtain⟨W,w1,w2,w3,w4⟩:=XW S Q hN hv hf s.AT.length 0 (by omega) N N [] (by omega) (by omega) (by simp) (by simp)
 rw[show ((0:Nat):Int)=0 from rfl] at w1 w2
 have hs:=Q.hp.size
 unfold CN at hs
 have hsz:=Q.size
 unfold KC at hsz
 unfold RC.hb at w3
 rw[List.take_length] at w3
 obtain⟨m,r1,r2⟩:=Sm Q.hp V w4 (by omega) hN (by unfold CN at hsz;omega) (by unfold CN at hsz;omega)
 refine⟨W,m,?_,r1,?_⟩
 ·unfold Gk;rw[w1];rfl
 ·unfold Fk
  rw[w2]
  simp only[Option.bind_some]
  rw[r2];rfl
end RC

