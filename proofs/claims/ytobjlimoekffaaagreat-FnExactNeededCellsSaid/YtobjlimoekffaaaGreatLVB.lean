import Derived.Test.YtobjlimoekffaaaGreatLVA
import Derived.Test.YtobjlimoekffaaaGreatIXA
import Derived.Test.YtobjlimoekffaaaGreatGEncCToNCDefs

namespace RC
open Go
theorem bY {A B C:Option Bool} {T:Bool} (h:(Option.bind A fun t=>if t=true then some false else Option.bind B fun t=>if t=true then some false else Option.bind C fun t=>if t=true then some false else some T)=some true):C=some false:=by
 cases A with
 | none=>cases h
 | some a=>
  cases a with
  | true=>cases h
  | false=>
   cases B with
   | none=>cases h
   | some b=>
    cases b with
    | true=>cases h
    | false=>
     cases C with
     | none=>cases h
     | some c=>
      cases c with
      | true=>cases h
      | false=>rfl
theorem Q5 {im:At} (S:Ej im) {s:Ay} (Q:Il s) {N:Nat} (hN:2000000≤N) (h:B3 N im s=some true):VH s.heap:=by
 obtain⟨bh,r,h1,_,_,_,h5,_⟩:=J7 Q.hp hN
 unfold B3 at h
 rw[OK S Q hN,Wr] at h
 have hC:=bY h
 rw[h1] at hC
 refine h5.1 ?_
 split at hC
 ·cases hC
 ·cases ha:FK N s.out with
  | none=>rw[ha] at hC;cases hC
  | some b=>
   rw[ha] at hC
   cases b with
   | false=>cases hC
   | true=>cases bh with
    | false=>cases hC
    | true=>rfl
theorem Sf {h:List Cell} (H:Hp h) (V:VH h) {W:List Int} (hW :∀w∈W,Ez w) (hWl2:W.length≤1048576) {N:Nat} (hN:2000000≤N) (hd:W.length+Fy h≤3000000) (hdN:W.length+Fy h < N) :
  ∃m,FG N h W=some (BO (mk m h.length 0))∧Gm N h W=some (BO (mk m h.length 0)):=by
 obtain⟨out,h1,h2,_,h3⟩:=Ry H hW hWl2 hN hd hdN
 obtain⟨m,_,rfl⟩:=h3 V
 obtain⟨b,r,h4,_,_,_,h5,_⟩:=J7 H hN
 have hb:=h5.2 V
 subst hb
 refine⟨m,?_,h2⟩
 unfold KX at h1
 rw[h4] at h1
 simp only[Option.bind_some,Bool.not_true,Bool.false_eq_true,if_false] at h1
 cases hs:FG N h W with
 | none=>rw[hs] at h1;cases h1
 | some o=>rw[hs] at h1;exact h1
theorem Tm {l:List Int} {d:Int} (hl:l.length≤1048576) {N:Nat} (hN:2000000≤N):ER N l d=some (l.filter fun x=>!decide (x=d)):=by
 unfold ER
 have e:=QI (d:=d) hl (Nat.zero_le _) (by omega:l.length - 0 < N) [] (by simp)
 rw[show ((0:Nat):Int)=0 from rfl,List.drop_zero,List.nil_append] at e
 rw[e];rfl
def XS (f:Ah) (x:Int):Int:=Cv f.Ab x.toNat
theorem U0 {f:Ah} {l:List Int} (hl:l.length≤1048576) (hin :∀x∈l,0≤x∧x < (f.Ab.length:Int)) {N i:Nat} (hi:i≤l.length) (hN:l.length - i < N) :∀acc:List Int,acc.length≤i→Da f l N (i:Int) acc=some (acc ++ (l.drop i).map (XS f)):=by
 refine BN l.length (fun N i=>∀acc:List Int,acc.length≤i→Da f l N (i:Int) acc=some (acc ++ (l.drop i).map (XS f))) ?_ ?_ hi hN
 ·intro n acc _
  rw[Da,if_neg (by simp[AK])];simp
 ·intro n i hi ih acc ha
  obtain⟨y,hy,hm⟩:=BS hi
  obtain⟨h0,h1⟩:=hin y hm
  obtain⟨j,rfl⟩:=Int.eq_ofNat_of_zero_le h0
  rw[Da,if_pos (by simp[AK];omega),Ai hy,drop_cons hy,List.map_cons]
  simp only[Option.bind_some]
  rw[GB (by omega)]
  simp only[Option.bind_some]
  rw[Er _ _ 8 (by simp;omega) (by simp;omega)]
  simp only[Option.bind_some]
  rw[Au (by omega) (by omega),show ((i:Int) + 1)=((i+1:Nat):Int) by omega,ih _ (by simp;omega),List.append_assoc]
  rfl
theorem UZ {f:Ah} {l:List Int} (hl:l.length≤1048576) (hin :∀x∈l,0≤x∧x < (f.Ab.length:Int)) {N:Nat} (hN:2000000≤N):Hf N f l=some (l.map (XS f)):=by
 unfold Hf
 have e:=U0 hl hin (Nat.zero_le _) (by omega:l.length - 0 < N) [] (by simp)
 rw[show ((0:Nat):Int)=0 from rfl,List.drop_zero,List.nil_append] at e
 rw[e];rfl
def K0 (s:Ay) (k:Nat) (x:Int):Bool:=decide (k+1=s.AT.length) || !decide (x=(BZ s (k+1)).dst)
theorem aD {s:Ay} (hfl:s.AT.length≤1048576) {k:Nat} (hk:k < s.AT.length) {f:Ah} {l:List Int} (hl:l.length≤1048576) (hin :∀x∈l,0≤x∧x < (f.Ab.length:Int)) {N i:Nat} (hi:i≤l.length) (hN:l.length - i < N) :
  ∀acc:List Int,acc.length+(l.length - i)≤4000000→CH f s l (k:Int) N (i:Int) acc=some (acc ++ ((l.drop i).filter (K0 s k)).map (XS f)):=by
 refine BN l.length (fun N i=>∀acc:List Int,acc.length+(l.length - i)≤4000000→CH f s l (k:Int) N (i:Int) acc=some (acc ++ ((l.drop i).filter (K0 s k)).map (XS f))) ?_ ?_ hi hN
 ·intro n acc _
  rw[CH,if_neg (by simp[AK])];simp
 ·intro n i hi ih acc ha
  obtain⟨y,hy,hm⟩:=BS hi
  obtain⟨h0,h1⟩:=hin y hm
  rw[CH,if_pos (by simp[AK];omega),Ai hy,drop_cons hy,List.filter_cons]
  simp only[Option.bind_some]
  rw[AK,Au (n:=(s.AT.length:Int) - 1) (by omega) (by omega),Au (n:=(i:Int) + 1) (by omega) (by omega),Au (n:=(k:Int) + 1) (by omega) (by omega),show ((i:Int) + 1)=((i+1:Nat):Int) by omega,show ((k:Int) + 1)=((k+1:Nat):Int) by omega]
  have e1:Option.bind (if decide ((k:Int)=(s.AT.length:Int) - 1)=true then some true else Option.bind (Sh.get s.AT ((k+1:Nat):Int)) fun c38=>some (!decide (y=c38.dst))) (fun b=>some b)=some (K0 s k y):=by
   unfold K0
   by_cases hl:k+1=s.AT.length
   ·have:(k:Int)=(s.AT.length:Int) - 1:=by omega
    simp[hl,this]
   ·have hne:¬ (k:Int)=(s.AT.length:Int) - 1:=by omega
    rw[(HZ (s:=s) (i:=k+1) (by omega)).1]
    simp[hl,hne]
  have e2:(if decide ((k:Int)=(s.AT.length:Int) - 1)=true then some true else Option.bind (Sh.get s.AT ((k+1:Nat):Int)) fun c38=>some (!decide (y=c38.dst)))=some (K0 s k y):=by
   rw[← e1]
   cases (if decide ((k:Int)=(s.AT.length:Int) - 1)=true then some true else Option.bind (Sh.get s.AT ((k+1:Nat):Int)) fun c38=>some (!decide (y=c38.dst))) <;> rfl
  rw[e2]
  simp only[Option.bind_some]
  cases hu:K0 s k y with
  | false=>
   simp only[Bool.false_eq_true,if_false,Option.bind_some]
   exact ih acc (by omega)
  | true=>
   simp only[if_true]
   obtain⟨j,rfl⟩:=Int.eq_ofNat_of_zero_le h0
   rw[GB (by omega)]
   simp only[Option.bind_some]
   rw[Er _ _ 8 (by simp;omega) (by simp;omega)]
   simp only[Option.bind_some]
   rw[ih _ (by simp;omega),List.append_assoc]
   rfl
theorem Xw {im:At} (S:Ej im) {s:Ay} (Q:Il s) {N0:Nat} (hN0:2000000≤N0) (hv:Sj N0 im=true) (hf :∀i,i < s.AT.length→okF im s i=true) :∀(d k:Nat),k+d=s.AT.length→∀(N1 N2:Nat) (acc:List Int),d < N1→d < N2→acc.length≤hb s k→(∀w∈acc,Ez w)→
  ∃W,DP N0 im s N1 (k:Int) acc=some W∧Cd N0 im s N2 (k:Int) acc=some W∧W.length≤hb s s.AT.length∧∀w∈W,Ez w:=by
 have hfl:=Q.fl
 intro d
 induction d with
 | zero=>
  intro k hk N1 N2 acc h1 h2 ha hw
  obtain⟨N1,rfl⟩ :∃m,N1=m+1:=⟨N1 - 1,by omega⟩
  obtain⟨N2,rfl⟩ :∃m,N2=m+1:=⟨N2 - 1,by omega⟩
  have hb:=Q.hb k
  have hkk:k=s.AT.length:=by omega
  subst hkk
  exact⟨acc,by rw[DP,if_neg (by simp[AK])],by rw[Cd,if_neg (by simp[AK])],by omega,hw⟩
 | succ d ih=>
  intro k hk N1 N2 acc h1 h2 ha hw
  obtain⟨N1,rfl⟩ :∃m,N1=m+1:=⟨N1 - 1,by omega⟩
  obtain⟨N2,rfl⟩ :∃m,N2=m+1:=⟨N2 - 1,by omega⟩
  have hkl:k < s.AT.length:=by omega
  have hb1:=Q.hb (k+1)
  have hb0:=OS hkl
  obtain⟨g1,g2,g3⟩:=HZ hkl
  have hok:=hf k hkl
  unfold okF at hok
  simp only[Bool.and_eq_true] at hok
  have hfv:=hok.1
  unfold Nn at hfv
  simp only[Bool.and_eq_true] at hfv
  obtain⟨hpo,hle,_⟩:=hfv
  obtain⟨p1,p2⟩:=Pn hpo
  unfold JC at hpo
  unfold SJ at hle
  simp only[Bool.and_eq_true,decide_eq_true_eq] at hpo hle
  obtain⟨l1,l2,l3,_,_⟩:=hle
  have A:=ZX S hN0 hv p2
  obtain⟨q,hq⟩:=Int.eq_ofNat_of_zero_le hpo.1
  obtain⟨b,hbq⟩:=Int.eq_ofNat_of_zero_le l1
  have hp:im.procs[q]?=some (U4 im (BZ s k)):=by rw[hq] at p1;rwa [Oz] at p1
  obtain⟨n,m,tab,r1,r2,s1,s2,s3⟩:=Q0 hp A (a:=b) (by omega) hN0
  have hml:=mk_le m n
  have hnr:(BZ s k).Ab.length=n:=by omega
  have hin :∀x∈BO (mk m n 0),0≤x∧x < ((BZ s k).Ab.length:Int):=fun x hx=>by have:=Ys x hx;omega
  have hfzn:n≤fz (BZ s k):=by unfold fz;omega
  have hreg:=(Q.fin g2).Ab.1
  generalize hL:BO (mk m n 0)=L at *
  have hflt:(L.filter (K0 s k)).length≤n:=by have:=List.length_filter_le (K0 s k) L;omega
  have hin2 :∀x∈L.filter (K0 s k),0≤x∧x < ((BZ s k).Ab.length:Int):=fun x hx=>hin x (List.mem_filter.1 hx).1
  have e1:=aD hfl hkl (f:=BZ s k) (by omega) hin (Nat.zero_le _) (by omega:L.length - 0 < N0) acc (by omega)
  rw[show ((0:Nat):Int)=0 from rfl,List.drop_zero] at e1
  obtain⟨W,w1,w2,w3,w4⟩:=ih (k+1) (by omega) N1 N2 (acc ++ (L.filter (K0 s k)).map (XS (BZ s k))) (by omega) (by omega) (by simp;omega) (fun w hw'=>by
   rcases List.mem_append.1 hw' with h | h
   ·exact hw w h
   ·obtain⟨x,hx,rfl⟩:=List.mem_map.1 h
    obtain⟨x0,x1⟩:=hin2 x hx
    exact hreg _ (MR (by omega)))
  refine⟨W,?_,?_,w3,w4⟩
  ·rw[DP,if_pos (by simp[AK];omega),g1]
   simp only[Option.bind_some]
   rw[p1]
   simp only[Option.bind_some]
   rw[hbq,s1]
   simp only[Option.bind_some]
   rw[s2]
   simp only[Option.bind_some]
   rw[AK,Au (n:=(s.AT.length:Int) - 1) (by omega) (by omega),Au (n:=(k:Int) + 1) (by omega) (by omega),show ((k:Int) + 1)=((k+1:Nat):Int) by omega]
   have e3:(if decide ((k:Int) < (s.AT.length:Int) - 1)=true then Option.bind (Sh.get s.AT ((k+1:Nat):Int)) fun c27=>Option.bind (ER N0 L c27.dst) fun q28=>some q28 else some L)=some (L.filter (K0 s k)):=by
    by_cases hl:k+1=s.AT.length
    ·have hne:¬ (k:Int) < (s.AT.length:Int) - 1:=by omega
     rw[if_neg (by simpa using hne)]
     congr 1
     refine (List.filter_eq_self.2 fun x _=>?_).symm
     unfold K0;simp[hl]
    ·have hlt:(k:Int) < (s.AT.length:Int) - 1:=by omega
     rw[if_pos (by simpa using hlt),(HZ (s:=s) (i:=k+1) (by omega)).1]
     simp only[Option.bind_some]
     rw[Tm (by omega) hN0]
     simp only[Option.bind_some]
     congr 1
     refine List.filter_congr fun x _=>?_
     unfold K0;simp[hl]
   rw[e3]
   simp only[Option.bind_some]
   rw[UZ (by omega) hin2 hN0]
   simp only[Option.bind_some]
   rw[Er _ _ 8 (by simp;omega) (by simp;omega)]
   simp only[Option.bind_some]
   exact w1
  ·rw[Cd,if_pos (by simp[AK];omega),g1]
   simp only[Option.bind_some]
   rw[hq,hbq,s3]
   simp only[Option.bind_some]
   rw[e1]
   simp only[Option.bind_some]
   rw[Au (n:=(k:Int) + 1) (by omega) (by omega),show ((k:Int) + 1)=((k+1:Nat):Int) by omega]
   exact w2
theorem Tu {im:At} (S:Ej im) {s:Ay} (Q:Il s) {N:Nat} (hN:2000000≤N) (h1:B3 N im s=some true) :
  ∃(W:List Int) (m:Nat→Bool),Ga N im s=some W∧FG N s.heap W=some (BO (mk m s.heap.length 0))∧FW N im s=some (BO (mk m s.heap.length 0)):=by
 have hfl:=Q.fl
 obtain⟨hv,hf⟩:=O5 S Q hN h1
 have V:=Q5 S Q hN h1
 obtain⟨W,w1,w2,w3,w4⟩:=Xw S Q hN hv hf s.AT.length 0 (by omega) N N [] (by omega) (by omega) (by simp) (by simp)
 rw[show ((0:Nat):Int)=0 from rfl] at w1 w2
 have hs:=Q.hp.size
 unfold CM at hs
 have hsz:=Q.size
 unfold J4 at hsz
 unfold RC.hb at w3
 rw[List.take_length] at w3
 obtain⟨m,r1,r2⟩:=Sf Q.hp V w4 (by omega) hN (by unfold CM at hsz;omega) (by unfold CM at hsz;omega)
 refine⟨W,m,?_,r1,?_⟩
 ·unfold Ga;rw[w1];rfl
 ·unfold FW
  rw[w2]
  simp only[Option.bind_some]
  rw[r2];rfl
theorem OX {im:At} (S:Ej im) {s:Ay} (Q:Il s) {N:Nat} (hN:2000000≤N) :∃out:List Int,Ff N im s=some out∧E3 N im s=some out∧out.length≤1048576:=by
 have hl:=Q.hp.len
 obtain⟨b,h1,h2⟩:=Qc S Q hN
 unfold Ff E3
 rw[h1,h2]
 simp only[Option.bind_some]
 cases b with
 | false=>exact⟨[],by simp,by simp,by simp⟩
 | true=>
  obtain⟨W,m,a1,a2,a3⟩:=Tu S Q hN h1
  have hml:=Tk m s.heap.length 0
  refine⟨BO (mk m s.heap.length 0),?_,?_,by rw[Iy];omega⟩
  ·simp only[Bool.not_true,Bool.false_eq_true,if_false]
   rw[a1]
   simp only[Option.bind_some]
   rw[a2];rfl
  ·simp only[Bool.not_true,Bool.false_eq_true,if_false]
   rw[a3];rfl
theorem J3 {x:At} {s:Ay} (H:Pv x) (G:I0 s):Et 2000000 x s=some true:=by
 have hN:(2000000:Nat)≤2000000:=Nat.le_refl _
 unfold Et
 rw[Ut H (by omega) (by omega) hN]
 simp only[Option.bind_some]
 by_cases h:(1048576:Int) - (Lo x:Int) < 0
 ·rw[Bi h];rfl
 ·rw[Cu h,if_neg (by simpa using h),VJ G (by omega) (by omega) hN]
  simp only[Option.bind_some]
  by_cases h2:(1048576:Int) - (Lo x:Int) - (J4 s:Int) < 0
  ·rw[Bi h2];rfl
  ·rw[Cu h2,if_neg (by simpa using h2)]
   have hz:Lo x≤1048576:=by omega
   have hy:J4 s≤1048576:=by omega
   have S:=Xq hz
   have Q:Il s:=⟨X5 G hy,G,hy⟩
   obtain⟨out,h3,h4,h5⟩:=OX S Q hN
   obtain⟨k,r,hk0,hm⟩:=Sk hz hN
   obtain⟨k2,r2,hm2⟩:=Sb Q hk0 hN (a:=s.status) (b:=s.value) (c:=s.calls) (d:=s.CU)
   have hk:decide ((k2:Int) < 0)=false:=decide_eq_false (by omega)
   have e1:=EW (l:=out) (by omega) (k:=1) (by omega) hN
   have e2:=US (m:=out.length) (by omega) (k:=1) (by omega) hN
   rw[show ((1:Nat):Int)=1 from rfl] at e1 e2
   have hk2:decide (((1+out.length:Nat):Int) < 0)=false:=decide_eq_false (by omega)
   rw[VI hz hN,Uh G hy hN]
   simp only[Option.bind_some]
   rw[h3,h4]
   simp only[Option.bind_some]
   rw[FP (by omega) hN,Ug hz hN,VK G hy hN]
   simp only[Option.bind_some]
   rw[hm]
   simp only[Option.bind_some]
   rw[hm2]
   simp only[Option.bind_some,Bool.not_true,Bool.false_eq_true,if_false]
   rw[hk]
   simp only[Bool.false_eq_true,if_false,Option.bind_some]
   rw[e1]
   simp only[Option.bind_some]
   rw[e2]
   simp only[Option.bind_some]
   rw[hk2]
   simp
end RC

