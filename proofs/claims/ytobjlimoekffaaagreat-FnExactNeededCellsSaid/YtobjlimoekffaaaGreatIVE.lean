import Derived.Test.YtobjlimoekffaaaGreatIVD

namespace RC
open Go
def U6 (s:Ay) (f:Ah):Bool:=E9 f.Ab.length (Ip s.heap f)
def YR (s:Ay) (f:Ah):Bool:=E9 f.held.length (Ln s.heap f)
theorem R8 {s:Ay} (Q:Il s) {k:Nat} (hk:k < s.AT.length) {F:Nat→Int} {A:Nat} (h:JO (A+999999 * hb s k+999999 * (BZ s k).own.length) 0 F):JO (A+999999 * hb s (k+1)) 0 F:=fun j=>by
 have:=h j
 have h2:=OS hk
 have h3:(BZ s k).own.length≤fz (BZ s k):=by unfold fz;omega
 omega
theorem Sv {A i:Nat} {F:Nat→Int} (h:JO A i F):JO (A+999999 * i) 0 F:=fun j=>by have:=h j;omega
theorem Z8 {im:At} {s:Ay} (Q:Il s) (hv :∀i,i < s.AT.length→Nn im (BZ s i)=true∧U6 s (BZ s i)=true) {N:Nat} (hN:2000000≤N) :
  G8 N s=some (rowOf s.heap.length (Ld s s.AT.length Z))∧JO (999999 * hb s s.AT.length) 0 (Ld s s.AT.length Z):=by
 have hl:=Q.hp.len
 have hfl:=Q.fl
 have stp :∀n i F,i < s.AT.length→JO (999999 * hb s i) 0 F→((fun _=>true) i=true→JO (999999 * hb s (i+1)) 0 (Ki (BZ s i) F)∧CB N s (n+1) (i:Int) (rowOf s.heap.length F)=CB N s n ((i+1:Nat):Int) (rowOf s.heap.length (Ki (BZ s i) F)))∧((fun _:Nat=>true) i=false→∃e,False∧CB N s (n+1) (i:Int) (rowOf s.heap.length F)=some e):=by
  intro n i F hi hJ
  refine⟨fun _=>?_,fun h=>by cases h⟩
  obtain⟨g1,g2,g3⟩:=HZ hi
  obtain⟨v1,v2⟩:=hv i hi
  obtain⟨l1,l2,l3⟩:=VU v1
  have hb1:=Q.hb i
  obtain⟨a,b⟩:=ZS hl (Q.fz g2) (Q.fin g2) l1 l3 v2 (A:=999999 * hb s i) (by omega) hN hJ
  refine⟨?_,?_⟩
  ·have:=R8 Q hi (A:=0) (F:=Ki (BZ s i) F) (by simpa using Sv b)
   simpa using this
  ·have e0:(Sh.w ((i:Int) + 1))=((i+1:Nat):Int):=by rw[Au (by omega) (by omega)];omega
   rw[CB,if_pos (by simp[AK];omega),g1]
   simp only[Option.bind_some]
   rw[a,e0];rfl
 have hZ:JO (999999 * hb s 0) 0 Z:=fun j=>⟨Int.le_refl _,by unfold Z;omega⟩
 unfold G8
 rw[AK,Gu _ s.heap.length 8 (by omega) (by omega),Ea,show (fun _:Nat=>(0:Int))=Z from rfl]
 simp only[Option.bind_some]
 rcases Jh (τ:=Nat→Int) s.AT.length (CB N s) (fun r=>r) (rowOf s.heap.length) (fun _=>true) (fun i=>Ki (BZ s i)) (fun i=>JO (999999 * hb s i) 0) (fun _=>False)
  (fun n r=>by rw[CB,if_neg (by simp[AK])]) stp (by omega:s.AT.length < N) hZ with ⟨a,b,c⟩ | ⟨_,e,he,_⟩
 ·rw[b];exact⟨rfl,c⟩
 ·cases he
def MJ (s:Ay) (i:Nat) (c:Cell):Bool:=!decide (0 < c.count) || decide (c.count=(E0 s.heap s.heap i:Int) + Ld s s.AT.length Z i)
theorem R6 {s:Ay} (Q:Il s) (i:Nat):(E0 s.heap s.heap i:Int)≤1048576:=by
 have h:=TW s.heap s.heap i
 have:=Q.hp.size
 unfold CM at this
 omega
theorem Xl {im:At} {s:Ay} (Q:Il s) (hv :∀i,i < s.AT.length→Nn im (BZ s i)=true∧U6 s (BZ s i)=true) {N:Nat} (hN:2000000≤N) :
  E1 N s=some (Bk (MJ s) 0 s.heap):=by
 have hl:=Q.hp.len
 obtain⟨a,b⟩:=Z8 Q hv hN
 unfold E1
 rw[Qt Q.hp hN,a]
 simp only[Option.bind_some]
 rw[Bn (l:=s.heap) (Cc s (refs s.heap) (rowOf s.heap.length (Ld s s.AT.length Z))) (MJ s) (fun n=>by rw[Cc,if_neg (by simp[AK])]) (fun n i c hc=>?_) (by omega),Bz]
 ·cases Bk (MJ s) 0 s.heap <;> rfl
 ·have hi:=(List.getElem?_eq_some_iff.1 hc).1
  have hr:Sh.get (refs s.heap) (i:Int)=some (E0 s.heap s.heap i:Int):=Ai (Bc (by omega))
  have hb1:=Q.hb s.AT.length
  have hbi:=b i
  have ht:=R6 Q i
  rw[Cc,if_pos (by simp[AK];omega),Ai hc,hr,Ai (Bc hi),Au (n:=(i:Int) + 1) (by omega) (by omega),show ((i:Int) + 1)=((i+1:Nat):Int) by omega]
  simp only[Option.bind_some]
  rw[Au (by omega) (by omega)]
  unfold MJ
  by_cases h1:0 < c.count
  ·by_cases h2:c.count=(E0 s.heap s.heap i:Int) + Ld s s.AT.length Z i
   ·simp[h1,← h2]
   ·simp[h1,h2]
  ·simp[h1]
theorem MS {α β:Type} (f:Nat→α→α) (g:Nat→β→β) :∀(n:Nat) (a:α) (b:β),Ek (fun i (p:α×β)=>(f i p.1,g i p.2)) n (a,b)=(Ek f n a,Ek g n b)
 | 0,_,_=>rfl
 | n+1,a,b=>by
  show (f n (Ek _ n (a,b)).1,g n (Ek _ n (a,b)).2)=(f n (Ek f n a),g n (Ek g n b))
  rw[MS f g n a b]
def rows2 (n:Nat) (p:(Nat→Int)×(Nat→Int)):List Int×List Int:=(rowOf n p.1,rowOf n p.2)
theorem RE {h:List Cell} {w:Int} (hk:kept h w=true):1000≤w∧w - 1000 < (h.length:Int)∧∃c,h[(w - 1000).toNat]?=some c∧c.count < 0:=by
 unfold kept at hk
 simp only[Bool.and_eq_true,decide_eq_true_eq] at hk
 obtain⟨h1,h2⟩:=hk
 cases hc:h[(w - 1000).toNat]? with
 | none=>rw[hc] at h2;cases h2
 | some c=>
  rw[hc] at h2
  have:=(List.getElem?_eq_some_iff.1 hc).1
  exact⟨h1,by omega,c,rfl,of_decide_eq_true h2⟩
theorem Wd {h:List Cell} {w:Int} (hl:h.length≤1048576) (hw:Ez w) :
  (if (decide ((Sh.w (w - 1000)) < 0))=true then some true else if (decide ((Sh.len h)≤(Sh.w (w - 1000))))=true then some true else Option.bind (Sh.get h (Sh.w (w - 1000))) fun c37=>some (decide (0≤c37.count)))=some (!kept h w):=by
 obtain⟨w1,w2⟩:=hw
 rw[AK]
 by_cases h1:-9223372036854775808≤w - 1000
 ·rw[Au h1 (by omega)]
  by_cases h2:1000≤w
  ·have h2':¬ w - 1000 < 0:=by omega
   by_cases h3:(h.length:Int)≤w - 1000
   ·have:kept h w=false:=by unfold kept;rw[List.getElem?_eq_none (by omega)];simp
    simp[h2',h3,this]
   ·obtain⟨c,hc,hc2⟩:=L5 (l:=h) (j:=w - 1000) (by omega) (by omega)
    rw[hc]
    by_cases h4:c.count < 0
    ·have h4':¬ 0≤c.count:=by omega
     have:kept h w=true:=by unfold kept;rw[hc2];simp[h2,h4]
     simp[h2',h3,h4',this]
    ·have h4':0≤c.count:=by omega
     have:kept h w=false:=by unfold kept;rw[hc2];simp[h4]
     simp[h2',h3,h4',this]
  ·have h2':w - 1000 < 0:=by omega
   have:kept h w=false:=by unfold kept;simp[h2]
   simp[h2',this]
 ·have e0:Sh.w (w - 1000)=w - 1000+18446744073709551616:=Abs.TK (by omega) (by omega)
  rw[e0]
  have h2:¬ w - 1000+18446744073709551616 < 0:=by omega
  have h3:(h.length:Int)≤w - 1000+18446744073709551616:=by omega
  have:kept h w=false:=by unfold kept;simp;omega
  simp[h2,h3,this]
theorem XV {f:Ah} {h:List Cell} (hh:h.length≤1048576) (hz:fz f≤1048576) (hin:H9 f) (hl1:f.own.length=f.Ab.length) (hl2:f.held.length=f.Ab.length) (hr:E9 f.Ab.length (H5 f)=true)
  {A B:Nat} (hA:A≤1048577000000) (hB:B≤1048576) {N:Nat} (hN:2000000≤N) {F G:Nat→Int} (hF:JO A 0 F) (hG:JB B 0 G) :
  (E9 f.Ab.length (Ip h f)=true∧E9 f.held.length (Ln h f)=true∧E2 N (rowOf h.length F) (rowOf h.length G) f h=some (true,rowOf h.length (Ki f F),rowOf h.length (H2 f G))∧JO A f.own.length (Ki f F)∧JB B f.own.length (H2 f G))∨
  ((E9 f.Ab.length (Ip h f) && E9 f.held.length (Ln h f))=false∧∃a b,E2 N (rowOf h.length F) (rowOf h.length G) f h=some (false,a,b)):=by
 unfold RC.fz at hz
 have stp :∀n i (p:(Nat→Int)×(Nat→Int)),i < f.own.length→(JO A i p.1∧JB B i p.2)→
   ((Ip h f i && Ln h f i)=true→(JO A (i+1) (LJ f i p.1)∧JB B (i+1) (KY f i p.2))∧Bb f h (n+1) (i:Int) (rows2 h.length p).1 (rows2 h.length p).2=Bb f h n ((i+1:Nat):Int) (rows2 h.length (LJ f i p.1,KY f i p.2)).1 (rows2 h.length (LJ f i p.1,KY f i p.2)).2)∧
   ((Ip h f i && Ln h f i)=false→∃e,(∃a b,e=Sum.inl (false,a,b))∧Bb f h (n+1) (i:Int) (rows2 h.length p).1 (rows2 h.length p).2=some e):=by
  intro n i ⟨F,G⟩ hi ⟨hF,hG⟩
  unfold rows2
  dsimp only at hF hG ⊢
  have hri:=Gn.1 hr i (by omega)
  obtain⟨w1,w2⟩:=hin.Ab.1 _ (MR (l:=f.Ab) (r:=i) (by omega))
  obtain⟨v1,v2⟩:=hin.held.1 _ (MR (l:=f.held) (r:=i) (by omega))
  have e0:(Sh.w ((i:Int) + 1))=((i+1:Nat):Int):=by rw[Au (by omega) (by omega)];omega
  rw[Bb,if_pos (by simp[AK];omega),GB hi,GB (l:=f.Ab) (by omega),GB (l:=f.held) (by omega),e0]
  simp only[Option.bind_some]
  rw[Wd hh ⟨v1,v2⟩]
  rw[Jv hh ⟨w1,w2⟩]
  simp only[Option.bind_some,Bool.not_not]
  have second :∀R:List Int,Ln h f i=true→(if (!decide (Cv f.held i=0))=true then
     if (!kept h (Cv f.held i))=true then (some (Sum.inl (Sum.inl (false,R,rowOf h.length G))):Option (((Bool×List Int×List Int) ⊕ (List Int×List Int)) ⊕ (List Int×List Int)))
     else Option.bind (Sh.get (rowOf h.length G) (Sh.w (Cv f.held i - 1000))) fun c34=>some (Sum.inr (R,Sh.put (rowOf h.length G) (Sh.w (Cv f.held i - 1000)) (Sh.w (c34+1))))
    else some (Sum.inr (R,rowOf h.length G)))=some (Sum.inr (R,rowOf h.length (KY f i G))):=by
   intro R hd
   unfold Ln at hd
   by_cases h0:Cv f.held i=0
   ·have e:KY f i G=G:=by funext j;unfold KY;rw[if_neg (by omega)]
    simp[h0,e]
   ·simp only[h0,decide_false,Bool.false_or] at hd
    obtain⟨h1,h2,_⟩:=RE hd
    have hb:=hG (Cv f.held i - 1000).toNat
    rw[Au (n:=Cv f.held i - 1000) (by omega) (by omega),RU h1 h2]
    simp only[h0,hd,decide_false,Bool.not_false,Bool.not_true,if_true,Bool.false_eq_true,if_false,Option.bind_some]
    rw[RK h1,Au (by omega) (by omega)]
    congr 3
    refine Bj fun j _=>?_
    unfold KY
    by_cases hj:(j:Int) + 1000=Cv f.held i
    ·rw[if_pos hj,if_pos hj,show (Cv f.held i - 1000).toNat=j by omega]
    ·rw[if_neg hj,if_neg hj]
  have sec2 :∀R:List Int,Ln h f i=false→(if (!decide (Cv f.held i=0))=true then
     if (!kept h (Cv f.held i))=true then (some (Sum.inl (Sum.inl (false,R,rowOf h.length G))):Option (((Bool×List Int×List Int) ⊕ (List Int×List Int)) ⊕ (List Int×List Int)))
     else Option.bind (Sh.get (rowOf h.length G) (Sh.w (Cv f.held i - 1000))) fun c34=>some (Sum.inr (R,Sh.put (rowOf h.length G) (Sh.w (Cv f.held i - 1000)) (Sh.w (c34+1))))
    else some (Sum.inr (R,rowOf h.length G)))=some (Sum.inl (Sum.inl (false,R,rowOf h.length G))):=by
   intro R hd
   unfold Ln at hd
   simp only[Bool.or_eq_false_iff,decide_eq_false_iff_not] at hd
   simp[hd.1,hd.2]
  by_cases ho:0 < Cv f.own i
  ·cases hlv:Eh h (Cv f.Ab i) with
   | false=>
    have hv:Ip h f i=false:=by unfold Ip;simp[ho,hlv]
    rw[hv]
    refine⟨fun h=>(by cases h),fun _=>⟨_,⟨rowOf h.length F,rowOf h.length G,rfl⟩,?_⟩⟩
    simp[ho,Sh.cont]
   | true=>
    have hv:Ip h f i=true:=by unfold Ip;simp[hlv]
    obtain⟨h1,h2,g1,g2⟩:=TP rfl hA hri hv hF (by omega) ho
    rw[Au (n:=Cv f.Ab i - 1000) (by omega) (by omega),g1]
    simp only[ho,decide_true,if_true,Bool.not_true,Bool.false_eq_true,if_false,Option.bind_some,Sh.cont]
    rw[g2,hv]
    cases hd:Ln h f i with
    | true=>
     refine⟨fun _=>⟨⟨WZ hri hF,Vi hG⟩,?_⟩,fun h=>by cases h⟩
     rw[second _ hd]
    | false=>
     refine⟨fun h=>(by cases h),fun _=>⟨_,⟨rowOf h.length (LJ f i F),rowOf h.length G,rfl⟩,?_⟩⟩
     rw[sec2 _ hd];rfl
  ·have hv:Ip h f i=true:=by unfold Ip;simp[ho]
   have e:LJ f i F=F:=by funext j;unfold LJ;rw[if_neg fun h=>ho h.1]
   have hJF:=WZ hri hF
   rw[e] at hJF ⊢
   rw[hv]
   simp only[ho,decide_false,Bool.false_eq_true,if_false,Sh.cont]
   cases hd:Ln h f i with
   | true=>
    refine⟨fun _=>⟨⟨hJF,Vi hG⟩,?_⟩,fun h=>by cases h⟩
    rw[second _ hd]
   | false=>
    refine⟨fun h=>(by cases h),fun _=>⟨_,⟨rowOf h.length F,rowOf h.length G,rfl⟩,?_⟩⟩
    rw[sec2 _ hd];rfl
 have spl :∀p,(E9 f.own.length fun i=>Ip h f i && Ln h f i)=p→(E9 f.Ab.length (Ip h f) && E9 f.held.length (Ln h f))=p:=by
  intro p hp
  rw[← hp,← hl1,hl2,← hl1]
  unfold E9
  induction List.range f.own.length with
  | nil=>rfl
  | cons x r ih=>simp only[List.all_cons];rw[← ih];cases Ip h f x <;> cases Ln h f x <;> cases r.all (Ip h f) <;> simp
 unfold E2
 rcases Jh (τ:=(Nat→Int)×(Nat→Int)) f.own.length (fun n i (r:List Int×List Int)=>Bb f h n i r.1 r.2) (Sum.inr) (rows2 h.length) (fun i=>Ip h f i && Ln h f i) (fun i p=>(LJ f i p.1,KY f i p.2)) (fun i p=>JO A i p.1∧JB B i p.2) (fun e=>∃a b,e=Sum.inl (false,a,b))
  (fun n r=>by rw[Bb,if_neg (by simp[AK])]) stp (by omega:f.own.length < N) (s:=(F,G)) ⟨hF,hG⟩ with ⟨a,b,c⟩ | ⟨ho,e,⟨a,b,he⟩,hb⟩
 ·have h1:=spl true (Gn.2 a)
  rw[Bool.and_eq_true] at h1
  rw[MS] at b c
  refine .inl ⟨h1.1,h1.2,?_,c.1,?_⟩
  ·have b':Bb f h N 0 (rowOf h.length F) (rowOf h.length G)=_:=b
   rw[b']
   unfold H2
   rw[hl2,← hl1];rfl
  ·unfold H2
   rw[hl2,← hl1];exact c.2
 ·refine .inr ⟨spl false (VG ho),a,b,?_⟩
  have b':Bb f h N 0 (rowOf h.length F) (rowOf h.length G)=_:=hb
  rw[b',he];rfl
end RC

