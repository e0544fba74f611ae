import Derived.Test.YtobjlimoekffaaaGreatIVD

namespace RC
open Go
def Vp (s:Av) (f:Ai):Bool:=FD f.Ab.length (IM s.heap f)
def YN (s:Av) (f:Ai):Bool:=FD f.held.length (L0 s.heap f)
theorem SM {s:Av} (Q:IU s) {k:Nat} (hk:k < s.AT.length) {F:Nat→Int} {A:Nat} (h:JO (A+999999 * hb s k+999999 * (Ba s k).own.length) 0 F):JO (A+999999 * hb s (k+1)) 0 F:=fun j=>by
 have:=h j
 have h2:=Oz hk
 have h3:(Ba s k).own.length≤fz (Ba s k):=by unfold fz;omega
 omega
theorem TA {A i:Nat} {F:Nat→Int} (h:JO A i F):JO (A+999999 * i) 0 F:=fun j=>by have:=h j;omega
theorem aS {im:Au} {s:Av} (Q:IU s) (hv :∀i,i < s.AT.length→N4 im (Ba s i)=true∧Vp s (Ba s i)=true) {N:Nat} (hN:2000000≤N) :
  G7 N s=some (rowOf s.heap.length (Ln s s.AT.length Z))∧JO (999999 * hb s s.AT.length) 0 (Ln s s.AT.length Z):=by
 have hl:=Q.hp.len
 have hfl:=Q.fl
 have stp :∀n i F,i < s.AT.length→JO (999999 * hb s i) 0 F→((fun _=>true) i=true→JO (999999 * hb s (i+1)) 0 (LG (Ba s i) F)∧CC N s (n+1) (i:Int) (rowOf s.heap.length F)=CC N s n ((i+1:Nat):Int) (rowOf s.heap.length (LG (Ba s i) F)))∧((fun _:Nat=>true) i=false→∃e,False∧CC N s (n+1) (i:Int) (rowOf s.heap.length F)=some e):=by
  intro n i F hi hJ
  refine⟨fun _=>?_,fun h=>by cases h⟩
  obtain⟨g1,g2,g3⟩:=Hu hi
  obtain⟨v1,v2⟩:=hv i hi
  obtain⟨l1,l2,l3⟩:=VS v1
  have hb1:=Q.hb i
  obtain⟨a,b⟩:=Zt hl (Q.fz g2) (Q.fin g2) l1 l3 v2 (A:=999999 * hb s i) (by omega) hN hJ
  refine⟨?_,?_⟩
  ·have:=SM Q hi (A:=0) (F:=LG (Ba s i) F) (by simpa using TA b)
   simpa using this
  ·have e0:(Sh.w ((i:Int) + 1))=((i+1:Nat):Int):=by rw[As (by omega) (by omega)];omega
   rw[CC,if_pos (by simp[AK];omega),g1]
   simp only[Option.bind_some]
   rw[a,e0];rfl
 have hZ:JO (999999 * hb s 0) 0 Z:=fun j=>⟨Int.le_refl _,by unfold Z;omega⟩
 unfold G7
 rw[AK,Gw _ s.heap.length 8 (by omega) (by omega),Ed,show (fun _:Nat=>(0:Int))=Z from rfl]
 simp only[Option.bind_some]
 rcases Jt (τ:=Nat→Int) s.AT.length (CC N s) (fun r=>r) (rowOf s.heap.length) (fun _=>true) (fun i=>LG (Ba s i)) (fun i=>JO (999999 * hb s i) 0) (fun _=>False)
  (fun n r=>by rw[CC,if_neg (by simp[AK])]) stp (by omega:s.AT.length < N) hZ with ⟨a,b,c⟩ | ⟨_,e,he,_⟩
 ·rw[b];exact⟨rfl,c⟩
 ·cases he
def Md (s:Av) (i:Nat) (c:Cell):Bool:=!decide (0 < c.count) || decide (c.count=(E5 s.heap s.heap i:Int) + Ln s s.AT.length Z i)
theorem Ro {s:Av} (Q:IU s) (i:Nat):(E5 s.heap s.heap i:Int)≤1048576:=by
 have h:=Th s.heap s.heap i
 have:=Q.hp.size
 unfold CN at this
 omega
theorem XX {im:Au} {s:Av} (Q:IU s) (hv :∀i,i < s.AT.length→N4 im (Ba s i)=true∧Vp s (Ba s i)=true) {N:Nat} (hN:2000000≤N) :
  E7 N s=some (Bl (Md s) 0 s.heap):=by
 have hl:=Q.hp.len
 obtain⟨a,b⟩:=aS Q hv hN
 unfold E7
 rw[SC Q.hp hN,a]
 simp only[Option.bind_some]
 rw[Bo (l:=s.heap) (Cd s (refs s.heap) (rowOf s.heap.length (Ln s s.AT.length Z))) (Md s) (fun n=>by rw[Cd,if_neg (by simp[AK])]) (fun n i c hc=>?_) (by omega),Bz]
 ·cases Bl (Md s) 0 s.heap <;> rfl
 ·have hi:=(List.getElem?_eq_some_iff.1 hc).1
  have hr:Sh.get (refs s.heap) (i:Int)=some (E5 s.heap s.heap i:Int):=Ak (Bd (by omega))
  have hb1:=Q.hb s.AT.length
  have hbi:=b i
  have ht:=Ro Q i
  rw[Cd,if_pos (by simp[AK];omega),Ak hc,hr,Ak (Bd hi),As (n:=(i:Int) + 1) (by omega) (by omega),show ((i:Int) + 1)=((i+1:Nat):Int) by omega]
  simp only[Option.bind_some]
  rw[As (by omega) (by omega)]
  unfold Md
  by_cases h1:0 < c.count
  ·by_cases h2:c.count=(E5 s.heap s.heap i:Int) + Ln s s.AT.length Z i
   ·simp[h1,← h2]
   ·simp[h1,h2]
  ·simp[h1]
theorem Mn {α β:Type} (f:Nat→α→α) (g:Nat→β→β) :∀(n:Nat) (a:α) (b:β),Er (fun i (p:α×β)=>(f i p.1,g i p.2)) n (a,b)=(Er f n a,Er g n b)
 | 0,_,_=>rfl
 | n+1,a,b=>by
  show (f n (Er _ n (a,b)).1,g n (Er _ n (a,b)).2)=(f n (Er f n a),g n (Er g n b))
  rw[Mn f g n a b]
def rows2 (n:Nat) (p:(Nat→Int)×(Nat→Int)):List Int×List Int:=(rowOf n p.1,rowOf n p.2)
theorem SF {h:List Cell} {w:Int} (hk:kept h w=true):1000≤w∧w - 1000 < (h.length:Int)∧∃c,h[(w - 1000).toNat]?=some c∧c.count < 0:=by
 unfold kept at hk
 simp only[Bool.and_eq_true,decide_eq_true_eq] at hk
 obtain⟨h1,h2⟩:=hk
 cases hc:h[(w - 1000).toNat]? with
 | none=>rw[hc] at h2;cases h2
 | some c=>
  rw[hc] at h2
  have:=(List.getElem?_eq_some_iff.1 hc).1
  exact⟨h1,by omega,c,rfl,of_decide_eq_true h2⟩
theorem Wi {h:List Cell} {w:Int} (hl:h.length≤1048576) (hw:E3 w) :
  (if (decide ((Sh.w (w - 1000)) < 0))=true then some true else if (decide ((Sh.len h)≤(Sh.w (w - 1000))))=true then some true else Option.bind (Sh.get h (Sh.w (w - 1000))) fun c37=>some (decide (0≤c37.count)))=some (!kept h w):=by
 obtain⟨w1,w2⟩:=hw
 rw[AK]
 by_cases h1:-9223372036854775808≤w - 1000
 ·rw[As h1 (by omega)]
  by_cases h2:1000≤w
  ·have h2':¬ w - 1000 < 0:=by omega
   by_cases h3:(h.length:Int)≤w - 1000
   ·have:kept h w=false:=by unfold kept;rw[List.getElem?_eq_none (by omega)];simp
    simp[h2',h3,this]
   ·obtain⟨c,hc,hc2⟩:=L4 (l:=h) (j:=w - 1000) (by omega) (by omega)
    rw[hc]
    by_cases h4:c.count < 0
    ·have h4':¬ 0≤c.count:=by omega
     have:kept h w=true:=by unfold kept;rw[hc2];simp[h2,h4]
     simp[h2',h3,h4',this]
    ·have h4':0≤c.count:=by omega
     have:kept h w=false:=by unfold kept;rw[hc2];simp[h4]
     simp[h2',h3,h4',this]
  ·have h2':w - 1000 < 0:=by omega
   have:kept h w=false:=by unfold kept;simp[h2]
   simp[h2',this]
 ·have e0:Sh.w (w - 1000)=w - 1000+18446744073709551616:=Abs.TQ (by omega) (by omega)
  rw[e0]
  have h2:¬ w - 1000+18446744073709551616 < 0:=by omega
  have h3:(h.length:Int)≤w - 1000+18446744073709551616:=by omega
  have:kept h w=false:=by unfold kept;simp;omega
  simp[h2,h3,this]
theorem X5 {f:Ai} {h:List Cell} (hh:h.length≤1048576) (hz:fz f≤1048576) (hin:IJ f) (hl1:f.own.length=f.Ab.length) (hl2:f.held.length=f.Ab.length) (hr:FD f.Ab.length (IE f)=true)
  {A B:Nat} (hA:A≤1048577000000) (hB:B≤1048576) {N:Nat} (hN:2000000≤N) {F G:Nat→Int} (hF:JO A 0 F) (hG:JB B 0 G) :
  (FD f.Ab.length (IM h f)=true∧FD f.held.length (L0 h f)=true∧E6 N (rowOf h.length F) (rowOf h.length G) f h=some (true,rowOf h.length (LG f F),rowOf h.length (H8 f G))∧JO A f.own.length (LG f F)∧JB B f.own.length (H8 f G))∨
  ((FD f.Ab.length (IM h f) && FD f.held.length (L0 h f))=false∧∃a b,E6 N (rowOf h.length F) (rowOf h.length G) f h=some (false,a,b)):=by
 unfold RC.fz at hz
 have stp :∀n i (p:(Nat→Int)×(Nat→Int)),i < f.own.length→(JO A i p.1∧JB B i p.2)→
   ((IM h f i && L0 h f i)=true→(JO A (i+1) (LI f i p.1)∧JB B (i+1) (Kj f i p.2))∧Bc f h (n+1) (i:Int) (rows2 h.length p).1 (rows2 h.length p).2=Bc f h n ((i+1:Nat):Int) (rows2 h.length (LI f i p.1,Kj f i p.2)).1 (rows2 h.length (LI f i p.1,Kj f i p.2)).2)∧
   ((IM h f i && L0 h f i)=false→∃e,(∃a b,e=Sum.inl (false,a,b))∧Bc f h (n+1) (i:Int) (rows2 h.length p).1 (rows2 h.length p).2=some e):=by
  intro n i ⟨F,G⟩ hi ⟨hF,hG⟩
  unfold rows2
  dsimp only at hF hG ⊢
  have hri:=Gs.1 hr i (by omega)
  obtain⟨w1,w2⟩:=hin.Ab.1 _ (MZ (l:=f.Ab) (r:=i) (by omega))
  obtain⟨v1,v2⟩:=hin.held.1 _ (MZ (l:=f.held) (r:=i) (by omega))
  have e0:(Sh.w ((i:Int) + 1))=((i+1:Nat):Int):=by rw[As (by omega) (by omega)];omega
  rw[Bc,if_pos (by simp[AK];omega),Fy hi,Fy (l:=f.Ab) (by omega),Fy (l:=f.held) (by omega),e0]
  simp only[Option.bind_some]
  rw[Wi hh ⟨v1,v2⟩]
  rw[J5 hh ⟨w1,w2⟩]
  simp only[Option.bind_some,Bool.not_not]
  have second :∀R:List Int,L0 h f i=true→(if (!decide (Cy f.held i=0))=true then
     if (!kept h (Cy f.held i))=true then (some (Sum.inl (Sum.inl (false,R,rowOf h.length G))):Option (((Bool×List Int×List Int) ⊕ (List Int×List Int)) ⊕ (List Int×List Int)))
     else Option.bind (Sh.get (rowOf h.length G) (Sh.w (Cy f.held i - 1000))) fun c34=>some (Sum.inr (R,Sh.put (rowOf h.length G) (Sh.w (Cy f.held i - 1000)) (Sh.w (c34+1))))
    else some (Sum.inr (R,rowOf h.length G)))=some (Sum.inr (R,rowOf h.length (Kj f i G))):=by
   intro R hd
   unfold L0 at hd
   by_cases h0:Cy f.held i=0
   ·have e:Kj f i G=G:=by funext j;unfold Kj;rw[if_neg (by omega)]
    simp[h0,e]
   ·simp only[h0,decide_false,Bool.false_or] at hd
    obtain⟨h1,h2,_⟩:=SF hd
    have hb:=hG (Cy f.held i - 1000).toNat
    rw[As (n:=Cy f.held i - 1000) (by omega) (by omega),RU h1 h2]
    simp only[h0,hd,decide_false,Bool.not_false,Bool.not_true,if_true,Bool.false_eq_true,if_false,Option.bind_some]
    rw[Rb h1,As (by omega) (by omega)]
    congr 3
    refine Bj fun j _=>?_
    unfold Kj
    by_cases hj:(j:Int) + 1000=Cy f.held i
    ·rw[if_pos hj,if_pos hj,show (Cy f.held i - 1000).toNat=j by omega]
    ·rw[if_neg hj,if_neg hj]
  have sec2 :∀R:List Int,L0 h f i=false→(if (!decide (Cy f.held i=0))=true then
     if (!kept h (Cy f.held i))=true then (some (Sum.inl (Sum.inl (false,R,rowOf h.length G))):Option (((Bool×List Int×List Int) ⊕ (List Int×List Int)) ⊕ (List Int×List Int)))
     else Option.bind (Sh.get (rowOf h.length G) (Sh.w (Cy f.held i - 1000))) fun c34=>some (Sum.inr (R,Sh.put (rowOf h.length G) (Sh.w (Cy f.held i - 1000)) (Sh.w (c34+1))))
    else some (Sum.inr (R,rowOf h.length G)))=some (Sum.inl (Sum.inl (false,R,rowOf h.length G))):=by
   intro R hd
   unfold L0 at hd
   simp only[Bool.or_eq_false_iff,decide_eq_false_iff_not] at hd
   simp[hd.1,hd.2]
  by_cases ho:0 < Cy f.own i
  ·cases hlv:En h (Cy f.Ab i) with
   | false=>
    have hv:IM h f i=false:=by unfold IM;simp[ho,hlv]
    rw[hv]
    refine⟨fun h=>(by cases h),fun _=>⟨_,⟨rowOf h.length F,rowOf h.length G,rfl⟩,?_⟩⟩
    simp[ho,Sh.cont]
   | true=>
    have hv:IM h f i=true:=by unfold IM;simp[hlv]
    obtain⟨h1,h2,g1,g2⟩:=TG rfl hA hri hv hF (by omega) ho
    rw[As (n:=Cy f.Ab i - 1000) (by omega) (by omega),g1]
    simp only[ho,decide_true,if_true,Bool.not_true,Bool.false_eq_true,if_false,Option.bind_some,Sh.cont]
    rw[g2,hv]
    cases hd:L0 h f i with
    | true=>
     refine⟨fun _=>⟨⟨WQ hri hF,Wq hG⟩,?_⟩,fun h=>by cases h⟩
     rw[second _ hd]
    | false=>
     refine⟨fun h=>(by cases h),fun _=>⟨_,⟨rowOf h.length (LI f i F),rowOf h.length G,rfl⟩,?_⟩⟩
     rw[sec2 _ hd];rfl
  ·have hv:IM h f i=true:=by unfold IM;simp[ho]
   have e:LI f i F=F:=by funext j;unfold LI;rw[if_neg fun h=>ho h.1]
   have hJF:=WQ hri hF
   rw[e] at hJF ⊢
   rw[hv]
   simp only[ho,decide_false,Bool.false_eq_true,if_false,Sh.cont]
   cases hd:L0 h f i with
   | true=>
    refine⟨fun _=>⟨⟨hJF,Wq hG⟩,?_⟩,fun h=>by cases h⟩
    rw[second _ hd]
   | false=>
    refine⟨fun h=>(by cases h),fun _=>⟨_,⟨rowOf h.length F,rowOf h.length G,rfl⟩,?_⟩⟩
    rw[sec2 _ hd];rfl
 have spl :∀p,(FD f.own.length fun i=>IM h f i && L0 h f i)=p→(FD f.Ab.length (IM h f) && FD f.held.length (L0 h f))=p:=by
  intro p hp
  rw[← hp,← hl1,hl2,← hl1]
  unfold FD
  induction List.range f.own.length with
  | nil=>rfl
  | cons x r ih=>simp only[List.all_cons];rw[← ih];cases IM h f x <;> cases L0 h f x <;> cases r.all (IM h f) <;> simp
 unfold E6
 rcases Jt (τ:=(Nat→Int)×(Nat→Int)) f.own.length (fun n i (r:List Int×List Int)=>Bc f h n i r.1 r.2) (Sum.inr) (rows2 h.length) (fun i=>IM h f i && L0 h f i) (fun i p=>(LI f i p.1,Kj f i p.2)) (fun i p=>JO A i p.1∧JB B i p.2) (fun e=>∃a b,e=Sum.inl (false,a,b))
  (fun n r=>by rw[Bc,if_neg (by simp[AK])]) stp (by omega:f.own.length < N) (s:=(F,G)) ⟨hF,hG⟩ with ⟨a,b,c⟩ | ⟨ho,e,⟨a,b,he⟩,hb⟩
 ·have h1:=spl true (Gs.2 a)
  rw[Bool.and_eq_true] at h1
  rw[Mn] at b c
  refine .inl ⟨h1.1,h1.2,?_,c.1,?_⟩
  ·have b':Bc f h N 0 (rowOf h.length F) (rowOf h.length G)=_:=b
   rw[b']
   unfold H8
   rw[hl2,← hl1];rfl
  ·unfold H8
   rw[hl2,← hl1];exact c.2
 ·refine .inr ⟨spl false (U0 ho),a,b,?_⟩
  have b':Bc f h N 0 (rowOf h.length F) (rowOf h.length G)=_:=hb
  rw[b',he];rfl
end RC

