import Derived.Test.YtobjlimoekffaaaGreatIVB

namespace RC
open Go
structure Il (s:Ay):Prop where
 hp:Hp s.heap
 cT:I0 s
 size:J4 s≤1048576
theorem Il.fl {s:Ay} (S:Il s):s.AT.length≤1048576:=by have:=S.size;unfold J4 at this;omega
def hb (s:Ay) (k:Nat):Nat:=((s.AT.take k).map fz).sum
theorem OS {s:Ay} {k:Nat} (h:k < s.AT.length):hb s (k+1)=hb s k+fz (BZ s k):=by
 unfold hb
 rw[Eo (HZ h).2.2];simp
theorem av (s:Ay) (k:Nat):hb s k≤(s.AT.map fz).sum:=by
 unfold hb
 have h:(s.AT.map fz).sum=((s.AT.take k).map fz).sum+((s.AT.drop k).map fz).sum:=by
  rw[← List.sum_append_nat,← List.map_append,List.take_append_drop]
 omega
theorem Il.hb {s:Ay} (S:Il s) (k:Nat):hb s k≤1048576:=by
 have h:=av s k
 have:=S.size;unfold J4 at this;omega
theorem Il.fz {s:Ay} (S:Il s) {f:Ah} (hf:f∈s.AT):fz f≤1048576:=by
 have:=EX RC.fz hf
 have:=S.size;unfold J4 at this;omega
theorem Il.fin {s:Ay} (S:Il s) {f:Ah} (hf:f∈s.AT):H9 f:=S.cT.AT.1 f hf
def Y9 (s:Ay) (w:Int):Bool:=decide (1000≤w) && decide (w - 1000 < (s.heap.length:Int))
def UI (s:Ay) (f:Ah) (r:Nat):Bool:=decide (Cv f.held r=0) || Y9 s (Cv f.held r)
def Tj (s:Ay) (f:Ah):Bool:=(List.range f.held.length).all (UI s f)
theorem OR {s:Ay} {f:Ah}:Tj s f=true↔∀j,j < f.held.length→UI s f j=true:=by
 unfold Tj;rw[List.all_eq_true];exact⟨fun h j hj=>h j (List.mem_range.2 hj),fun h j hj=>h j (List.mem_range.1 hj)⟩
def JB (B:Nat) (i:Nat) (G:Nat→Int):Prop:=∀j,0≤G j∧G j≤(B:Int) + (i:Int)
theorem Vi {f:Ah} {B i:Nat} {G:Nat→Int} (h:JB B i G):JB B (i+1) (KY f i G):=fun j=>by
 have:=h j
 unfold KY
 split <;> omega
theorem ZN {s:Ay} (S:Il s) {k:Nat} (hk:k < s.AT.length) {N:Nat} (hN:2000000≤N) {B:Nat} (hB:B≤1048576) {G:Nat→Int} (hG:JB B 0 G) :
  (Tj s (BZ s k)=true∧Bm k s N 0 (rowOf s.heap.length G)=some (.inr (rowOf s.heap.length (H2 (BZ s k) G)))∧JB B (BZ s k).held.length (H2 (BZ s k) G))∨
  (Tj s (BZ s k)=false∧Bm k s N 0 (rowOf s.heap.length G)=some (.inl false)):=by
 have hl:=S.hp.len
 obtain⟨g1,g2,g3⟩:=HZ hk
 have hz:=S.fz g2
 have hin:=S.fin g2
 generalize hf:BZ s k=f at *
 have hlen:f.held.length≤1048576:=by unfold RC.fz at hz;omega
 have stp :∀n i G,i < f.held.length→JB B i G→(UI s f i=true→JB B (i+1) (KY f i G)∧Bm k s (n+1) (i:Int) (rowOf s.heap.length G)=Bm k s n ((i+1:Nat):Int) (rowOf s.heap.length (KY f i G)))∧(UI s f i=false→∃e,e=Sum.inl false∧Bm k s (n+1) (i:Int) (rowOf s.heap.length G)=some e):=by
  intro n i G hi hJ
  obtain⟨w1,w2⟩:=hin.held.1 _ (MR hi)
  have e0:(Sh.w ((i:Int) + 1))=((i+1:Nat):Int):=by rw[Au (by omega) (by omega)];omega
  refine⟨fun ho=>⟨Vi hJ,?_⟩,fun ho=>⟨_,rfl,?_⟩⟩
  ·rw[Bm,g1]
   simp only[Option.bind_some]
   rw[if_pos (by simp[AK];omega),GB hi,e0]
   simp only[Option.bind_some]
   unfold UI Y9 at ho
   by_cases h0:Cv f.held i=0
   ·have e:KY f i G=G:=by funext j;unfold KY;rw[if_neg (by omega)]
    simp[h0,Sh.cont,e]
   ·simp only[h0,decide_false,Bool.false_or,Bool.and_eq_true,decide_eq_true_eq] at ho
    obtain⟨h1,h2⟩:=ho
    have hb:=hJ (Cv f.held i - 1000).toNat
    have e1:Sh.w (Cv f.held i - 1000)=Cv f.held i - 1000:=Au (by omega) (by omega)
    have e2:Sh.w ((s.heap.length:Int) - 1)=(s.heap.length:Int) - 1:=Au (by omega) (by omega)
    have e3:Sh.w (G (Cv f.held i - 1000).toNat+1)=G (Cv f.held i - 1000).toNat+1:=Au (by omega) (by omega)
    unfold Ct
    simp only[h0,h1,decide_false,decide_true,Bool.not_false,Bool.not_true,if_true,Bool.false_eq_true,if_false,Option.bind_some,A6,AK,e1,e2]
    rw[decide_eq_true (by omega:(0:Int)≤Cv f.held i - 1000),decide_eq_true (by omega:Cv f.held i - 1000≤(s.heap.length:Int) - 1),RU h1 h2]
    simp only[Bool.and_self,Bool.not_true,Bool.false_eq_true,if_false,Option.bind_some,Sh.cont,e3]
    rw[RK h1]
    congr 1
    refine Bj fun j _=>?_
    unfold KY
    by_cases hj:(j:Int) + 1000=Cv f.held i
    ·rw[if_pos hj,if_pos hj,show (Cv f.held i - 1000).toNat=j by omega]
    ·rw[if_neg hj,if_neg hj]
  ·rw[Bm,g1]
   simp only[Option.bind_some]
   rw[if_pos (by simp[AK];omega),GB hi]
   simp only[Option.bind_some]
   unfold UI Y9 at ho
   simp only[Bool.or_eq_false_iff,decide_eq_false_iff_not,Bool.and_eq_false_iff] at ho
   obtain⟨h0,h1⟩:=ho
   unfold Ct
   by_cases hp:1000≤Cv f.held i
   ·have h2:¬ Cv f.held i - 1000 < (s.heap.length:Int):=by rcases h1 with h1 | h1 <;> omega
    have e1:Sh.w (Cv f.held i - 1000)=Cv f.held i - 1000:=Au (by omega) (by omega)
    have e2:Sh.w ((s.heap.length:Int) - 1)=(s.heap.length:Int) - 1:=Au (by omega) (by omega)
    have h3:¬ Cv f.held i - 1000≤(s.heap.length:Int) - 1:=by omega
    simp[h0,hp,A6,AK,e1,e2,h3,Sh.cont]
   ·simp[h0,hp,Sh.cont]
 rcases Jh (τ:=Nat→Int) f.held.length (Bm k s) (Sum.inr) (rowOf s.heap.length) (UI s f) (KY f) (JB B) (fun e=>e=.inl false)
  (fun n r=>by rw[Bm,g1];simp[AK]) stp (by omega:f.held.length < N) hG with ⟨a,b,c⟩ | ⟨⟨j,hj,ho⟩,e,he,b⟩
 ·exact .inl ⟨OR.2 a,b,c⟩
 ·refine .inr ⟨?_,by rw[b,he]⟩
  cases h:Tj s f with
  | false=>rfl
  | true=>rw[OR.1 h j hj] at ho;cases ho
def H0 (s:Ay) (p:Nat→Bool):Bool:=(List.range s.AT.length).all p
theorem G2 {s:Ay} {p:Nat→Bool}:H0 s p=true↔∀j,j < s.AT.length→p j=true:=by
 unfold H0;rw[List.all_eq_true];exact⟨fun h j hj=>h j (List.mem_range.2 hj),fun h j hj=>h j (List.mem_range.1 hj)⟩
theorem OZ {s:Ay} {p:Nat→Bool} (h :∃j,j < s.AT.length∧p j=false):H0 s p=false:=by
 obtain⟨j,hj,ho⟩:=h
 cases e:H0 s p with
 | false=>rfl
 | true=>rw[G2.1 e j hj] at ho;cases ho
def Tr (s:Ay):Bool:=H0 s fun i=>Tj s (BZ s i)
def Z:Nat→Int:=fun _=>0
theorem Ye {s:Ay} (S:Il s) {N:Nat} (hN:2000000≤N) :
  Br N s N 0 (rowOf s.heap.length Z)=some (if Tr s=true then .inr (rowOf s.heap.length (G7 s s.AT.length Z)) else .inl false)∧(∀j,0≤G7 s s.AT.length Z j):=by
 have hfl:=S.fl
 have hpos :∀j,0≤G7 s s.AT.length Z j:=fun j=>by
  obtain⟨a,b⟩:=R5 s j s.AT.length Z
  by_cases h :∃i,i < s.AT.length∧TD (BZ s i) j
  ·have:=a h;have z:Z j=0:=rfl;omega
  ·rw[b h];exact Int.le_refl _
 refine⟨?_,hpos⟩
 have stp :∀n i G,i < s.AT.length→JB (hb s i) 0 G→(Tj s (BZ s i)=true→JB (hb s (i+1)) 0 (H2 (BZ s i) G)∧Br N s (n+1) (i:Int) (rowOf s.heap.length G)=Br N s n ((i+1:Nat):Int) (rowOf s.heap.length (H2 (BZ s i) G)))∧(Tj s (BZ s i)=false→∃e,e=Sum.inl false∧Br N s (n+1) (i:Int) (rowOf s.heap.length G)=some e):=by
  intro n i G hi hJ
  have e0:(Sh.w ((i:Int) + 1))=((i+1:Nat):Int):=by rw[Au (by omega) (by omega)];omega
  rcases ZN S hi hN (S.hb i) hJ with ⟨a,b,c⟩ | ⟨a,b⟩
  ·refine⟨fun _=>⟨fun j=>?_,?_⟩,fun h=>by rw[a] at h;cases h⟩
   ·have:=c j
    have h2:=OS hi
    have h3:(BZ s i).held.length≤fz (BZ s i):=by unfold fz;omega
    omega
   ·rw[Br,if_pos (by simp[AK];omega),b,e0];rfl
  ·refine⟨fun h=>(by rw[a] at h;cases h),fun _=>⟨_,rfl,?_⟩⟩
   rw[Br,if_pos (by simp[AK];omega),b];rfl
 have hZ:JB (hb s 0) 0 Z:=fun j=>⟨Int.le_refl _,by unfold Z;omega⟩
 rcases Jh (τ:=Nat→Int) s.AT.length (Br N s) (Sum.inr) (rowOf s.heap.length) (fun i=>Tj s (BZ s i)) (fun i=>H2 (BZ s i)) (fun i=>JB (hb s i) 0) (fun e=>e=.inl false)
  (fun n r=>by rw[Br,if_neg (by simp[AK])]) stp (by omega:s.AT.length < N) hZ with ⟨a,b,c⟩ | ⟨h,e,he,b⟩
 ·rw[b,if_pos (show Tr s=true from G2.2 a)];rfl
 ·rw[b,he,if_neg (by rw[show Tr s=false from OZ h];simp)]
theorem WY {β γ:Type} {b:Bool} {x:γ} {K:γ→Option β} {g:Bool→β}:Sh.cont (some (if b=true then Sum.inr x else Sum.inl false)) g K=if b=true then K x else some (g false):=by
 cases b <;> rfl
def Kd (M:Nat→Int) (i:Nat) (c:Cell):Bool:=(!decide (c.count < 0) || decide (M i=1)) && (!decide (0≤c.count) || decide (M i=0))
theorem Tq {s:Ay} (S:Il s) {N:Nat} (hN:2000000≤N):GD N s=some (Tr s && Bk (Kd (G7 s s.AT.length Z)) 0 s.heap):=by
 have hl:=S.hp.len
 unfold GD
 rw[AK,Gu _ s.heap.length 8 (by omega) (by omega),Ea]
 simp only[Option.bind_some]
 rw[show (fun _:Nat=>(0:Int))=Z from rfl,(Ye S hN).1,WY]
 cases Tr s with
 | false=>rfl
 | true=>
  simp only[if_true,Bool.true_and]
  have L:=Bn (l:=s.heap) (Dl (rowOf s.heap.length (G7 s s.AT.length Z)) s) (Kd (G7 s s.AT.length Z)) (fun n=>by rw[Dl,if_neg (by simp[AK,E5])]) (fun n i c hc=>?_) (by omega:s.heap.length < N)
  ·rw[L,Bz]
   cases Bk (Kd (G7 s s.AT.length Z)) 0 s.heap <;> rfl
  ·have hi:=(List.getElem?_eq_some_iff.1 hc).1
   have e0:(Sh.w ((i:Int) + 1))=((i+1:Nat):Int):=by rw[Au (by omega) (by omega)];omega
   rw[Dl,if_pos (by simp[AK,E5];omega),Ai hc,Ai (Bc hi),e0]
   simp only[Option.bind_some]
   unfold Kd
   generalize G7 s s.AT.length Z i=m
   by_cases h1:c.count < 0
   ·have h2:¬ 0≤c.count:=by omega
    by_cases h3:m=1 <;> simp[h1,h2,h3]
   ·have h2:0≤c.count:=by omega
    by_cases h3:m=0 <;> simp[h1,h2,h3]
end RC

