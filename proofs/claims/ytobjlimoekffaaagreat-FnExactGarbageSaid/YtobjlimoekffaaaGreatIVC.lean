import Derived.Test.YtobjlimoekffaaaGreatIVB

namespace RC
open Go
structure IU (s:Av):Prop where
 hp:Hp s.heap
 dL:JA s
 size:KC s≤1048576
theorem IU.fl {s:Av} (S:IU s):s.AT.length≤1048576:=by have:=S.size;unfold KC at this;omega
def hb (s:Av) (k:Nat):Nat:=((s.AT.take k).map fz).sum
theorem Oz {s:Av} {k:Nat} (h:k < s.AT.length):hb s (k+1)=hb s k+fz (Ba s k):=by
 unfold hb
 rw[Ew (Hu h).2.2];simp
theorem cd (s:Av) (k:Nat):hb s k≤(s.AT.map fz).sum:=by
 unfold hb
 have h:(s.AT.map fz).sum=((s.AT.take k).map fz).sum+((s.AT.drop k).map fz).sum:=by
  rw[← List.sum_append_nat,← List.map_append,List.take_append_drop]
 omega
theorem IU.hb {s:Av} (S:IU s) (k:Nat):hb s k≤1048576:=by
 have h:=cd s k
 have:=S.size;unfold KC at this;omega
theorem IU.fz {s:Av} (S:IU s) {f:Ai} (hf:f∈s.AT):fz f≤1048576:=by
 have:=EZ RC.fz hf
 have:=S.size;unfold KC at this;omega
theorem IU.fin {s:Av} (S:IU s) {f:Ai} (hf:f∈s.AT):IJ f:=S.dL.AT.1 f hf
def YR (s:Av) (w:Int):Bool:=decide (1000≤w) && decide (w - 1000 < (s.heap.length:Int))
def UT (s:Av) (f:Ai) (r:Nat):Bool:=decide (Cy f.held r=0) || YR s (Cy f.held r)
def T4 (s:Av) (f:Ai):Bool:=(List.range f.held.length).all (UT s f)
theorem O4 {s:Av} {f:Ai}:T4 s f=true↔∀j,j < f.held.length→UT s f j=true:=by
 unfold T4;rw[List.all_eq_true];exact⟨fun h j hj=>h j (List.mem_range.2 hj),fun h j hj=>h j (List.mem_range.1 hj)⟩
def JB (B:Nat) (i:Nat) (G:Nat→Int):Prop:=∀j,0≤G j∧G j≤(B:Int) + (i:Int)
theorem Wq {f:Ai} {B i:Nat} {G:Nat→Int} (h:JB B i G):JB B (i+1) (Kj f i G):=fun j=>by
 have:=h j
 unfold Kj
 split <;> omega
theorem Y2 {s:Av} (S:IU s) {k:Nat} (hk:k < s.AT.length) {N:Nat} (hN:2000000≤N) {B:Nat} (hB:B≤1048576) {G:Nat→Int} (hG:JB B 0 G) :
  (T4 s (Ba s k)=true∧Bn k s N 0 (rowOf s.heap.length G)=some (.inr (rowOf s.heap.length (H8 (Ba s k) G)))∧JB B (Ba s k).held.length (H8 (Ba s k) G))∨
  (T4 s (Ba s k)=false∧Bn k s N 0 (rowOf s.heap.length G)=some (.inl false)):=by
 have hl:=S.hp.len
 obtain⟨g1,g2,g3⟩:=Hu hk
 have hz:=S.fz g2
 have hin:=S.fin g2
 generalize hf:Ba s k=f at *
 have hlen:f.held.length≤1048576:=by unfold RC.fz at hz;omega
 have stp :∀n i G,i < f.held.length→JB B i G→(UT s f i=true→JB B (i+1) (Kj f i G)∧Bn k s (n+1) (i:Int) (rowOf s.heap.length G)=Bn k s n ((i+1:Nat):Int) (rowOf s.heap.length (Kj f i G)))∧(UT s f i=false→∃e,e=Sum.inl false∧Bn k s (n+1) (i:Int) (rowOf s.heap.length G)=some e):=by
  intro n i G hi hJ
  obtain⟨w1,w2⟩:=hin.held.1 _ (MZ hi)
  have e0:(Sh.w ((i:Int) + 1))=((i+1:Nat):Int):=by rw[As (by omega) (by omega)];omega
  refine⟨fun ho=>⟨Wq hJ,?_⟩,fun ho=>⟨_,rfl,?_⟩⟩
  ·rw[Bn,g1]
   simp only[Option.bind_some]
   rw[if_pos (by simp[AK];omega),Fy hi,e0]
   simp only[Option.bind_some]
   unfold UT YR at ho
   by_cases h0:Cy f.held i=0
   ·have e:Kj f i G=G:=by funext j;unfold Kj;rw[if_neg (by omega)]
    simp[h0,Sh.cont,e]
   ·simp only[h0,decide_false,Bool.false_or,Bool.and_eq_true,decide_eq_true_eq] at ho
    obtain⟨h1,h2⟩:=ho
    have hb:=hJ (Cy f.held i - 1000).toNat
    have e1:Sh.w (Cy f.held i - 1000)=Cy f.held i - 1000:=As (by omega) (by omega)
    have e2:Sh.w ((s.heap.length:Int) - 1)=(s.heap.length:Int) - 1:=As (by omega) (by omega)
    have e3:Sh.w (G (Cy f.held i - 1000).toNat+1)=G (Cy f.held i - 1000).toNat+1:=As (by omega) (by omega)
    unfold Cx
    simp only[h0,h1,decide_false,decide_true,Bool.not_false,Bool.not_true,if_true,Bool.false_eq_true,if_false,Option.bind_some,A6,AK,e1,e2]
    rw[decide_eq_true (by omega:(0:Int)≤Cy f.held i - 1000),decide_eq_true (by omega:Cy f.held i - 1000≤(s.heap.length:Int) - 1),RU h1 h2]
    simp only[Bool.and_self,Bool.not_true,Bool.false_eq_true,if_false,Option.bind_some,Sh.cont,e3]
    rw[Rb h1]
    congr 1
    refine Bj fun j _=>?_
    unfold Kj
    by_cases hj:(j:Int) + 1000=Cy f.held i
    ·rw[if_pos hj,if_pos hj,show (Cy f.held i - 1000).toNat=j by omega]
    ·rw[if_neg hj,if_neg hj]
  ·rw[Bn,g1]
   simp only[Option.bind_some]
   rw[if_pos (by simp[AK];omega),Fy hi]
   simp only[Option.bind_some]
   unfold UT YR at ho
   simp only[Bool.or_eq_false_iff,decide_eq_false_iff_not,Bool.and_eq_false_iff] at ho
   obtain⟨h0,h1⟩:=ho
   unfold Cx
   by_cases hp:1000≤Cy f.held i
   ·have h2:¬ Cy f.held i - 1000 < (s.heap.length:Int):=by rcases h1 with h1 | h1 <;> omega
    have e1:Sh.w (Cy f.held i - 1000)=Cy f.held i - 1000:=As (by omega) (by omega)
    have e2:Sh.w ((s.heap.length:Int) - 1)=(s.heap.length:Int) - 1:=As (by omega) (by omega)
    have h3:¬ Cy f.held i - 1000≤(s.heap.length:Int) - 1:=by omega
    simp[h0,hp,A6,AK,e1,e2,h3,Sh.cont]
   ·simp[h0,hp,Sh.cont]
 rcases Jt (τ:=Nat→Int) f.held.length (Bn k s) (Sum.inr) (rowOf s.heap.length) (UT s f) (Kj f) (JB B) (fun e=>e=.inl false)
  (fun n r=>by rw[Bn,g1];simp[AK]) stp (by omega:f.held.length < N) hG with ⟨a,b,c⟩ | ⟨⟨j,hj,ho⟩,e,he,b⟩
 ·exact .inl ⟨O4.2 a,b,c⟩
 ·refine .inr ⟨?_,by rw[b,he]⟩
  cases h:T4 s f with
  | false=>rfl
  | true=>rw[O4.1 h j hj] at ho;cases ho
def H9 (s:Av) (p:Nat→Bool):Bool:=(List.range s.AT.length).all p
theorem G9 {s:Av} {p:Nat→Bool}:H9 s p=true↔∀j,j < s.AT.length→p j=true:=by
 unfold H9;rw[List.all_eq_true];exact⟨fun h j hj=>h j (List.mem_range.2 hj),fun h j hj=>h j (List.mem_range.1 hj)⟩
theorem O9 {s:Av} {p:Nat→Bool} (h :∃j,j < s.AT.length∧p j=false):H9 s p=false:=by
 obtain⟨j,hj,ho⟩:=h
 cases e:H9 s p with
 | false=>rfl
 | true=>rw[G9.1 e j hj] at ho;cases ho
def UC (s:Av):Bool:=H9 s fun i=>T4 s (Ba s i)
def Z:Nat→Int:=fun _=>0
theorem ZB {s:Av} (S:IU s) {N:Nat} (hN:2000000≤N) :
  Bs N s N 0 (rowOf s.heap.length Z)=some (if UC s=true then .inr (rowOf s.heap.length (HG s s.AT.length Z)) else .inl false)∧(∀j,0≤HG s s.AT.length Z j):=by
 have hfl:=S.fl
 have hpos :∀j,0≤HG s s.AT.length Z j:=fun j=>by
  obtain⟨a,b⟩:=SG s j s.AT.length Z
  by_cases h :∃i,i < s.AT.length∧TP (Ba s i) j
  ·have:=a h;have z:Z j=0:=rfl;omega
  ·rw[b h];exact Int.le_refl _
 refine⟨?_,hpos⟩
 have stp :∀n i G,i < s.AT.length→JB (hb s i) 0 G→(T4 s (Ba s i)=true→JB (hb s (i+1)) 0 (H8 (Ba s i) G)∧Bs N s (n+1) (i:Int) (rowOf s.heap.length G)=Bs N s n ((i+1:Nat):Int) (rowOf s.heap.length (H8 (Ba s i) G)))∧(T4 s (Ba s i)=false→∃e,e=Sum.inl false∧Bs N s (n+1) (i:Int) (rowOf s.heap.length G)=some e):=by
  intro n i G hi hJ
  have e0:(Sh.w ((i:Int) + 1))=((i+1:Nat):Int):=by rw[As (by omega) (by omega)];omega
  rcases Y2 S hi hN (S.hb i) hJ with ⟨a,b,c⟩ | ⟨a,b⟩
  ·refine⟨fun _=>⟨fun j=>?_,?_⟩,fun h=>by rw[a] at h;cases h⟩
   ·have:=c j
    have h2:=Oz hi
    have h3:(Ba s i).held.length≤fz (Ba s i):=by unfold fz;omega
    omega
   ·rw[Bs,if_pos (by simp[AK];omega),b,e0];rfl
  ·refine⟨fun h=>(by rw[a] at h;cases h),fun _=>⟨_,rfl,?_⟩⟩
   rw[Bs,if_pos (by simp[AK];omega),b];rfl
 have hZ:JB (hb s 0) 0 Z:=fun j=>⟨Int.le_refl _,by unfold Z;omega⟩
 rcases Jt (τ:=Nat→Int) s.AT.length (Bs N s) (Sum.inr) (rowOf s.heap.length) (fun i=>T4 s (Ba s i)) (fun i=>H8 (Ba s i)) (fun i=>JB (hb s i) 0) (fun e=>e=.inl false)
  (fun n r=>by rw[Bs,if_neg (by simp[AK])]) stp (by omega:s.AT.length < N) hZ with ⟨a,b,c⟩ | ⟨h,e,he,b⟩
 ·rw[b,if_pos (show UC s=true from G9.2 a)];rfl
 ·rw[b,he,if_neg (by rw[show UC s=false from O9 h];simp)]
theorem WD {β γ:Type} {b:Bool} {x:γ} {K:γ→Option β} {g:Bool→β}:Sh.cont (some (if b=true then Sum.inr x else Sum.inl false)) g K=if b=true then K x else some (g false):=by
 cases b <;> rfl
def Kn (M:Nat→Int) (i:Nat) (c:Cell):Bool:=(!decide (c.count < 0) || decide (M i=1)) && (!decide (0≤c.count) || decide (M i=0))
theorem UD {s:Av} (S:IU s) {N:Nat} (hN:2000000≤N):F6 N s=some (UC s && Bl (Kn (HG s s.AT.length Z)) 0 s.heap):=by
 have hl:=S.hp.len
 unfold F6
 rw[AK,Gw _ s.heap.length 8 (by omega) (by omega),Ed]
 simp only[Option.bind_some]
 rw[show (fun _:Nat=>(0:Int))=Z from rfl,(ZB S hN).1,WD]
 cases UC s with
 | false=>rfl
 | true=>
  simp only[if_true,Bool.true_and]
  have L:=Bo (l:=s.heap) (Dy (rowOf s.heap.length (HG s s.AT.length Z)) s) (Kn (HG s s.AT.length Z)) (fun n=>by rw[Dy,if_neg (by simp[AK,FC])]) (fun n i c hc=>?_) (by omega:s.heap.length < N)
  ·rw[L,Bz]
   cases Bl (Kn (HG s s.AT.length Z)) 0 s.heap <;> rfl
  ·have hi:=(List.getElem?_eq_some_iff.1 hc).1
   have e0:(Sh.w ((i:Int) + 1))=((i+1:Nat):Int):=by rw[As (by omega) (by omega)];omega
   rw[Dy,if_pos (by simp[AK,FC];omega),Ak hc,Ak (Bd hi),e0]
   simp only[Option.bind_some]
   unfold Kn
   generalize HG s s.AT.length Z i=m
   by_cases h1:c.count < 0
   ·have h2:¬ 0≤c.count:=by omega
    by_cases h3:m=1 <;> simp[h1,h2,h3]
   ·have h2:0≤c.count:=by omega
    by_cases h3:m=0 <;> simp[h1,h2,h3]
end RC

