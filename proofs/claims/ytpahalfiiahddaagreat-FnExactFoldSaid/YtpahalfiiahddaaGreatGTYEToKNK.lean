import Derived.Test.YtpahalfiiahddaaGreatGPlainAToTYD
import Derived.Test.YtpahalfiiahddaaGreatGHADefsToFODefs

namespace RC
open Go
section
variable {p : Aa} {N : Nat} {T : List Int → AG → Int}
theorem WS (hT:TX p N T) {e:AG} {v:List Int} (V:VX p e v) (h:e.op=0) (ht:T v e≠-1):-999≤e.num∧e.num≤999:=by
 have q:=hT.bs V
 unfold BN at q
 simp only[h,Int.reduceEq,decide_true,decide_false,Bool.false_eq_true,if_true,if_false] at q
 by_cases hk:Sh.len e.kids=0
 ·simp only[hk,decide_true,if_true] at q
  rw[DN] at q
  by_cases h1:-999≤e.num
  ·by_cases h2:e.num≤999
   ·exact⟨h1,h2⟩
   ·simp[h1,h2,Sh.cont] at q;exact absurd q.symm ht
  ·simp[h1,Sh.cont] at q;exact absurd q.symm ht
 ·simp[hk,Sh.cont] at q;exact absurd q.symm ht
end
theorem Uj (x:Int):HG x=some (Tt x):=by
 unfold HG Tt
 congr 1
 split <;> split <;> (try split) <;> (try split) <;> omega
theorem Ty {o a b:Int} (ho:o=1∨o=2∨o=3∨o=4) (ha:-999≤a∧a≤999) (hb:-999≤b∧b≤999):KG o a b=some (U6 o a b):=by
 have hm:-998001≤a * b∧a * b≤998001:=by
  have h1:(a * b).natAbs≤998001:=by
   rw[Int.natAbs_mul]
   exact Nat.le_trans (Nat.mul_le_mul (by omega:a.natAbs≤999) (by omega:b.natAbs≤999)) (by decide)
  omega
 unfold KG U6
 rcases ho with rfl | rfl | rfl | rfl
 ·simp only[decide_true,if_true];rw[A9 (by omega) (by omega),Uj];rfl
 ·simp only[Int.reduceEq,decide_true,decide_false,Bool.false_eq_true,if_false,if_true];rw[A9 (by omega) (by omega),Uj];rfl
 ·simp only[Int.reduceEq,decide_true,decide_false,Bool.false_eq_true,if_false,if_true];rw[A9 (by omega) (by omega),Uj];rfl
 ·simp only[Int.reduceEq,decide_true,decide_false,Bool.false_eq_true,if_false,if_true,Option.bind_some]
  by_cases h:a < b <;> simp[h]
theorem T5 {o a b:Int} (ho:o=1∨o=2∨o=3∨o=4) (ha:-999≤a∧a≤999) (hb:-999≤b∧b≤999):KE o a b=some (U6 o a b):=by
 have hm:-998001≤a * b∧a * b≤998001:=by
  have h1:(a * b).natAbs≤998001:=by
   rw[Int.natAbs_mul]
   exact Nat.le_trans (Nat.mul_le_mul (by omega:a.natAbs≤999) (by omega:b.natAbs≤999)) (by decide)
  omega
 have a1:¬ a < -999:=by omega
 have a2:¬ 999 < a:=by omega
 have b1:¬ b < -999:=by omega
 have b2:¬ 999 < b:=by omega
 have cl :∀n:Int,(if 999 < (if (-999) > n then (-999) else n) then 999 else (if (-999) > n then (-999) else n))=Tt n:=fun n=>by
  unfold Tt
  split <;> split <;> (try split) <;> (try split) <;> omega
 unfold KE U6
 simp only[a1,a2,b1,b2,decide_false,Bool.false_eq_true,if_false,Option.bind_some]
 rcases ho with rfl | rfl | rfl | rfl
 ·simp only[decide_true,if_true,Option.bind_some];rw[A9 (by omega) (by omega),cl]
 ·simp only[Int.reduceEq,decide_true,decide_false,Bool.false_eq_true,if_false,if_true,Option.bind_some];rw[A9 (by omega) (by omega),cl]
 ·simp only[Int.reduceEq,decide_true,decide_false,Bool.false_eq_true,if_false,if_true,Option.bind_some];rw[A9 (by omega) (by omega),cl]
 ·simp only[Int.reduceEq,decide_true,decide_false,Bool.false_eq_true,if_false,if_true]
  by_cases h:a < b
  ·simp[h]
  ·simp[h]
theorem Qd {N:Nat} (hN:2000000≤N) {a b:Int} :∀(n:Nat) (e:AG),en e≤n→en e≤1000→BG (sh a b e)→FM N n e a b=some (sh a b e):=by
 intro n
 induction n with
 | zero=>intro e h;have:=H0 e;omega
 | succ n ih=>
  intro e hn hs hI
  have hlen:=FR e.kids
  have he:=Em e
  have hIn:=hI.num
  rw[Pm] at hIn
  have hIk:=hI.kids
  rw[KJ] at hIk
  rw[FM]
  unfold JT Ih
  have key :∀(M i:Nat),i≤e.kids.length→e.kids.length - i < M→DI e.kids a b (FM N n) M i ((e.kids.map (sh a b)).take i)=some (e.kids.map (sh a b)):=by
   intro M i hi hM
   refine Bx e.kids.length (fun M i=>DI e.kids a b (FM N n) M i ((e.kids.map (sh a b)).take i)=some (e.kids.map (sh a b))) ?_ ?_ hi hM
   ·intro m
    rw[DI,if_neg (by simp[AS]),List.take_of_length_le (by simp)]
   ·intro m i hi ih2
    obtain⟨c,hc,hcm⟩:=Bn hi
    have h1:=GJ hcm
    rw[DI,if_pos (by simp[AS];omega),A8 hc]
    simp only[Option.bind_some]
    rw[ih c (by omega) (by omega) (hIk _ (List.mem_map_of_mem hcm))]
    simp only[Option.bind_some]
    rw[DM _ _ 40 (by simp;omega) (by simp;omega),A9 (by omega) (by omega),show ((i:Int) + 1)=((i+1:Nat):Int) by omega]
    simp only[Option.bind_some]
    have hm:(e.kids.map (sh a b))[i]?=some (sh a b c):=by rw[List.getElem?_map,hc];rfl
    rw[← CC hm];exact ih2
  have:=key N 0 (Nat.zero_le _) (by omega)
  rw[List.take_zero,show ((0:Nat):Int)=0 from rfl] at this
  rw[this,TK]
  by_cases h:e.op=12
  ·by_cases h2:a≤e.num
   ·have hc:(if e.op=12∧a≤e.num then e.num+b else e.num)=e.num+b:=if_pos ⟨h,h2⟩
    rw[hc] at hIn ⊢
    simp only[h,h2,decide_true,if_true,Option.bind_some]
    rw[A9 (by unfold FY at hIn;omega) (by unfold FY at hIn;omega)]
   ·have hc:(if e.op=12∧a≤e.num then e.num+b else e.num)=e.num:=if_neg fun q=>h2 q.2
    rw[hc]
    simp[h,h2]
  ·have hc:(if e.op=12∧a≤e.num then e.num+b else e.num)=e.num:=if_neg fun q=>h q.1
   rw[hc]
   simp[h]
theorem SB {N:Nat} (hN:2000000≤N) {a b:Int} {e:AG} (hs:en e≤1000) (hI:BG (sh a b e)):Km N e a b=some (sh a b e):=by
 unfold Km;exact Qd hN N e (by omega) hs hI
theorem OT {N:Nat} (hN:2000000≤N) {a b:Int} :∀(n:Nat) (e:AG),en e≤n→en e≤1000→BG (sh a b e)→Ck N n e a b=some (sh a b e):=by
 intro n
 induction n with
 | zero=>intro e h;have:=H0 e;omega
 | succ n ih=>
  intro e hn hs hI
  have hlen:=FR e.kids
  have he:=Em e
  have hIn:=hI.num
  rw[Pm] at hIn
  have hIk:=hI.kids
  rw[KJ] at hIk
  rw[Ck]
  unfold Gm
  have key :∀(M i:Nat),i≤e.kids.length→e.kids.length - i < M→Bw e a b (Ck N n) M i ((e.kids.map (sh a b)).take i)=some (e.kids.map (sh a b)):=by
   intro M i hi hM
   refine Bx e.kids.length (fun M i=>Bw e a b (Ck N n) M i ((e.kids.map (sh a b)).take i)=some (e.kids.map (sh a b))) ?_ ?_ hi hM
   ·intro m
    rw[Bw,if_neg (by simp[AS]),List.take_of_length_le (by simp)]
   ·intro m i hi ih2
    obtain⟨c,hc,hcm⟩:=Bn hi
    have h1:=GJ hcm
    rw[Bw,if_pos (by simp[AS];omega),A8 hc]
    simp only[Option.bind_some]
    rw[ih c (by omega) (by omega) (hIk _ (List.mem_map_of_mem hcm))]
    simp only[Option.bind_some]
    rw[DM _ _ 40 (by simp;omega) (by simp;omega),A9 (by omega) (by omega),show ((i:Int) + 1)=((i+1:Nat):Int) by omega]
    simp only[Option.bind_some]
    have hm:(e.kids.map (sh a b))[i]?=some (sh a b c):=by rw[List.getElem?_map,hc];rfl
    rw[← CC hm];exact ih2
  have:=key N 0 (Nat.zero_le _) (by omega)
  rw[List.take_zero,show ((0:Nat):Int)=0 from rfl] at this
  rw[this,TK]
  by_cases h:e.op=12
  ·by_cases h2:a≤e.num
   ·have hc:(if e.op=12∧a≤e.num then e.num+b else e.num)=e.num+b:=if_pos ⟨h,h2⟩
    rw[hc] at hIn ⊢
    simp only[h,h2,decide_true,if_true,Option.bind_some]
    rw[A9 (by unfold FY at hIn;omega) (by unfold FY at hIn;omega)]
   ·have hc:(if e.op=12∧a≤e.num then e.num+b else e.num)=e.num:=if_neg fun q=>h2 q.2
    rw[hc]
    simp[h,h2]
  ·have hc:(if e.op=12∧a≤e.num then e.num+b else e.num)=e.num:=if_neg fun q=>h q.1
   rw[hc]
   simp[h]
theorem Qp {N:Nat} (hN:2000000≤N) {a b:Int} {e:AG} (hs:en e≤1000) (hI:BG (sh a b e)):FK N e a b=some (sh a b e):=by
 unfold FK;exact OT hN N e (by omega) hs hI
theorem YQ {n:Nat} :∀(xs ys:List AG) (k:Nat) (b:AG),lt n k (xs ++ ys) b=lt n k xs (lt n (k+xs.length) ys b)
 | [],ys,k,b=>by simp[lt]
 | x :: xs,ys,k,b=>by
  simp only[List.cons_append,lt,YQ xs,List.length_cons]
  rw[show k+1+xs.length=k+(xs.length+1) by omega]
theorem WO {n:Nat} {l:List AG} {i:Nat} {x:AG} (h:l[i]?=some x) (b:AG):lt n 0 (l.take i) (.mk 13 0 [sh n i x,b])=lt n 0 (l.take (i+1)) b:=by
 have hil:=(List.getElem?_eq_some_iff.1 h).1
 rw[CC h,YQ,List.length_take,Nat.min_eq_left (by omega),Nat.zero_add];rfl
theorem Kc {N:Nat} (hN:2000000≤N) {n:Nat} {l:List AG} (hl :∀(i:Nat) x,l[i]?=some x→en x≤1000∧BG (sh n i x)) :∀(i:Nat) (b:AG),i≤l.length→Eg N l (n:Int) i b=some (lt n 0 (l.take i) b)
 | 0,b,_=>by rw[Eg,List.take_zero];rfl
 | i+1,b,hi=>by
  obtain⟨x,hx,_⟩:=Bn (l:=l) (i:=i) (by omega)
  obtain⟨h1,h2⟩:=hl i x hx
  rw[Eg,A8 hx]
  simp only[Option.bind_some]
  rw[Qp hN h1 h2]
  simp only[Option.bind_some]
  rw[Kc hN hl i _ (by omega),WO hx]
theorem Rm {N:Nat} (hN:2000000≤N) {n:Nat} {l:List AG} {b:AG} (hll:l.length≤1000) (hl :∀(i:Nat) x,l[i]?=some x→en x≤1000∧BG (sh n i x)):Ia N b.kids l b.op b.num (n:Int)=some (lt n 0 l b):=by
 unfold Ia
 rw[if_pos (by omega),← Ga,Kc hN hl l.length b (Nat.le_refl _),List.take_length]
theorem Lm {N:Nat} (hN:2000000≤N) {n:Nat} {l:List AG} (hll:l.length≤1000) (hl :∀(i:Nat) x,l[i]?=some x→en x≤1000∧BG (sh n i x)) :∀(i:Nat) (b:AG) (M:Nat),i≤l.length→i < M→FO N l (n:Int) M ((i:Int) - 1) b.op b.num b.kids=some ((lt n 0 (l.take i) b).op,(lt n 0 (l.take i) b).num,(lt n 0 (l.take i) b).kids)
 | 0,b,M,_,hM=>by
  obtain⟨M,rfl⟩ :∃m,M=m+1:=⟨M - 1,by omega⟩
  rw[FO,if_neg (by simp),List.take_zero];rfl
 | i+1,b,M,hi,hM=>by
  obtain⟨M,rfl⟩ :∃m,M=m+1:=⟨M - 1,by omega⟩
  obtain⟨x,hx,_⟩:=Bn (l:=l) (i:=i) (by omega)
  obtain⟨h1,h2⟩:=hl i x hx
  have e:((i+1:Nat):Int) - 1=(i:Int):=by omega
  rw[FO,e,if_pos (by simp),A8 hx]
  simp only[Option.bind_some]
  rw[SB hN h1 h2]
  simp only[Option.bind_some]
  rw[← Ga,A9 (by omega) (by omega)]
  have:=Lm hN hll hl i (.mk 13 0 [sh n i x,b]) M (by omega) (by omega)
  rw[WO hx] at this
  exact this
theorem Tr {N:Nat} (hN:2000000≤N) {n:Nat} {l:List AG} {b:AG} (hll:l.length≤1000) (hl :∀(i:Nat) x,l[i]?=some x→en x≤1000∧BG (sh n i x)):KQ N l b (n:Int)=some (lt n 0 l b):=by
 unfold KQ
 rw[AS,A9 (by omega) (by omega),Lm hN hll hl l.length b N (Nat.le_refl _) (by omega),List.take_length]
 simp only[Option.bind_some]
 rw[← Ga]
theorem Yg {l:List Int} {x:Int} (hl:l.length≤1000) {N:Nat} (hN:2000000≤N) {i:Nat} (hi:l[i]?=some x) (hn :∀j,l[j]?=some x→i=j):Ep N l x=some (i:Int):=by
 have hil:=(List.getElem?_eq_some_iff.1 hi).1
 have key :∀(d j M:Nat),j+d=i→d < M→B8 l x M (j:Int)=some (.inl (i:Int)):=by
  intro d
  induction d with
  | zero=>
   intro j M hj hM
   obtain⟨M,rfl⟩ :∃m,M=m+1:=⟨M - 1,by omega⟩
   have:j=i:=by omega
   subst this
   rw[B8,if_pos (by simp[AS];omega),A8 hi]
   simp only[Option.bind_some]
   rw[if_pos (by simp)]
  | succ d ih=>
   intro j M hj hM
   obtain⟨M,rfl⟩ :∃m,M=m+1:=⟨M - 1,by omega⟩
   obtain⟨y,hy,_⟩:=Bn (l:=l) (i:=j) (by omega)
   have hne:¬ x=y:=fun q=>by
    have:=hn j (by rw[hy,q])
    omega
   rw[B8,if_pos (by simp[AS];omega),A8 hy]
   simp only[Option.bind_some]
   rw[if_neg (by simpa using hne),A9 (by omega) (by omega),show ((j:Int) + 1)=((j+1:Nat):Int) by omega]
   exact ih (j+1) M (by omega) (by omega)
 have:=key i 0 N (by omega) (by omega)
 unfold Ep
 rw[show ((0:Nat):Int)=0 from rfl] at this
 rw[this];rfl
end RC



namespace RC
open Go
section
variable {p : Aa} {N : Nat} {T : List Int → AG → Int}
theorem XP (S:Dy p.decls p.funcs) (hN:2000000≤N) (hT:TX p N T) {v:List Int} {nu:Int} {a:AG} {r:List AG} (V:VX p (.mk 8 nu (a :: r)) v) (ht:T v (.mk 8 nu (a :: r))≠-1) (h6:a.op=6) :
  ∃(c t:Nat) (b:AG),a.num=(c:Int)∧nu=(t:Int)∧1≤t∧t≤p.decls.length∧(B1 p.decls nu)[ci p.decls nu a.num]?=some a.num∧nc (p.decls.take (t - 1)) + ci p.decls nu a.num=c∧r[ci p.decls nu a.num]?=some b∧ci p.decls nu a.num≤3∧(∀x∈a.kids,BG x∧T v x≠-1)∧a.kids.length≤3:=by
 obtain⟨a0,r0,q1,q2,q3,q4,q5⟩:=H6 (hT.H V) V.Lk S hN rfl (hT.bi V) ht
 have q1:a :: r=a0 :: r0:=q1
 obtain⟨rfl,rfl⟩:a=a0∧r=r0:=by simpa using q1
 have q3:r.length=(B1 p.decls nu).length:=q3
 have q4:T v a=nu:=q4
 have hnum:nu≠-1:=fun q=>q2 (by show B1 p.decls nu=[];rw[q];simp[B1])
 have Va:VX p a v:=V.cK (by simp[AG.kids])
 obtain⟨c,t,x,c1,c2,c3,c4,c5,c6⟩:=TL S hN hT Va h6 (by rw[q4];exact hnum)
 obtain⟨d1,d2⟩:=Q5 c2
 obtain⟨g1,g2,d,g3,g4⟩:=KB c2
 rw[← c3,q4,← c1] at d1
 rw[← c3,q4,← c1] at d2
 have hil:=(List.getElem?_eq_some_iff.1 d1).1
 have hb:r[ci p.decls nu a.num]?=some r[ci p.decls nu a.num]:=List.getElem?_eq_getElem (by omega)
 have hcl:=H8 S.PH nu
 have F:=Kr S (List.mem_of_getElem? d1) hN
 refine⟨c,t,_,c1,by rw[← q4,c3],by omega,by omega,d1,d2,hb,by omega,fun y hy=>⟨Va.Ea.kids y hy,fun hq=>?_⟩,?_⟩
 ·have hy2:T v y∈a.kids.map (T v):=List.mem_map_of_mem hy
  rw[c4,← c5,← c1] at hy2
  have:=IZ (F.2.2.2 _ hy2)
  rw[hq] at this;omega
 ·have h:=congrArg List.length c4
  rw[List.length_map] at h
  have:=(S.Kv d g3 x g4).1
  omega
theorem aM (S:Dy p.decls p.funcs) (hN:2000000≤N) (hT:TX p N T) {v:List Int} (hv :∀x∈v,CB p.decls x=true) {l:List AG} (hl:v.length+3 * CK l≤800) (hl3:l.length≤30) (hk :∀x∈l,BG x∧T v x≠-1) :∀(i:Nat) x,l[i]?=some x→en x≤1000∧BG (sh v.length i x):=by
 intro i x hx
 have hm:=List.mem_of_getElem? hx
 have hil:=(List.getElem?_eq_some_iff.1 hx).1
 have he:=GJ hm
 obtain⟨h1,h2⟩:=hk x hm
 have Vx:VX p x (v ++ []):=⟨by simp;omega,by simpa using hv,h1⟩
 have:=(Zk S hN hT v (List.replicate i 0) (fun y hy=>by rw[(List.mem_replicate.1 hy).2];exact az) (en x) x [] (Nat.le_refl _) Vx (by simp;omega) (by simpa using h2)).2
 rw[List.length_replicate] at this
 exact⟨by omega,this⟩
theorem Un (S:Dy p.decls p.funcs) (hN:2000000≤N) (hT:TX p N T) {v:List Int} {e:AG} (V:VX p e v) (hl:v.length+3 * CK e.kids≤800) (ht:T v e≠-1) :
  GC N p e v.length=some (LS p.decls v.length e.op e.num e.kids)∧HU N e.kids p.decls e.op e.num v.length=some (LS p.decls v.length e.op e.num e.kids):=by
 have hlen:=FR e.kids
 have hD:=S.Lj
 have hnc:=S.nc
 have eta:AG.mk e.op e.num e.kids=e:=(Ga e).symm
 unfold GC HU
 by_cases ha:e.op=1∨e.op=2∨e.op=3∨e.op=4
 ·obtain⟨_,a,b,hk⟩:=SW hN hT V ha ht
  have hor:(if decide (e.op=1)=true then some true else if decide (e.op=2)=true then some true else if decide (e.op=3)=true then some true else some (decide (e.op=4)))=some true:=by
   rcases ha with h | h | h | h <;> simp[h]
  have g0:Sh.get e.kids 0=some a:=by rw[hk];rfl
  have g1:Sh.get e.kids 1=some b:=by rw[hk];rfl
  have hfd:LS p.decls v.length e.op e.num e.kids=if a.op=0∧b.op=0 then .mk 0 (U6 e.op a.num b.num) [] else e:=by
   unfold LS
   rw[if_pos ha,eta,hk]
  rw[hfd,hor,g0,g1]
  simp only[Option.bind_some,if_true]
  by_cases h1:a.op=0
  ·by_cases h2:b.op=0
   ·obtain⟨m0,n1,n2,n3,n4⟩:=My S hN hT V ht (i:=0) (k:=a) (by rw[hk];rfl)
    obtain⟨m1,n5,n6,n7,n8⟩:=My S hN hT V ht (i:=1) (k:=b) (by rw[hk];rfl)
    have ra:=WS hT (V.H9 (by rw[hk];simp) n2 n3) h1 n4
    have rb:=WS hT (V.H9 (by rw[hk];simp) n6 n7) h2 n8
    simp only[h1,h2,decide_true,if_true,Option.bind_some,and_self]
    rw[Ty ha ra rb,T5 ha ra rb]
    exact⟨rfl,rfl⟩
   ·simp[h1,h2,Sh.cont,eta]
  ·simp[h1,Sh.cont,eta]
 have n1:¬ e.op=1:=fun q=>ha (.inl q)
 have n2:¬ e.op=2:=fun q=>ha (.inr (.inl q))
 have n3:¬ e.op=3:=fun q=>ha (.inr (.inr (.inl q)))
 have n4:¬ e.op=4:=fun q=>ha (.inr (.inr (.inr q)))
 by_cases h7:e.op=7
 ·obtain⟨a,b,c,hk,q2,q3,q4,q5⟩:=Rv (hT.H V) V.Lk hN h7 (hT.bi V) ht
  have g0:Sh.get e.kids 0=some a:=by rw[hk];rfl
  have g1:Sh.get e.kids 1=some b:=by rw[hk];rfl
  have g2:Sh.get e.kids 2=some c:=by rw[hk];rfl
  have hfd:LS p.decls v.length e.op e.num e.kids=if a.op=0 then (if a.num=0 then c else b) else e:=by
   unfold LS
   rw[if_neg ha,if_pos h7,eta,hk]
  rw[hfd]
  simp only[n1,n2,n3,n4,h7,Int.reduceEq,decide_true,decide_false,Bool.false_eq_true,if_true,if_false,Option.bind_some]
  rw[g0,g1,g2]
  simp only[Option.bind_some]
  by_cases h1:a.op=0
  ·by_cases h2:a.num=0
   ·simp[h1,h2,Sh.cont]
   ·simp[h1,h2,Sh.cont]
  ·rw[h7] at eta
   simp[h1,Sh.cont,eta]
 by_cases h8:e.op=8
 ·obtain⟨a,r,hk,q2,q3,q4,q5⟩:=H6 (hT.H V) V.Lk S hN h8 (hT.bi V) ht
  have g0:Sh.get e.kids 0=some a:=by rw[hk];rfl
  have eta8:AG.mk 8 e.num e.kids=e:=by rw[← h8];exact eta
  have V8:VX p (.mk 8 e.num (a :: r)) v:=by rw[← hk,eta8];exact V
  have ht8:T v (.mk 8 e.num (a :: r))≠-1:=by rw[← hk,eta8];exact ht
  have hfd:LS p.decls v.length e.op e.num e.kids=if a.op=6 then (match r[ci p.decls e.num a.num]? with | some b=>lt v.length 0 a.kids b | none=>e) else e:=by
   unfold LS
   rw[if_neg ha,if_neg h7,if_pos h8,eta,hk]
   rfl
  rw[hfd]
  simp only[n1,n2,n3,n4,h7,h8,Int.reduceEq,decide_true,decide_false,Bool.false_eq_true,if_true,if_false,Option.bind_some]
  rw[g0]
  simp only[Option.bind_some]
  by_cases h6:a.op=6
  ·obtain⟨c,t,b,c1,c2,c3,c4,c5,c6,c7,c8,c9,c10⟩:=XP S hN hT V8 ht8 h6
   have hnt:=Fj p.decls (t - 1)
   rw[hk] at hl hlen
   simp only[CK,List.length_cons] at hl hlen
   have hae:=Em a
   have hsh:=aM S hN hT V.GQ (l:=a.kids) (by omega) (by omega) c9
   rw[c7]
   simp only[h6,decide_true,if_true]
   have hcl:=H8 S.PH e.num
   have hg:Sh.get e.kids ((1+ci p.decls e.num a.num:Nat):Int)=some b:=by
    rw[LY,hk,show 1+ci p.decls e.num a.num=ci p.decls e.num a.num+1 by omega];exact c7
   constructor
   ·rw[A9 (n:=e.num - 1) (by omega) (by omega),show e.num - 1=((t - 1:Nat):Int) by omega,Fw (by omega) (by omega) (by omega) hN]
    simp only[Option.bind_some]
    rw[A9 (n:=1+a.num) (by omega) (by omega),A9 (by omega) (by omega),show 1+a.num - (nc (List.take (t - 1) p.decls):Int)=((1+ci p.decls e.num a.num:Nat):Int) by omega,hg]
    simp only[Option.bind_some]
    rw[Tr hN (by omega) hsh];rfl
   ·rw[Fm (by omega) (by omega) hN]
    simp only[Option.bind_some]
    rw[Yg (by omega) hN c5 (fun j hj=>Us c5 hj)]
    simp only[Option.bind_some]
    rw[A9 (n:=1+(ci p.decls e.num a.num:Int)) (by omega) (by omega),show 1+(ci p.decls e.num a.num:Int)=((1+ci p.decls e.num a.num:Nat):Int) by omega,hg]
    simp only[Option.bind_some]
    have hap:Sh.apart 0 ((1+ci p.decls e.num a.num:Nat):Int)=some ():=by unfold Sh.apart;rw[if_neg (by omega)]
    rw[hap]
    simp only[Option.bind_some]
    rw[Rm hN (by omega) hsh];rfl
  ·simp[h6,Sh.cont,eta8]
 ·have hfd:LS p.decls v.length e.op e.num e.kids=e:=by
   unfold LS
   rw[if_neg ha,if_neg h7,if_neg h8,eta]
  rw[hfd]
  simp[n1,n2,n3,n4,h7,h8,Sh.cont,eta]
theorem UT (S:Dy p.decls p.funcs) (hN:2000000≤N) (hT:TX p N T) {e:AG} {v:List Int} (V:VX p e v) (ht:T v e≠-1) {i:Nat} (hi:i < e.kids.length) :
  Hx N p e i v.length=some ((v.length+GG p.decls e.op e.num i:Nat):Int)∧
  (Option.bind (if (decide (e.op=13))=true then some (decide ((i:Int)=1)) else some false) fun t23=>if t23=true then some (Sh.w ((v.length:Int) + 1)) else Option.bind (if (decide (e.op=8))=true then some (decide (0 < (i:Int))) else some false) fun t27=>if t27=true then Option.bind (Fx N p.decls e.num) fun q30=>Option.bind (Sh.get q30 (Sh.w ((i:Int) - 1))) fun c31=>Option.bind (C6 N p.decls c31) fun q32=>some (Sh.w ((v.length:Int) + (Sh.len q32))) else some (v.length:Int))=some ((v.length+GG p.decls e.op e.num i:Nat):Int):=by
 have hlv:=V.len
 have hD:=S.Lj
 have hnc:=S.nc
 have hkl:=FR e.kids
 have hen:=Em e
 unfold Hx
 by_cases h13:e.op=13
 ·obtain⟨a,b,q1,_⟩:=S6 (hT.H V) V.Lk h13 (hT.bi V) ht
  rw[q1] at hi
  match i,hi with
  | 0,_=>simp[h13,GG]
  | 1,_=>
   have hw:Sh.w ((v.length:Int) + 1)=((v.length+1:Nat):Int):=by rw[A9 (by omega) (by omega)];rfl
   simp[h13,GG,hw]
 by_cases h8:e.op=8
 ·obtain⟨a,r,q1,q2,q3,q4,q5⟩:=H6 (hT.H V) V.Lk S hN h8 (hT.bi V) ht
  rw[q1] at hi
  match i,hi with
  | 0,_=>simp[h8,GG]
  | i+1,hi=>
   simp only[List.length_cons] at hi
   have hcl:=H8 S.PH e.num
   have hc:(B1 p.decls e.num)[i]?=some (B1 p.decls e.num)[i]:=List.getElem?_eq_getElem (by omega)
   have F:=Kr S (List.mem_of_getElem? hc) hN
   have f3:=F.2.2.1
   have hx:GG p.decls e.op e.num (i+1)=(EJ p.decls (B1 p.decls e.num)[i]).length:=by simp[GG,h8,hc]
   have e1:Sh.w (((i+1:Nat):Int) - 1)=(i:Int):=by rw[A9 (by omega) (by omega)];omega
   have e2:Sh.w ((v.length:Int) + ((EJ p.decls (B1 p.decls e.num)[i]).length:Int))=((v.length+GG p.decls e.op e.num (i+1):Nat):Int):=by rw[A9 (by omega) (by omega),hx];omega
   have n0:¬ ((i+1:Nat):Int)=0:=by omega
   have n1:(0:Int) < ((i+1:Nat):Int):=by omega
   rw[e1,MR (by omega) (by omega) hN,Fm (by omega) (by omega) hN]
   simp only[h8,n0,n1,Int.reduceEq,decide_true,decide_false,Bool.false_eq_true,if_true,if_false,Option.bind_some]
   rw[A8 hc]
   simp only[Option.bind_some]
   rw[F.1,F.2.1]
   simp only[Option.bind_some,AS]
   rw[e2,h8]
   exact⟨rfl,rfl⟩
 ·have hx:GG p.decls e.op e.num i=0:=by simp[GG,h13,h8]
  rw[hx]
  simp[h13,h8]
theorem bp (S:Dy p.decls p.funcs) (hN:2000000≤N) (hT:TX p N T) :∀(c:Nat) (e:AG) (v:List Int),en e≤c→v.length+6 * en e≤700→(∀x∈v,CB p.decls x=true)→BG e→T v e≠-1→
  FI N c p e v.length=some (fd p.decls v.length e)∧∀F,CE N c e.kids p.decls F p.decls e.op e.num v.length=some (fd p.decls v.length e):=by
 intro c
 induction c with
 | zero=>intro e _ h;have:=H0 e;omega
 | succ c ih=>
  intro e v hc hlv hv hI ht
  have VF0:VF p e v:=⟨by omega,hv,hI⟩
  obtain⟨⟨f1,f2,f3⟩,f4,f5,f6⟩:=Zr S hN hT (en e) e v (Nat.le_refl _) VF0 ht
  have hlen:=FR e.kids
  have he:=Em e
  have hfl:(Jn p.decls v.length e.op e.num 0 e.kids).length=e.kids.length:=PO _ _
  generalize hL:Jn p.decls v.length e.op e.num 0 e.kids=L at *
  have hLi :∀(i:Nat) k,e.kids[i]?=some k→L[i]?=some (fd p.decls (v.length+GG p.decls e.op e.num i) k):=fun i k hk=>by
   rw[← hL,Pe,hk,Nat.zero_add];rfl
  have K :∀(i:Nat) k,e.kids[i]?=some k→FI N c p k ((v.length+GG p.decls e.op e.num i:Nat):Int)=some (fd p.decls (v.length+GG p.decls e.op e.num i) k)∧∀F,CE N c k.kids p.decls F p.decls k.op k.num ((v.length+GG p.decls e.op e.num i:Nat):Int)=some (fd p.decls (v.length+GG p.decls e.op e.num i) k):=fun i k hk=>by
   obtain⟨m,m1,m2,m3,m4⟩:=My S hN hT VF0.x ht hk
   have hke:=CO (List.mem_of_getElem? hk)
   have:=ih k (v ++ m) (by omega) (by rw[List.length_append];omega) (VF0.x.H9 (List.mem_of_getElem? hk) m2 m3).GQ (hI.kids k (List.mem_of_getElem? hk)) m4
   rw[List.length_append,m1] at this
   exact this
  have nd:GC N p (.mk e.op e.num L) v.length=some (LS p.decls v.length e.op e.num L)∧HU N L p.decls e.op e.num v.length=some (LS p.decls v.length e.op e.num L):=Un S hN hT f5 (by show _+3 * CK L≤800;omega) (by rw[f4];exact ht)
  have eta:LS p.decls v.length e.op e.num L=fd p.decls v.length e:=by rw[ah,hL]
  rw[eta] at nd
  constructor
  ·rw[FI]
   unfold J5
   have key :∀(M i:Nat),i≤e.kids.length→e.kids.length - i < M→D6 N p e v.length (FI N c) M i (L.take i)=some L:=by
    intro M i hi hM
    refine Bx e.kids.length (fun M i=>D6 N p e v.length (FI N c) M i (L.take i)=some L) ?_ ?_ hi hM
    ·intro m
     rw[D6,if_neg (by simp[AS]),List.take_of_length_le (by omega)]
    ·intro m i hi ih2
     obtain⟨k,hk,hkm⟩:=Bn hi
     rw[D6,if_pos (by simp[AS];omega),A8 hk]
     simp only[Option.bind_some]
     rw[(UT S hN hT VF0.x ht hi).1]
     simp only[Option.bind_some]
     rw[(K i k hk).1]
     simp only[Option.bind_some]
     rw[DM _ _ 40 (by simp;omega) (by simp;omega),A9 (by omega) (by omega),show ((i:Int) + 1)=((i+1:Nat):Int) by omega]
     simp only[Option.bind_some]
     rw[← CC (hLi i k hk)];exact ih2
   have:=key N 0 (Nat.zero_le _) (by omega)
   rw[List.take_zero,show ((0:Nat):Int)=0 from rfl] at this
   rw[this]
   simp only[Option.bind_some]
   rw[nd.1];rfl
  ·intro F
   rw[CE]
   unfold Fc
   have key :∀(M i:Nat),i≤e.kids.length→e.kids.length - i < M→Bz N e.kids p.decls F p.decls e.op e.num v.length (CE N c) M i (L.take i ++ e.kids.drop i)=some L:=by
    intro M i hi hM
    refine Bx e.kids.length (fun M i=>Bz N e.kids p.decls F p.decls e.op e.num v.length (CE N c) M i (L.take i ++ e.kids.drop i)=some L) ?_ ?_ hi hM
    ·intro m
     rw[Bz,if_neg (by simp[AS]),List.drop_length,List.append_nil,List.take_of_length_le (by omega)]
    ·intro m i hi ih2
     obtain⟨k,hk,hkm⟩:=Bn hi
     have hl:(L.take i).length=i:=by simp;omega
     have hget:Sh.get (L.take i ++ e.kids.drop i) (i:Int)=some k:=by
      rw[LY,List.getElem?_append_right (by omega),hl,Nat.sub_self,List.getElem?_drop,Nat.add_zero,hk]
     have hput:Sh.put (L.take i ++ e.kids.drop i) (i:Int) (fd p.decls (v.length+GG p.decls e.op e.num i) k)=L.take (i+1) ++ e.kids.drop (i+1):=by
      rw[Hi,List.set_append_right _ _ (by omega),hl,Nat.sub_self,drop_cons hk,List.set_cons_zero,CC (hLi i k hk),List.append_assoc];rfl
     rw[Bz,if_pos (by simp[AS];omega),(UT S hN hT VF0.x ht hi).2]
     simp only[Option.bind_some]
     rw[hget]
     simp only[Option.bind_some]
     rw[(K i k hk).2 F]
     simp only[Option.bind_some]
     rw[hput,A9 (by omega) (by omega),show ((i:Int) + 1)=((i+1:Nat):Int) by omega]
     exact ih2
   have:=key N 0 (Nat.zero_le _) (by omega)
   rw[List.take_zero,List.nil_append,List.drop_zero,show ((0:Nat):Int)=0 from rfl] at this
   rw[this]
   simp only[Option.bind_some]
   unfold J6
   rw[nd.2];rfl
end
end RC



namespace RC
open Go
def fu (o n:Int):List AG→AG
 | c :: d :: k=>if o=11∧c.op=10 then .mk 9 c.num (c.kids ++ [d]) else .mk o n (c :: d :: k)
 | k=>.mk o n k
mutual
def kn:AG→AG | .mk o n k=>fu o n (eV k)
def eV:List AG→List AG | []=>[] | e :: l=>kn e :: eV l
end
def K2 (e:AG):Prop:=e.op=11→2≤e.kids.length
end RC



namespace RC
open Go
end RC



namespace RC
open Go
end RC



namespace RC
open Go
theorem Wl {N:Nat} (hN:2000000≤N) :∀(n:Nat) (e:AG),en e≤n→en e≤1000→BG e→Ck N n e 0 0=some e:=by
 intro n
 induction n with
 | zero=>intro e h;have:=H0 e;omega
 | succ n ih=>
  intro e hn hs hI
  have hlen:=FR e.kids
  have he:=Em e
  obtain⟨n1,n2⟩:=hI.num
  rw[Ck]
  unfold Gm
  have key :∀(M i:Nat),i≤e.kids.length→e.kids.length - i < M→Bw e 0 0 (Ck N n) M i (e.kids.take i)=some e.kids:=by
   intro M i hi hM
   refine Bx e.kids.length (fun M i=>Bw e 0 0 (Ck N n) M i (e.kids.take i)=some e.kids) ?_ ?_ hi hM
   ·intro m
    rw[Bw,if_neg (by simp[AS]),List.take_length]
   ·intro m i hi ih2
    obtain⟨c,hc,hcm⟩:=Bn hi
    have h1:=GJ hcm
    rw[Bw,if_pos (by simp[AS];omega),A8 hc]
    simp only[Option.bind_some]
    rw[ih c (by omega) (by omega) (hI.kids c hcm)]
    simp only[Option.bind_some]
    rw[DM _ _ 40 (by simp;omega) (by simp;omega),A9 (by omega) (by omega),show ((i:Int) + 1)=((i+1:Nat):Int) by omega]
    simp only[Option.bind_some]
    rw[← CC hc];exact ih2
  have:=key N 0 (Nat.zero_le _) (by omega)
  rw[List.take_zero,show ((0:Nat):Int)=0 from rfl] at this
  rw[this,Int.add_zero,A9 (by omega) (by omega)]
  have hn:(Option.bind (
   Option.bind (
    if (decide (e.op=12))=true then
     some (decide (0≤e.num))
    else
     some false
   ) fun t25=>
   if t25=true then
    some e.num
   else
    some e.num
  ) fun f3=>(some e.kids).bind fun l11=>some (AG.mk e.op f3 l11))=some (AG.mk e.op e.num e.kids):=by
   by_cases h:e.op=12
   ·rw[if_pos (by simpa using h)];simp
   ·rw[if_neg (by simpa using h)];simp
  rw[hn,← Ga]
theorem Tp {N:Nat} (hN:2000000≤N) {e:AG} (hs:en e≤1000) (hI:BG e):Gp N e=some e:=by
 unfold Gp FK
 rw[Wl hN N e (by omega) hs hI];rfl
end RC



namespace RC
open Go
theorem QP {N:Nat} (hN:2000000≤N) {p:Aa} (hd:p.decls.length≤1048576) (hz :∀d∈p.decls,dz d≤1048576) (hf:p.funcs.length≤1048576) (hb :∀f∈p.funcs,f.params.length≤1048576∧en f.body≤1000∧BG f.body):FT N p=some p:=by
 unfold FT
 rw[SN hd hz hN]
 simp only[Option.bind_some]
 have key :∀(M i:Nat),i≤p.funcs.length→p.funcs.length - i < M→CD N p M i (p.funcs.take i)=some p.funcs:=by
  intro M i hi hM
  refine Bx p.funcs.length (fun M i=>CD N p M i (p.funcs.take i)=some p.funcs) ?_ ?_ hi hM
  ·intro m
   rw[CD,if_neg (by simp[AS]),List.take_length]
  ·intro m i hi ih
   obtain⟨f,hf1,hfm⟩:=Bn hi
   obtain⟨b1,b2,b3⟩:=hb f hfm
   rw[CD,if_pos (by simp[AS];omega),A8 hf1]
   simp only[Option.bind_some]
   have hcl:Bh f.params=some f.params:=by
    unfold Bh
    rw[DM _ _ _ (by simp;omega) (by simp;omega)];rfl
   rw[hcl,Tp hN b2 b3]
   simp only[Option.bind_some]
   rw[DM _ _ 72 (by simp;omega) (by simp;omega),A9 (by omega) (by omega),show ((i:Int) + 1)=((i+1:Nat):Int) by omega]
   simp only[Option.bind_some]
   have e:Am.mk f.params f.result f.body=f:=by cases f;rfl
   rw[e,← CC hf1];exact ih
 have:=key N 0 (Nat.zero_le _) (by omega)
 rw[List.take_zero,show ((0:Nat):Int)=0 from rfl] at this
 rw[this]
 cases p;rfl
end RC



namespace RC
open Go
end RC



namespace RC
open Go
end RC



namespace RC
open Go
end RC



namespace RC
open Go
section
variable {p : Aa} {R1 : Aa → List Int → AG → Option Int} {R2 : List Int → A6 → AG → Option Int} {T : List Int → AG → Int} {e : AG} {v : List Int} {N : Nat}
end
theorem Zb {p:Aa} (S:F8 p) {N:Nat} (hN:2000000≤N) (hv:Cc N p=some true):Dy p.decls p.funcs∧∃T,TT p N T∧∀f∈p.funcs,en f.body≤30∧Gc p f.body f.params∧CB p.decls f.result=true∧T f.params f.body=f.result:=by
 obtain⟨b,h1,_,h3⟩:=KW S hN
 rw[hv] at h1;cases h1
 obtain⟨SO,hen⟩:=h3 rfl
 obtain⟨T,hT⟩:=Qx SO hN 31
 have hl:=S.OF
 refine⟨SO,T,hT,fun f hf=>?_⟩
 obtain⟨q1,q2,q3⟩:=SO.QC f hf
 have he:=hen f hf
 have V:Gc p f.body f.params:=⟨by omega,q2,by omega,(S.fin hf).body⟩
 have L1:=C9 (l:=p.funcs) (Br N p) (fun _ f=>I9 p T f) (fun n=>by rw[Br,if_neg (by simp[AS])]) (fun n i f hi=>by
  have hil:=(List.getElem?_eq_some_iff.1 hi).1
  have hf:=List.mem_of_getElem? hi
  obtain⟨q1,q2,q3⟩:=SO.QC f hf
  have he:=hen f hf
  have ty:Jy N p f.params f.body=some (T f.params f.body):=(hT f.params f.body (S.fin hf).body (by omega) (by omega) q2 N N (by omega) (by omega)).1
  rw[Br,if_pos (by simp[AS];omega),A8 hi]
  simp only[Option.bind_some]
  rw[JB (S.fz hf).2 hN,A9 (by omega) (by omega),show ((i:Int) + 1)=((i+1:Nat):Int) by omega]
  simp only[Option.bind_some]
  unfold I9
  rw[if_pos he,if_neg (by simp),ty]
  by_cases hr:T f.params f.body=f.result <;> simp[he,hr]) (by omega:p.funcs.length < N)
 rw[Dk] at L1
 have hs:p.funcs.all (I9 p T)=true:=by
  unfold Cc at hv
  rw[Sr S hN] at hv
  simp only[Option.bind_some] at hv
  cases hsg:SL p with
  | false=>rw[hsg] at hv;simp at hv
  | true=>
   rw[hsg] at hv
   simp only[Bool.not_true,Bool.false_eq_true,if_false] at hv
   rw[L1,EH] at hv
   cases hb:p.funcs.all (I9 p T) with
   | true=>rfl
   | false=>rw[hb] at hv;simp at hv
 have hb:=List.all_eq_true.1 hs f hf
 unfold I9 at hb
 simp only[Bool.and_eq_true,decide_eq_true_eq] at hb
 exact⟨he,V,q3,hb.2⟩
end RC



namespace RC
open Go
def wE (e:AG):Nat:=2 * en e
theorem bx (l:List AG):(l.map wE).sum=2 * CK l:=by
 induction l with
 | nil=>rfl
 | cons a l ih=>simp[CK,ih,wE];omega
def MX (rec:List AG→Int→Option (Int×List AG)) (rech:List AG→Int→Option Int) (l:List AG):Prop:=∀k:Nat,k+2 * CK l≤20000000→∃(k':Nat) (l':List AG),k'≤k+2 * CK l∧rec l k=some ((k':Int),l')∧rech l' k=some (k':Int)
theorem Xr {N:Nat} (hN:2000000≤N) :∀(m:Nat) (l:List AG),CK l≤1048576→CK l < m→MX (Dm N m) (Dp N m) l:=by
 intro m
 induction m with
 | zero=>intro l _ h;omega
 | succ m ih=>
  intro l hl hm k hk
  have hlen:=FR l
  rw[← bx] at hk ⊢
  rw[Dm]
  unfold G6
  obtain⟨k',l',h1,h2,h3⟩:=VR (L:=Ct (Dm N m)) (H:=fun l=>Cu l (Dp N m)) (wt:=wE) (ok:=fun e=>MX (Dm N m) (Dp N m) e.kids) (fun n k l=>by rw[Ct,if_neg (by simp[AS])]) (fun l n k=>by rw[Cu,if_neg (by simp[AS])]) (fun n k A x C hA hx hk=>by
   unfold wE at hk ⊢
   rw[Em] at hk ⊢
   obtain⟨o,nu,kd⟩:=x
   simp only[AG.kids] at hx hk ⊢
   obtain⟨k1,l1,g1,g2,g3⟩:=hx (k+1+1) (by omega)
   refine⟨k1,.mk (k:Int) ((k+1:Nat):Int) l1,by omega,?_,fun q E=>?_⟩
   ·rw[Ct,if_pos (by simp[AS];omega),En (n:=k) (by omega),En (n:=k+1) (by omega),En (n:=A.length) (by omega)]
    simp only[Fp,Il,Option.bind_some,AG.op,AG.num,AG.kids]
    rw[g2]
    simp only[Option.bind_some]
   ·rw[Cu,if_pos (by simp[AS];omega),Fp]
    simp only[Option.bind_some,AG.op,AG.num,AG.kids]
    rw[En (n:=k) (by omega),En (n:=k+1) (by omega),En (n:=A.length) (by omega),g3]
    simp only[decide_true,Bool.not_true,Bool.false_eq_true,if_false,Option.bind_some]
    rw[if_neg (by simp <;> omega)]) hN (by omega) (fun e he=>by
    have h1:=GJ he
    have h2:=Em e
    exact ih e.kids (by omega) (by omega)) hk
  refine⟨k',l',h1,?_,?_⟩
  ·rw[h2];rfl
  ·rw[Dp]
   unfold G4
   rw[h3];rfl
theorem ZQ {N:Nat} (hN:2000000≤N) {l:List AG} (hl:CK l≤1048576):MX (H3 N) (H5 N) l:=by
 unfold H3 H5
 exact Xr hN N l hl (by omega)
def fM (f:Am):Nat:=f.params.length+1+2+2 * CK f.body.kids
theorem aX {l:List Am} {k N:Nat} (hN:2000000≤N) (hl:l.length≤1048576) (hok :∀f∈l,Ip f≤1048576) (hk:k+(l.map fM).sum≤20000000) :∃(k':Nat) (l':List Am),k'≤k+(l.map fM).sum∧Gk N l k=some ((k':Int),l')∧Gn N l' k=some (k':Int):=by
 obtain⟨k',l',h1,h2,h3⟩:=VR (L:=DS N) (H:=DZ N) (wt:=fM) (ok:=fun f=>Ip f≤1048576) (fun n k l=>by rw[DS,if_neg (by simp[AS])]) (fun l n k=>by rw[DZ,if_neg (by simp[AS])]) (fun n k A x C hA hx hk=>by
  unfold Ip at hx
  unfold fM at hk ⊢
  obtain⟨pa,re,bo⟩:=x
  obtain⟨o,nu,kd⟩:=bo
  simp only[AG.kids] at hx hk ⊢
  have e1:=PD (l:=pa) (by omega) (k:=k) (by omega) hN
  have f1:=Pq (m:=pa.length) (by omega) (k:=k) (by omega) hN
  obtain⟨k1,l1,g1,g2,g3⟩:=ZQ hN (l:=kd) (by omega) (k+pa.length+1+1+1) (by omega)
  refine⟨k1,⟨Le k pa.length,((k+pa.length:Nat):Int),.mk ((k+pa.length+1:Nat):Int) ((k+pa.length+1+1:Nat):Int) l1⟩,by omega,?_,fun m E=>?_⟩
  ·rw[DS,if_pos (by simp[AS];omega),En (n:=A.length) (by omega)]
   simp only[Fp,Il,Option.bind_some]
   rw[e1]
   simp only[Fp,Il,Option.bind_some]
   rw[En (n:=k+pa.length) (by omega),En (n:=k+pa.length+1) (by omega),En (n:=k+pa.length+1+1) (by omega)]
   simp only[AG.op,AG.num,AG.kids]
   rw[g2]
   simp only[Fp,Il,Option.bind_some]
  ·rw[DZ,if_pos (by simp[AS];omega),Fp,En (n:=A.length) (by omega)]
   simp only[Option.bind_some]
   rw[f1]
   simp only[Option.bind_some]
   rw[if_neg (by simp <;> omega),En (n:=k+pa.length) (by omega),En (n:=k+pa.length+1) (by omega),En (n:=k+pa.length+1+1) (by omega)]
   simp only[AG.op,AG.num,AG.kids]
   rw[g3]
   simp only[decide_true,Bool.not_true,Bool.false_eq_true,if_false,Option.bind_some]
   rw[if_neg (by simp <;> omega)]) hN hl hok hk
 refine⟨k',l',h1,?_,?_⟩
 ·unfold Gk
  rw[h2];rfl
 ·unfold Gn
  rw[h3];rfl
theorem SC {p:Aa} (hp:Kg p≤1048576) {N:Nat} (hN:2000000≤N) :∃(k:Nat) (d:List Ab) (r:List Am),E8 N p.decls p.funcs 1=some ((k:Int),d,r)∧E9 N ⟨d,r⟩ 1=some (k:Int):=by
 unfold Kg at hp
 have s1:(p.decls.map Yr).sum≤2 * p.decls.length+1 * (p.decls.map dz).sum:=MO fun d _=>by unfold Yr dz;omega
 have s2:(p.funcs.map fM).sum≤3 * p.funcs.length+2 * (p.funcs.map Ip).sum:=MO fun f _=>by unfold fM Ip;omega
 obtain⟨k1,d,g1,g2,g3⟩:=ZX (l:=p.decls) (k:=1) hN (by omega) (fun d hd=>by have:=FQ dz hd;omega) (by omega)
 obtain⟨k2,r,g4,g5,g6⟩:=aX (l:=p.funcs) (k:=k1) hN (by omega) (fun d hd=>by have:=FQ Ip hd;omega) (by omega)
 refine⟨k2,d,r,?_,?_⟩
 ·unfold E8
  rw[show (1:Int)=((1:Nat):Int) from rfl,g2]
  simp only[Option.bind_some]
  rw[g5];rfl
 ·unfold E9
  rw[show (1:Int)=((1:Nat):Int) from rfl,g3]
  simp only[Option.bind_some]
  rw[if_neg (by simp <;> omega),g6]
  simp only[Option.bind_some]
  rw[if_neg (by simp <;> omega)]
end RC



namespace RC
open Go
end RC

