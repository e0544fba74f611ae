import Derived.Test.YtobjlimoekffaaaGreatGEncCToNCDefs
import Derived.Test.YtobjlimoekffaaaGreatIWD

namespace RC
open Go
theorem Y2 {im:At} (S:Ej im) {N:Nat} (hN:2000000≤N) (h:Sj N im=true) {p:A0} (hp:p∈im.procs) :∀i∈p.code,My i.op=true:=by
 unfold Sj at h
 simp only[Bool.and_eq_true] at h
 have hb:=List.all_eq_true.1 h.2.2 p hp
 unfold FT at hb
 simp only[Bool.and_eq_true] at hb
 obtain⟨hs,hl,ha⟩:=hb
 intro i hi
 obtain⟨k,hk⟩:=List.mem_iff_getElem?.1 hi
 have hv:=Nh ha k i hk
 rw[Nat.zero_add] at hv
 have H:=Kk S hp hs hk
 obtain⟨b,h1,h2⟩:=KO H hN
 unfold HP at hv
 rw[h1] at hv
 simp only[Option.getD_some] at hv
 subst hv
 rw[Su H hN] at h2
 split at h2
 ·rename_i hc;simp only[Bool.and_eq_true] at hc;exact hc.1.1.1
 ·cases h2
def orM (m m':Nat→Bool):Nat→Bool:=fun k=>m k || m' k
def no:Nat→Bool:=fun _=>false
theorem XW {L:Nat} (hL:L≤2000) {q:List Int} (hq:q.length≤1048600) (hin :∀x∈q,0≤x∧x < (L:Int)) {N0:Nat} (hN0:2000000≤N0) {N i:Nat} (hi:i≤q.length) (hN:q.length - i < N) :
  ∀m:Nat→Bool,EZ N0 q N (i:Int) (BO (mk m L 0))=some (BO (mk (Gv m (q.drop i)) L 0)):=by
 refine BN q.length (fun N i=>∀m:Nat→Bool,EZ N0 q N (i:Int) (BO (mk m L 0))=some (BO (mk (Gv m (q.drop i)) L 0))) ?_ ?_ hi hN
 ·intro n m
  rw[EZ,if_neg (by simp[AK])];simp[Nm]
 ·intro n i hi ih m
  obtain⟨y,hy,hm⟩:=BS hi
  obtain⟨h0,h1⟩:=hin y hm
  obtain⟨j,rfl⟩:=Int.eq_ofNat_of_zero_le h0
  rw[EZ,if_pos (by simp[AK];omega),Ai hy]
  simp only[Option.bind_some]
  rw[Qx (by omega) (by omega) hN0]
  simp only[Option.bind_some]
  rw[Au (by omega) (by omega),show ((i:Int) + 1)=((i+1:Nat):Int) by omega,ih,drop_cons hy,L3]
theorem V7 {L:Nat} (hL:L≤2000) {c:Ag} (hq:c.args.length≤1048600) (hin :∀x∈c.args,0≤x∧x < (L:Int)) {N0:Nat} (hN0:2000000≤N0) {N i:Nat} (hi:i≤c.args.length) (hN:c.args.length - i < N) :
  ∀m:Nat→Bool,D8 N0 c N (i:Int) (BO (mk m L 0))=some (BO (mk (Gv m (c.args.drop i)) L 0)):=by
 refine BN c.args.length (fun N i=>∀m:Nat→Bool,D8 N0 c N (i:Int) (BO (mk m L 0))=some (BO (mk (Gv m (c.args.drop i)) L 0))) ?_ ?_ hi hN
 ·intro n m
  rw[D8,if_neg (by simp[AK])];simp[Nm]
 ·intro n i hi ih m
  obtain⟨y,hy,hm⟩:=BS hi
  obtain⟨h0,h1⟩:=hin y hm
  obtain⟨j,rfl⟩:=Int.eq_ofNat_of_zero_le h0
  rw[D8,if_pos (by simp[AK];omega),Ai hy]
  simp only[Option.bind_some]
  rw[Qx (by omega) (by omega) hN0]
  simp only[Option.bind_some]
  rw[Au (by omega) (by omega),show ((i:Int) + 1)=((i+1:Nat):Int) by omega,ih,drop_cons hy,L3]
theorem mem_mk {m:Nat→Bool} {n k:Nat}:((k:Int)∈BO (mk m n 0))↔k < n∧m k=true:=by
 unfold BO
 rw[List.mem_map]
 constructor
 ·rintro⟨j,hj,e⟩
  have:j=k:=by omega
  subst this;exact Th.1 hj
 ·intro h;exact⟨k,Th.2 h,rfl⟩
theorem Ys {m:Nat→Bool} {n:Nat} :∀x∈BO (mk m n 0),0≤x∧x < (n:Int):=by
 intro x hx
 unfold BO at hx
 obtain⟨j,hj,rfl⟩:=List.mem_map.1 hx
 have:=(Th.1 hj).1
 omega
theorem mk_le (m:Nat→Bool) (n:Nat):(BO (mk m n 0)).length≤n:=by rw[Iy];have:=Tk m n 0;omega
theorem Tp (n:Nat):BO (mk no n 0)=[]:=by
 have:mk no n 0=[]:=by unfold mk no;simp
 rw[this];rfl
theorem union_eq {n:Nat} (hn:n≤2000) {m m':Nat→Bool} {N:Nat} (hN:2000000≤N):IB N (BO (mk m n 0)) (BO (mk m' n 0))=some (BO (mk (orM m m') n 0)):=by
 have l1:=mk_le m n
 have l2:=mk_le m' n
 unfold IB
 rw[Od (by omega)]
 simp only[Option.bind_some]
 have e:=XW hn (q:=BO (mk m' n 0)) (by omega) Ys hN (Nat.zero_le _) (by omega:(BO (mk m' n 0)).length - 0 < N) m
 rw[show ((0:Nat):Int)=0 from rfl,List.drop_zero] at e
 rw[e]
 simp only[Option.bind_some]
 congr 2
 refine mk_congr fun k _ hk=>?_
 unfold Gv orM
 congr 1
 have:=mem_mk (m:=m') (n:=n) (k:=k)
 cases h:m' k with
 | true=>exact decide_eq_true (this.2 ⟨hk,h⟩)
 | false=>exact decide_eq_false fun hm=>by rw[(this.1 hm).2] at h;cases h
theorem QI {l:List Int} {d:Int} (hl:l.length≤1048576) {N i:Nat} (hi:i≤l.length) (hN:l.length - i < N) :∀acc:List Int,acc.length≤i→DZ l d N (i:Int) acc=some (acc ++ (l.drop i).filter fun x=>!decide (x=d)):=by
 refine BN l.length (fun N i=>∀acc:List Int,acc.length≤i→DZ l d N (i:Int) acc=some (acc ++ (l.drop i).filter fun x=>!decide (x=d))) ?_ ?_ hi hN
 ·intro n acc _
  rw[DZ,if_neg (by simp[AK])];simp
 ·intro n i hi ih acc ha
  obtain⟨y,hy,_⟩:=BS hi
  rw[DZ,if_pos (by simp[AK];omega),Ai hy,drop_cons hy,List.filter_cons]
  simp only[Option.bind_some]
  rw[Au (by omega) (by omega),show ((i:Int) + 1)=((i+1:Nat):Int) by omega]
  cases h:decide (y=d) with
  | true=>simp only[Bool.not_true,Bool.false_eq_true,if_false,Option.bind_some];exact ih acc (by omega)
  | false=>
   simp only[Bool.not_false,if_true]
   rw[Er _ _ 8 (by simp;omega) (by simp;omega)]
   simp only[Option.bind_some]
   rw[ih _ (by simp;omega),List.append_assoc];rfl
def less (m:Nat→Bool) (d:Int):Nat→Bool:=fun k=>m k && !decide ((k:Int)=d)
theorem VV {n:Nat} (hn:n≤2000) {m:Nat→Bool} {d:Int} {N:Nat} (hN:2000000≤N):ER N (BO (mk m n 0)) d=some (BO (mk (less m d) n 0)):=by
 have l1:=mk_le m n
 unfold ER
 have e:=QI (d:=d) (by omega:(BO (mk m n 0)).length≤1048576) (Nat.zero_le _) (by omega:(BO (mk m n 0)).length - 0 < N) [] (by simp)
 rw[show ((0:Nat):Int)=0 from rfl,List.drop_zero,List.nil_append] at e
 rw[e]
 simp only[Option.bind_some]
 congr 1
 unfold BO mk less
 rw[List.filter_map,List.filter_filter]
 congr 1
 refine List.filter_congr fun x _=>?_
 simp only[Function.comp_apply]
 exact Bool.and_comm _ _
theorem dS {n:Nat} (hn:n≤2000) {m':Nat→Bool} {N i:Nat} (hi:i≤n) (hN:n - i < N) :∀m:Nat→Bool,DG (rowOf n m') N (i:Int) (rowOf n m)=some (rowOf n fun k=>m k || (decide (i≤k) && m' k)):=by
 refine BN n (fun N i=>∀m:Nat→Bool,DG (rowOf n m') N (i:Int) (rowOf n m)=some (rowOf n fun k=>m k || (decide (i≤k) && m' k))) ?_ ?_ hi hN
 ·intro n0 m
  rw[DG,if_neg (by simp[AK,E5])]
  congr 1
  refine Bj fun j hj=>?_
  simp;intro h;omega
 ·intro n0 i hi ih m
  rw[DG,if_pos (by simp[AK,E5];omega),Ai (Bc hi),Ai (Bc hi)]
  simp only[Option.bind_some]
  rw[Au (by omega) (by omega),show ((i:Int) + 1)=((i+1:Nat):Int) by omega,ET,ET,E4,E4]
  cases h:m i with
  | true=>
   simp only[if_true,Option.bind_some]
   rw[ih]
   congr 1
   refine Bj fun j _=>?_
   by_cases e:j=i
   ·subst e;simp[h]
   ·by_cases e2:i≤j
    ·have:i+1≤j:=by omega
     simp[e,e2,this]
    ·have:¬ i+1≤j:=by omega
     simp[e,e2,this]
  | false=>
   simp only[Bool.false_eq_true,if_false,Option.bind_some]
   rw[ih]
   congr 1
   refine Bj fun j _=>?_
   by_cases e:j=i
   ·subst e;simp[h]
   ·by_cases e2:i≤j
    ·have:i+1≤j:=by omega
     simp[e,e2,this]
    ·have:¬ i+1≤j:=by omega
     simp[e,e2,this]
theorem eG {L:Nat} (hL:L≤2000) {c:Ag} (hq:c.args.length≤1048600) (hin :∀x∈c.args,0≤x∧x < (L:Int)) {N i:Nat} (hi:i≤c.args.length) (hN:c.args.length - i < N) :
  ∀m:Nat→Bool,CZ c N (i:Int) (rowOf L m)=some (rowOf L (Gv m (c.args.drop i))):=by
 refine BN c.args.length (fun N i=>∀m:Nat→Bool,CZ c N (i:Int) (rowOf L m)=some (rowOf L (Gv m (c.args.drop i)))) ?_ ?_ hi hN
 ·intro n m
  rw[CZ,if_neg (by simp[AK])];simp[Nm]
 ·intro n i hi ih m
  obtain⟨y,hy,hm⟩:=BS hi
  obtain⟨h0,h1⟩:=hin y hm
  obtain⟨j,rfl⟩:=Int.eq_ofNat_of_zero_le h0
  rw[CZ,if_pos (by simp[AK];omega),Ai hy]
  simp only[Option.bind_some]
  rw[Ai (Bc (by omega:j < L)),ET,E4]
  simp only[Option.bind_some]
  have e:(fun k=>if k=j then true else m k)=Im m j:=by
   funext k;unfold Im;by_cases h:k=j <;> simp[h]
  rw[e,Au (by omega) (by omega),show ((i:Int) + 1)=((i+1:Nat):Int) by omega,ih,drop_cons hy,L3]
def Jp (n:Nat) (T:Nat→Nat→Bool) (k j:Nat):List Int:=if k≤j then BO (mk (T j) n 0) else []
def Kl (n:Nat) (T:Nat→Nat→Bool) (k j:Nat):List Bool:=if k≤j then rowOf n (T j) else []
def P5 (T:Nat→Nat→Bool) (m:Nat→Bool) (q:List Int):Nat→Bool:=fun r=>m r || q.any fun x=>T x.toNat r
theorem VR (T:Nat→Nat→Bool) (m:Nat→Bool):P5 T m []=m:=by funext r;simp[P5]
theorem S3 (T:Nat→Nat→Bool) (m:Nat→Bool) (j:Nat) (q:List Int):P5 T m ((j:Int) :: q)=P5 T (orM m (T j)) q:=by
 funext r;simp only[P5,orM,List.any_cons,Int.toNat_natCast,Bool.or_assoc]
theorem V1 {T:Nat→Nat→Bool} {m:Nat→Bool} {q q':List Int} (h :∀x,x∈q↔x∈q'):P5 T m q=P5 T m q':=by
 funext r
 unfold P5
 congr 1
 rw[Bool.eq_iff_iff,List.any_eq_true,List.any_eq_true]
 exact⟨fun⟨x,h1,h2⟩=>⟨x,(h x).1 h1,h2⟩,fun⟨x,h1,h2⟩=>⟨x,(h x).2 h1,h2⟩⟩
theorem df {n L k:Nat} (hn:n≤2000) (hL:L≤2000) {T:Nat→Nat→Bool} {q:List Int} (hq:q.length≤1048600) (hin :∀x∈q,(k:Int)≤x∧x < (L:Int)) {N0:Nat} (hN0:2000000≤N0) {N i:Nat} (hi:i≤q.length) (hN:q.length - i < N) :
  ∀m:Nat→Bool,DA N0 (rowOf L (Jp n T k)) q N (i:Int) (BO (mk m n 0))=some (BO (mk (P5 T m (q.drop i)) n 0)):=by
 refine BN q.length (fun N i=>∀m:Nat→Bool,DA N0 (rowOf L (Jp n T k)) q N (i:Int) (BO (mk m n 0))=some (BO (mk (P5 T m (q.drop i)) n 0))) ?_ ?_ hi hN
 ·intro n0 m
  rw[DA,if_neg (by simp[AK])];simp[VR]
 ·intro n0 i hi ih m
  obtain⟨y,hy,hm⟩:=BS hi
  obtain⟨h0,h1⟩:=hin y hm
  obtain⟨j,rfl⟩:=Int.eq_ofNat_of_zero_le (by omega:0≤y)
  rw[DA,if_pos (by simp[AK];omega),Ai hy]
  simp only[Option.bind_some]
  rw[Ai (Bc (by omega:j < L))]
  simp only[Option.bind_some]
  rw[show Jp n T k j=BO (mk (T j) n 0) by unfold Jp;rw[if_pos (by omega)],union_eq hn hN0]
  simp only[Option.bind_some]
  rw[Au (by omega) (by omega),show ((i:Int) + 1)=((i+1:Nat):Int) by omega,ih,drop_cons hy,S3]
theorem dM {n L t:Nat} (hn:n≤2000) (hL:L≤2000) {T:Nat→Nat→Bool} {q:List Int} (hq:q.length≤1048600) (hin :∀x∈q,(t:Int) < x∧x < (L:Int)) {N0:Nat} (hN0:2000000≤N0) {N i:Nat} (hi:i≤q.length) (hN:q.length - i < N) :
  ∀m:Nat→Bool,C9 N0 (t:Int) (rowOf L (Kl n T (t+1))) q N (i:Int) (rowOf n m)=some (rowOf n (P5 T m (q.drop i))):=by
 refine BN q.length (fun N i=>∀m:Nat→Bool,C9 N0 (t:Int) (rowOf L (Kl n T (t+1))) q N (i:Int) (rowOf n m)=some (rowOf n (P5 T m (q.drop i)))) ?_ ?_ hi hN
 ·intro n0 m
  rw[C9,if_neg (by simp[AK])];simp[VR]
 ·intro n0 i hi ih m
  obtain⟨y,hy,hm⟩:=BS hi
  obtain⟨h0,h1⟩:=hin y hm
  obtain⟨j,rfl⟩:=Int.eq_ofNat_of_zero_le (by omega:0≤y)
  have hne:¬ (t:Int)=(j:Int):=by omega
  rw[C9,if_pos (by simp[AK];omega),Ai hy]
  simp only[Option.bind_some]
  rw[Ai (Bc (by omega:j < L))]
  simp only[Option.bind_some]
  rw[show Sh.apart (t:Int) (j:Int)=some () by unfold Sh.apart;rw[if_neg hne]]
  simp only[Option.bind_some]
  rw[show Kl n T (t+1) j=rowOf n (T j) by unfold Kl;rw[if_pos (by omega)]]
  have e:=dS hn (m':=T j) (Nat.zero_le n) (by omega:n - 0 < N0) m
  rw[show ((0:Nat):Int)=0 from rfl] at e
  rw[e]
  simp only[Option.bind_some]
  rw[Au (by omega) (by omega),show ((i:Int) + 1)=((i+1:Nat):Int) by omega]
  have e2:(fun k=>m k || (decide (0≤k) && T j k))=orM m (T j):=by funext k;simp[orM]
  rw[e2,ih,drop_cons hy,S3]
def Vv (i:Ag) (m1:Nat→Bool):Nat→Bool:=
 orM (if GI i.op=true then less m1 i.dst else m1) (if decide (i.op=14) || decide (i.op=15) then no else Gv no i.args)
def X7 (T:Nat→Nat→Bool) (t:Nat) (M:Nat→Bool):Nat→Nat→Bool:=fun j=>if j=t then M else T j
theorem Y0 {n t L:Nat} {T:Nat→Nat→Bool} {M:Nat→Bool}:Sh.put (rowOf L (Jp n T (t+1))) (t:Int) (BO (mk M n 0))=rowOf L (Jp n (X7 T t M) t):=by
 rw[ET,E4]
 refine Bj fun j _=>?_
 unfold Jp X7
 by_cases h:j=t
 ·subst h;simp
 ·by_cases h2:t≤j
  ·have:t+1≤j:=by omega
   simp[h,h2,this]
  ·have:¬ t+1≤j:=by omega
   simp[h,h2,this]
theorem YT {n t L:Nat} {T:Nat→Nat→Bool} {M:Nat→Bool}:Sh.put (rowOf L (Kl n T (t+1))) (t:Int) (rowOf n M)=rowOf L (Kl n (X7 T t M) t):=by
 rw[ET,E4]
 refine Bj fun j _=>?_
 unfold Kl X7
 by_cases h:j=t
 ·subst h;simp
 ·by_cases h2:t≤j
  ·have:t+1≤j:=by omega
   simp[h,h2,this]
  ·have:¬ t+1≤j:=by omega
   simp[h,h2,this]
theorem V0 {n:Nat} (hn:n≤2000) {c:Ag} (hq:c.args.length≤1048576) (hin :∀x∈c.args,0≤x∧x < (n:Int)) {N:Nat} (hN:2000000≤N) :
  IL N c=some (BO (mk (if decide (c.op=14) || decide (c.op=15) then no else Gv no c.args) n 0)):=by
 unfold IL
 have e:=V7 hn (by omega) hin hN (Nat.zero_le _) (by omega:c.args.length - 0 < N) no
 rw[show ((0:Nat):Int)=0 from rfl,List.drop_zero,Tp] at e
 rw[e]
 cases h1:decide (c.op=14) with
 | true=>simp[Tp]
 | false=>
  cases h2:decide (c.op=15) with
  | true=>simp[Tp]
  | false=>simp
theorem XM {m:Nat→Bool} {l:List Int}:Gv m l=orM m (Gv no l):=by funext k;simp[Gv,orM,no]
structure PA (p:A0):Prop where
 v:PV p
 ops :∀i∈p.code,My i.op=true
 ar :∀i∈p.code,i.args.length≤1048576∧i.jumps.length≤1048576
theorem ZE {p:A0} (A:PA p) {n:Nat} (hr:p.Ab=(n:Int)) {a:Nat} {N0:Nat} (hN0:2000000≤N0) :∀(d k:Nat),k=a+d→k≤p.code.length→∀(T:Nat→Nat→Bool) (N1 N2:Nat) (z:Int),z=(k:Int) - 1→d < N1→d < N2→
  ∃T',Dt N0 p.code (a:Int) N1 z (rowOf p.code.length (Jp n T k))=some (rowOf p.code.length (Jp n T' a))∧
   Dm N0 p (a:Int) N2 z (rowOf p.code.length (Kl n T k))=some (rowOf p.code.length (Kl n T' a)):=by
 have hc:=A.v.c2
 have hn:n≤2000:=by have:=A.v.r2;omega
 intro d
 induction d with
 | zero=>
  intro k hk _ T N1 N2 z hz h1 h2
  obtain⟨N1,rfl⟩ :∃m,N1=m+1:=⟨N1 - 1,by omega⟩
  obtain⟨N2,rfl⟩ :∃m,N2=m+1:=⟨N2 - 1,by omega⟩
  have hna:¬ (a:Int)≤z:=by omega
  have:k=a:=by omega
  subst this
  exact⟨T,by rw[Dt,if_neg (by simpa using hna)],by rw[Dm,if_neg (by simpa using hna)]⟩
 | succ d ih=>
  intro k hk hkl T N1 N2 z hz h1 h2
  obtain⟨N1,rfl⟩ :∃m,N1=m+1:=⟨N1 - 1,by omega⟩
  obtain⟨N2,rfl⟩ :∃m,N2=m+1:=⟨N2 - 1,by omega⟩
  obtain⟨t,rfl⟩ :∃t,k=t+1:=⟨k - 1,by omega⟩
  have hzt:z=(t:Int):=by omega
  subst hzt
  have htl:t < p.code.length:=by omega
  have hat:(a:Int)≤(t:Int):=by omega
  obtain⟨i,hi,him⟩:=BS htl
  have hin:=bc (A.v.leads t i hi)
  obtain⟨hal,hjl⟩:=A.ar i him
  have hargs :∀x∈i.args,0≤x∧x < (n:Int):=fun x hx=>by have:=A.v.args i him x hx;omega
  obtain⟨d0,d1⟩:=A.v.dst i him
  have hop:=A.ops i him
  have h7:i.op≠7:=by intro e;simp[My,e] at hop
  have h8:i.op≠8:=by intro e;simp[My,e] at hop
  have hsl:=Zd i t
  have hnl:=Zl i t
  have e1:=df (n:=n) (L:=p.code.length) (k:=t+1) hn hc (T:=T) (q:=sx i t) (by omega) (fun x hx=>by have:=hin x ((Y6 i t x).1 hx);omega) hN0 (Nat.zero_le _) (by omega:(sx i t).length - 0 < N0) no
  have e2:=dM (n:=n) (L:=p.code.length) (t:=t) hn hc (T:=T) (q:=nx i t) (by omega) (fun x hx=>by have:=hin x hx;omega) hN0 (Nat.zero_le _) (by omega:(nx i t).length - 0 < N0) no
  rw[show ((0:Nat):Int)=0 from rfl,List.drop_zero] at e1 e2
  rw[Tp] at e1
  rw[V1 (Y6 i t)] at e1
  generalize hm1:P5 T no (nx i t)=m1 at e1 e2
  obtain⟨T',g1,g2⟩:=ih t (by omega) (by omega) (X7 T t (Vv i m1)) N1 N2 ((t:Int) - 1) rfl (by omega) (by omega)
  refine⟨T',?_,?_⟩
  ·rw[Dt,if_pos (by simpa using hat),V2 hi (by omega) hjl hN0]
   simp only[Option.bind_some]
   rw[e1]
   simp only[Option.bind_some]
   rw[Ai hi]
   simp only[Option.bind_some]
   rw[NS]
   simp only[Option.bind_some]
   have e3:(if GI i.op=true then Option.bind (ER N0 (BO (mk m1 n 0)) i.dst) fun q35=>some q35 else some (BO (mk m1 n 0)))=some (BO (mk (if GI i.op=true then less m1 i.dst else m1) n 0)):=by
    cases GI i.op with
    | true=>simp only[if_true];rw[VV hn hN0];rfl
    | false=>simp
   rw[e3]
   simp only[Option.bind_some]
   rw[V0 hn hal hargs hN0]
   simp only[Option.bind_some]
   rw[union_eq hn hN0]
   simp only[Option.bind_some]
   rw[Ai (Bc htl)]
   simp only[Option.bind_some]
   rw[Au (by omega) (by omega)]
   have e4:Jp n T (t+1)=Jp n T (t+1):=rfl
   rw[Y0]
   exact g1
  ·rw[Dm,if_pos (by simpa using hat),Ai hi]
   simp only[Option.bind_some]
   rw[hr,Gu _ _ 1 (by omega) (by omega),Ea]
   simp only[Option.bind_some]
   rw[Ai (Bc htl)]
   simp only[Option.bind_some]
   rw[XI (by omega)]
   simp only[Option.bind_some]
   rw[show (rowOf n fun _=>false)=rowOf n no from rfl,e2]
   simp only[Option.bind_some]
   rw[NO h7 h8]
   simp only[Option.bind_some]
   obtain⟨dn,hd⟩:=Int.eq_ofNat_of_zero_le d0
   have hdn:dn < n:=by omega
   have e3:(if GI i.op=true then Option.bind (Sh.get (rowOf n m1) i.dst) fun c58=>some (Sh.put (rowOf n m1) i.dst false) else some (rowOf n m1))=some (rowOf n (if GI i.op=true then less m1 i.dst else m1)):=by
    cases GI i.op with
    | true=>
     simp only[if_true]
     rw[hd,Ai (Bc hdn),ET,E4]
     simp only[Option.bind_some]
     congr 1
     refine Bj fun j _=>?_
     unfold less
     by_cases e:j=dn
     ·subst e;simp
     ·have:¬ (j:Int)=(dn:Int):=by omega
      simp[e,this]
    | false=>simp
   rw[e3]
   simp only[Option.bind_some]
   have e5:=eG hn (c:=i) (by omega) hargs (Nat.zero_le _) (by omega:i.args.length - 0 < N0) (if GI i.op=true then less m1 i.dst else m1)
   rw[show ((0:Nat):Int)=0 from rfl,List.drop_zero,XM] at e5
   have e6:Option.bind (if (!decide (i.op=14))=true then some (!decide (i.op=15)) else some false) (fun t38=>
     if t38=true then Option.bind (CZ i N0 0 (rowOf n (if GI i.op=true then less m1 i.dst else m1))) fun l45=>some l45
     else some (rowOf n (if GI i.op=true then less m1 i.dst else m1)))=some (rowOf n (Vv i m1)):=by
    rw[e5]
    unfold Vv
    have en :∀m:Nat→Bool,orM m no=m:=fun m=>by funext k;simp[orM,no]
    cases h1:decide (i.op=14) with
    | true=>simp[en]
    | false=>
     cases h2:decide (i.op=15) with
     | true=>simp[en]
     | false=>simp
   rw[e6]
   simp only[Option.bind_some]
   rw[Au (by omega) (by omega),YT]
   exact g2
theorem Q0 {im:At} {f:Nat} {p:A0} (hp:im.procs[f]?=some p) (A:PA p) {a:Nat} (ha:a < p.code.length) {N:Nat} (hN:2000000≤N) :
  ∃(n:Nat) (m:Nat→Bool) (tab:List (List Int)),p.Ab=(n:Int)∧n≤2000∧HC N p.code (a:Int)=some tab∧Sh.get tab (a:Int)=some (BO (mk m n 0))∧Gx N im (f:Int) (a:Int)=some (BO (mk m n 0)):=by
 have hc:=A.v.c2
 have r1:=A.v.r1
 have r2:=A.v.r2
 obtain⟨n,hr⟩:=Int.eq_ofNat_of_zero_le (by omega:0≤p.Ab)
 have hn:n≤2000:=by omega
 have T0:Nat→Nat→Bool:=fun _ _=>false
 obtain⟨T',g1,g2⟩:=ZE A hr (a:=a) hN (p.code.length - a) p.code.length (by omega) (Nat.le_refl _) T0 N N ((p.code.length:Int) - 1) rfl (by omega) (by omega)
 have z1:rowOf p.code.length (Jp n T0 p.code.length)=List.replicate p.code.length []:=by
  rw[Ea]
  refine Bj fun j hj=>?_
  unfold Jp;rw[if_neg (by omega)]
 have z2:rowOf p.code.length (Kl n T0 p.code.length)=List.replicate p.code.length []:=by
  rw[Ea]
  refine Bj fun j hj=>?_
  unfold Kl;rw[if_neg (by omega)]
 rw[z1] at g1
 rw[z2] at g2
 refine⟨n,T' a,rowOf p.code.length (Jp n T' a),hr,hn,?_,?_,?_⟩
 ·unfold HC
  rw[AK,Gu _ _ 24 (by omega) (by omega)]
  simp only[Option.bind_some]
  rw[Au (by omega) (by omega),g1];rfl
 ·rw[Ai (Bc ha)]
  unfold Jp;rw[if_pos (Nat.le_refl _)]
 ·unfold Gx
  rw[Ai hp]
  simp only[Option.bind_some]
  rw[AK,Gu _ _ 24 (by omega) (by omega)]
  simp only[Option.bind_some]
  rw[Au (by omega) (by omega),g2]
  simp only[Option.bind_some]
  rw[Ai (Bc ha)]
  simp only[Option.bind_some]
  rw[show Kl n T' a a=rowOf n (T' a) by unfold Kl;rw[if_pos (Nat.le_refl _)],RO (by omega) hN];rfl
theorem ZX {im:At} (S:Ej im) {N:Nat} (hN:2000000≤N) (h:Sj N im=true) {p:A0} (hp:p∈im.procs):PA p:=
 ⟨Xo S hN h hp,Y2 S hN h hp,fun i hi=>S.ar p hp i hi⟩
end RC

