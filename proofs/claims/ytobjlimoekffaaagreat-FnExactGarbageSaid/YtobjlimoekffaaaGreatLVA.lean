import Derived.Test.YtobjlimoekffaaaGreatGEncCToGCDefs
import Derived.Test.YtobjlimoekffaaaGreatIWD

namespace RC
open Go
theorem YV {im:Au} (S:Eo im) {N:Nat} (hN:2000000≤N) (h:Sy N im=true) {p:A0} (hp:p∈im.procs) :∀i∈p.code,NL i.op=true:=by
 unfold Sy at h
 simp only[Bool.and_eq_true] at h
 have hb:=List.all_eq_true.1 h.2.2 p hp
 unfold FY at hb
 simp only[Bool.and_eq_true] at hb
 obtain⟨hs,hl,ha⟩:=hb
 intro i hi
 obtain⟨k,hk⟩:=List.mem_iff_getElem?.1 hi
 have hv:=OC ha k i hk
 rw[Nat.zero_add] at hv
 have H:=LP S hp hs hk
 obtain⟨b,h1,h2⟩:=KW H hN
 unfold HQ at hv
 rw[h1] at hv
 simp only[Option.getD_some] at hv
 subst hv
 rw[Td H hN] at h2
 split at h2
 ·rename_i hc;simp only[Bool.and_eq_true] at hc;exact hc.1.1.1
 ·cases h2
def orM (m m':Nat→Bool):Nat→Bool:=fun k=>m k || m' k
def no:Nat→Bool:=fun _=>false
theorem Xk {L:Nat} (hL:L≤2000) {q:List Int} (hq:q.length≤1048600) (hin :∀x∈q,0≤x∧x < (L:Int)) {N0:Nat} (hN0:2000000≤N0) {N i:Nat} (hi:i≤q.length) (hN:q.length - i < N) :
  ∀m:Nat→Bool,Ea N0 q N (i:Int) (BK (mk m L 0))=some (BK (mk (Gz m (q.drop i)) L 0)):=by
 refine BM q.length (fun N i=>∀m:Nat→Bool,Ea N0 q N (i:Int) (BK (mk m L 0))=some (BK (mk (Gz m (q.drop i)) L 0))) ?_ ?_ hi hN
 ·intro n m
  rw[Ea,if_neg (by simp[AK])];simp[OO]
 ·intro n i hi ih m
  obtain⟨y,hy,hm⟩:=BR hi
  obtain⟨h0,h1⟩:=hin y hm
  obtain⟨j,rfl⟩:=Int.eq_ofNat_of_zero_le h0
  rw[Ea,if_pos (by simp[AK];omega),Ak hy]
  simp only[Option.bind_some]
  rw[RB (by omega) (by omega) hN0]
  simp only[Option.bind_some]
  rw[As (by omega) (by omega),show ((i:Int) + 1)=((i+1:Nat):Int) by omega,ih,drop_cons hy,MO]
theorem Ws {L:Nat} (hL:L≤2000) {c:Ag} (hq:c.args.length≤1048600) (hin :∀x∈c.args,0≤x∧x < (L:Int)) {N0:Nat} (hN0:2000000≤N0) {N i:Nat} (hi:i≤c.args.length) (hN:c.args.length - i < N) :
  ∀m:Nat→Bool,EB N0 c N (i:Int) (BK (mk m L 0))=some (BK (mk (Gz m (c.args.drop i)) L 0)):=by
 refine BM c.args.length (fun N i=>∀m:Nat→Bool,EB N0 c N (i:Int) (BK (mk m L 0))=some (BK (mk (Gz m (c.args.drop i)) L 0))) ?_ ?_ hi hN
 ·intro n m
  rw[EB,if_neg (by simp[AK])];simp[OO]
 ·intro n i hi ih m
  obtain⟨y,hy,hm⟩:=BR hi
  obtain⟨h0,h1⟩:=hin y hm
  obtain⟨j,rfl⟩:=Int.eq_ofNat_of_zero_le h0
  rw[EB,if_pos (by simp[AK];omega),Ak hy]
  simp only[Option.bind_some]
  rw[RB (by omega) (by omega) hN0]
  simp only[Option.bind_some]
  rw[As (by omega) (by omega),show ((i:Int) + 1)=((i+1:Nat):Int) by omega,ih,drop_cons hy,MO]
theorem mem_mk {m:Nat→Bool} {n k:Nat}:((k:Int)∈BK (mk m n 0))↔k < n∧m k=true:=by
 unfold BK
 rw[List.mem_map]
 constructor
 ·rintro⟨j,hj,e⟩
  have:j=k:=by omega
  subst this;exact UK.1 hj
 ·intro h;exact⟨k,UK.2 h,rfl⟩
theorem ZH {m:Nat→Bool} {n:Nat} :∀x∈BK (mk m n 0),0≤x∧x < (n:Int):=by
 intro x hx
 unfold BK at hx
 obtain⟨j,hj,rfl⟩:=List.mem_map.1 hx
 have:=(UK.1 hj).1
 omega
theorem mk_le (m:Nat→Bool) (n:Nat):(BK (mk m n 0)).length≤n:=by rw[FZ];have:=Q4 m n 0;omega
theorem T8 (n:Nat):BK (mk no n 0)=[]:=by
 have:mk no n 0=[]:=by unfold mk no;simp
 rw[this];rfl
theorem union_eq {n:Nat} (hn:n≤2000) {m m':Nat→Bool} {N:Nat} (hN:2000000≤N):IF N (BK (mk m n 0)) (BK (mk m' n 0))=some (BK (mk (orM m m') n 0)):=by
 have l1:=mk_le m n
 have l2:=mk_le m' n
 unfold IF
 rw[O5 (by omega)]
 simp only[Option.bind_some]
 have e:=Xk hn (q:=BK (mk m' n 0)) (by omega) ZH hN (Nat.zero_le _) (by omega:(BK (mk m' n 0)).length - 0 < N) m
 rw[show ((0:Nat):Int)=0 from rfl,List.drop_zero] at e
 rw[e]
 simp only[Option.bind_some]
 congr 2
 refine mk_congr fun k _ hk=>?_
 unfold Gz orM
 congr 1
 have:=mem_mk (m:=m') (n:=n) (k:=k)
 cases h:m' k with
 | true=>exact decide_eq_true (this.2 ⟨hk,h⟩)
 | false=>exact decide_eq_false fun hm=>by rw[(this.1 hm).2] at h;cases h
theorem QN {l:List Int} {d:Int} (hl:l.length≤1048576) {N i:Nat} (hi:i≤l.length) (hN:l.length - i < N) :∀acc:List Int,acc.length≤i→DY l d N (i:Int) acc=some (acc ++ (l.drop i).filter fun x=>!decide (x=d)):=by
 refine BM l.length (fun N i=>∀acc:List Int,acc.length≤i→DY l d N (i:Int) acc=some (acc ++ (l.drop i).filter fun x=>!decide (x=d))) ?_ ?_ hi hN
 ·intro n acc _
  rw[DY,if_neg (by simp[AK])];simp
 ·intro n i hi ih acc ha
  obtain⟨y,hy,_⟩:=BR hi
  rw[DY,if_pos (by simp[AK];omega),Ak hy,drop_cons hy,List.filter_cons]
  simp only[Option.bind_some]
  rw[As (by omega) (by omega),show ((i:Int) + 1)=((i+1:Nat):Int) by omega]
  cases h:decide (y=d) with
  | true=>simp only[Bool.not_true,Bool.false_eq_true,if_false,Option.bind_some];exact ih acc (by omega)
  | false=>
   simp only[Bool.not_false,if_true]
   rw[Eh _ _ 8 (by simp;omega) (by simp;omega)]
   simp only[Option.bind_some]
   rw[ih _ (by simp;omega),List.append_assoc];rfl
def less (m:Nat→Bool) (d:Int):Nat→Bool:=fun k=>m k && !decide ((k:Int)=d)
theorem Un {n:Nat} (hn:n≤2000) {m:Nat→Bool} {d:Int} {N:Nat} (hN:2000000≤N):EX N (BK (mk m n 0)) d=some (BK (mk (less m d) n 0)):=by
 have l1:=mk_le m n
 unfold EX
 have e:=QN (d:=d) (by omega:(BK (mk m n 0)).length≤1048576) (Nat.zero_le _) (by omega:(BK (mk m n 0)).length - 0 < N) [] (by simp)
 rw[show ((0:Nat):Int)=0 from rfl,List.drop_zero,List.nil_append] at e
 rw[e]
 simp only[Option.bind_some]
 congr 1
 unfold BK mk less
 rw[List.filter_map,List.filter_filter]
 congr 1
 refine List.filter_congr fun x _=>?_
 simp only[Function.comp_apply]
 exact Bool.and_comm _ _
theorem fG {n:Nat} (hn:n≤2000) {m':Nat→Bool} {N i:Nat} (hi:i≤n) (hN:n - i < N) :∀m:Nat→Bool,DH (rowOf n m') N (i:Int) (rowOf n m)=some (rowOf n fun k=>m k || (decide (i≤k) && m' k)):=by
 refine BM n (fun N i=>∀m:Nat→Bool,DH (rowOf n m') N (i:Int) (rowOf n m)=some (rowOf n fun k=>m k || (decide (i≤k) && m' k))) ?_ ?_ hi hN
 ·intro n0 m
  rw[DH,if_neg (by simp[AK,FC])]
  congr 1
  refine Bj fun j hj=>?_
  simp;intro h;omega
 ·intro n0 i hi ih m
  rw[DH,if_pos (by simp[AK,FC];omega),Ak (Bd hi),Ak (Bd hi)]
  simp only[Option.bind_some]
  rw[As (by omega) (by omega),show ((i:Int) + 1)=((i+1:Nat):Int) by omega,Ec,Ec,FA,FA]
  cases h:m i with
  | true=>
   simp only[if_true,Option.bind_some]
   rw[ih]
   congr 1
   refine Bj fun j _=>?_
   by_cases e:j=i
   ·subst e;simp[h]
   ·by_cases e2:i≤j
    ·have:i+1≤j:=by omega
     simp[e,e2,this]
    ·have:¬ i+1≤j:=by omega
     simp[e,e2,this]
  | false=>
   simp only[Bool.false_eq_true,if_false,Option.bind_some]
   rw[ih]
   congr 1
   refine Bj fun j _=>?_
   by_cases e:j=i
   ·subst e;simp[h]
   ·by_cases e2:i≤j
    ·have:i+1≤j:=by omega
     simp[e,e2,this]
    ·have:¬ i+1≤j:=by omega
     simp[e,e2,this]
theorem dh {L:Nat} (hL:L≤2000) {c:Ag} (hq:c.args.length≤1048600) (hin :∀x∈c.args,0≤x∧x < (L:Int)) {N i:Nat} (hi:i≤c.args.length) (hN:c.args.length - i < N) :
  ∀m:Nat→Bool,Ca c N (i:Int) (rowOf L m)=some (rowOf L (Gz m (c.args.drop i))):=by
 refine BM c.args.length (fun N i=>∀m:Nat→Bool,Ca c N (i:Int) (rowOf L m)=some (rowOf L (Gz m (c.args.drop i)))) ?_ ?_ hi hN
 ·intro n m
  rw[Ca,if_neg (by simp[AK])];simp[OO]
 ·intro n i hi ih m
  obtain⟨y,hy,hm⟩:=BR hi
  obtain⟨h0,h1⟩:=hin y hm
  obtain⟨j,rfl⟩:=Int.eq_ofNat_of_zero_le h0
  rw[Ca,if_pos (by simp[AK];omega),Ak hy]
  simp only[Option.bind_some]
  rw[Ak (Bd (by omega:j < L)),Ec,FA]
  simp only[Option.bind_some]
  have e:(fun k=>if k=j then true else m k)=Ir m j:=by
   funext k;unfold Ir;by_cases h:k=j <;> simp[h]
  rw[e,As (by omega) (by omega),show ((i:Int) + 1)=((i+1:Nat):Int) by omega,ih,drop_cons hy,MO]
def J9 (n:Nat) (T:Nat→Nat→Bool) (k j:Nat):List Int:=if k≤j then BK (mk (T j) n 0) else []
def Kr (n:Nat) (T:Nat→Nat→Bool) (k j:Nat):List Bool:=if k≤j then rowOf n (T j) else []
def QG (T:Nat→Nat→Bool) (m:Nat→Bool) (q:List Int):Nat→Bool:=fun r=>m r || q.any fun x=>T x.toNat r
theorem Uk (T:Nat→Nat→Bool) (m:Nat→Bool):QG T m []=m:=by funext r;simp[QG]
theorem TJ (T:Nat→Nat→Bool) (m:Nat→Bool) (j:Nat) (q:List Int):QG T m ((j:Int) :: q)=QG T (orM m (T j)) q:=by
 funext r;simp only[QG,orM,List.any_cons,Int.toNat_natCast,Bool.or_assoc]
theorem WU {T:Nat→Nat→Bool} {m:Nat→Bool} {q q':List Int} (h :∀x,x∈q↔x∈q'):QG T m q=QG T m q':=by
 funext r
 unfold QG
 congr 1
 rw[Bool.eq_iff_iff,List.any_eq_true,List.any_eq_true]
 exact⟨fun⟨x,h1,h2⟩=>⟨x,(h x).1 h1,h2⟩,fun⟨x,h1,h2⟩=>⟨x,(h x).2 h1,h2⟩⟩
theorem dI {n L k:Nat} (hn:n≤2000) (hL:L≤2000) {T:Nat→Nat→Bool} {q:List Int} (hq:q.length≤1048600) (hin :∀x∈q,(k:Int)≤x∧x < (L:Int)) {N0:Nat} (hN0:2000000≤N0) {N i:Nat} (hi:i≤q.length) (hN:q.length - i < N) :
  ∀m:Nat→Bool,DI N0 (rowOf L (J9 n T k)) q N (i:Int) (BK (mk m n 0))=some (BK (mk (QG T m (q.drop i)) n 0)):=by
 refine BM q.length (fun N i=>∀m:Nat→Bool,DI N0 (rowOf L (J9 n T k)) q N (i:Int) (BK (mk m n 0))=some (BK (mk (QG T m (q.drop i)) n 0))) ?_ ?_ hi hN
 ·intro n0 m
  rw[DI,if_neg (by simp[AK])];simp[Uk]
 ·intro n0 i hi ih m
  obtain⟨y,hy,hm⟩:=BR hi
  obtain⟨h0,h1⟩:=hin y hm
  obtain⟨j,rfl⟩:=Int.eq_ofNat_of_zero_le (by omega:0≤y)
  rw[DI,if_pos (by simp[AK];omega),Ak hy]
  simp only[Option.bind_some]
  rw[Ak (Bd (by omega:j < L))]
  simp only[Option.bind_some]
  rw[show J9 n T k j=BK (mk (T j) n 0) by unfold J9;rw[if_pos (by omega)],union_eq hn hN0]
  simp only[Option.bind_some]
  rw[As (by omega) (by omega),show ((i:Int) + 1)=((i+1:Nat):Int) by omega,ih,drop_cons hy,TJ]
theorem dR {n L t:Nat} (hn:n≤2000) (hL:L≤2000) {T:Nat→Nat→Bool} {q:List Int} (hq:q.length≤1048600) (hin :∀x∈q,(t:Int) < x∧x < (L:Int)) {N0:Nat} (hN0:2000000≤N0) {N i:Nat} (hi:i≤q.length) (hN:q.length - i < N) :
  ∀m:Nat→Bool,DJ N0 (t:Int) (rowOf L (Kr n T (t+1))) q N (i:Int) (rowOf n m)=some (rowOf n (QG T m (q.drop i))):=by
 refine BM q.length (fun N i=>∀m:Nat→Bool,DJ N0 (t:Int) (rowOf L (Kr n T (t+1))) q N (i:Int) (rowOf n m)=some (rowOf n (QG T m (q.drop i)))) ?_ ?_ hi hN
 ·intro n0 m
  rw[DJ,if_neg (by simp[AK])];simp[Uk]
 ·intro n0 i hi ih m
  obtain⟨y,hy,hm⟩:=BR hi
  obtain⟨h0,h1⟩:=hin y hm
  obtain⟨j,rfl⟩:=Int.eq_ofNat_of_zero_le (by omega:0≤y)
  have hne:¬ (t:Int)=(j:Int):=by omega
  rw[DJ,if_pos (by simp[AK];omega),Ak hy]
  simp only[Option.bind_some]
  rw[Ak (Bd (by omega:j < L))]
  simp only[Option.bind_some]
  rw[show Sh.apart (t:Int) (j:Int)=some () by unfold Sh.apart;rw[if_neg hne]]
  simp only[Option.bind_some]
  rw[show Kr n T (t+1) j=rowOf n (T j) by unfold Kr;rw[if_pos (by omega)]]
  have e:=fG hn (m':=T j) (Nat.zero_le n) (by omega:n - 0 < N0) m
  rw[show ((0:Nat):Int)=0 from rfl] at e
  rw[e]
  simp only[Option.bind_some]
  rw[As (by omega) (by omega),show ((i:Int) + 1)=((i+1:Nat):Int) by omega]
  have e2:(fun k=>m k || (decide (0≤k) && T j k))=orM m (T j):=by funext k;simp[orM]
  rw[e2,ih,drop_cons hy,TJ]
def WW (i:Ag) (m1:Nat→Bool):Nat→Bool:=
 orM (if GN i.op=true then less m1 i.dst else m1) (if decide (i.op=14) || decide (i.op=15) then no else Gz no i.args)
def Yx (T:Nat→Nat→Bool) (t:Nat) (M:Nat→Bool):Nat→Nat→Bool:=fun j=>if j=t then M else T j
theorem Y6 {n t L:Nat} {T:Nat→Nat→Bool} {M:Nat→Bool}:Sh.put (rowOf L (J9 n T (t+1))) (t:Int) (BK (mk M n 0))=rowOf L (J9 n (Yx T t M) t):=by
 rw[Ec,FA]
 refine Bj fun j _=>?_
 unfold J9 Yx
 by_cases h:j=t
 ·subst h;simp
 ·by_cases h2:t≤j
  ·have:t+1≤j:=by omega
   simp[h,h2,this]
  ·have:¬ t+1≤j:=by omega
   simp[h,h2,this]
theorem Zc {n t L:Nat} {T:Nat→Nat→Bool} {M:Nat→Bool}:Sh.put (rowOf L (Kr n T (t+1))) (t:Int) (rowOf n M)=rowOf L (Kr n (Yx T t M) t):=by
 rw[Ec,FA]
 refine Bj fun j _=>?_
 unfold Kr Yx
 by_cases h:j=t
 ·subst h;simp
 ·by_cases h2:t≤j
  ·have:t+1≤j:=by omega
   simp[h,h2,this]
  ·have:¬ t+1≤j:=by omega
   simp[h,h2,this]
theorem WG {n:Nat} (hn:n≤2000) {c:Ag} (hq:c.args.length≤1048576) (hin :∀x∈c.args,0≤x∧x < (n:Int)) {N:Nat} (hN:2000000≤N) :
  Il N c=some (BK (mk (if decide (c.op=14) || decide (c.op=15) then no else Gz no c.args) n 0)):=by
 unfold Il
 have e:=Ws hn (by omega) hin hN (Nat.zero_le _) (by omega:c.args.length - 0 < N) no
 rw[show ((0:Nat):Int)=0 from rfl,List.drop_zero,T8] at e
 rw[e]
 cases h1:decide (c.op=14) with
 | true=>simp[T8]
 | false=>
  cases h2:decide (c.op=15) with
  | true=>simp[T8]
  | false=>simp
theorem X8 {m:Nat→Bool} {l:List Int}:Gz m l=orM m (Gz no l):=by funext k;simp[Gz,orM,no]
structure PA (p:A0):Prop where
 v:PV p
 ops :∀i∈p.code,NL i.op=true
 ar :∀i∈p.code,i.args.length≤1048576∧i.jumps.length≤1048576
theorem Yc {p:A0} (A:PA p) {n:Nat} (hr:p.Ab=(n:Int)) {a:Nat} {N0:Nat} (hN0:2000000≤N0) :∀(d k:Nat),k=a+d→k≤p.code.length→∀(T:Nat→Nat→Bool) (N1 N2:Nat) (z:Int),z=(k:Int) - 1→d < N1→d < N2→
  ∃T',Dt N0 p.code (a:Int) N1 z (rowOf p.code.length (J9 n T k))=some (rowOf p.code.length (J9 n T' a))∧
   Du N0 p (a:Int) N2 z (rowOf p.code.length (Kr n T k))=some (rowOf p.code.length (Kr n T' a)):=by
 have hc:=A.v.c2
 have hn:n≤2000:=by have:=A.v.r2;omega
 intro d
 induction d with
 | zero=>
  intro k hk _ T N1 N2 z hz h1 h2
  obtain⟨N1,rfl⟩ :∃m,N1=m+1:=⟨N1 - 1,by omega⟩
  obtain⟨N2,rfl⟩ :∃m,N2=m+1:=⟨N2 - 1,by omega⟩
  have hna:¬ (a:Int)≤z:=by omega
  have:k=a:=by omega
  subst this
  exact⟨T,by rw[Dt,if_neg (by simpa using hna)],by rw[Du,if_neg (by simpa using hna)]⟩
 | succ d ih=>
  intro k hk hkl T N1 N2 z hz h1 h2
  obtain⟨N1,rfl⟩ :∃m,N1=m+1:=⟨N1 - 1,by omega⟩
  obtain⟨N2,rfl⟩ :∃m,N2=m+1:=⟨N2 - 1,by omega⟩
  obtain⟨t,rfl⟩ :∃t,k=t+1:=⟨k - 1,by omega⟩
  have hzt:z=(t:Int):=by omega
  subst hzt
  have htl:t < p.code.length:=by omega
  have hat:(a:Int)≤(t:Int):=by omega
  obtain⟨i,hi,him⟩:=BR htl
  have hin:=cO (A.v.leads t i hi)
  obtain⟨hal,hjl⟩:=A.ar i him
  have hargs :∀x∈i.args,0≤x∧x < (n:Int):=fun x hx=>by have:=A.v.args i him x hx;omega
  obtain⟨d0,d1⟩:=A.v.dst i him
  have hop:=A.ops i him
  have h7:i.op≠7:=by intro e;simp[NL,e] at hop
  have h8:i.op≠8:=by intro e;simp[NL,e] at hop
  have hsl:=aL i t
  have hnl:=aF i t
  have e1:=dI (n:=n) (L:=p.code.length) (k:=t+1) hn hc (T:=T) (q:=sx i t) (by omega) (fun x hx=>by have:=hin x ((YK i t x).1 hx);omega) hN0 (Nat.zero_le _) (by omega:(sx i t).length - 0 < N0) no
  have e2:=dR (n:=n) (L:=p.code.length) (t:=t) hn hc (T:=T) (q:=nx i t) (by omega) (fun x hx=>by have:=hin x hx;omega) hN0 (Nat.zero_le _) (by omega:(nx i t).length - 0 < N0) no
  rw[show ((0:Nat):Int)=0 from rfl,List.drop_zero] at e1 e2
  rw[T8] at e1
  rw[WU (YK i t)] at e1
  generalize hm1:QG T no (nx i t)=m1 at e1 e2
  obtain⟨T',g1,g2⟩:=ih t (by omega) (by omega) (Yx T t (WW i m1)) N1 N2 ((t:Int) - 1) rfl (by omega) (by omega)
  refine⟨T',?_,?_⟩
  ·rw[Dt,if_pos (by simpa using hat),V7 hi (by omega) hjl hN0]
   simp only[Option.bind_some]
   rw[e1]
   simp only[Option.bind_some]
   rw[Ak hi]
   simp only[Option.bind_some]
   rw[Nf]
   simp only[Option.bind_some]
   have e3:(if GN i.op=true then Option.bind (EX N0 (BK (mk m1 n 0)) i.dst) fun q35=>some q35 else some (BK (mk m1 n 0)))=some (BK (mk (if GN i.op=true then less m1 i.dst else m1) n 0)):=by
    cases GN i.op with
    | true=>simp only[if_true];rw[Un hn hN0];rfl
    | false=>simp
   rw[e3]
   simp only[Option.bind_some]
   rw[WG hn hal hargs hN0]
   simp only[Option.bind_some]
   rw[union_eq hn hN0]
   simp only[Option.bind_some]
   rw[Ak (Bd htl)]
   simp only[Option.bind_some]
   rw[As (by omega) (by omega)]
   have e4:J9 n T (t+1)=J9 n T (t+1):=rfl
   rw[Y6]
   exact g1
  ·rw[Du,if_pos (by simpa using hat),Ak hi]
   simp only[Option.bind_some]
   rw[hr,Gw _ _ 1 (by omega) (by omega),Ed]
   simp only[Option.bind_some]
   rw[Ak (Bd htl)]
   simp only[Option.bind_some]
   rw[X7 (by omega)]
   simp only[Option.bind_some]
   rw[show (rowOf n fun _=>false)=rowOf n no from rfl,e2]
   simp only[Option.bind_some]
   rw[NX h7 h8]
   simp only[Option.bind_some]
   obtain⟨dn,hd⟩:=Int.eq_ofNat_of_zero_le d0
   have hdn:dn < n:=by omega
   have e3:(if GN i.op=true then Option.bind (Sh.get (rowOf n m1) i.dst) fun c58=>some (Sh.put (rowOf n m1) i.dst false) else some (rowOf n m1))=some (rowOf n (if GN i.op=true then less m1 i.dst else m1)):=by
    cases GN i.op with
    | true=>
     simp only[if_true]
     rw[hd,Ak (Bd hdn),Ec,FA]
     simp only[Option.bind_some]
     congr 1
     refine Bj fun j _=>?_
     unfold less
     by_cases e:j=dn
     ·subst e;simp
     ·have:¬ (j:Int)=(dn:Int):=by omega
      simp[e,this]
    | false=>simp
   rw[e3]
   simp only[Option.bind_some]
   have e5:=dh hn (c:=i) (by omega) hargs (Nat.zero_le _) (by omega:i.args.length - 0 < N0) (if GN i.op=true then less m1 i.dst else m1)
   rw[show ((0:Nat):Int)=0 from rfl,List.drop_zero,X8] at e5
   have e6:Option.bind (if (!decide (i.op=14))=true then some (!decide (i.op=15)) else some false) (fun t38=>
     if t38=true then Option.bind (Ca i N0 0 (rowOf n (if GN i.op=true then less m1 i.dst else m1))) fun l45=>some l45
     else some (rowOf n (if GN i.op=true then less m1 i.dst else m1)))=some (rowOf n (WW i m1)):=by
    rw[e5]
    unfold WW
    have en :∀m:Nat→Bool,orM m no=m:=fun m=>by funext k;simp[orM,no]
    cases h1:decide (i.op=14) with
    | true=>simp[en]
    | false=>
     cases h2:decide (i.op=15) with
     | true=>simp[en]
     | false=>simp
   rw[e6]
   simp only[Option.bind_some]
   rw[As (by omega) (by omega),Zc]
   exact g2
theorem Rk {im:Au} {f:Nat} {p:A0} (hp:im.procs[f]?=some p) (A:PA p) {a:Nat} (ha:a < p.code.length) {N:Nat} (hN:2000000≤N) :
  ∃(n:Nat) (m:Nat→Bool) (tab:List (List Int)),p.Ab=(n:Int)∧n≤2000∧HD N p.code (a:Int)=some tab∧Sh.get tab (a:Int)=some (BK (mk m n 0))∧HF N im (f:Int) (a:Int)=some (BK (mk m n 0)):=by
 have hc:=A.v.c2
 have r1:=A.v.r1
 have r2:=A.v.r2
 obtain⟨n,hr⟩:=Int.eq_ofNat_of_zero_le (by omega:0≤p.Ab)
 have hn:n≤2000:=by omega
 have T0:Nat→Nat→Bool:=fun _ _=>false
 obtain⟨T',g1,g2⟩:=Yc A hr (a:=a) hN (p.code.length - a) p.code.length (by omega) (Nat.le_refl _) T0 N N ((p.code.length:Int) - 1) rfl (by omega) (by omega)
 have z1:rowOf p.code.length (J9 n T0 p.code.length)=List.replicate p.code.length []:=by
  rw[Ed]
  refine Bj fun j hj=>?_
  unfold J9;rw[if_neg (by omega)]
 have z2:rowOf p.code.length (Kr n T0 p.code.length)=List.replicate p.code.length []:=by
  rw[Ed]
  refine Bj fun j hj=>?_
  unfold Kr;rw[if_neg (by omega)]
 rw[z1] at g1
 rw[z2] at g2
 refine⟨n,T' a,rowOf p.code.length (J9 n T' a),hr,hn,?_,?_,?_⟩
 ·unfold HD
  rw[AK,Gw _ _ 24 (by omega) (by omega)]
  simp only[Option.bind_some]
  rw[As (by omega) (by omega),g1];rfl
 ·rw[Ak (Bd ha)]
  unfold J9;rw[if_pos (Nat.le_refl _)]
 ·unfold HF
  rw[Ak hp]
  simp only[Option.bind_some]
  rw[AK,Gw _ _ 24 (by omega) (by omega)]
  simp only[Option.bind_some]
  rw[As (by omega) (by omega),g2]
  simp only[Option.bind_some]
  rw[Ak (Bd ha)]
  simp only[Option.bind_some]
  rw[show Kr n T' a a=rowOf n (T' a) by unfold Kr;rw[if_pos (Nat.le_refl _)],RX (by omega) hN];rfl
theorem Z7 {im:Au} (S:Eo im) {N:Nat} (hN:2000000≤N) (h:Sy N im=true) {p:A0} (hp:p∈im.procs):PA p:=
 ⟨X2 S hN h hp,YV S hN h hp,fun i hi=>S.ar p hp i hi⟩
end RC

