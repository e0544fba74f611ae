import Derived.Test.YtpahalfiiahddaaGPlainAToYGE
import Derived.Test.YtpahalfiiahddaaGHADefsToFIDefs
import Derived.Test.YtpahalfiiahddaaXUA
namespace RC
open Go
def rowOf {α:Type} (n:Nat) (f:Nat→α):List α:=(List.range n).map f
theorem Hd {α:Type} {n:Nat} {f:Nat→α}:(rowOf n f).length=n:=by simp[rowOf]
theorem He {α:Type} {n:Nat} {f:Nat→α} {j:Nat} (h:j < n):(rowOf n f)[j]?=some (f j):=by simp[rowOf,h]
theorem SJ {α:Type} {n:Nat} {f g:Nat→α} (h :∀j,j < n→f j=g j):rowOf n f=rowOf n g:=List.map_congr_left fun j hj=>h j (List.mem_range.1 hj)
theorem Tw {α:Type} {n:Nat} {f:Nat→α} {j:Nat} {v:α}:(rowOf n f).set j v=rowOf n (fun k=>if k=j then v else f k):=by
 apply List.ext_getElem?
 intro k
 rw[List.getElem?_set]
 by_cases hk:k < n
 ·rw[He hk,He hk,Hd]
  by_cases e:j=k
  ·subst e;simp[hk]
  ·have e':¬ k=j:=fun h=>e h.symm
   simp[e,e']
 ·rw[List.getElem?_eq_none (by rw[Hd];omega),List.getElem?_eq_none (by rw[Hd];omega),Hd]
  by_cases e:j=k
  ·subst e;simp[hk]
  ·simp[e]
def ZN (h:List Cell) (j:Nat) (w:Int):Bool:=Yd h w && decide ((w - 1000).toNat=j)
def aE (h:List Cell) (ws:List Int) (j:Nat):Nat:=ws.countP (ZN h j)
theorem ZD (h:List Cell) (j:Nat):aE h [] j=0:=rfl
def Cx (l:List Nat):List Int:=List.map (fun n:Nat=>(n:Int)) l
end RC



namespace RC
open Go
theorem So (a b:List Nat):Cx (a ++ b)=Cx a ++ Cx b:=by simp[Cx]
theorem Hm (a:List Nat):(Cx a).length=a.length:=by simp[Cx]
def mk (m:Nat→Bool) (n i:Nat):List Nat:=(List.range' i (n - i)).filter m
theorem Xi (m:Nat→Bool) (n:Nat):mk m n n=[]:=by simp[mk]
theorem Lj {m:Nat→Bool} {n i:Nat} (hi:i < n):mk m n i=(if m i then [i] else []) ++ mk m n (i+1):=by
 unfold mk
 obtain⟨k,hk⟩ :∃k,n - i=k+1:=⟨n - i - 1,by omega⟩
 rw[hk,List.range'_succ,List.filter_cons,show n - (i+1)=k by omega]
 cases m i <;> simp
theorem MF {m:Nat→Bool} {n j:Nat}:j∈mk m n 0↔j < n∧m j=true:=by simp[mk]
theorem MM (m:Nat→Bool) (n i:Nat):(mk m n i).length≤n - i:=by
 have:=List.length_filter_le m (List.range' i (n - i))
 simpa [mk] using this
theorem Tv {l:List Int} {x:Int} (hl:l.length≤1048576) {N i:Nat} (hi:i≤l.length) (hN:l.length - i < N):DH l x N i=some (if x∈l.drop i then Sum.inl true else Sum.inr ()):=by
 refine BX l.length (fun N i=>DH l x N i=some (if x∈l.drop i then Sum.inl true else Sum.inr ())) ?_ ?_ hi hN
 ·intro n
  rw[DH,if_neg (by simp[AT])];simp
 ·intro n i hi ih
  obtain⟨y,hy,_⟩:=Bj hi
  rw[DH,if_pos (by simp[AT];omega),BB hy]
  simp only[Option.bind_some]
  rw[BI (by omega) (by omega),show ((i:Int) + 1)=((i+1:Nat):Int) by omega,ih,drop_cons hy]
  by_cases e:y=x
  ·subst e;simp
  ·have e':¬ x=y:=fun h=>e h.symm
   simp[e,e']
theorem UB {l:List Int} {x:Int} (hl:l.length≤1048576) {N:Nat} (hN:2000000≤N):E0 N l x=some (decide (x∈l)):=by
 unfold E0
 have:=Tv (x:=x) hl (Nat.zero_le _) (by omega:l.length - 0 < N)
 rw[show ((0:Nat):Int)=0 from rfl,List.drop_zero] at this
 rw[this]
 by_cases h:x∈l <;> simp[h]
def DC (m:Nat→Bool) (j:Nat):Nat→Bool:=fun k=>m k || decide (k=j)
theorem Vc {m:Nat→Bool} {n i:Nat} {y:Int} (h:y∈Cx (mk m n i)):(i:Int)≤y:=by
 obtain⟨k,hk,rfl⟩:=List.mem_map.1 h
 simp only[mk,List.mem_filter,List.mem_range'] at hk
 omega
theorem UW {l:List Int} {x:Int} (h :∀y∈l,x < y):ins l x=x :: l:=by
 cases l with
 | nil=>rfl
 | cons a r=>
  have:=h a (by simp)
  simp only[ins]
  rw[if_pos (by omega),if_pos this]
theorem mk_congr {m m':Nat→Bool} {n i:Nat} (h :∀k,i≤k→k < n→m k=m' k):mk m n i=mk m' n i:=by
 unfold mk
 refine List.filter_congr fun k hk=>?_
 simp only[List.mem_range'] at hk
 obtain⟨q,hq,rfl⟩:=hk
 exact h _ (by omega) (by omega)
theorem My (a:Nat) (l:List Nat):Cx (a :: l)=(a:Int) :: Cx l:=rfl
theorem SH {m:Nat→Bool} {n j:Nat} (hj:j < n) :∀(d i:Nat),j - i=d→i≤j→ins (Cx (mk m n i)) (j:Int)=Cx (mk (DC m j) n i)
 | 0,i,hd,hi=>by
  have:i=j:=by omega
  subst this
  rw[Lj hj,Lj (m:=DC m i) hj,mk_congr (m:=DC m i) (m':=m) (i:=i+1) (fun k h1 h2=>by
   have:k≠i:=by omega
   simp[DC,this])]
  have ha :∀y∈Cx (mk m n (i+1)),(i:Int) < y:=fun y hy=>by have:=Vc hy;omega
  have hw:DC m i i=true:=by simp[DC]
  rw[hw]
  cases m i with
  | true=>
   simp only[if_true,List.singleton_append,My,ins]
   rw[if_pos (Int.le_refl _),if_neg (by omega)]
  | false=>
   simp only[Bool.false_eq_true,if_false,if_true,List.nil_append,List.singleton_append,My]
   exact UW ha
 | d+1,i,hd,hi=>by
  have ih:=SH (m:=m) hj d (i+1) (by omega) (by omega)
  rw[Lj (by omega),Lj (m:=DC m j) (i:=i) (by omega)]
  have hw:DC m j i=m i:=by
   have:i≠j:=by omega
   simp[DC,this]
  rw[hw]
  cases m i with
  | true=>
   simp only[if_true,List.singleton_append,My,ins]
   rw[if_neg (by omega),ih]
  | false=>
   simp only[Bool.false_eq_true,if_false,List.nil_append]
   exact ih
theorem Q9 {m:Nat→Bool} {n j:Nat} (hn:n≤1048576) (hj:j < n) {N:Nat} (hN:2000000≤N):FV N (Cx (mk m n 0)) (j:Int)=some (Cx (mk (DC m j) n 0)):=by
 rw[Pd (by rw[Hm];have:=MM m n 0;omega) hN,SH hj j 0 (by omega) (by omega)]
def DZ (m:Nat→Bool) (l:List Int):Nat→Bool:=fun k=>m k || decide ((k:Int)∈l)
theorem Hg (m:Nat→Bool):DZ m []=m:=by funext k;simp[DZ]
theorem Ll (m:Nat→Bool) (j:Nat) (l:List Int):DZ m ((j:Int) :: l)=DZ (DC m j) l:=by
 funext k
 simp only[DZ,DC,List.mem_cons,Bool.decide_or,Bool.or_assoc]
 congr 2
 exact decide_eq_decide.2 (by omega)
theorem Q3 {m:Nat→Bool} {n j:Nat} (hn:n≤1048576) (hj:j < n) {N:Nat} (hN:2000000≤N):E0 N (Cx (mk m n 0)) (j:Int)=some (m j):=by
 rw[UB (by rw[Hm];have:=MM m n 0;omega) hN]
 congr 1
 have:((j:Int)∈Cx (mk m n 0))↔j∈mk m n 0:=by
  constructor
  ·intro h
   obtain⟨k,hk,e⟩:=List.mem_map.1 h
   have:k=j:=by omega
   subst this;exact hk
  ·intro h;exact List.mem_map.2 ⟨j,h,rfl⟩
 cases hm:m j with
 | true=>exact decide_eq_true (this.2 (MF.2 ⟨hj,hm⟩))
 | false=>exact decide_eq_false fun h=>by have:=(MF.1 (this.1 h)).2;rw[hm] at this;cases this
theorem Of {m:Nat→Bool} {n0:Nat} (hl:n0≤1048576) {N i:Nat} (hi:i≤n0) (hN:n0 - i < N) :∀acc:List Nat,acc.length≤i→C3 (rowOf n0 m) N i (Cx acc)=some (Cx (acc ++ mk m n0 i)):=by
 refine BX n0 (fun N i=>∀acc:List Nat,acc.length≤i→C3 (rowOf n0 m) N i (Cx acc)=some (Cx (acc ++ mk m n0 i))) ?_ ?_ hi hN
 ·intro n acc _
  rw[C3,if_neg (by simp[AT,Hd]),Xi,List.append_nil]
 ·intro n i hi ih acc ha
  rw[C3,if_pos (by simp[AT,Hd];omega),BB (He hi)]
  simp only[Option.bind_some]
  rw[BI (by omega) (by omega),show ((i:Int) + 1)=((i+1:Nat):Int) by omega,Lj hi]
  cases m i with
  | false=>simp only[Bool.false_eq_true,if_false,Option.bind_some,List.nil_append];exact ih acc (by omega)
  | true=>
   simp only[if_true]
   rw[Ep _ _ 8 (by rw[Hm];simp;omega) (by rw[Hm];simp;omega)]
   simp only[Option.bind_some]
   have:=ih (acc ++ [i]) (by simp;omega)
   rw[So,List.append_assoc] at this
   exact this
theorem Lz {m:Nat→Bool} {n:Nat} (hn:n≤1048576) {N:Nat} (hN:2000000≤N):Ed N (rowOf n m)=some (Cx (mk m n 0)):=by
 unfold Ed
 have:=Of (m:=m) hn (Nat.zero_le n) (by omega:n - 0 < N) [] (by simp)
 rw[show ((0:Nat):Int)=0 from rfl,show Cx []=[] from rfl] at this
 rw[this];rfl
theorem KZ (m:Nat→Bool) (a b:List Int):DZ (DZ m a) b=DZ m (a ++ b):=by
 funext k;simp only[DZ,List.mem_append,Bool.decide_or,Bool.or_assoc]
mutual
def Jl:AP→List Int | .mk o n k=>(if o=9∨o=10 then [n] else []) ++ HL k
def HL:List AP→List Int | []=>[] | e :: l=>Jl e ++ HL l
end
def Ky (e:AP):List Int:=if e.op=9∨e.op=10 then [e.num] else []
theorem Jd (e:AP):Jl e=Ky e ++ HL e.kids:=by
 obtain⟨o,n,k⟩:=e
 by_cases h:o=9∨o=10
 ·have h':(AP.mk o n k).op=9∨(AP.mk o n k).op=10:=h
  unfold Jl Ky;rw[if_pos h,if_pos h'];rfl
 ·have h':¬ ((AP.mk o n k).op=9∨(AP.mk o n k).op=10):=h
  unfold Jl Ky;rw[if_neg h,if_neg h'];rfl
theorem PT {k:List AP} {i:Nat} {e:AP} (h:k[i]?=some e):HL (k.drop i)=Jl e ++ HL (k.drop (i+1)):=by rw[drop_cons h];simp[HL]
theorem RA {k:List AP} {e:AP} (h:e∈k) {x:Int} (hx:x∈Jl e):x∈HL k:=by
 induction k with
 | nil=>cases h
 | cons a r ih=>
  simp only[HL,List.mem_append]
  rcases List.mem_cons.1 h with rfl | h
  ·exact .inl hx
  ·exact .inr (ih h)
theorem Rs {e:AP}:(if decide (e.op=9)=true then some true else some (decide (e.op=10)))=some (decide (e.op=9∨e.op=10)):=by
 by_cases h:e.op=9 <;> simp[h]
def Oj (F:Nat) (l:List Int):Prop:=∀x∈l,0≤x∧x < (F:Int)
theorem SI {N:Nat} (hN:2000000≤N) {F:Nat} (hF:F≤1000) :∀(n:Nat) (e:AP) (m:Nat→Bool),en e≤1000→en e≤n→Oj F (Jl e)→Dw N n e (Cx (mk m F 0))=some (Cx (mk (DZ m (Jl e)) F 0)):=by
 intro n
 induction n with
 | zero=>intro e _ _ h;have:=MR e;omega
 | succ n ih=>
  intro e m hz hn hin
  have hk:e.kids.length≤1000:=by have:=JT e.kids;have:=IL e;omega
  rw[Dw]
  unfold Gc
  have key :∀{M i:Nat},i≤e.kids.length→e.kids.length - i < M→∀m:Nat→Bool,CU e (Dw N n) M (Cx (mk m F 0)) i=some (Cx (mk (DZ m (HL (e.kids.drop i))) F 0)):=by
   intro M i hi hM
   refine BX e.kids.length (fun M i=>∀m:Nat→Bool,CU e (Dw N n) M (Cx (mk m F 0)) i=some (Cx (mk (DZ m (HL (e.kids.drop i))) F 0))) ?_ ?_ hi hM
   ·intro q m;rw[CU,if_neg (by simp[AT]),List.drop_length];simp[HL,Hg]
   ·intro q i hi ih2 m
    obtain⟨x,hx,hxm⟩:=Bj hi
    have hxe:=Eb hxm
    rw[PT hx,CU,if_pos (by simp[AT];omega),BB hx]
    simp only[Option.bind_some]
    rw[ih x m (by omega) (by omega) (fun y hy=>hin y (by rw[Jd];exact List.mem_append_right _ (RA hxm hy)))]
    simp only[Option.bind_some]
    rw[BI (n:=(i:Int) + 1) (by omega) (by omega),show ((i:Int) + 1)=((i+1:Nat):Int) by omega,ih2,KZ]
  rw[Rs]
  simp only[Option.bind_some]
  have e1:(if decide (e.op=9∨e.op=10)=true then Option.bind (FV N (Cx (mk m F 0)) e.num) fun q22=>some q22 else some (Cx (mk m F 0)))=some (Cx (mk (DZ m (Ky e)) F 0)):=by
   unfold Ky
   by_cases h:e.op=9∨e.op=10
   ·rw[if_pos (by simpa using h),if_pos h]
    have:=hin e.num (by rw[Jd];simp[Ky,h])
    obtain⟨j,hj⟩:=Int.eq_ofNat_of_zero_le this.1
    rw[hj,Q9 (by omega) (by omega) hN,Ll,Hg];rfl
   ·rw[if_neg (by simpa using h),if_neg h,Hg]
  rw[e1]
  simp only[Option.bind_some]
  have:=key (Nat.zero_le _) (by omega:e.kids.length - 0 < N) (DZ m (Ky e))
  rw[List.drop_zero,show ((0:Nat):Int)=0 from rfl,KZ,← Jd] at this
  rw[this];rfl
theorem Qz {F j:Nat} {m:Nat→Bool}:Sh.put (rowOf F m) (j:Int) true=rowOf F (DC m j):=by
 rw[QC,Tw]
 refine SJ fun k _=>?_
 by_cases h:k=j <;> simp[DC,h]
theorem WW {N:Nat} (hN:2000000≤N) {F:Nat} (hF:F≤1000) :∀(n:Nat) (e:AP) (m:Nat→Bool),en e≤1000→en e≤n→Oj F (Jl e)→Eu N n (rowOf F m) e=some (rowOf F (DZ m (Jl e))):=by
 intro n
 induction n with
 | zero=>intro e _ _ h;have:=MR e;omega
 | succ n ih=>
  intro e m hz hn hin
  have hk:e.kids.length≤1000:=by have:=JT e.kids;have:=IL e;omega
  rw[Eu]
  unfold H0 Gg
  have key :∀{M i:Nat},i≤e.kids.length→e.kids.length - i < M→∀m:Nat→Bool,DU e (Eu N n) M i (rowOf F m)=some (rowOf F (DZ m (HL (e.kids.drop i)))):=by
   intro M i hi hM
   refine BX e.kids.length (fun M i=>∀m:Nat→Bool,DU e (Eu N n) M i (rowOf F m)=some (rowOf F (DZ m (HL (e.kids.drop i))))) ?_ ?_ hi hM
   ·intro q m;rw[DU,if_neg (by simp[AT]),List.drop_length];simp[HL,Hg]
   ·intro q i hi ih2 m
    obtain⟨x,hx,hxm⟩:=Bj hi
    have hxe:=Eb hxm
    rw[PT hx,DU,if_pos (by simp[AT];omega),BB hx]
    simp only[Option.bind_some]
    rw[ih x m (by omega) (by omega) (fun y hy=>hin y (by rw[Jd];exact List.mem_append_right _ (RA hxm hy)))]
    simp only[Option.bind_some]
    rw[BI (n:=(i:Int) + 1) (by omega) (by omega),show ((i:Int) + 1)=((i+1:Nat):Int) by omega,ih2,KZ]
  rw[Rs]
  simp only[Option.bind_some]
  have e1:(if decide (e.op=9∨e.op=10)=true then Option.bind (Sh.get (rowOf F m) e.num) fun _=>some (Sh.put (rowOf F m) e.num true) else some (rowOf F m))=some (rowOf F (DZ m (Ky e))):=by
   unfold Ky
   by_cases h:e.op=9∨e.op=10
   ·rw[if_pos (by simpa using h),if_pos h]
    have:=hin e.num (by rw[Jd];simp[Ky,h])
    obtain⟨j,hj⟩:=Int.eq_ofNat_of_zero_le this.1
    rw[hj,BB (He (by omega)),Qz,Ll,Hg];rfl
   ·rw[if_neg (by simpa using h),if_neg h,Hg]
  rw[e1]
  simp only[Option.bind_some]
  have:=key (Nat.zero_le _) (by omega:e.kids.length - 0 < N) (DZ m (Ky e))
  rw[List.drop_zero,show ((0:Nat):Int)=0 from rfl,KZ,← Jd] at this
  rw[this];rfl
end RC



namespace RC
open Go
def pop (m:Nat→Bool):Nat→Nat | 0=>0 | n+1=>pop m n+(if m n then 1 else 0)
theorem P1 (m:Nat→Bool) :∀n,pop m n≤n
 | 0=>Nat.le_refl _
 | n+1=>by have:=P1 m n;simp only[pop];split <;> omega
theorem MC {m m':Nat→Bool} :∀{n:Nat},(∀k,k < n→m k=true→m' k=true)→pop m n≤pop m' n
 | 0,_=>Nat.le_refl _
 | n+1,h=>by
  have ih:=MC (n:=n) fun k hk=>h k (by omega)
  have h1:=h n (by omega)
  simp only[pop]
  cases hm:m n with
  | false=>simp only[Bool.false_eq_true,if_false];omega
  | true=>rw[h1 hm];simp only[if_true];omega
theorem Ux {m m':Nat→Bool} {j:Nat} (h0:m j=false) (h1:m' j=true) :∀{n:Nat},j < n→(∀k,k < n→m k=true→m' k=true)→pop m n+1≤pop m' n
 | 0,hj,_=>by omega
 | n+1,hj,h=>by
  simp only[pop]
  by_cases e:j=n
  ·subst e
   have:=MC (n:=j) fun k hk=>h k (by omega)
   rw[h0,h1];simp only[Bool.false_eq_true,if_false,if_true];omega
  ·have ih:=Ux h0 h1 (n:=n) (by omega) fun k hk=>h k (by omega)
   have h2:=h n (by omega)
   cases hm:m n with
   | false=>simp only[Bool.false_eq_true,if_false];omega
   | true=>rw[h2 hm];simp only[if_true];omega
theorem Kf {m:Nat→Bool} {j:Nat} (h0:m j=false) :∀{n:Nat},j < n→pop (DC m j) n=pop m n+1
 | 0,hj=>by omega
 | n+1,hj=>by
  simp only[pop]
  by_cases e:j=n
  ·subst e
   have a :∀n,n≤j→pop (DC m j) n=pop m n:=by
    intro n
    induction n with
    | zero=>intro _;rfl
    | succ n ih=>
     intro hn
     have:n≠j:=by omega
     simp[pop,ih (by omega),DC,this]
   rw[a j (Nat.le_refl _)]
   simp[DC,h0]
  ·have ih:=Kf h0 (n:=n) (by omega)
   have:n≠j:=fun h=>e h.symm
   rw[ih];simp[DC,this];omega
def push:List Int→(Nat→Bool)→List Int→(Nat→Bool)×List Int
 | [],m,w=>(m,w)
 | x :: q,m,w=>if m x.toNat then push q m w else push q (DC m x.toNat) (w ++ [x])
structure XW (F:Nat) (q:List Int) (m:Nat→Bool) (w:List Int) (m':Nat→Bool) (w':List Int):Prop where
 new :∃v,w'=w ++ v∧Oj F v∧(∀x∈v,m' x.toNat=true)∧(∀k,k < F→m' k=true→m k=true∨(k:Int)∈v)∧v.length+pop m F=pop m' F
 mono :∀k,m k=true→m' k=true
 all :∀x∈q,m' x.toNat=true
 only :∀k,m' k=true→m k=true∨(k:Int)∈q
theorem Q7 {F:Nat} :∀(q:List Int) (m:Nat→Bool) (w:List Int),Oj F q→XW F q m w (push q m w).1 (push q m w).2
 | [],m,w,_=>⟨⟨[],by simp[push],fun _ h=>(by cases h),fun _ h=>(by cases h),fun _ _ h=>.inl h,by simp[push]⟩,fun _ h=>h,fun _ h=>(by cases h),fun _ h=>.inl h⟩
 | x :: q,m,w,hq=>by
  have hx:=hq x (by simp)
  have hq':Oj F q:=fun y hy=>hq y (by simp[hy])
  simp only[push]
  cases hm:m x.toNat with
  | true=>
   simp only[if_true]
   obtain⟨a,b,c,d⟩:=Q7 q m w hq'
   refine⟨a,b,fun y hy=>?_,fun k hk=>(d k hk).imp id fun h=>by simp[h]⟩
   rcases List.mem_cons.1 hy with rfl | hy
   ·exact b _ hm
   ·exact c y hy
  | false=>
   simp only[Bool.false_eq_true,if_false]
   obtain⟨⟨v,a1,a2,a3,a4,a5⟩,b,c,d⟩:=Q7 q (DC m x.toNat) (w ++ [x]) hq'
   have h1 :∀k,m k=true→DC m x.toNat k=true:=fun k hk=>by simp[DC,hk]
   have hxs:DC m x.toNat x.toNat=true:=by simp[DC]
   refine⟨⟨x :: v,by rw[a1];simp,fun y hy=>?_,fun y hy=>?_,fun k hkF hk=>?_,?_⟩,fun k hk=>b k (h1 k hk),fun y hy=>?_,fun k hk=>?_⟩
   ·rcases List.mem_cons.1 hy with rfl | hy
    ·exact hx
    ·exact a2 y hy
   ·rcases List.mem_cons.1 hy with rfl | hy
    ·exact b _ hxs
    ·exact a3 y hy
   ·rcases a4 k hkF hk with h | h
    ·simp only[DC,Bool.or_eq_true,decide_eq_true_eq] at h
     rcases h with h | h
     ·exact .inl h
     ·exact .inr (by simp only[List.mem_cons];left;omega)
    ·exact .inr (by simp[h])
   ·have:=Kf hm (n:=F) (by omega)
    simp only[List.length_cons];omega
   ·rcases List.mem_cons.1 hy with rfl | hy
    ·exact b _ hxs
    ·exact c y hy
   ·rcases d k hk with h | h
    ·simp only[DC,Bool.or_eq_true,decide_eq_true_eq] at h
     rcases h with h | h
     ·exact .inl h
     ·exact .inr (by simp only[List.mem_cons];left;omega)
    ·exact .inr (by simp[h])
theorem Wn {F:Nat} (hF:F≤1000) {q:List Int} (hq:Oj F q) (hql:q.length≤1000) {N i:Nat} (hi:i≤q.length) (hN:q.length - i < N) :∀(m:Nat→Bool) (w:List Int),w.length+(q.length - i)≤5000→
  CS q N i (rowOf F m) w=some (rowOf F (push (q.drop i) m w).1,(push (q.drop i) m w).2):=by
 refine BX q.length (fun N i=>∀(m:Nat→Bool) (w:List Int),w.length+(q.length - i)≤5000→CS q N i (rowOf F m) w=some (rowOf F (push (q.drop i) m w).1,(push (q.drop i) m w).2)) ?_ ?_ hi hN
 ·intro n m w _
  rw[CS,if_neg (by simp[AT]),List.drop_length];rfl
 ·intro n i hi ih m w hw
  obtain⟨x,hx,hxm⟩:=Bj hi
  have hxi:=hq x hxm
  obtain⟨j,rfl⟩:=Int.eq_ofNat_of_zero_le hxi.1
  rw[CS,if_pos (by simp[AT];omega),BB hx]
  simp only[Option.bind_some]
  rw[BB (He (by omega)),BI (n:=(i:Int) + 1) (by omega) (by omega),show ((i:Int) + 1)=((i+1:Nat):Int) by omega,drop_cons hx]
  simp only[Option.bind_some,push,Int.toNat_natCast]
  cases hm:m j with
  | true=>simp only[Bool.not_true,Bool.false_eq_true,if_false,if_true,Option.bind_some];exact ih m w (by omega)
  | false=>
   simp only[Bool.not_false,if_true,Bool.false_eq_true,if_false]
   rw[Ep _ _ 8 (by simp;omega) (by simp;omega),Qz]
   simp only[Option.bind_some]
   exact ih _ _ (by simp;omega)
end RC



namespace RC
open Go
structure PO (p:Af) (F:Nat):Prop where
 len:p.funcs.length=F
 le:F≤4
 sz :∀f∈p.funcs,en f.body≤30
 YT :∀f∈p.funcs,Oj F (Jl f.body)
def Md (p:Af) (k:Nat):List Int:=match p.funcs[k]? with | some f=>Jl f.body | none=>[]
theorem Nk {p:Af} {F:Nat} (P:PO p F) (k:Nat):Oj F (Md p k):=by
 unfold Md
 cases h:p.funcs[k]? with
 | none=>intro x hx;cases hx
 | some f=>exact P.YT f (List.mem_of_getElem? h)
inductive Re (p:Af) (F:Nat) (c:Nat):Nat→Prop
 | refl:Re p F c c
 | step {k:Nat} {x:Int}:Re p F c k→x∈Md p k→Re p F c x.toNat
def Iu:Nat→Bool:=fun _=>false
def cl (p:Af) (F k:Nat):List Int:=Cx (mk (DZ Iu (Md p k)) F 0)
theorem N4 {p:Af} {F k:Nat} (P:PO p F) (x:Int):x∈cl p F k↔x∈Md p k:=by
 unfold cl
 constructor
 ·intro h
  obtain⟨j,hj,rfl⟩:=List.mem_map.1 h
  have:=(MF.1 hj).2
  simpa [DZ,Iu] using this
 ·intro h
  have hin:=Nk P k x h
  obtain⟨j,rfl⟩:=Int.eq_ofNat_of_zero_le hin.1
  exact List.mem_map.2 ⟨j,MF.2 ⟨by omega,by simpa [DZ,Iu] using h⟩,rfl⟩
theorem Lv {p:Af} {F k:Nat} (P:PO p F):Oj F (cl p F k):=fun x hx=>Nk P k x ((N4 P x).1 hx)
theorem Ng {p:Af} {F k:Nat}:(cl p F k).length≤F:=by unfold cl;rw[Hm];have:=MM (DZ Iu (Md p k)) F 0;omega
theorem J5 {p:Af} {F k:Nat} (P:PO p F) {f:Ar} (hf:p.funcs[k]?=some f) {N:Nat} (hN:2000000≤N):GM N f.body []=some (cl p F k):=by
 have hm:=List.mem_of_getElem? hf
 have hs:=P.sz f hm
 have hF:=P.le
 have:=SI hN (F:=F) (by omega) N f.body Iu (by omega) (by omega) (P.YT f hm)
 have e:Cx (mk Iu F 0)=[]:=by simp[mk,Cx,Iu]
 rw[e] at this
 unfold GM
 rw[this]
 unfold cl Md
 rw[hf]
theorem Tq (F:Nat):List.replicate F false=rowOf F Iu:=by
 apply List.ext_getElem?
 intro k
 by_cases h:k < F
 ·rw[He h,List.getElem?_replicate,if_pos h];rfl
 ·rw[List.getElem?_eq_none (by simp;omega),List.getElem?_eq_none (by rw[Hd];omega)]
theorem IY {p:Af} {F k:Nat} (P:PO p F) {f:Ar} (hf:p.funcs[k]?=some f) {N:Nat} (hN:2000000≤N):FT N p (k:Int)=some (rowOf F (DZ Iu (Md p k))):=by
 have hm:=List.mem_of_getElem? hf
 have hs:=P.sz f hm
 have hF:=P.le
 unfold FT
 rw[AT,P.len,Lo _ F 1 (by omega) (by omega),Tq,BB hf]
 simp only[Option.bind_some]
 unfold Kh
 rw[WW hN (by omega) N f.body Iu (by omega) (by omega) (P.YT f hm)]
 unfold Md
 rw[hf];rfl
theorem Jy {p:Af} {F k:Nat} (P:PO p F) {N:Nat} (hN:2000000≤N):Ed N (rowOf F (DZ Iu (Md p k)))=some (cl p F k):=Lz (by have:=P.le;omega) hN
def Sub (p:Af) (F c:Nat) (m:Nat→Bool):Prop:=∀k,k < F→m k=true→Re p F c k
def Cl (p:Af) (F:Nat) (m:Nat→Bool):Prop:=∀k,k < F→m k=true→∀x∈Md p k,m x.toNat=true
theorem Wu {p:Af} {F c:Nat} (P:PO p F) {m:Nat→Bool} (h0:m c=true) (hc:Cl p F m) (hcF:c < F) :∀{k},Re p F c k→k < F∧m k=true:=by
 intro k h
 induction h with
 | refl=>exact⟨hcF,h0⟩
 | step h hx ih=>have:=Nk P _ _ hx;exact⟨by omega,hc _ ih.1 ih.2 _ hx⟩
theorem WN {p:Af} {F c:Nat} (P:PO p F) {N0:Nat} (hN0:2000000≤N0) :∀(N:Nat) (m:Nat→Bool) (w:List Int),w.length+(F - pop m F) < N→Oj F w→(∀x∈w,m x.toNat=true)→Sub p F c m→(w.length≤4)→
  (∀k,k < F→m k=true→(k:Int)∈w∨∀x∈Md p k,m x.toNat=true)→w.length+(F - pop m F)≤4→
  ∃m',Db N0 p N (rowOf F m) w=some (rowOf F m')∧(∀k,m k=true→m' k=true)∧Sub p F c m'∧Cl p F m':=by
 intro N
 induction N with
 | zero=>intro m w h;omega
 | succ N ih=>
  intro m w hN hw hwm hs hw4 hcl hme
  rw[Db]
  cases w with
  | nil=>
   rw[if_neg (by simp[AT])]
   exact⟨m,rfl,fun _ h=>h,hs,fun k hk h=>(hcl k hk h).resolve_left (by simp)⟩
  | cons x w=>
   have hF:=P.le
   have hx:=hw x (by simp)
   obtain⟨j,rfl⟩:=Int.eq_ofNat_of_zero_le hx.1
   obtain⟨f,hf,_⟩:=Bj (l:=p.funcs) (i:=j) (by rw[P.len];omega)
   have hg:Sh.get ((j:Int) :: w) 0=some (j:Int):=rfl
   rw[if_pos (by simp[AT]),hg]
   simp only[Option.bind_some]
   rw[IY P hf hN0]
   simp only[Option.bind_some]
   rw[Jy P hN0]
   simp only[Option.bind_some]
   have hl:=Ng (p:=p) (F:=F) (k:=j)
   have e:=Wn (F:=F) (by omega) (Lv P (k:=j)) (by omega) (Nat.zero_le _) (by omega:(cl p F j).length - 0 < N0) m ((j:Int) :: w) (by omega)
   rw[List.drop_zero,show ((0:Nat):Int)=0 from rfl] at e
   rw[e]
   simp only[Option.bind_some]
   obtain⟨⟨v,a1,a2,a3,a4,a5⟩,b,cc,d⟩:=Q7 (F:=F) (cl p F j) m ((j:Int) :: w) (Lv P)
   generalize push (cl p F j) m ((j:Int) :: w)=pw at a1 a3 a4 a5 b cc d ⊢
   rw[a1]
   have hsl:Sh.sl ((j:Int) :: w ++ v) 1 (Sh.len ((j:Int) :: w ++ v))=some (w ++ v):=by
    unfold Sh.sl Sh.len
    rw[if_pos ⟨by omega,by simp;omega,by omega⟩,Int.toNat_natCast,List.take_length]
    rfl
   rw[hsl]
   simp only[Option.bind_some]
   have hp1:=P1 pw.1 F
   simp only[List.length_cons] at hN hw4 hme
   have q1:Oj F (w ++ v):=fun y hy=>by
    rcases List.mem_append.1 hy with hy | hy
    ·exact hw y (by simp[hy])
    ·exact a2 y hy
   have q2 :∀y∈w ++ v,pw.1 y.toNat=true:=fun y hy=>by
    rcases List.mem_append.1 hy with hy | hy
    ·exact b _ (hwm y (by simp[hy]))
    ·exact a3 y hy
   have q3:Sub p F c pw.1:=fun k hk h=>by
    rcases d k h with h | h
    ·exact hs k hk h
    ·have:=Re.step (hs j (by omega) (by simpa using hwm (j:Int) (by simp))) ((N4 P _).1 h)
     simpa using this
   have q4 :∀k,k < F→pw.1 k=true→(k:Int)∈w ++ v∨∀x∈Md p k,pw.1 x.toNat=true:=fun k hk h=>by
    rcases a4 k hk h with h | h
    ·rcases hcl k hk h with h | h
     ·rcases List.mem_cons.1 h with h | h
      ·have:k=j:=by omega
       subst this
       exact .inr fun y hy=>cc y ((N4 P y).2 hy)
      ·exact .inl (by simp[h])
     ·exact .inr fun y hy=>b _ (h y hy)
    ·exact .inl (by simp[h])
   obtain⟨m',r1,r2,r3,r4⟩:=ih pw.1 (w ++ v) (by simp;omega) q1 q2 q3 (by simp;omega) q4 (by simp;omega)
   exact⟨m',r1,fun k h=>r2 k (b k h),r3,r4⟩
end RC



namespace RC
open Go
theorem XQ {m m':Nat→Bool} {F:Nat} (h :∀k,k < F→m k=true→m' k=true) (he:pop m' F≤pop m F) :∀k,k < F→m' k=true→m k=true:=fun k hk h1=>by
 cases h0:m k with
 | true=>rfl
 | false=>have:=Ux h0 h1 hk h;omega
theorem VQ {F:Nat} (hF:F≤1000) {q:List Int} (hq:Oj F q) (hql:q.length≤1000) {N0:Nat} (hN0:2000000≤N0) {N i:Nat} (hi:i≤q.length) (hN:q.length - i < N) :∀m:Nat→Bool,
  Cc N0 q N i (Cx (mk m F 0))=some (Cx (mk (DZ m (q.drop i)) F 0)):=by
 refine BX q.length (fun N i=>∀m:Nat→Bool,Cc N0 q N i (Cx (mk m F 0))=some (Cx (mk (DZ m (q.drop i)) F 0))) ?_ ?_ hi hN
 ·intro n m
  rw[Cc,if_neg (by simp[AT]),List.drop_length,Hg]
 ·intro n i hi ih m
  obtain⟨x,hx,hxm⟩:=Bj hi
  have hxi:=hq x hxm
  obtain⟨j,rfl⟩:=Int.eq_ofNat_of_zero_le hxi.1
  rw[Cc,if_pos (by simp[AT];omega),BB hx]
  simp only[Option.bind_some]
  rw[Q9 (by omega) (by omega) hN0,BI (n:=(i:Int) + 1) (by omega) (by omega),show ((i:Int) + 1)=((i+1:Nat):Int) by omega,drop_cons hx,Ll]
  simp only[Option.bind_some]
  exact ih _
structure Y8 (p:Af) (F c i:Nat) (m m':Nat→Bool):Prop where
 mono :∀k,m k=true→m' k=true
 sub:Sub p F c m→Sub p F c m'
 still:Cl p F m→∀k,k < F→m' k=true→m k=true
 closed:pop m' F≤pop m F→∀k,i≤k→k < F→m k=true→∀x∈Md p k,m x.toNat=true
theorem VS {p:Af} {F c:Nat} (P:PO p F) {N0:Nat} (hN0:2000000≤N0) {N i:Nat} (hi:i≤F) (hN:F - i < N) :∀m:Nat→Bool,
  ∃m',CV N0 p N i (Cx (mk m F 0))=some (Cx (mk m' F 0))∧Y8 p F c i m m':=by
 have hF:=P.le
 refine BX F (fun N i=>∀m:Nat→Bool,∃m',CV N0 p N i (Cx (mk m F 0))=some (Cx (mk m' F 0))∧Y8 p F c i m m') ?_ ?_ hi hN
 ·intro n m
  refine⟨m,by rw[CV,if_neg (by simp[AT,P.len])],fun _ h=>h,fun h=>h,fun _ _ _ h=>h,fun _ k h1 h2=>by omega⟩
 ·intro n i hi ih m
  rw[CV,if_pos (by simp[AT,P.len];omega),Q3 (by omega) hi hN0]
  simp only[Option.bind_some]
  rw[BI (n:=(i:Int) + 1) (by omega) (by omega),show ((i:Int) + 1)=((i+1:Nat):Int) by omega]
  cases hm:m i with
  | false=>
   simp only[Bool.false_eq_true,if_false,Option.bind_some]
   obtain⟨m',h1,h2⟩:=ih m
   refine⟨m',h1,h2.mono,h2.sub,h2.still,fun he k hk hkF hmk=>?_⟩
   by_cases e:k=i
   ·subst e;rw[hm] at hmk;cases hmk
   ·exact h2.closed he k (by omega) hkF hmk
  | true=>
   obtain⟨f,hf,_⟩:=Bj (l:=p.funcs) (i:=i) (by rw[P.len];omega)
   simp only[if_true]
   rw[BB hf]
   simp only[Option.bind_some]
   rw[J5 P hf hN0]
   simp only[Option.bind_some]
   have hl:=Ng (p:=p) (F:=F) (k:=i)
   have e:=VQ (F:=F) (by omega) (Lv P (k:=i)) (by omega) hN0 (Nat.zero_le _) (by omega:(cl p F i).length - 0 < N0) m
   rw[List.drop_zero,show ((0:Nat):Int)=0 from rfl] at e
   rw[e]
   simp only[Option.bind_some]
   obtain⟨m',h1,h2⟩:=ih (DZ m (cl p F i))
   have g0 :∀k,m k=true→DZ m (cl p F i) k=true:=fun k hk=>by simp[DZ,hk]
   have g1 :∀k,DZ m (cl p F i) k=true→m k=true∨(k:Int)∈Md p i:=fun k hk=>by
    simp only[DZ,Bool.or_eq_true,decide_eq_true_eq] at hk
    exact hk.imp id fun h=>(N4 P _).1 h
   have g2 :∀x∈Md p i,DZ m (cl p F i) x.toNat=true:=fun x hx=>by
    have:=Nk P i x hx
    have e:((x.toNat:Nat):Int)=x:=by omega
    simp only[DZ,e,(N4 P x).2 hx,decide_true,Bool.or_true]
   refine⟨m',h1,fun k hk=>h2.mono k (g0 k hk),fun hs=>h2.sub fun k hk h=>?_,fun hc k hk h=>?_,fun he k hk hkF hmk x hx=>?_⟩
   ·rcases g1 k h with h | h
    ·exact hs k hk h
    ·have:=Re.step (hs i hi hm) h
     simpa using this
   ·have same :∀k,k < F→DZ m (cl p F i) k=true→m k=true:=fun k _ h=>by
     rcases g1 k h with h | h
     ·exact h
     ·have:=hc i hi hm _ h
      simpa using this
    exact same k hk (h2.still (fun k hk h x hx=>g0 _ (hc k hk (same k hk h) x hx)) k hk h)
   ·have p1:=MC (n:=F) fun k _=>g0 k
    have p2:=MC (n:=F) fun k _=>h2.mono k
    have same:=XQ (fun k _=>g0 k) (by omega:pop (DZ m (cl p F i)) F≤pop m F)
    have hxF:=Nk P k x hx
    by_cases e:k=i
    ·subst e;exact same _ (by omega) (g2 x hx)
    ·exact same _ (by omega) (h2.closed (by omega) k (by omega) hkF (g0 k hmk) x hx)
theorem VN {p:Af} {F c:Nat} (P:PO p F) {N0:Nat} (hN0:2000000≤N0) {N r:Nat} (hr:r≤F) (hN:F - r < N) :∀m:Nat→Bool,Sub p F c m→m c=true→(r+1≤pop m F∨Cl p F m)→
  ∃m',Cb N0 p N r (Cx (mk m F 0))=some (Cx (mk m' F 0))∧Sub p F c m'∧m' c=true∧Cl p F m':=by
 have hF:=P.le
 refine BX F (fun N r=>∀m:Nat→Bool,Sub p F c m→m c=true→(r+1≤pop m F∨Cl p F m)→∃m',Cb N0 p N r (Cx (mk m F 0))=some (Cx (mk m' F 0))∧Sub p F c m'∧m' c=true∧Cl p F m') ?_ ?_ hr hN
 ·intro n m hs hc h
  refine⟨m,by rw[Cb,if_neg (by simp[AT,P.len])],hs,hc,h.resolve_left fun h=>by have:=P1 m F;omega⟩
 ·intro n r hr ih m hs hc h
  rw[Cb,if_pos (by simp[AT,P.len];omega)]
  obtain⟨m1,h1,h2⟩:=VS (c:=c) P hN0 (Nat.zero_le F) (by omega:F - 0 < N0) m
  rw[show ((0:Nat):Int)=0 from rfl] at h1
  rw[h1]
  simp only[Option.bind_some]
  rw[BI (n:=(r:Int) + 1) (by omega) (by omega),show ((r:Int) + 1)=((r+1:Nat):Int) by omega]
  have key:Cl p F m→Cl p F m1:=fun hcl k hk hm x hx=>h2.mono _ (hcl k hk (h2.still hcl k hk hm) x hx)
  refine ih m1 (h2.sub hs) (h2.mono c hc) ?_
  by_cases he:pop m1 F≤pop m F
  ·exact .inr (key fun k hk=>h2.closed he k (Nat.zero_le _) hk)
  ·rcases h with h | h
   ·exact .inl (by omega)
   ·exact .inr (key h)
end RC



namespace RC
open Go
theorem TF {F c:Nat} (hc:c < F):[(c:Int)]=Cx (mk (DC Iu c) F 0):=by
 have h:=SH (m:=Iu) (n:=F) hc c 0 (by omega) (Nat.zero_le _)
 have e:Cx (mk Iu F 0)=[]:=by simp[mk,Cx,Iu]
 rw[e] at h
 exact h
theorem NB {c k:Nat} (h:DC Iu c k=true):k=c:=by simpa [DC,Iu] using h
theorem K0 {p:Af} {F c:Nat} (P:PO p F) (hc:c < F) {N:Nat} (hN:2000000≤N) :∃m,FZ N p (c:Int)=some (Cx (mk m F 0))∧∀k,k < F→(m k=true↔Re p F c k):=by
 have hF:=P.le
 have h1:DC Iu c c=true:=by simp[DC]
 have hp:0+1≤pop (DC Iu c) F:=by
  have:=Kf (m:=Iu) (j:=c) rfl hc
  omega
 obtain⟨m,a1,a2,a3,a4⟩:=VN (c:=c) P hN (Nat.zero_le F) (by omega:F - 0 < N) (DC Iu c) (fun k _ hk=>by rw[NB hk];exact .refl) h1 (.inl hp)
 refine⟨m,?_,fun k hk=>⟨a2 k hk,fun h=>(Wu P a3 a4 hc h).2⟩⟩
 unfold FZ
 rw[TF hc]
 rw[show ((0:Nat):Int)=0 from rfl] at a1
 rw[a1];rfl
theorem Ix {p:Af} {F c:Nat} (P:PO p F) (hc:c < F) {N:Nat} (hN:2000000≤N) (hv:B7 N p=some true) :∃m,Ey N p (c:Int)=some (Cx (mk m F 0))∧∀k,k < F→(m k=true↔Re p F c k):=by
 have hF:=P.le
 have h1:DC Iu c c=true:=by simp[DC]
 have hpc:=Kf (m:=Iu) (j:=c) rfl hc
 have hple:=P1 (DC Iu c) F
 obtain⟨m,a1,a2,a3,a4⟩:=WN (c:=c) P hN N (DC Iu c) [(c:Int)] (by simp;omega) (fun x hx=>by simp at hx;omega) (fun x hx=>by simp at hx;subst hx;simpa using h1) (fun k _ hk=>by rw[NB hk];exact .refl) (by simp) (fun k _ hk=>.inl (by rw[NB hk];simp)) (by simp;omega)
 refine⟨m,?_,fun k hk=>⟨a3 k hk,fun h=>(Wu P (a2 c h1) a4 hc h).2⟩⟩
 unfold Ey
 rw[hv]
 have b1:decide ((c:Int) < 0)=false:=decide_eq_false (by omega)
 have b2:decide (((F:Nat):Int)≤(c:Int))=false:=decide_eq_false (by omega)
 simp only[Option.bind_some,Bool.not_true,Bool.false_eq_true,if_false,b1,AT,P.len,b2]
 rw[Lo _ F 1 (by omega) (by omega),Tq]
 simp only[Option.bind_some]
 rw[BB (He hc),Qz]
 simp only[Option.bind_some]
 rw[a1]
 simp only[Option.bind_some]
 rw[Lz (by omega) hN];rfl
theorem VJ {l:List Int} {x:Int} (hl:l.length≤1000) {N i:Nat} (hi:i≤l.length) (hN:l.length - i < N):(x∈l.drop i→∃j:Nat,Bo l x N i=some (.inl (j:Int)))∧(x ∉ l.drop i→Bo l x N i=some (.inr ())):=by
 refine BX l.length (fun N i=>(x∈l.drop i→∃j:Nat,Bo l x N i=some (.inl (j:Int)))∧(x ∉ l.drop i→Bo l x N i=some (.inr ()))) ?_ ?_ hi hN
 ·intro n
  rw[List.drop_length]
  exact⟨fun h=>(by cases h),fun _=>by rw[Bo,if_neg (by simp[AT])]⟩
 ·intro n i hi ih
  obtain⟨y,hy,_⟩:=Bj hi
  rw[drop_cons hy,Bo,if_pos (by simp[AT];omega),BB hy]
  simp only[Option.bind_some,List.mem_cons,not_or]
  rw[BI (n:=(i:Int) + 1) (by omega) (by omega),show ((i:Int) + 1)=((i+1:Nat):Int) by omega]
  by_cases e:x=y
  ·rw[if_pos (by simpa using e)]
   exact⟨fun _=>⟨i,rfl⟩,fun h=>absurd e h.1⟩
  ·rw[if_neg (by simpa using e)]
   exact⟨fun h=>ih.1 (h.resolve_left e),fun h=>ih.2 h.2⟩
theorem Nd {l:List Int} {x:Int} (hl:l.length≤1000) {N:Nat} (hN:2000000≤N):D6 N l x=some (decide (x∈l)):=by
 have h:=VJ (x:=x) hl (Nat.zero_le _) (by omega:l.length - 0 < N)
 rw[List.drop_zero,show ((0:Nat):Int)=0 from rfl] at h
 unfold D6 FM
 by_cases hx:x∈l
 ·obtain⟨j,hj⟩:=h.1 hx
  rw[hj]
  have:(0:Int)≤(j:Int):=by omega
  simp[Sh.cont,hx]
 ·rw[h.2 hx]
  simp[Sh.cont,hx]
theorem mem_mk {m:Nat→Bool} {F k:Nat} (hk:k < F):((k:Int)∈Cx (mk m F 0))↔m k=true:=by
 constructor
 ·intro h
  obtain⟨j,hj,e⟩:=List.mem_map.1 h
  have:j=k:=by omega
  subst this
  exact (MF.1 hj).2
 ·intro h;exact List.mem_map.2 ⟨k,MF.2 ⟨hk,h⟩,rfl⟩
open Classical in
theorem RS {p:Af} {F:Nat} (P:PO p F) {f:Int} {N:Nat} (hN:2000000≤N) (hs:C4 N p=some true) (hv:B7 N p=some true) :∃b,Dg N p f=some b∧EC N p f=some b:=by
 have hF:=P.le
 unfold Dg EC GH
 rw[hs,hv]
 simp only[Option.bind_some,if_true,Bool.not_true,Bool.false_eq_true,if_false,AT,P.len]
 rw[DL,BI (n:=(F:Int) - 1) (by omega) (by omega)]
 simp only[Option.bind_some]
 by_cases h1:f < 1
 ·have:¬ (1≤f):=by omega
  exact⟨false,by simp[this],by simp[h1]⟩
 ·by_cases h2:(F:Int)≤f
  ·have:¬ (f≤(F:Int) - 1):=by omega
   exact⟨false,by simp[this],by simp[h2]⟩
  ·obtain⟨k,rfl⟩:=Int.eq_ofNat_of_zero_le (by omega:0≤f)
   have hk:k < F:=by omega
   obtain⟨g,hg,_⟩:=Bj (l:=p.funcs) (i:=k) (by rw[P.len];omega)
   have c1:(1:Int)≤(k:Int):=by omega
   have c2:(k:Int)≤(F:Int) - 1:=by omega
   have hl:=Ng (p:=p) (F:=F) (k:=k)
   have L1:=DF (l:=cl p F k) (CH N p (k:Int) (cl p F k)) (fun _ c=>decide (¬ Re p F c.toNat k)) (fun n=>by rw[CH,if_neg (by simp[AT])]) (fun n i c hc=>by
    have hil:=(List.getElem?_eq_some_iff.1 hc).1
    have hcF:=Lv P c (List.mem_of_getElem? hc)
    obtain⟨j,rfl⟩:=Int.eq_ofNat_of_zero_le hcF.1
    obtain⟨m,a1,a2⟩:=K0 P (c:=j) (by omega) hN
    rw[CH,if_pos (by simp[AT];omega),BB hc]
    simp only[Option.bind_some]
    rw[a1]
    simp only[Option.bind_some]
    rw[Q3 (by omega) hk hN,BI (n:=(i:Int) + 1) (by omega) (by omega),show ((i:Int) + 1)=((i+1:Nat):Int) by omega]
    simp only[Option.bind_some,Int.toNat_natCast]
    have:=a2 k hk
    by_cases hr:Re p F j k
    ·simp[this.2 hr,hr]
    ·have:m k=false:=by
      cases hm:m k with
      | false=>rfl
      | true=>exact absurd (this.1 hm) hr
     simp[this,hr]) (by omega:(cl p F k).length < N)
   have L2:=DF (l:=cl p F k) (CG N p (k:Int) (cl p F k)) (fun _ c=>decide (¬ Re p F c.toNat k)) (fun n=>by rw[CG,if_neg (by simp[AT])]) (fun n i c hc=>by
    have hil:=(List.getElem?_eq_some_iff.1 hc).1
    have hcF:=Lv P c (List.mem_of_getElem? hc)
    obtain⟨j,rfl⟩:=Int.eq_ofNat_of_zero_le hcF.1
    obtain⟨m,a1,a2⟩:=Ix P (c:=j) (by omega) hN hv
    rw[CG,if_pos (by simp[AT];omega),BB hc]
    simp only[Option.bind_some]
    rw[a1]
    simp only[Option.bind_some]
    rw[Nd (by rw[Hm];have:=MM m F 0;omega) hN,BI (n:=(i:Int) + 1) (by omega) (by omega),show ((i:Int) + 1)=((i+1:Nat):Int) by omega]
    simp only[Option.bind_some,Int.toNat_natCast,mem_mk hk]
    have:=a2 k hk
    by_cases hr:Re p F j k
    ·simp[this.2 hr,hr]
    ·have:m k=false:=by
      cases hm:m k with
      | false=>rfl
      | true=>exact absurd (this.1 hm) hr
     simp[this,hr]) (by omega:(cl p F k).length < N)
   have hco:Dh N p (k:Int)=some (cl p F k):=by
    unfold Dh
    rw[hv]
    have b1:decide ((k:Int) < 0)=false:=decide_eq_false (by omega)
    have b2:decide ((F:Int)≤(k:Int))=false:=decide_eq_false (by omega)
    simp only[Option.bind_some,Bool.not_true,Bool.false_eq_true,if_false,b1,AT,P.len,b2]
    rw[IY P hg hN]
    simp only[Option.bind_some]
    rw[Jy P hN];rfl
   refine⟨Ch (fun _ c=>decide (¬ Re p F c.toNat k)) 0 (cl p F k),?_,?_⟩
   ·simp only[c1,c2,decide_true,Bool.and_true,Bool.not_true,Bool.false_eq_true,if_false]
    rw[BB hg]
    simp only[Option.bind_some]
    rw[J5 P hg hN]
    simp only[Option.bind_some]
    rw[L1,DE]
    cases Ch (fun (_:Nat) (c:Int)=>decide (¬ Re p F c.toNat k)) 0 (cl p F k) <;> rfl
   ·simp only[h1,h2,decide_false,Bool.false_eq_true,if_false,Option.bind_some]
    rw[hco]
    simp only[Option.bind_some]
    rw[L2,DE]
    cases Ch (fun (_:Nat) (c:Int)=>decide (¬ Re p F c.toNat k)) 0 (cl p F k) <;> rfl
end RC



namespace RC
open Go
section
variable {p : Af} {R1 : Af → List Int → AP → Option Int} {R2 : List Int → BF → AP → Option Int} {T : List Int → AP → Int} {e : AP} {v : List Int} {N : Nat}
theorem Xm (S:GY p.decls p.funcs) {t:Int} (hB:Be N R1 p v e=some t) (ht:t≠-1) (h:e.op=9∨e.op=10):0≤e.num∧e.num < (p.funcs.length:Int):=by
 have hF:=S.Kw
 by_cases hr:0≤e.num∧e.num≤(p.funcs.length:Int) - 1
 ·omega
 ·exfalso
  apply ht
  have hb:(decide (0≤e.num) && decide (e.num≤(p.funcs.length:Int) - 1))=false:=by
   rw[← Bool.decide_and];exact decide_eq_false hr
  unfold Be EV at hB
  rcases h with h | h
  all_goals
   simp only[h,Int.reduceEq,decide_true,decide_false,Bool.false_eq_true,if_true,if_false,Option.bind_some] at hB
   rw[DL,AT p.funcs,BI (n:=(p.funcs.length:Int) - 1) (by omega) (by omega),hb] at hB
   simpa [Sh.cont] using hB.symm
theorem Ru {l:List Int} (h:LP l≠-1) :∀x∈l,x≠-1:=by
 cases l with
 | nil=>exact absurd rfl h
 | cons a r=>
  simp only[LP] at h
  by_cases hr:r.all (fun x=>decide (x=a))=true
  ·rw[if_pos hr] at h
   intro x hx
   rcases List.mem_cons.1 hx with rfl | hx
   ·exact h
   ·have:=List.all_eq_true.1 hr x hx
    simp only[decide_eq_true_eq] at this
    rw[this];exact h
  ·rw[if_neg hr] at h;exact absurd rfl h
theorem Wy (H:KD p (FO p) R1 R2 T (en e)) (V:Hq p e v) (S:GY p.decls p.funcs) (hN:2000000≤N) {t:Int} (hB:BK N R2 v (FO p) e=some t) (ht:t≠-1) :
  ∀k∈e.kids,∃m:List Int,m.length≤3∧(∀x∈m,Dm p.decls x=true)∧T (v ++ m) k≠-1:=by
 have hv:v.length≤1000:=by have:=V.len;omega
 have nil :∀k,T v k≠-1→∃m:List Int,m.length≤3∧(∀x∈m,Dm p.decls x=true)∧T (v ++ m) k≠-1:=fun k h=>⟨[],by simp,fun x hx=>(by cases hx),by simpa using h⟩
 by_cases h12:e.op=12
 ·unfold BK at hB
  simp only[h12,decide_true,if_true] at hB
  intro k hk
  have:0 < Sh.len e.kids:=by rw[AT];have:=List.length_pos_of_mem hk;omega
  simp only[this,decide_true,if_true,Option.bind_some,Option.some.injEq] at hB
  exact absurd hB.symm ht
 by_cases h13:e.op=13
 ·unfold BK at hB
  simp only[h13,Int.reduceEq,decide_true,decide_false,Bool.false_eq_true,if_true,if_false] at hB
  by_cases hl:e.kids.length=2
  ·obtain⟨a,b,hk⟩ :∃a b,e.kids=[a,b]:=by
    match hk:e.kids,hl with
    | [a,b],_=>exact⟨a,b,rfl⟩
   have hma:a∈e.kids:=by rw[hk];simp
   have hmb:b∈e.kids:=by rw[hk];simp
   obtain⟨a1,a2,a3⟩:=H v a (V.Cu.kids a hma) (Eb hma) (V.Ou hma) V.Mf
   have g0:Sh.get e.kids 0=some a:=by rw[hk];rfl
   have g1:Sh.get e.kids 1=some b:=by rw[hk];rfl
   rw[g0,g1] at hB
   simp only[Option.bind_some,AT,hl] at hB
   rw[a2] at hB
   simp only[Option.bind_some] at hB
   by_cases hn:e.num=0
   ·by_cases h0:T v a < 0
    ·simp[hn,h0] at hB;exact absurd hB.symm ht
    ·have hty:Dm p.decls (T v a)=true:=a3.resolve_left (by omega)
     obtain⟨b1,b2,b3⟩:=H (v ++ [T v a]) b (V.Cu.kids b hmb) (Eb hmb) (V.more hmb (by simp)) (V.Ry (by simp[hty]))
     rw[Ep v [T v a] 8 (by simp;omega) (by simp;omega)] at hB
     simp only[Option.bind_some,b2] at hB
     simp[hn,h0] at hB
     intro k hkm
     rw[hk] at hkm
     simp only[List.mem_cons,List.not_mem_nil,or_false] at hkm
     rcases hkm with rfl | rfl
     ·exact nil _ (by omega)
     ·exact⟨[T v a],by simp,by simp[hty],by rw[hB];exact ht⟩
   ·simp[hn] at hB;exact absurd hB.symm ht
  ·have:¬ ((e.kids.length:Int)=2):=by omega
   simp[AT,this] at hB;exact absurd hB.symm ht
 by_cases h7:e.op=7
 ·unfold BK at hB
  simp only[h7,Int.reduceEq,decide_true,decide_false,Bool.false_eq_true,if_true,if_false] at hB
  by_cases hl:e.kids.length=3
  ·obtain⟨a,b,c,hk⟩ :∃a b c,e.kids=[a,b,c]:=by
    match hk:e.kids,hl with
    | [a,b,c],_=>exact⟨a,b,c,rfl⟩
   have hma:a∈e.kids:=by rw[hk];simp
   have hmb:b∈e.kids:=by rw[hk];simp
   have hmc:c∈e.kids:=by rw[hk];simp
   obtain⟨a1,a2,a3⟩:=H v a (V.Cu.kids a hma) (Eb hma) (V.Ou hma) V.Mf
   have g0:Sh.get e.kids 0=some a:=by rw[hk];rfl
   have g3:Sh.sl e.kids 1 3=some [b,c]:=by rw[hk];rfl
   have o:=Js (ks:=[b,c]) (ms:=[[],[]]) H V hN (by intro k hk;simp only[List.mem_cons,List.not_mem_nil,or_false] at hk;rcases hk with rfl | rfl <;> assumption) (by simp) rfl (by simp)
   have mk2:Sh.mk ([]:List Int) 2 24=some [[],[]]:=Lo [] 2 24 (by omega) (by omega)
   rw[g0] at hB
   simp only[Option.bind_some,AT,hl] at hB
   rw[a2,show ((3:Nat):Int)=3 from rfl,g3,mk2] at hB
   simp only[Option.bind_some] at hB
   rw[o] at hB
   by_cases hn:e.num=0
   ·by_cases h0:T v a=0
    ·simp[hn,h0] at hB
     have hal:=Ru (l:=[T v b,T v c]) (by rw[hB];exact ht)
     intro k hkm
     rw[hk] at hkm
     simp only[List.mem_cons,List.not_mem_nil,or_false] at hkm
     rcases hkm with rfl | rfl | rfl
     ·exact nil _ (by omega)
     ·exact nil _ (hal _ (by simp))
     ·exact nil _ (hal _ (by simp))
    ·simp[hn,h0] at hB;exact absurd hB.symm ht
   ·simp[hn] at hB;exact absurd hB.symm ht
  ·have:¬ ((e.kids.length:Int)=3):=by omega
   simp[AT,this] at hB;exact absurd hB.symm ht
 by_cases h8:e.op=8
 ·have hkl:=V.Kz
  have hD:=S.Q2
  have hn:=S.nc
  have hCl:=P5 S.WY e.num
  unfold BK at hB
  simp only[h8,Int.reduceEq,decide_true,decide_false,Bool.false_eq_true,if_true,if_false] at hB
  rw[show (FO p).decls=p.decls from rfl,LC (by omega) (by omega) hN] at hB
  simp only[Option.bind_some] at hB
  generalize hCe:C7 p.decls e.num=C at hCl hB
  have hCm :∀c∈C,Bf N p.decls c=some (Fg p.decls c)∧Ea N p.decls c=some (Fg p.decls c)∧(Fg p.decls c).length≤3∧∀x∈Fg p.decls c,Dm p.decls x=true:=fun c hc=>Uv S (hCe ▸ hc) hN
  rw[AT C,AT e.kids,BI (n:=1+(C.length:Int)) (by omega) (by omega)] at hB
  by_cases h0:C.length=0
  ·simp[h0] at hB;exact absurd hB.symm ht
  ·have h0':¬ ((C.length:Int)=0):=by omega
   have hne:¬ C=[]:=fun q=>h0 (by rw[q];rfl)
   by_cases h1:e.kids.length=1+C.length
   ·have h1':((e.kids.length:Int)=1+(C.length:Int)):=by omega
    obtain⟨a,r,hks⟩ :∃a r,e.kids=a :: r:=by
     cases hq:e.kids with
     | nil=>rw[hq] at h1;simp at h1;omega
     | cons a r=>exact⟨a,r,rfl⟩
    have hrl:r.length=C.length:=by rw[hks] at h1;simp at h1;omega
    have hma:a∈e.kids:=by rw[hks];simp
    have hmr :∀k∈r,k∈e.kids:=fun k hk=>by rw[hks];simp[hk]
    obtain⟨a1,a2,a3⟩:=H v a (V.Cu.kids a hma) (Eb hma) (V.Ou hma) V.Mf
    have g0:Sh.get e.kids 0=some a:=by rw[hks];rfl
    have g3:Sh.sl e.kids 1 (e.kids.length:Int)=some r:=by
     unfold Sh.sl
     rw[if_pos ⟨by omega,by omega,by omega⟩,hks];simp
    have mkC:Sh.mk ([]:List Int) (C.length:Int) 24=some (List.replicate C.length []):=Lo [] C.length 24 (by omega) (by omega)
    have o:=Js (ks:=r) (ms:=C.map (Fg p.decls)) H V hN hmr (by omega) (by simp[hrl]) (by
     intro m hm
     obtain⟨c,hc,rfl⟩:=List.mem_map.1 hm
     exact (hCm c hc).2.2)
    have FL:=Nv (p:=p) S hN hCl fun c hc=>(hCm c hc).2.1
    rw[g0,g3,mkC] at hB
    simp only[Option.bind_some] at hB
    rw[a2,FL] at hB
    simp only[Option.bind_some] at hB
    rw[o] at hB
    by_cases hta:T v a=e.num
    ·simp[hne,h1',hta] at hB
     have hal:=Ru (by rw[hB];exact ht)
     intro k hkm
     rw[hks] at hkm
     rcases List.mem_cons.1 hkm with rfl | hkm
     ·refine nil _ fun hq=>?_
      have hneg:e.num=-1:=by rw[← hta];exact hq
      rw[hneg] at hCe
      exact h0 (by rw[← hCe];simp[C7])
     ·obtain⟨i,hi⟩:=List.mem_iff_getElem?.1 hkm
      have hil:=(List.getElem?_eq_some_iff.1 hi).1
      obtain⟨c,hc,hcm⟩:=Bj (l:=C) (i:=i) (by omega)
      refine⟨Fg p.decls c,(hCm c hcm).2.2.1,(hCm c hcm).2.2.2,hal _ (List.mem_iff_getElem?.2 ⟨i,?_⟩)⟩
      rw[List.getElem?_zipWith,List.getElem?_map,hc,hi];rfl
    ·simp[hne,h1',hta] at hB;exact absurd hB.symm ht
   ·have h1':¬ ((e.kids.length:Int)=1+(C.length:Int)):=by omega
    simp[hne,h1'] at hB;exact absurd hB.symm ht
 rw[E5 H V hN h12 h13 h7 h8] at hB
 by_cases h:(e.kids.map (T v)).any (fun t=>decide (t < 0))=true
 ·rw[if_pos h] at hB;simp at hB;exact absurd hB.symm ht
 ·intro k hk
  refine nil k fun hq=>h ?_
  exact List.any_eq_true.2 ⟨T v k,List.mem_map_of_mem hk,by rw[hq];rfl⟩
end
end RC



namespace RC
open Go
theorem SC {x:Int} :∀{l:List AP},x∈HL l→∃k∈l,x∈Jl k
 | [],h=>by cases h
 | a :: r,h=>by
  simp only[HL,List.mem_append] at h
  rcases h with h | h
  ·exact⟨a,by simp,h⟩
  ·obtain⟨k,hk,hx⟩:=SC h
   exact⟨k,by simp[hk],hx⟩
def TT (p:Af) (N:Nat) (T:List Int→AP→Int):Prop:=∀(v:List Int) (e:AP),A2 e→en e < 31→v.length+3 * en e≤1000→(∀x∈v,Dm p.decls x=true)→
  ∀n1 n2,31≤n1→31≤n2→Cq N n1 p v e=some (T v e)∧Bp N n2 v (FO p) e=some (T v e)∧(T v e=-1∨Dm p.decls (T v e)=true)
theorem Vz {p:Af} (S:GY p.decls p.funcs) {N:Nat} (hN:2000000≤N) {T:List Int→AP→Int} (hT:TT p N T) :∀(n:Nat) (e:AP) (v:List Int),en e≤n→n≤30→Hq p e v→T v e≠-1→Oj p.funcs.length (Jl e):=by
 intro n
 induction n with
 | zero=>intro e _ h;have:=MR e;omega
 | succ n ih=>
  intro e v he hn V ht x hx
  have H:KD p (FO p) (Cq N 31) (Bp N 31) T (en e):=fun v e a b c d=>hT v e a (by omega) c d 31 31 (Nat.le_refl _) (Nat.le_refl _)
  obtain⟨q1,q2,_⟩:=hT v e V.Cu (by omega) V.len V.Mf 32 32 (by omega) (by omega)
  rw[Cq] at q1
  rw[Bp] at q2
  rw[Jd,List.mem_append] at hx
  rcases hx with hx | hx
  ·unfold Ky at hx
   by_cases h:e.op=9∨e.op=10
   ·rw[if_pos h] at hx
    have:x=e.num:=by simpa using hx
    rw[this]
    exact Xm S q1 ht h
   ·rw[if_neg h] at hx;cases hx
  ·obtain⟨k,hk,hxk⟩:=SC hx
   have hke:=Eb hk
   obtain⟨m,m1,m2,m3⟩:=Wy H V S hN q2 ht k hk
   exact ih k (v ++ m) (by omega) (by omega) ⟨V.more hk m1,V.Ry m2,by omega,V.Cu.kids k hk⟩ m3 x hxk
theorem Ro {p:Af} (S:Ge p) {N:Nat} (hN:2000000≤N) (hv:C4 N p=some true):PO p p.funcs.length:=by
 obtain⟨b,h1,_,h3⟩:=Hj S hN
 rw[hv] at h1;cases h1
 obtain⟨SO,hen⟩:=h3 rfl
 obtain⟨T,hT⟩:=SB SO hN 31
 have hl:=S.Kw
 refine⟨rfl,SO.Kw,hen,fun f hf=>?_⟩
 obtain⟨q1,q2,q3⟩:=SO.Qx f hf
 have he:=hen f hf
 have V:Hq p f.body f.params:=⟨by omega,q2,by omega,(S.fin hf).body⟩
 have L1:=DF (l:=p.funcs) (B0 N p) (fun _ f=>IK p T f) (fun n=>by rw[B0,if_neg (by simp[AT])]) (fun n i f hi=>by
  have hil:=(List.getElem?_eq_some_iff.1 hi).1
  have hf:=List.mem_of_getElem? hi
  obtain⟨q1,q2,q3⟩:=SO.Qx f hf
  have he:=hen f hf
  have ty:I4 N p f.params f.body=some (T f.params f.body):=(hT f.params f.body (S.fin hf).body (by omega) (by omega) q2 N N (by omega) (by omega)).1
  rw[B0,if_pos (by simp[AT];omega),BB hi]
  simp only[Option.bind_some]
  rw[HB (S.fz hf).2 hN,BI (by omega) (by omega),show ((i:Int) + 1)=((i+1:Nat):Int) by omega]
  simp only[Option.bind_some]
  unfold IK
  rw[if_pos he,if_neg (by simp),ty]
  by_cases hr:T f.params f.body=f.result <;> simp[he,hr]) (by omega:p.funcs.length < N)
 rw[ET] at L1
 have hs:p.funcs.all (IK p T)=true:=by
  unfold C4 at hv
  rw[Q0 S hN] at hv
  simp only[Option.bind_some] at hv
  cases hsg:QV p with
  | false=>rw[hsg] at hv;simp at hv
  | true=>
   rw[hsg] at hv
   simp only[Bool.not_true,Bool.false_eq_true,if_false] at hv
   rw[L1,DE] at hv
   cases hb:p.funcs.all (IK p T) with
   | true=>rfl
   | false=>rw[hb] at hv;simp at hv
 have hb:=List.all_eq_true.1 hs f hf
 unfold IK at hb
 simp only[Bool.and_eq_true,decide_eq_true_eq] at hb
 exact Vz SO hN hT 30 f.body f.params he (Nat.le_refl _) V (by rw[hb.2];have:=(Jx q3).1;omega)
theorem Po {p:Af} (S:Ge p) {f:Int} {N:Nat} (hN:2000000≤N) :∃b,Dg N p f=some b∧EC N p f=some b:=by
 obtain⟨b,h1,h2,_⟩:=Hj S hN
 cases b with
 | true=>exact RS (Ro S hN h1) hN h1 h2
 | false=>
  unfold Dg EC
  rw[h1,h2]
  exact⟨false,by simp,by simp⟩
end RC

