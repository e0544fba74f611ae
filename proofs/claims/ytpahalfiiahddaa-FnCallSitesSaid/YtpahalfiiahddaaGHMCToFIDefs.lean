import Derived.Test.YtpahalfiiahddaaGPlainAToYGE
import Derived.Test.YtpahalfiiahddaaGHADefsToFCDefs
import Derived.Test.YtpahalfiiahddaaXUA
import Derived.Test.YtpahalfiiahddaaSufD
namespace RC
open Go
def rowOf {α:Type} (n:Nat) (f:Nat→α):List α:=(List.range n).map f
theorem HN {α:Type} {n:Nat} {f:Nat→α}:(rowOf n f).length=n:=by simp[rowOf]
theorem I4 {α:Type} {n:Nat} {f:Nat→α} {j:Nat} (h:j < n):(rowOf n f)[j]?=some (f j):=by simp[rowOf,h]
theorem Rs {α:Type} {n:Nat} {f g:Nat→α} (h :∀j,j < n→f j=g j):rowOf n f=rowOf n g:=List.map_congr_left fun j hj=>h j (List.mem_range.1 hj)
theorem T8 {α:Type} {n:Nat} {f:Nat→α} {j:Nat} {v:α}:(rowOf n f).set j v=rowOf n (fun k=>if k=j then v else f k):=by
 apply List.ext_getElem?
 intro k
 rw[List.getElem?_set]
 by_cases hk:k < n
 ·rw[I4 hk,I4 hk,HN]
  by_cases e:j=k
  ·subst e;simp[hk]
  ·have e':¬ k=j:=fun h=>e h.symm
   simp[e,e']
 ·rw[List.getElem?_eq_none (by rw[HN];omega),List.getElem?_eq_none (by rw[HN];omega),HN]
  by_cases e:j=k
  ·subst e;simp[hk]
  ·simp[e]
def Y8 (h:List Cell) (j:Nat) (w:Int):Bool:=Xd h w && decide ((w - 1000).toNat=j)
def ZM (h:List Cell) (ws:List Int) (j:Nat):Nat:=ws.countP (Y8 h j)
theorem Yn (h:List Cell) (j:Nat):ZM h [] j=0:=rfl
def Ji (l:List Nat):List Int:=List.map (fun n:Nat=>(n:Int)) l
end RC



namespace RC
open Go
theorem Rm (a b:List Nat):Ji (a ++ b)=Ji a ++ Ji b:=by simp[Ji]
theorem OV (a:List Nat):(Ji a).length=a.length:=by simp[Ji]
def mk (m:Nat→Bool) (n i:Nat):List Nat:=(List.range' i (n - i)).filter m
theorem Wy (m:Nat→Bool) (n:Nat):mk m n n=[]:=by simp[mk]
theorem Vx {m:Nat→Bool} {n i:Nat} (hi:i < n):mk m n i=(if m i then [i] else []) ++ mk m n (i+1):=by
 unfold mk
 obtain⟨k,hk⟩ :∃k,n - i=k+1:=⟨n - i - 1,by omega⟩
 rw[hk,List.range'_succ,List.filter_cons,show n - (i+1)=k by omega]
 cases m i <;> simp
theorem UW {m:Nat→Bool} {n j:Nat}:j∈mk m n 0↔j < n∧m j=true:=by simp[mk]
theorem Wu (m:Nat→Bool) (n i:Nat):(mk m n i).length≤n - i:=by
 have:=List.length_filter_le m (List.range' i (n - i))
 simpa [mk] using this
def Re (m:Nat→Bool) (j:Nat):Nat→Bool:=fun k=>m k || decide (k=j)
def Fb (m:Nat→Bool) (l:List Int):Nat→Bool:=fun k=>m k || decide ((k:Int)∈l)
theorem Mo (m:Nat→Bool):Fb m []=m:=by funext k;simp[Fb]
theorem Sn (m:Nat→Bool) (j:Nat) (l:List Int):Fb m ((j:Int) :: l)=Fb (Re m j) l:=by
 funext k
 simp only[Fb,Re,List.mem_cons,Bool.decide_or,Bool.or_assoc]
 congr 2
 exact decide_eq_decide.2 (by omega)
theorem Nz {m:Nat→Bool} {n0:Nat} (hl:n0≤1048576) {N i:Nat} (hi:i≤n0) (hN:n0 - i < N) :∀acc:List Nat,acc.length≤i→Cu (rowOf n0 m) N i (Ji acc)=some (Ji (acc ++ mk m n0 i)):=by
 refine Bl n0 (fun N i=>∀acc:List Nat,acc.length≤i→Cu (rowOf n0 m) N i (Ji acc)=some (Ji (acc ++ mk m n0 i))) ?_ ?_ hi hN
 ·intro n acc _
  rw[Cu,if_neg (by simp[Aa,HN]),Wy,List.append_nil]
 ·intro n i hi ih acc ha
  rw[Cu,if_pos (by simp[Aa,HN];omega),BL (I4 hi)]
  simp only[Option.bind_some]
  rw[BN (by omega) (by omega),show ((i:Int) + 1)=((i+1:Nat):Int) by omega,Vx hi]
  cases m i with
  | false=>simp only[Bool.false_eq_true,if_false,Option.bind_some,List.nil_append];exact ih acc (by omega)
  | true=>
   simp only[if_true]
   rw[GW _ _ 8 (by rw[OV];simp;omega) (by rw[OV];simp;omega)]
   simp only[Option.bind_some]
   have:=ih (acc ++ [i]) (by simp;omega)
   rw[Rm,List.append_assoc] at this
   exact this
theorem PU {m:Nat→Bool} {n:Nat} (hn:n≤1048576) {N:Nat} (hN:2000000≤N):E7 N (rowOf n m)=some (Ji (mk m n 0)):=by
 unfold E7
 have:=Nz (m:=m) hn (Nat.zero_le n) (by omega:n - 0 < N) [] (by simp)
 rw[show ((0:Nat):Int)=0 from rfl,show Ji []=[] from rfl] at this
 rw[this];rfl
theorem Pz (m:Nat→Bool) (a b:List Int):Fb (Fb m a) b=Fb m (a ++ b):=by
 funext k;simp only[Fb,List.mem_append,Bool.decide_or,Bool.or_assoc]
mutual
def JX:AP→List Int | .mk o n k=>(if o=9∨o=10 then [n] else []) ++ HQ k
def HQ:List AP→List Int | []=>[] | e :: l=>JX e ++ HQ l
end
def Ol (e:AP):List Int:=if e.op=9∨e.op=10 then [e.num] else []
theorem NY (e:AP):JX e=Ol e ++ HQ e.kids:=by
 obtain⟨o,n,k⟩:=e
 by_cases h:o=9∨o=10
 ·have h':(AP.mk o n k).op=9∨(AP.mk o n k).op=10:=h
  unfold JX Ol;rw[if_pos h,if_pos h'];rfl
 ·have h':¬ ((AP.mk o n k).op=9∨(AP.mk o n k).op=10):=h
  unfold JX Ol;rw[if_neg h,if_neg h'];rfl
theorem Se {k:List AP} {i:Nat} {e:AP} (h:k[i]?=some e):HQ (k.drop i)=JX e ++ HQ (k.drop (i+1)):=by rw[drop_cons h];simp[HQ]
theorem Tb {k:List AP} {e:AP} (h:e∈k) {x:Int} (hx:x∈JX e):x∈HQ k:=by
 induction k with
 | nil=>cases h
 | cons a r ih=>
  simp only[HQ,List.mem_append]
  rcases List.mem_cons.1 h with rfl | h
  ·exact .inl hx
  ·exact .inr (ih h)
theorem Uq {e:AP}:(if decide (e.op=9)=true then some true else some (decide (e.op=10)))=some (decide (e.op=9∨e.op=10)):=by
 by_cases h:e.op=9 <;> simp[h]
def WT (F:Nat) (l:List Int):Prop:=∀x∈l,0≤x∧x < (F:Int)
theorem Vs {F j:Nat} {m:Nat→Bool}:Sh.put (rowOf F m) (j:Int) true=rowOf F (Re m j):=by
 rw[Pc,T8]
 refine Rs fun k _=>?_
 by_cases h:k=j <;> simp[Re,h]
theorem Ve {N:Nat} (hN:2000000≤N) {F:Nat} (hF:F≤1000) :∀(n:Nat) (e:AP) (m:Nat→Bool),en e≤1000→en e≤n→WT F (JX e)→Ec N n (rowOf F m) e=some (rowOf F (Fb m (JX e))):=by
 intro n
 induction n with
 | zero=>intro e _ _ h;have:=KK e;omega
 | succ n ih=>
  intro e m hz hn hin
  have hk:e.kids.length≤1000:=by have:=IF e.kids;have:=G5 e;omega
  rw[Ec]
  unfold Hn GR
  have key :∀{M i:Nat},i≤e.kids.length→e.kids.length - i < M→∀m:Nat→Bool,DH e (Ec N n) M i (rowOf F m)=some (rowOf F (Fb m (HQ (e.kids.drop i)))):=by
   intro M i hi hM
   refine Bl e.kids.length (fun M i=>∀m:Nat→Bool,DH e (Ec N n) M i (rowOf F m)=some (rowOf F (Fb m (HQ (e.kids.drop i))))) ?_ ?_ hi hM
   ·intro q m;rw[DH,if_neg (by simp[Aa]),List.drop_length];simp[HQ,Mo]
   ·intro q i hi ih2 m
    obtain⟨x,hx,hxm⟩:=Bq hi
    have hxe:=D6 hxm
    rw[Se hx,DH,if_pos (by simp[Aa];omega),BL hx]
    simp only[Option.bind_some]
    rw[ih x m (by omega) (by omega) (fun y hy=>hin y (by rw[NY];exact List.mem_append_right _ (Tb hxm hy)))]
    simp only[Option.bind_some]
    rw[BN (n:=(i:Int) + 1) (by omega) (by omega),show ((i:Int) + 1)=((i+1:Nat):Int) by omega,ih2,Pz]
  rw[Uq]
  simp only[Option.bind_some]
  have e1:(if decide (e.op=9∨e.op=10)=true then Option.bind (Sh.get (rowOf F m) e.num) fun _=>some (Sh.put (rowOf F m) e.num true) else some (rowOf F m))=some (rowOf F (Fb m (Ol e))):=by
   unfold Ol
   by_cases h:e.op=9∨e.op=10
   ·rw[if_pos (by simpa using h),if_pos h]
    have:=hin e.num (by rw[NY];simp[Ol,h])
    obtain⟨j,hj⟩:=Int.eq_ofNat_of_zero_le this.1
    rw[hj,BL (I4 (by omega)),Vs,Sn,Mo];rfl
   ·rw[if_neg (by simpa using h),if_neg h,Mo]
  rw[e1]
  simp only[Option.bind_some]
  have:=key (Nat.zero_le _) (by omega:e.kids.length - 0 < N) (Fb m (Ol e))
  rw[List.drop_zero,show ((0:Nat):Int)=0 from rfl,Pz,← NY] at this
  rw[this];rfl
end RC



namespace RC
open Go
end RC



namespace RC
open Go
structure PO (p:Ai) (F:Nat):Prop where
 len:p.funcs.length=F
 le:F≤4
 sz :∀f∈p.funcs,en f.body≤30
 Yy :∀f∈p.funcs,WT F (JX f.body)
def Rr (p:Ai) (k:Nat):List Int:=match p.funcs[k]? with | some f=>JX f.body | none=>[]
theorem W4 {p:Ai} {F:Nat} (P:PO p F) (k:Nat):WT F (Rr p k):=by
 unfold Rr
 cases h:p.funcs[k]? with
 | none=>intro x hx;cases hx
 | some f=>exact P.Yy f (List.mem_of_getElem? h)
def TK:Nat→Bool:=fun _=>false
def cl (p:Ai) (F k:Nat):List Int:=Ji (mk (Fb TK (Rr p k)) F 0)
theorem Wi {p:Ai} {F k:Nat} (P:PO p F) (x:Int):x∈cl p F k↔x∈Rr p k:=by
 unfold cl
 constructor
 ·intro h
  obtain⟨j,hj,rfl⟩:=List.mem_map.1 h
  have:=(UW.1 hj).2
  simpa [Fb,TK] using this
 ·intro h
  have hin:=W4 P k x h
  obtain⟨j,rfl⟩:=Int.eq_ofNat_of_zero_le hin.1
  exact List.mem_map.2 ⟨j,UW.2 ⟨by omega,by simpa [Fb,TK] using h⟩,rfl⟩
theorem UE {p:Ai} {F k:Nat}:(cl p F k).length≤F:=by unfold cl;rw[OV];have:=Wu (Fb TK (Rr p k)) F 0;omega
theorem VK (F:Nat):List.replicate F false=rowOf F TK:=by
 apply List.ext_getElem?
 intro k
 by_cases h:k < F
 ·rw[I4 h,List.getElem?_replicate,if_pos h];rfl
 ·rw[List.getElem?_eq_none (by simp;omega),List.getElem?_eq_none (by rw[HN];omega)]
theorem Qn {p:Ai} {F k:Nat} (P:PO p F) {f:Ar} (hf:p.funcs[k]?=some f) {N:Nat} (hN:2000000≤N):Fq N p (k:Int)=some (rowOf F (Fb TK (Rr p k))):=by
 have hm:=List.mem_of_getElem? hf
 have hs:=P.sz f hm
 have hF:=P.le
 unfold Fq
 rw[Aa,P.len,Me _ F 1 (by omega) (by omega),VK,BL hf]
 simp only[Option.bind_some]
 unfold KT
 rw[Ve hN (by omega) N f.body TK (by omega) (by omega) (P.Yy f hm)]
 unfold Rr
 rw[hf];rfl
theorem So {p:Ai} {F k:Nat} (P:PO p F) {N:Nat} (hN:2000000≤N):E7 N (rowOf F (Fb TK (Rr p k)))=some (cl p F k):=PU (by have:=P.le;omega) hN
end RC



namespace RC
open Go
end RC



namespace RC
open Go
end RC



namespace RC
open Go
section
variable {p : Ai} {R1 : Ai → List Int → AP → Option Int} {R2 : List Int → BI → AP → Option Int} {T : List Int → AP → Int} {e : AP} {v : List Int} {N : Nat}
theorem Wx (S:GG p.decls p.funcs) {t:Int} (hB:Bd N R1 p v e=some t) (ht:t≠-1) (h:e.op=9∨e.op=10):0≤e.num∧e.num < (p.funcs.length:Int):=by
 have hF:=S.Jo
 by_cases hr:0≤e.num∧e.num≤(p.funcs.length:Int) - 1
 ·omega
 ·exfalso
  apply ht
  have hb:(decide (0≤e.num) && decide (e.num≤(p.funcs.length:Int) - 1))=false:=by
   rw[← Bool.decide_and];exact decide_eq_false hr
  unfold Bd EJ at hB
  rcases h with h | h
  all_goals
   simp only[h,Int.reduceEq,decide_true,decide_false,Bool.false_eq_true,if_true,if_false,Option.bind_some] at hB
   rw[DR,Aa p.funcs,BN (n:=(p.funcs.length:Int) - 1) (by omega) (by omega),hb] at hB
   simpa [Sh.cont] using hB.symm
theorem RN {l:List Int} (h:Ku l≠-1) :∀x∈l,x≠-1:=by
 cases l with
 | nil=>exact absurd rfl h
 | cons a r=>
  simp only[Ku] at h
  by_cases hr:r.all (fun x=>decide (x=a))=true
  ·rw[if_pos hr] at h
   intro x hx
   rcases List.mem_cons.1 hx with rfl | hx
   ·exact h
   ·have:=List.all_eq_true.1 hr x hx
    simp only[decide_eq_true_eq] at this
    rw[this];exact h
  ·rw[if_neg hr] at h;exact absurd rfl h
theorem VR (H:Jp p (E1 p) R1 R2 T (en e)) (V:HX p e v) (S:GG p.decls p.funcs) (hN:2000000≤N) {t:Int} (hB:BM N R2 v (E1 p) e=some t) (ht:t≠-1) :
  ∀k∈e.kids,∃m:List Int,m.length≤3∧(∀x∈m,Db p.decls x=true)∧T (v ++ m) k≠-1:=by
 have hv:v.length≤1000:=by have:=V.len;omega
 have nil :∀k,T v k≠-1→∃m:List Int,m.length≤3∧(∀x∈m,Db p.decls x=true)∧T (v ++ m) k≠-1:=fun k h=>⟨[],by simp,fun x hx=>(by cases hx),by simpa using h⟩
 by_cases h12:e.op=12
 ·unfold BM at hB
  simp only[h12,decide_true,if_true] at hB
  intro k hk
  have:0 < Sh.len e.kids:=by rw[Aa];have:=List.length_pos_of_mem hk;omega
  simp only[this,decide_true,if_true,Option.bind_some,Option.some.injEq] at hB
  exact absurd hB.symm ht
 by_cases h13:e.op=13
 ·unfold BM at hB
  simp only[h13,Int.reduceEq,decide_true,decide_false,Bool.false_eq_true,if_true,if_false] at hB
  by_cases hl:e.kids.length=2
  ·obtain⟨a,b,hk⟩ :∃a b,e.kids=[a,b]:=by
    match hk:e.kids,hl with
    | [a,b],_=>exact⟨a,b,rfl⟩
   have hma:a∈e.kids:=by rw[hk];simp
   have hmb:b∈e.kids:=by rw[hk];simp
   obtain⟨a1,a2,a3⟩:=H v a (V.Ck.kids a hma) (D6 hma) (V.N0 hma) V.L3
   have g0:Sh.get e.kids 0=some a:=by rw[hk];rfl
   have g1:Sh.get e.kids 1=some b:=by rw[hk];rfl
   rw[g0,g1] at hB
   simp only[Option.bind_some,Aa,hl] at hB
   rw[a2] at hB
   simp only[Option.bind_some] at hB
   by_cases hn:e.num=0
   ·by_cases h0:T v a < 0
    ·simp[hn,h0] at hB;exact absurd hB.symm ht
    ·have hty:Db p.decls (T v a)=true:=a3.resolve_left (by omega)
     obtain⟨b1,b2,b3⟩:=H (v ++ [T v a]) b (V.Ck.kids b hmb) (D6 hmb) (V.more hmb (by simp)) (V.Q9 (by simp[hty]))
     rw[GW v [T v a] 8 (by simp;omega) (by simp;omega)] at hB
     simp only[Option.bind_some,b2] at hB
     simp[hn,h0] at hB
     intro k hkm
     rw[hk] at hkm
     simp only[List.mem_cons,List.not_mem_nil,or_false] at hkm
     rcases hkm with rfl | rfl
     ·exact nil _ (by omega)
     ·exact⟨[T v a],by simp,by simp[hty],by rw[hB];exact ht⟩
   ·simp[hn] at hB;exact absurd hB.symm ht
  ·have:¬ ((e.kids.length:Int)=2):=by omega
   simp[Aa,this] at hB;exact absurd hB.symm ht
 by_cases h7:e.op=7
 ·unfold BM at hB
  simp only[h7,Int.reduceEq,decide_true,decide_false,Bool.false_eq_true,if_true,if_false] at hB
  by_cases hl:e.kids.length=3
  ·obtain⟨a,b,c,hk⟩ :∃a b c,e.kids=[a,b,c]:=by
    match hk:e.kids,hl with
    | [a,b,c],_=>exact⟨a,b,c,rfl⟩
   have hma:a∈e.kids:=by rw[hk];simp
   have hmb:b∈e.kids:=by rw[hk];simp
   have hmc:c∈e.kids:=by rw[hk];simp
   obtain⟨a1,a2,a3⟩:=H v a (V.Ck.kids a hma) (D6 hma) (V.N0 hma) V.L3
   have g0:Sh.get e.kids 0=some a:=by rw[hk];rfl
   have g3:Sh.sl e.kids 1 3=some [b,c]:=by rw[hk];rfl
   have o:=JP (ks:=[b,c]) (ms:=[[],[]]) H V hN (by intro k hk;simp only[List.mem_cons,List.not_mem_nil,or_false] at hk;rcases hk with rfl | rfl <;> assumption) (by simp) rfl (by simp)
   have mk2:Sh.mk ([]:List Int) 2 24=some [[],[]]:=Me [] 2 24 (by omega) (by omega)
   rw[g0] at hB
   simp only[Option.bind_some,Aa,hl] at hB
   rw[a2,show ((3:Nat):Int)=3 from rfl,g3,mk2] at hB
   simp only[Option.bind_some] at hB
   rw[o] at hB
   by_cases hn:e.num=0
   ·by_cases h0:T v a=0
    ·simp[hn,h0] at hB
     have hal:=RN (l:=[T v b,T v c]) (by rw[hB];exact ht)
     intro k hkm
     rw[hk] at hkm
     simp only[List.mem_cons,List.not_mem_nil,or_false] at hkm
     rcases hkm with rfl | rfl | rfl
     ·exact nil _ (by omega)
     ·exact nil _ (hal _ (by simp))
     ·exact nil _ (hal _ (by simp))
    ·simp[hn,h0] at hB;exact absurd hB.symm ht
   ·simp[hn] at hB;exact absurd hB.symm ht
  ·have:¬ ((e.kids.length:Int)=3):=by omega
   simp[Aa,this] at hB;exact absurd hB.symm ht
 by_cases h8:e.op=8
 ·have hkl:=V.Kh
  have hD:=S.QC
  have hn:=S.nc
  have hCl:=PY S.WA e.num
  unfold BM at hB
  simp only[h8,Int.reduceEq,decide_true,decide_false,Bool.false_eq_true,if_true,if_false] at hB
  rw[show (E1 p).decls=p.decls from rfl,Ki (by omega) (by omega) hN] at hB
  simp only[Option.bind_some] at hB
  generalize hCe:Ct p.decls e.num=C at hCl hB
  have hCm :∀c∈C,Be N p.decls c=some (FM p.decls c)∧EF N p.decls c=some (FM p.decls c)∧(FM p.decls c).length≤3∧∀x∈FM p.decls c,Db p.decls x=true:=fun c hc=>UO S (hCe ▸ hc) hN
  rw[Aa C,Aa e.kids,BN (n:=1+(C.length:Int)) (by omega) (by omega)] at hB
  by_cases h0:C.length=0
  ·simp[h0] at hB;exact absurd hB.symm ht
  ·have h0':¬ ((C.length:Int)=0):=by omega
   have hne:¬ C=[]:=fun q=>h0 (by rw[q];rfl)
   by_cases h1:e.kids.length=1+C.length
   ·have h1':((e.kids.length:Int)=1+(C.length:Int)):=by omega
    obtain⟨a,r,hks⟩ :∃a r,e.kids=a :: r:=by
     cases hq:e.kids with
     | nil=>rw[hq] at h1;simp at h1;omega
     | cons a r=>exact⟨a,r,rfl⟩
    have hrl:r.length=C.length:=by rw[hks] at h1;simp at h1;omega
    have hma:a∈e.kids:=by rw[hks];simp
    have hmr :∀k∈r,k∈e.kids:=fun k hk=>by rw[hks];simp[hk]
    obtain⟨a1,a2,a3⟩:=H v a (V.Ck.kids a hma) (D6 hma) (V.N0 hma) V.L3
    have g0:Sh.get e.kids 0=some a:=by rw[hks];rfl
    have g3:Sh.sl e.kids 1 (e.kids.length:Int)=some r:=by
     unfold Sh.sl
     rw[if_pos ⟨by omega,by omega,by omega⟩,hks];simp
    have mkC:Sh.mk ([]:List Int) (C.length:Int) 24=some (List.replicate C.length []):=Me [] C.length 24 (by omega) (by omega)
    have o:=JP (ks:=r) (ms:=C.map (FM p.decls)) H V hN hmr (by omega) (by simp[hrl]) (by
     intro m hm
     obtain⟨c,hc,rfl⟩:=List.mem_map.1 hm
     exact (hCm c hc).2.2)
    have FL:=NL (p:=p) S hN hCl fun c hc=>(hCm c hc).2.1
    rw[g0,g3,mkC] at hB
    simp only[Option.bind_some] at hB
    rw[a2,FL] at hB
    simp only[Option.bind_some] at hB
    rw[o] at hB
    by_cases hta:T v a=e.num
    ·simp[hne,h1',hta] at hB
     have hal:=RN (by rw[hB];exact ht)
     intro k hkm
     rw[hks] at hkm
     rcases List.mem_cons.1 hkm with rfl | hkm
     ·refine nil _ fun hq=>?_
      have hneg:e.num=-1:=by rw[← hta];exact hq
      rw[hneg] at hCe
      exact h0 (by rw[← hCe];simp[Ct])
     ·obtain⟨i,hi⟩:=List.mem_iff_getElem?.1 hkm
      have hil:=(List.getElem?_eq_some_iff.1 hi).1
      obtain⟨c,hc,hcm⟩:=Bq (l:=C) (i:=i) (by omega)
      refine⟨FM p.decls c,(hCm c hcm).2.2.1,(hCm c hcm).2.2.2,hal _ (List.mem_iff_getElem?.2 ⟨i,?_⟩)⟩
      rw[List.getElem?_zipWith,List.getElem?_map,hc,hi];rfl
    ·simp[hne,h1',hta] at hB;exact absurd hB.symm ht
   ·have h1':¬ ((e.kids.length:Int)=1+(C.length:Int)):=by omega
    simp[hne,h1'] at hB;exact absurd hB.symm ht
 rw[En H V hN h12 h13 h7 h8] at hB
 by_cases h:(e.kids.map (T v)).any (fun t=>decide (t < 0))=true
 ·rw[if_pos h] at hB;simp at hB;exact absurd hB.symm ht
 ·intro k hk
  refine nil k fun hq=>h ?_
  exact List.any_eq_true.2 ⟨T v k,List.mem_map_of_mem hk,by rw[hq];rfl⟩
end
end RC



namespace RC
open Go
theorem Q4 {x:Int} :∀{l:List AP},x∈HQ l→∃k∈l,x∈JX k
 | [],h=>by cases h
 | a :: r,h=>by
  simp only[HQ,List.mem_append] at h
  rcases h with h | h
  ·exact⟨a,by simp,h⟩
  ·obtain⟨k,hk,hx⟩:=Q4 h
   exact⟨k,by simp[hk],hx⟩
def TT (p:Ai) (N:Nat) (T:List Int→AP→Int):Prop:=∀(v:List Int) (e:AP),A3 e→en e < 31→v.length+3 * en e≤1000→(∀x∈v,Db p.decls x=true)→
  ∀n1 n2,31≤n1→31≤n2→Cg N n1 p v e=some (T v e)∧Bn N n2 v (E1 p) e=some (T v e)∧(T v e=-1∨Db p.decls (T v e)=true)
theorem VZ {p:Ai} (S:GG p.decls p.funcs) {N:Nat} (hN:2000000≤N) {T:List Int→AP→Int} (hT:TT p N T) :∀(n:Nat) (e:AP) (v:List Int),en e≤n→n≤30→HX p e v→T v e≠-1→WT p.funcs.length (JX e):=by
 intro n
 induction n with
 | zero=>intro e _ h;have:=KK e;omega
 | succ n ih=>
  intro e v he hn V ht x hx
  have H:Jp p (E1 p) (Cg N 31) (Bn N 31) T (en e):=fun v e a b c d=>hT v e a (by omega) c d 31 31 (Nat.le_refl _) (Nat.le_refl _)
  obtain⟨q1,q2,_⟩:=hT v e V.Ck (by omega) V.len V.L3 32 32 (by omega) (by omega)
  rw[Cg] at q1
  rw[Bn] at q2
  rw[NY,List.mem_append] at hx
  rcases hx with hx | hx
  ·unfold Ol at hx
   by_cases h:e.op=9∨e.op=10
   ·rw[if_pos h] at hx
    have:x=e.num:=by simpa using hx
    rw[this]
    exact Wx S q1 ht h
   ·rw[if_neg h] at hx;cases hx
  ·obtain⟨k,hk,hxk⟩:=Q4 hx
   have hke:=D6 hk
   obtain⟨m,m1,m2,m3⟩:=VR H V S hN q2 ht k hk
   exact ih k (v ++ m) (by omega) (by omega) ⟨V.more hk m1,V.Q9 m2,by omega,V.Ck.kids k hk⟩ m3 x hxk
theorem VA {p:Ai} (S:GI p) {N:Nat} (hN:2000000≤N) (hv:DP N p=some true):PO p p.funcs.length:=by
 obtain⟨b,h1,_,h3⟩:=Ir S hN
 rw[hv] at h1;cases h1
 obtain⟨SO,hen⟩:=h3 rfl
 obtain⟨T,hT⟩:=RE SO hN 31
 have hl:=S.Jo
 refine⟨rfl,SO.Jo,hen,fun f hf=>?_⟩
 obtain⟨q1,q2,q3⟩:=SO.P2 f hf
 have he:=hen f hf
 have V:HX p f.body f.params:=⟨by omega,q2,by omega,(S.fin hf).body⟩
 have L1:=D4 (l:=p.funcs) (Bx N p) (fun _ f=>H2 p T f) (fun n=>by rw[Bx,if_neg (by simp[Aa])]) (fun n i f hi=>by
  have hil:=(List.getElem?_eq_some_iff.1 hi).1
  have hf:=List.mem_of_getElem? hi
  obtain⟨q1,q2,q3⟩:=SO.P2 f hf
  have he:=hen f hf
  have ty:Ic N p f.params f.body=some (T f.params f.body):=(hT f.params f.body (S.fin hf).body (by omega) (by omega) q2 N N (by omega) (by omega)).1
  rw[Bx,if_pos (by simp[Aa];omega),BL hi]
  simp only[Option.bind_some]
  rw[Gz (S.fz hf).2 hN,BN (by omega) (by omega),show ((i:Int) + 1)=((i+1:Nat):Int) by omega]
  simp only[Option.bind_some]
  unfold H2
  rw[if_pos he,if_neg (by simp),ty]
  by_cases hr:T f.params f.body=f.result <;> simp[he,hr]) (by omega:p.funcs.length < N)
 rw[Eg] at L1
 have hs:p.funcs.all (H2 p T)=true:=by
  unfold DP at hv
  rw[QO S hN] at hv
  simp only[Option.bind_some] at hv
  cases hsg:Qa p with
  | false=>rw[hsg] at hv;simp at hv
  | true=>
   rw[hsg] at hv
   simp only[Bool.not_true,Bool.false_eq_true,if_false] at hv
   rw[L1,D3] at hv
   cases hb:p.funcs.all (H2 p T) with
   | true=>rfl
   | false=>rw[hb] at hv;simp at hv
 have hb:=List.all_eq_true.1 hs f hf
 unfold H2 at hb
 simp only[Bool.and_eq_true,decide_eq_true_eq] at hb
 exact VZ SO hN hT 30 f.body f.params he (Nat.le_refl _) V (by rw[hb.2];have:=(JY q3).1;omega)
end RC


namespace RC
end RC

