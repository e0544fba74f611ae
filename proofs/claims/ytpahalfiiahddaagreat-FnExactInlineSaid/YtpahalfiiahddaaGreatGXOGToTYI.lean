import Derived.Test.YtpahalfiiahddaaGreatGPlainAToXOF
import Derived.Test.YtpahalfiiahddaaGreatGHADefsToINDefs

namespace RC
open Go
theorem Vk {x:Int} :∀{l:List AD},x∈H9 l→∃k∈l,x∈Lc k
 | [],h=>by cases h
 | a :: r,h=>by
  simp only[H9,List.mem_append] at h
  rcases h with h | h
  ·exact⟨a,by simp,h⟩
  ·obtain⟨k,hk,hx⟩:=Vk h
   exact⟨k,by simp[hk],hx⟩
def TT (p:AN) (N:Nat) (T:List Int→AD→Int):Prop:=∀(v:List Int) (e:AD),Bn e→en e < 31→v.length+3 * en e≤1000→(∀x∈v,C1 p.decls x=true)→
  ∀n1 n2,31≤n1→31≤n2→Bo N n1 p v e=some (T v e)∧A9 N n2 v (ET p) e=some (T v e)∧(T v e=-1∨C1 p.decls (T v e)=true)
theorem cK {p:AN} (S:E6 p.decls p.funcs) {N:Nat} (hN:2000000≤N) {T:List Int→AD→Int} (hT:TT p N T) :∀(n:Nat) (e:AD) (v:List Int),en e≤n→n≤30→Gn p e v→T v e≠-1→Ro p.funcs.length (Lc e):=by
 intro n
 induction n with
 | zero=>intro e _ h;have:=Gz e;omega
 | succ n ih=>
  intro e v he hn V ht x hx
  have H:Jd p (ET p) (Bo N 31) (A9 N 31) T (en e):=fun v e a b c d=>hT v e a (by omega) c d 31 31 (Nat.le_refl _) (Nat.le_refl _)
  obtain⟨q1,q2,_⟩:=hT v e V.FE (by omega) V.len V.It 32 32 (by omega) (by omega)
  rw[Bo] at q1
  rw[A9] at q2
  rw[LH,List.mem_append] at hx
  rcases hx with hx | hx
  ·unfold NG at hx
   by_cases h:e.op=9∨e.op=10
   ·rw[if_pos h] at hx
    have:x=e.num:=by simpa using hx
    rw[this]
    exact cj S q1 ht h
   ·rw[if_neg h] at hx;cases hx
  ·obtain⟨k,hk,hxk⟩:=Vk hx
   have hke:=B7 hk
   obtain⟨m,m1,m2,m3⟩:=ba H V S hN q2 ht k hk
   exact ih k (v ++ m) (by omega) (by omega) ⟨V.more hk m1,V.Uc m2,by omega,V.FE.kids k hk⟩ m3 x hxk
theorem Zp {p:AN} (S:Fk p) {N:Nat} (hN:2000000≤N) (hv:Bc N p=some true):PO p p.funcs.length:=by
 obtain⟨b,h1,_,h3⟩:=Gv S hN
 rw[hv] at h1;cases h1
 obtain⟨SO,hen⟩:=h3 rfl
 obtain⟨T,hT⟩:=OV SO hN 31
 have hl:=S.LF
 refine⟨rfl,SO.LF,hen,fun f hf=>?_⟩
 obtain⟨q1,q2,q3⟩:=SO.MN f hf
 have he:=hen f hf
 have V:Gn p f.body f.params:=⟨by omega,q2,by omega,(S.fin hf).body⟩
 have L1:=Cg (l:=p.funcs) (BU N p) (fun _ f=>HS p T f) (fun n=>by rw[BU,if_neg (by simp[AK])]) (fun n i f hi=>by
  have hil:=(List.getElem?_eq_some_iff.1 hi).1
  have hf:=List.mem_of_getElem? hi
  obtain⟨q1,q2,q3⟩:=SO.MN f hf
  have he:=hen f hf
  have ty:JB N p f.params f.body=some (T f.params f.body):=(hT f.params f.body (S.fin hf).body (by omega) (by omega) q2 N N (by omega) (by omega)).1
  rw[BU,if_pos (by simp[AK];omega),At hi]
  simp only[Option.bind_some]
  rw[Hx (S.fz hf).2 hN,A3 (by omega) (by omega),show ((i:Int) + 1)=((i+1:Nat):Int) by omega]
  simp only[Option.bind_some]
  unfold HS
  rw[if_pos he,if_neg (by simp),ty]
  by_cases hr:T f.params f.body=f.result <;> simp[he,hr]) (by omega:p.funcs.length < N)
 rw[Dn] at L1
 have hs:p.funcs.all (HS p T)=true:=by
  unfold Bc at hv
  rw[PX S hN] at hv
  simp only[Option.bind_some] at hv
  cases hsg:RS p with
  | false=>rw[hsg] at hv;simp at hv
  | true=>
   rw[hsg] at hv
   simp only[Bool.not_true,Bool.false_eq_true,if_false] at hv
   rw[L1,De] at hv
   cases hb:p.funcs.all (HS p T) with
   | true=>rfl
   | false=>rw[hb] at hv;simp at hv
 have hb:=List.all_eq_true.1 hs f hf
 unfold HS at hb
 simp only[Bool.and_eq_true,decide_eq_true_eq] at hb
 exact cK SO hN hT 30 f.body f.params he (Nat.le_refl _) V (by rw[hb.2];have:=(J0 q3).1;omega)
theorem TE {p:AN} (S:Fk p) {f:Int} {N:Nat} (hN:2000000≤N) :∃b,G5 N p f=some b∧EW N p f=some b:=by
 obtain⟨b,h1,h2,_⟩:=Gv S hN
 cases b with
 | true=>exact Ut (Zp S hN h1) hN h1 h2
 | false=>
  unfold G5 EW
  rw[h1,h2]
  exact⟨false,by simp,by simp⟩
end RC



namespace RC
open Go
section
variable {p : AN} {R1 : AN → List Int → AD → Option Int} {R2 : List Int → A1 → AD → Option Int} {T : List Int → AD → Int} {e : AD} {v : List Int} {N : Nat}
theorem bI (H:Jd p (ET p) R1 R2 T (en e)) (V:Gn p e v) (h:e.op=13) {a b:AD} (hk:e.kids=[a,b]) (hn:e.num=0) (ha:T v a≠-1) :
  Al N R2 v (ET p) e=some (T (v ++ [T v a]) b)∧C1 p.decls (T v a)=true:=by
 have hv:v.length≤1000:=by have:=V.len;omega
 have hma:a∈e.kids:=by rw[hk];simp
 have hmb:b∈e.kids:=by rw[hk];simp
 obtain⟨a1,a2,a3⟩:=H v a (V.FE.kids a hma) (B7 hma) (V.Jg hma) V.It
 have hty:C1 p.decls (T v a)=true:=a3.resolve_left ha
 have h0:¬ T v a < 0:=by have:=(J0 hty).1;omega
 have g0:Sh.get e.kids 0=some a:=by rw[hk];rfl
 have g1:Sh.get e.kids 1=some b:=by rw[hk];rfl
 obtain⟨b1,b2,b3⟩:=H (v ++ [T v a]) b (V.FE.kids b hmb) (B7 hmb) (V.more hmb (by simp)) (V.Uc (by simp[hty]))
 refine⟨?_,hty⟩
 unfold Al
 simp only[h,Int.reduceEq,decide_true,decide_false,Bool.false_eq_true,if_true,if_false]
 rw[g0,g1]
 have hl:((e.kids.length:Int)=2):=by rw[hk];rfl
 simp only[Option.bind_some,AK,hl,hn,decide_true,Bool.not_true,Bool.false_eq_true,if_false]
 rw[a2]
 simp only[Option.bind_some,h0,decide_false,Bool.false_eq_true,if_false]
 rw[CL v [T v a] 8 (by simp;omega) (by simp;omega)]
 simp only[Option.bind_some,b2]
theorem Xk (H:Jd p (ET p) R1 R2 T (en e)) (V:Gn p e v) (h:e.op=13) {t:Int} (hB:Al N R2 v (ET p) e=some t) (ht:t≠-1) :
  ∃a b,e.kids=[a,b]∧e.num=0∧T v a≠-1∧C1 p.decls (T v a)=true∧t=T (v ++ [T v a]) b:=by
 have hB0:=hB
 unfold Al at hB
 simp only[h,Int.reduceEq,decide_true,decide_false,Bool.false_eq_true,if_true,if_false] at hB
 by_cases hl:e.kids.length=2
 ·obtain⟨a,b,hk⟩ :∃a b,e.kids=[a,b]:=by
   match hk:e.kids,hl with
   | [a,b],_=>exact⟨a,b,rfl⟩
  have hma:a∈e.kids:=by rw[hk];simp
  obtain⟨a1,a2,a3⟩:=H v a (V.FE.kids a hma) (B7 hma) (V.Jg hma) V.It
  by_cases hn:e.num=0
  ·by_cases ha:T v a=-1
   ·exfalso
    have g0:Sh.get e.kids 0=some a:=by rw[hk];rfl
    rw[g0] at hB
    simp only[Option.bind_some,AK,hl] at hB
    rw[a2] at hB
    simp[hn,ha] at hB
    exact ht hB.symm
   ·obtain⟨q1,q2⟩:=bI (N:=N) H V h hk hn ha
    rw[hB0] at q1
    exact⟨a,b,hk,hn,ha,q2,by simpa using q1⟩
  ·simp[hn] at hB;exact absurd hB.symm ht
 ·have:¬ ((e.kids.length:Int)=2):=by omega
  simp[AK,this] at hB;exact absurd hB.symm ht
theorem dS (H:Jd p (ET p) R1 R2 T (en e)) (V:Gn p e v) (hN:2000000≤N) (h:e.op=7) {a b c:AD} (hk:e.kids=[a,b,c]) (hn:e.num=0) (ha:T v a=0) :
  Al N R2 v (ET p) e=some (J6 [T v b,T v c]):=by
 have hma:a∈e.kids:=by rw[hk];simp
 have hmb:b∈e.kids:=by rw[hk];simp
 have hmc:c∈e.kids:=by rw[hk];simp
 obtain⟨a1,a2,a3⟩:=H v a (V.FE.kids a hma) (B7 hma) (V.Jg hma) V.It
 have hl:((e.kids.length:Int)=3):=by rw[hk];rfl
 have g0:Sh.get e.kids 0=some a:=by rw[hk];rfl
 have g3:Sh.sl e.kids 1 3=some [b,c]:=by rw[hk];rfl
 have o:=Iq (ks:=[b,c]) (ms:=[[],[]]) H V hN (by intro k hk;simp only[List.mem_cons,List.not_mem_nil,or_false] at hk;rcases hk with rfl | rfl <;> assumption) (by simp) rfl (by simp)
 have mk2:Sh.mk ([]:List Int) 2 24=some [[],[]]:=Ie [] 2 24 (by omega) (by omega)
 unfold Al
 simp only[h,Int.reduceEq,decide_true,decide_false,Bool.false_eq_true,if_true,if_false]
 rw[g0]
 simp only[Option.bind_some,AK,hl]
 rw[a2,g3,mk2]
 simp only[Option.bind_some]
 rw[o]
 simp[hn,ha]
theorem ca (H:Jd p (ET p) R1 R2 T (en e)) (V:Gn p e v) (hN:2000000≤N) (h:e.op=7) {t:Int} (hB:Al N R2 v (ET p) e=some t) (ht:t≠-1) :
  ∃a b c,e.kids=[a,b,c]∧e.num=0∧T v a=0∧t=T v b∧t=T v c:=by
 have hB0:=hB
 unfold Al at hB
 simp only[h,Int.reduceEq,decide_true,decide_false,Bool.false_eq_true,if_true,if_false] at hB
 by_cases hl:e.kids.length=3
 ·obtain⟨a,b,c,hk⟩ :∃a b c,e.kids=[a,b,c]:=by
   match hk:e.kids,hl with
   | [a,b,c],_=>exact⟨a,b,c,rfl⟩
  have hma:a∈e.kids:=by rw[hk];simp
  obtain⟨a1,a2,a3⟩:=H v a (V.FE.kids a hma) (B7 hma) (V.Jg hma) V.It
  by_cases hn:e.num=0
  ·by_cases ha:T v a=0
   ·have q:=dS H V hN h hk hn ha
    rw[hB0] at q
    have q:t=J6 [T v b,T v c]:=by simpa using q
    have hal:=RH (l:=[T v b,T v c]) (by rw[← q];exact ht)
    rw[Vp] at q
    by_cases hcb:T v c=T v b
    ·rw[if_pos hcb] at q
     exact⟨a,b,c,hk,hn,ha,q,by rw[hcb];exact q⟩
    ·rw[if_neg hcb] at q;exact absurd q ht
   ·exfalso
    have g0:Sh.get e.kids 0=some a:=by rw[hk];rfl
    rw[g0] at hB
    simp only[Option.bind_some,AK,hl] at hB
    rw[a2] at hB
    simp[hn,ha] at hB
    exact ht hB.symm
  ·simp[hn] at hB;exact absurd hB.symm ht
 ·have:¬ ((e.kids.length:Int)=3):=by omega
  simp[AK,this] at hB;exact absurd hB.symm ht
def ZR (D:List Ab) (T:List Int→AD→Int) (v:List Int) (C:List Int) (r:List AD):List Int:=List.zipWith (fun m k=>T (v ++ m) k) (C.map (FW D)) r
theorem Yd (H:Jd p (ET p) R1 R2 T (en e)) (V:Gn p e v) (S:E6 p.decls p.funcs) (hN:2000000≤N) (h8:e.op=8) {a:AD} {r:List AD} (hks:e.kids=a :: r) (h0:Db p.decls e.num≠[]) (hrl:r.length=(Db p.decls e.num).length) (hta:T v a=e.num) :
  Al N R2 v (ET p) e=some (J6 (ZR p.decls T v (Db p.decls e.num) r)):=by
 have hkl:=V.Il
 have hD:=S.NY
 have hn:=S.nc
 have hCl:=Ky S.Tj e.num
 unfold Al
 simp only[h8,Int.reduceEq,decide_true,decide_false,Bool.false_eq_true,if_true,if_false]
 rw[show (ET p).decls=p.decls from rfl,G3 (by omega) (by omega) hN]
 simp only[Option.bind_some]
 generalize hCe:Db p.decls e.num=C at *
 have hCm :∀c∈C,CP N p.decls c=some (FW p.decls c)∧DK N p.decls c=some (FW p.decls c)∧(FW p.decls c).length≤3∧∀x∈FW p.decls c,C1 p.decls x=true:=fun c hc=>Qh S (hCe ▸ hc) hN
 have h1:e.kids.length=1+C.length:=by rw[hks];simp;omega
 have h1':((e.kids.length:Int)=1+(C.length:Int)):=by omega
 have hma:a∈e.kids:=by rw[hks];simp
 have hmr :∀k∈r,k∈e.kids:=fun k hk=>by rw[hks];simp[hk]
 obtain⟨a1,a2,a3⟩:=H v a (V.FE.kids a hma) (B7 hma) (V.Jg hma) V.It
 have g0:Sh.get e.kids 0=some a:=by rw[hks];rfl
 have g3:Sh.sl e.kids 1 (e.kids.length:Int)=some r:=by
  unfold Sh.sl
  rw[if_pos ⟨by omega,by omega,by omega⟩,hks];simp
 have mkC:Sh.mk ([]:List Int) (C.length:Int) 24=some (List.replicate C.length []):=Ie [] C.length 24 (by omega) (by omega)
 have o:=Iq (ks:=r) (ms:=C.map (FW p.decls)) H V hN hmr (by omega) (by simp[hrl]) (by
  intro m hm
  obtain⟨c,hc,rfl⟩:=List.mem_map.1 hm
  exact (hCm c hc).2.2)
 have FL:=My (p:=p) S hN hCl fun c hc=>(hCm c hc).2.1
 rw[AK C,AK e.kids,A3 (n:=1+(C.length:Int)) (by omega) (by omega),g0,g3,mkC]
 simp only[Option.bind_some]
 rw[a2,FL]
 simp only[Option.bind_some]
 rw[o]
 simp[h0,h1',hta,ZR]
theorem Ul (H:Jd p (ET p) R1 R2 T (en e)) (V:Gn p e v) (S:E6 p.decls p.funcs) (hN:2000000≤N) (h8:e.op=8) {t:Int} (hB:Al N R2 v (ET p) e=some t) (ht:t≠-1) :
  ∃a r,e.kids=a :: r∧Db p.decls e.num≠[]∧r.length=(Db p.decls e.num).length∧T v a=e.num∧t=J6 (ZR p.decls T v (Db p.decls e.num) r):=by
 have hB0:=hB
 have hkl:=V.Il
 have hD:=S.NY
 have hn:=S.nc
 have hCl:=Ky S.Tj e.num
 unfold Al at hB
 simp only[h8,Int.reduceEq,decide_true,decide_false,Bool.false_eq_true,if_true,if_false] at hB
 rw[show (ET p).decls=p.decls from rfl,G3 (by omega) (by omega) hN] at hB
 simp only[Option.bind_some] at hB
 have mv:=fun a r=>Yd (a:=a) (r:=r) H V S hN h8
 rw[AK (Db p.decls e.num),AK e.kids,A3 (n:=1+((Db p.decls e.num).length:Int)) (by omega) (by omega)] at hB
 by_cases h0:(Db p.decls e.num)=[]
 ·simp[h0] at hB;exact absurd hB.symm ht
 ·have h0':¬ (((Db p.decls e.num).length:Int)=0):=by
   intro q;exact h0 (List.eq_nil_of_length_eq_zero (by omega))
  by_cases h1:e.kids.length=1+(Db p.decls e.num).length
  ·have h1':((e.kids.length:Int)=1+((Db p.decls e.num).length:Int)):=by omega
   obtain⟨a,r,hks⟩ :∃a r,e.kids=a :: r:=by
    cases hq:e.kids with
    | nil=>rw[hq] at h1;simp at h1;omega
    | cons a r=>exact⟨a,r,rfl⟩
   have hrl:r.length=(Db p.decls e.num).length:=by rw[hks] at h1;simp at h1;omega
   have hma:a∈e.kids:=by rw[hks];simp
   obtain⟨a1,a2,a3⟩:=H v a (V.FE.kids a hma) (B7 hma) (V.Jg hma) V.It
   by_cases hta:T v a=e.num
   ·have q:=mv a r hks h0 hrl hta
    rw[hB0] at q
    exact⟨a,r,hks,h0,hrl,hta,by simpa using q⟩
   ·exfalso
    have g0:Sh.get e.kids 0=some a:=by rw[hks];rfl
    rw[g0] at hB
    simp only[Option.bind_some] at hB
    rw[a2] at hB
    simp[h0,h1',hta] at hB;exact ht hB.symm
  ·have h1':¬ ((e.kids.length:Int)=1+((Db p.decls e.num).length:Int)):=by omega
   simp[h0,h1'] at hB;exact absurd hB.symm ht
theorem Zm {l:List Int} {t:Int} (h:t=J6 l) (ht:t≠-1) :∀x∈l,x=t:=by
 cases l with
 | nil=>intro x hx;cases hx
 | cons a r=>
  simp only[J6] at h
  by_cases hr:r.all (fun x=>decide (x=a))=true
  ·rw[if_pos hr] at h
   intro x hx
   rcases List.mem_cons.1 hx with rfl | hx
   ·exact h.symm
   ·have:=List.all_eq_true.1 hr x hx
    simp only[decide_eq_true_eq] at this
    rw[this,h]
  ·rw[if_neg hr] at h;exact absurd h ht
def Ia (D:List Ab) (o nu:Int) (i:Nat):Nat:=if o=13∧i=1 then 1 else if o=8∧0 < i then (FW D (((Db D nu)[i - 1]?).getD 0)).length else 0
end
end RC



namespace RC
open Go
structure VX (p:AN) (e:AD) (v:List Int):Prop where
 len:v.length+3 * en e≤900
 It :∀x∈v,C1 p.decls x=true
 FE:Bn e
theorem VX.YI {p:AN} {e:AD} {v:List Int} (V:VX p e v):Gn p e v:=⟨by have:=V.len;omega,V.It,by have:=V.len;omega,V.FE⟩
def TX (p:AN) (N:Nat) (T:List Int→AD→Int):Prop:=∀(v:List Int) (e:AD),Bn e→en e < 340→v.length+3 * en e≤1000→(∀x∈v,C1 p.decls x=true)→
  ∀n1 n2,340≤n1→340≤n2→Bo N n1 p v e=some (T v e)∧A9 N n2 v (ET p) e=some (T v e)∧(T v e=-1∨C1 p.decls (T v e)=true)
section
variable {p : AN} {N : Nat} {T : List Int → AD → Int} {e : AD} {v : List Int}
theorem TX.tok (hT:TX p N T) {m:Nat} (hm:m≤340):Jd p (ET p) (Bo N 340) (A9 N 340) T m:=fun v e a b c d=>hT v e a (by omega) c d 340 340 (Nat.le_refl _) (Nat.le_refl _)
theorem TX.bi (hT:TX p N T) (V:VX p e v):Al N (A9 N 340) v (ET p) e=some (T v e):=by
 have h:=V.len
 have:=(hT v e V.FE (by omega) (by omega) V.It 341 341 (by omega) (by omega)).2.1
 rwa [A9] at this
theorem TX.bs (hT:TX p N T) (V:VX p e v):BK N (Bo N 340) p v e=some (T v e):=by
 have h:=V.len
 have:=(hT v e V.FE (by omega) (by omega) V.It 341 341 (by omega) (by omega)).1
 rwa [Bo] at this
theorem TX.H (hT:TX p N T) (V:VX p e v):Jd p (ET p) (Bo N 340) (A9 N 340) T (en e):=hT.tok (by have:=V.len;omega)
theorem VX.Jg (V:VX p e v) {k:AD} (hk:k∈e.kids) {m:List Int} (hm:m.length≤3) (ht :∀x∈m,C1 p.decls x=true):VX p k (v ++ m):=by
 have h:=V.len
 have hke:=B7 hk
 refine⟨by rw[List.length_append];omega,fun x hx=>?_,V.FE.kids k hk⟩
 rcases List.mem_append.1 hx with hx | hx
 ·exact V.It x hx
 ·exact ht x hx
theorem TX.var (hT:TX p N T) (V:VX p e v) (h:e.op=12):T v e=if e.kids=[]∧0≤e.num∧e.num < (v.length:Int) then (v[e.num.toNat]?).getD (-1) else -1:=by
 have q:=hT.bi V
 unfold Al at q
 simp only[h,decide_true,if_true] at q
 by_cases hk:e.kids=[]
 ·rw[hk] at q ⊢
  by_cases h0:e.num < 0
  ·have:¬ (0≤e.num):=by omega
   simp[AK,h0] at q
   simp[this,← q]
  ·by_cases h1:(v.length:Int)≤e.num
   ·have:¬ (e.num < (v.length:Int)):=by omega
    simp[AK,h0,h1] at q
    simp[this,← q]
   ·obtain⟨x,hx1,hx2⟩:=Nf (l:=v) (j:=e.num) (by omega) (by omega)
    have a1:0≤e.num:=by omega
    have a2:e.num < (v.length:Int):=by omega
    simp only[AK,List.length_nil,h0,h1,decide_false,Bool.false_eq_true,if_false,Option.bind_some] at q
    rw[hx1] at q
    rw[if_pos ⟨rfl,a1,a2⟩,hx2]
    simpa using q.symm
 ·have:0 < Sh.len e.kids:=by rw[AK];have:=List.length_pos_iff.2 hk;omega
  simp only[this,decide_true,if_true,Option.bind_some,Option.some.injEq] at q
  simp[hk,← q]
end
mutual
def sh (n k:Int):AD→AD | .mk o nu ks=>.mk o (if o=12∧n≤nu then nu+k else nu) (shl n k ks)
def shl (n k:Int):List AD→List AD | []=>[] | e :: l=>sh n k e :: shl n k l
end
theorem ZP {n k:Int} :∀l,shl n k l=l.map (sh n k)
 | []=>by simp[shl]
 | e :: l=>by simp[shl,ZP l]
theorem UT {n k:Int} (e:AD):sh n k e=.mk e.op (if e.op=12∧n≤e.num then e.num+k else e.num) (e.kids.map (sh n k)):=by cases e;simp only[sh,ZP];rfl
theorem bU {n k:Int} (e:AD):(sh n k e).op=e.op:=by rw[UT];rfl
theorem TP {n k:Int} (e:AD):(sh n k e).num=if e.op=12∧n≤e.num then e.num+k else e.num:=by rw[UT];rfl
theorem QV {n k:Int} (e:AD):(sh n k e).kids=e.kids.map (sh n k):=by rw[UT];rfl
mutual
theorem Ys {n k:Int} :∀e,en (sh n k e)=en e
 | .mk o nu ks=>by simp only[sh,en,XT ks]
theorem XT {n k:Int} :∀l,Cn (shl n k l)=Cn l
 | []=>rfl
 | e :: l=>by simp only[shl,Cn,Ys e,XT l]
end
section
variable {p : AN} {N : Nat} {T : List Int → AD → Int}
def lt (n:Nat):Nat→List AD→AD→AD
 | _,[],b=>b
 | k,x :: r,b=>.mk 13 0 [sh n k x,lt n (k+1) r b]
theorem aw {n:Nat} :∀(xs:List AD) (k:Nat) (b:AD),en (lt n k xs b)=xs.length+Cn xs+en b
 | [],k,b=>by simp[lt,Cn]
 | x :: r,k,b=>by
  simp only[lt,en,Cn,Ys,aw r,List.length_cons];omega
end
end RC



namespace RC
open Go
def ci (D:List Ab) (t c:Int):Nat:=(c - (nc (D.take (t - 1).toNat):Int)).toNat
section
variable {p : AN} {N : Nat} {T : List Int → AD → Int} {e : AD} {v : List Int}
end
end RC



namespace RC
open Go
section
variable {p : AN} {N : Nat} {T : List Int → AD → Int}
theorem UU (S:E6 p.decls p.funcs) (hN:2000000≤N) (hT:TX p N T) {e:AD} {v:List Int} (V:VX p e v) (ht:T v e≠-1) {i:Nat} {k:AD} (hk:e.kids[i]?=some k) :
  ∃m:List Int,m.length=Ia p.decls e.op e.num i∧m.length≤3∧(∀x∈m,C1 p.decls x=true)∧T (v ++ m) k≠-1:=by
 have hB:=hT.bi V
 have nil:Ia p.decls e.op e.num i=0→T v k≠-1→∃m:List Int,m.length=Ia p.decls e.op e.num i∧m.length≤3∧(∀x∈m,C1 p.decls x=true)∧T (v ++ m) k≠-1:=fun hx h=>⟨[],by rw[hx];rfl,by simp,fun x hx=>(by cases hx),by simpa using h⟩
 by_cases h12:e.op=12
 ·have q:=hT.var V h12
  by_cases hr:e.kids=[]∧0≤e.num∧e.num < (v.length:Int)
  ·rw[hr.1] at hk;simp at hk
  ·rw[if_neg hr] at q;exact absurd q ht
 by_cases h13:e.op=13
 ·obtain⟨a,b,q1,q2,q3,q4,q5⟩:=Xk (hT.H V) V.YI h13 hB ht
  rw[q1] at hk
  match i,hk with
  | 0,hk=>simp at hk;subst hk;exact nil (by simp[Ia,h13]) q3
  | 1,hk=>simp at hk;subst hk;exact⟨[T v a],by simp[Ia,h13],by simp,by simp[q4],by rw[← q5];exact ht⟩
 by_cases h7:e.op=7
 ·obtain⟨a,b,c,q1,q2,q3,q4,q5⟩:=ca (hT.H V) V.YI hN h7 hB ht
  have hx:Ia p.decls e.op e.num i=0:=by simp[Ia,h7]
  rw[q1] at hk
  match i,hk with
  | 0,hk=>simp at hk;subst hk;exact nil hx (by rw[q3];omega)
  | 1,hk=>simp at hk;subst hk;exact nil hx (by rw[← q4];exact ht)
  | 2,hk=>simp at hk;subst hk;exact nil hx (by rw[← q5];exact ht)
 by_cases h8:e.op=8
 ·obtain⟨a,r,q1,q2,q3,q4,q5⟩:=Ul (hT.H V) V.YI S hN h8 hB ht
  have hnum:e.num≠-1:=fun q=>q2 (by rw[q];simp[Db])
  rw[q1] at hk
  match i,hk with
  | 0,hk=>simp at hk;subst hk;exact nil (by simp[Ia,h8]) (by rw[q4];exact hnum)
  | i+1,hk=>
   simp only[List.getElem?_cons_succ] at hk
   have hil:=(List.getElem?_eq_some_iff.1 hk).1
   have hc:(Db p.decls e.num)[i]?=some (Db p.decls e.num)[i]:=List.getElem?_eq_getElem (by omega)
   have F:=Qh S (List.mem_of_getElem? hc) hN
   have:=Zm q5 ht (T (v ++ FW p.decls (Db p.decls e.num)[i]) k) (List.mem_iff_getElem?.2 ⟨i,by unfold ZR;rw[List.getElem?_zipWith,List.getElem?_map,hc,hk];rfl⟩)
   exact⟨_,by simp[Ia,h8,hc],F.2.2.1,F.2.2.2,by rw[this];exact ht⟩
 rw[FO (hT.H V) V.YI hN h12 h13 h7 h8] at hB
 by_cases h:(e.kids.map (T v)).any (fun t=>decide (t < 0))=true
 ·rw[if_pos h] at hB;simp at hB;exact absurd hB.symm ht
 ·exact nil (by simp[Ia,h13,h8]) fun hq=>h (List.any_eq_true.2 ⟨T v k,List.mem_map_of_mem (List.mem_of_getElem? hk),by rw[hq];rfl⟩)
end
end RC



namespace RC
open Go
section
variable {p : AN} {N : Nat} {T : List Int → AD → Int}
end
theorem RT {N:Nat} (hN:2000000≤N) {a b:Int} :∀(n:Nat) (e:AD),en e≤n→en e≤1000→Bn (sh a b e)→Fs N n e a b=some (sh a b e):=by
 intro n
 induction n with
 | zero=>intro e h;have:=Gz e;omega
 | succ n ih=>
  intro e hn hs hI
  have hlen:=Fh e.kids
  have he:=FG e
  have hIn:=hI.num
  rw[TP] at hIn
  have hIk:=hI.kids
  rw[QV] at hIk
  rw[Fs]
  unfold J1 JG
  have key :∀(M i:Nat),i≤e.kids.length→e.kids.length - i < M→DY e.kids a b (Fs N n) M i ((e.kids.map (sh a b)).take i)=some (e.kids.map (sh a b)):=by
   intro M i hi hM
   refine BO e.kids.length (fun M i=>DY e.kids a b (Fs N n) M i ((e.kids.map (sh a b)).take i)=some (e.kids.map (sh a b))) ?_ ?_ hi hM
   ·intro m
    rw[DY,if_neg (by simp[AK]),List.take_of_length_le (by simp)]
   ·intro m i hi ih2
    obtain⟨c,hc,hcm⟩:=BV hi
    have h1:=HD hcm
    rw[DY,if_pos (by simp[AK];omega),At hc]
    simp only[Option.bind_some]
    rw[ih c (by omega) (by omega) (hIk _ (List.mem_map_of_mem hcm))]
    simp only[Option.bind_some]
    rw[CL _ _ 40 (by simp;omega) (by simp;omega),A3 (by omega) (by omega),show ((i:Int) + 1)=((i+1:Nat):Int) by omega]
    simp only[Option.bind_some]
    have hm:(e.kids.map (sh a b))[i]?=some (sh a b c):=by rw[List.getElem?_map,hc];rfl
    rw[← B8 hm];exact ih2
  have:=key N 0 (Nat.zero_le _) (by omega)
  rw[List.take_zero,show ((0:Nat):Int)=0 from rfl] at this
  rw[this,UT]
  by_cases h:e.op=12
  ·by_cases h2:a≤e.num
   ·have hc:(if e.op=12∧a≤e.num then e.num+b else e.num)=e.num+b:=if_pos ⟨h,h2⟩
    rw[hc] at hIn ⊢
    simp only[h,h2,decide_true,if_true,Option.bind_some]
    rw[A3 (by unfold GL at hIn;omega) (by unfold GL at hIn;omega)]
   ·have hc:(if e.op=12∧a≤e.num then e.num+b else e.num)=e.num:=if_neg fun q=>h2 q.2
    rw[hc]
    simp[h,h2]
  ·have hc:(if e.op=12∧a≤e.num then e.num+b else e.num)=e.num:=if_neg fun q=>h q.1
   rw[hc]
   simp[h]
theorem Nd {N:Nat} (hN:2000000≤N) {a b:Int} {e:AD} (hs:en e≤1000) (hI:Bn (sh a b e)):KC N e a b=some (sh a b e):=by
 unfold KC;exact RT hN N e (by omega) hs hI
theorem P1 {N:Nat} (hN:2000000≤N) {a b:Int} :∀(n:Nat) (e:AD),en e≤n→en e≤1000→Bn (sh a b e)→Cq N n e a b=some (sh a b e):=by
 intro n
 induction n with
 | zero=>intro e h;have:=Gz e;omega
 | succ n ih=>
  intro e hn hs hI
  have hlen:=Fh e.kids
  have he:=FG e
  have hIn:=hI.num
  rw[TP] at hIn
  have hIk:=hI.kids
  rw[QV] at hIk
  rw[Cq]
  unfold G7
  have key :∀(M i:Nat),i≤e.kids.length→e.kids.length - i < M→Br e a b (Cq N n) M i ((e.kids.map (sh a b)).take i)=some (e.kids.map (sh a b)):=by
   intro M i hi hM
   refine BO e.kids.length (fun M i=>Br e a b (Cq N n) M i ((e.kids.map (sh a b)).take i)=some (e.kids.map (sh a b))) ?_ ?_ hi hM
   ·intro m
    rw[Br,if_neg (by simp[AK]),List.take_of_length_le (by simp)]
   ·intro m i hi ih2
    obtain⟨c,hc,hcm⟩:=BV hi
    have h1:=HD hcm
    rw[Br,if_pos (by simp[AK];omega),At hc]
    simp only[Option.bind_some]
    rw[ih c (by omega) (by omega) (hIk _ (List.mem_map_of_mem hcm))]
    simp only[Option.bind_some]
    rw[CL _ _ 40 (by simp;omega) (by simp;omega),A3 (by omega) (by omega),show ((i:Int) + 1)=((i+1:Nat):Int) by omega]
    simp only[Option.bind_some]
    have hm:(e.kids.map (sh a b))[i]?=some (sh a b c):=by rw[List.getElem?_map,hc];rfl
    rw[← B8 hm];exact ih2
  have:=key N 0 (Nat.zero_le _) (by omega)
  rw[List.take_zero,show ((0:Nat):Int)=0 from rfl] at this
  rw[this,UT]
  by_cases h:e.op=12
  ·by_cases h2:a≤e.num
   ·have hc:(if e.op=12∧a≤e.num then e.num+b else e.num)=e.num+b:=if_pos ⟨h,h2⟩
    rw[hc] at hIn ⊢
    simp only[h,h2,decide_true,if_true,Option.bind_some]
    rw[A3 (by unfold GL at hIn;omega) (by unfold GL at hIn;omega)]
   ·have hc:(if e.op=12∧a≤e.num then e.num+b else e.num)=e.num:=if_neg fun q=>h2 q.2
    rw[hc]
    simp[h,h2]
  ·have hc:(if e.op=12∧a≤e.num then e.num+b else e.num)=e.num:=if_neg fun q=>h q.1
   rw[hc]
   simp[h]
theorem MJ {N:Nat} (hN:2000000≤N) {a b:Int} {e:AD} (hs:en e≤1000) (hI:Bn (sh a b e)):FH N e a b=some (sh a b e):=by
 unfold FH;exact P1 hN N e (by omega) hs hI
theorem ZN {n:Nat} :∀(xs ys:List AD) (k:Nat) (b:AD),lt n k (xs ++ ys) b=lt n k xs (lt n (k+xs.length) ys b)
 | [],ys,k,b=>by simp[lt]
 | x :: xs,ys,k,b=>by
  simp only[List.cons_append,lt,ZN xs,List.length_cons]
  rw[show k+1+xs.length=k+(xs.length+1) by omega]
theorem Xm {n:Nat} {l:List AD} {i:Nat} {x:AD} (h:l[i]?=some x) (b:AD):lt n 0 (l.take i) (.mk 13 0 [sh n i x,b])=lt n 0 (l.take (i+1)) b:=by
 have hil:=(List.getElem?_eq_some_iff.1 h).1
 rw[B8 h,ZN,List.length_take,Nat.min_eq_left (by omega),Nat.zero_add];rfl
theorem LK {N:Nat} (hN:2000000≤N) {n:Nat} {l:List AD} (hl :∀(i:Nat) x,l[i]?=some x→en x≤1000∧Bn (sh n i x)) :∀(i:Nat) (b:AD),i≤l.length→E5 N l (n:Int) i b=some (lt n 0 (l.take i) b)
 | 0,b,_=>by rw[E5,List.take_zero];rfl
 | i+1,b,hi=>by
  obtain⟨x,hx,_⟩:=BV (l:=l) (i:=i) (by omega)
  obtain⟨h1,h2⟩:=hl i x hx
  rw[E5,At hx]
  simp only[Option.bind_some]
  rw[MJ hN h1 h2]
  simp only[Option.bind_some]
  rw[LK hN hl i _ (by omega),Xm hx]
theorem Sq {N:Nat} (hN:2000000≤N) {n:Nat} {l:List AD} {b:AD} (hll:l.length≤1000) (hl :∀(i:Nat) x,l[i]?=some x→en x≤1000∧Bn (sh n i x)):I5 N b.kids l b.op b.num (n:Int)=some (lt n 0 l b):=by
 unfold I5
 rw[if_pos (by omega),← Hy,LK hN hl l.length b (Nat.le_refl _),List.take_length]
theorem L6 {N:Nat} (hN:2000000≤N) {n:Nat} {l:List AD} (hll:l.length≤1000) (hl :∀(i:Nat) x,l[i]?=some x→en x≤1000∧Bn (sh n i x)) :∀(i:Nat) (b:AD) (M:Nat),i≤l.length→i < M→Fm N l (n:Int) M ((i:Int) - 1) b.op b.num b.kids=some ((lt n 0 (l.take i) b).op,(lt n 0 (l.take i) b).num,(lt n 0 (l.take i) b).kids)
 | 0,b,M,_,hM=>by
  obtain⟨M,rfl⟩ :∃m,M=m+1:=⟨M - 1,by omega⟩
  rw[Fm,if_neg (by simp),List.take_zero];rfl
 | i+1,b,M,hi,hM=>by
  obtain⟨M,rfl⟩ :∃m,M=m+1:=⟨M - 1,by omega⟩
  obtain⟨x,hx,_⟩:=BV (l:=l) (i:=i) (by omega)
  obtain⟨h1,h2⟩:=hl i x hx
  have e:((i+1:Nat):Int) - 1=(i:Int):=by omega
  rw[Fm,e,if_pos (by simp),At hx]
  simp only[Option.bind_some]
  rw[Nd hN h1 h2]
  simp only[Option.bind_some]
  rw[← Hy,A3 (by omega) (by omega)]
  have:=L6 hN hll hl i (.mk 13 0 [sh n i x,b]) M (by omega) (by omega)
  rw[Xm hx] at this
  exact this
theorem VD {N:Nat} (hN:2000000≤N) {n:Nat} {l:List AD} {b:AD} (hll:l.length≤1000) (hl :∀(i:Nat) x,l[i]?=some x→en x≤1000∧Bn (sh n i x)):LA N l b (n:Int)=some (lt n 0 l b):=by
 unfold LA
 rw[AK,A3 (by omega) (by omega),L6 hN hll hl l.length b N (Nat.le_refl _) (by omega),List.take_length]
 simp only[Option.bind_some]
 rw[← Hy]
end RC



namespace RC
open Go
section
variable {p : AN} {N : Nat} {T : List Int → AD → Int}
theorem VS (S:E6 p.decls p.funcs) (hN:2000000≤N) (hT:TX p N T) {e:AD} {v:List Int} (V:VX p e v) (ht:T v e≠-1) {i:Nat} (hi:i < e.kids.length) :
  IM N p e i v.length=some ((v.length+Ia p.decls e.op e.num i:Nat):Int)∧
  (Option.bind (if (decide (e.op=13))=true then some (decide ((i:Int)=1)) else some false) fun t23=>if t23=true then some (Sh.w ((v.length:Int) + 1)) else Option.bind (if (decide (e.op=8))=true then some (decide (0 < (i:Int))) else some false) fun t27=>if t27=true then Option.bind (Gt N p.decls e.num) fun q30=>Option.bind (Sh.get q30 (Sh.w ((i:Int) - 1))) fun c31=>Option.bind (DK N p.decls c31) fun q32=>some (Sh.w ((v.length:Int) + (Sh.len q32))) else some (v.length:Int))=some ((v.length+Ia p.decls e.op e.num i:Nat):Int):=by
 have hlv:=V.len
 have hD:=S.NY
 have hnc:=S.nc
 have hkl:=Fh e.kids
 have hen:=FG e
 unfold IM
 by_cases h13:e.op=13
 ·obtain⟨a,b,q1,_⟩:=Xk (hT.H V) V.YI h13 (hT.bi V) ht
  rw[q1] at hi
  match i,hi with
  | 0,_=>simp[h13,Ia]
  | 1,_=>
   have hw:Sh.w ((v.length:Int) + 1)=((v.length+1:Nat):Int):=by rw[A3 (by omega) (by omega)];rfl
   simp[h13,Ia,hw]
 by_cases h8:e.op=8
 ·obtain⟨a,r,q1,q2,q3,q4,q5⟩:=Ul (hT.H V) V.YI S hN h8 (hT.bi V) ht
  rw[q1] at hi
  match i,hi with
  | 0,_=>simp[h8,Ia]
  | i+1,hi=>
   simp only[List.length_cons] at hi
   have hcl:=Ky S.Tj e.num
   have hc:(Db p.decls e.num)[i]?=some (Db p.decls e.num)[i]:=List.getElem?_eq_getElem (by omega)
   have F:=Qh S (List.mem_of_getElem? hc) hN
   have f3:=F.2.2.1
   have hx:Ia p.decls e.op e.num (i+1)=(FW p.decls (Db p.decls e.num)[i]).length:=by simp[Ia,h8,hc]
   have e1:Sh.w (((i+1:Nat):Int) - 1)=(i:Int):=by rw[A3 (by omega) (by omega)];omega
   have e2:Sh.w ((v.length:Int) + ((FW p.decls (Db p.decls e.num)[i]).length:Int))=((v.length+Ia p.decls e.op e.num (i+1):Nat):Int):=by rw[A3 (by omega) (by omega),hx];omega
   have n0:¬ ((i+1:Nat):Int)=0:=by omega
   have n1:(0:Int) < ((i+1:Nat):Int):=by omega
   rw[e1,NA (by omega) (by omega) hN,G3 (by omega) (by omega) hN]
   simp only[h8,n0,n1,Int.reduceEq,decide_true,decide_false,Bool.false_eq_true,if_true,if_false,Option.bind_some]
   rw[At hc]
   simp only[Option.bind_some]
   rw[F.1,F.2.1]
   simp only[Option.bind_some,AK]
   rw[e2,h8]
   exact⟨rfl,rfl⟩
 ·have hx:Ia p.decls e.op e.num i=0:=by simp[Ia,h13,h8]
  rw[hx]
  simp[h13,h8]
end
end RC



namespace RC
open Go
def fe (o n:Int):List AD→AD
 | c :: d :: k=>if o=11∧c.op=10 then .mk 9 c.num (c.kids ++ [d]) else .mk o n (c :: d :: k)
 | k=>.mk o n k
mutual
def kn:AD→AD | .mk o n k=>fe o n (er k)
def er:List AD→List AD | []=>[] | e :: l=>kn e :: er l
end
def K2 (e:AD):Prop:=e.op=11→2≤e.kids.length
end RC



namespace RC
open Go
end RC



namespace RC
open Go
end RC



namespace RC
open Go
theorem XF {N:Nat} (hN:2000000≤N) :∀(n:Nat) (e:AD),en e≤n→en e≤1000→Bn e→Cq N n e 0 0=some e:=by
 intro n
 induction n with
 | zero=>intro e h;have:=Gz e;omega
 | succ n ih=>
  intro e hn hs hI
  have hlen:=Fh e.kids
  have he:=FG e
  obtain⟨n1,n2⟩:=hI.num
  rw[Cq]
  unfold G7
  have key :∀(M i:Nat),i≤e.kids.length→e.kids.length - i < M→Br e 0 0 (Cq N n) M i (e.kids.take i)=some e.kids:=by
   intro M i hi hM
   refine BO e.kids.length (fun M i=>Br e 0 0 (Cq N n) M i (e.kids.take i)=some e.kids) ?_ ?_ hi hM
   ·intro m
    rw[Br,if_neg (by simp[AK]),List.take_length]
   ·intro m i hi ih2
    obtain⟨c,hc,hcm⟩:=BV hi
    have h1:=HD hcm
    rw[Br,if_pos (by simp[AK];omega),At hc]
    simp only[Option.bind_some]
    rw[ih c (by omega) (by omega) (hI.kids c hcm)]
    simp only[Option.bind_some]
    rw[CL _ _ 40 (by simp;omega) (by simp;omega),A3 (by omega) (by omega),show ((i:Int) + 1)=((i+1:Nat):Int) by omega]
    simp only[Option.bind_some]
    rw[← B8 hc];exact ih2
  have:=key N 0 (Nat.zero_le _) (by omega)
  rw[List.take_zero,show ((0:Nat):Int)=0 from rfl] at this
  rw[this,Int.add_zero,A3 (by omega) (by omega)]
  have hn:(Option.bind (
   Option.bind (
    if (decide (e.op=12))=true then
     some (decide (0≤e.num))
    else
     some false
   ) fun t25=>
   if t25=true then
    some e.num
   else
    some e.num
  ) fun f3=>(some e.kids).bind fun l11=>some (AD.mk e.op f3 l11))=some (AD.mk e.op e.num e.kids):=by
   by_cases h:e.op=12
   ·rw[if_pos (by simpa using h)];simp
   ·rw[if_neg (by simpa using h)];simp
  rw[hn,← Hy]
theorem U0 {N:Nat} (hN:2000000≤N) {e:AD} (hs:en e≤1000) (hI:Bn e):HF N e=some e:=by
 unfold HF FH
 rw[XF hN N e (by omega) hs hI];rfl
end RC



namespace RC
open Go
theorem Rb {N:Nat} (hN:2000000≤N) {p:AN} (hd:p.decls.length≤1048576) (hz :∀d∈p.decls,dz d≤1048576) (hf:p.funcs.length≤1048576) (hb :∀f∈p.funcs,f.params.length≤1048576∧en f.body≤1000∧Bn f.body):F5 N p=some p:=by
 unfold F5
 rw[Ty hd hz hN]
 simp only[Option.bind_some]
 have key :∀(M i:Nat),i≤p.funcs.length→p.funcs.length - i < M→CB N p M i (p.funcs.take i)=some p.funcs:=by
  intro M i hi hM
  refine BO p.funcs.length (fun M i=>CB N p M i (p.funcs.take i)=some p.funcs) ?_ ?_ hi hM
  ·intro m
   rw[CB,if_neg (by simp[AK]),List.take_length]
  ·intro m i hi ih
   obtain⟨f,hf1,hfm⟩:=BV hi
   obtain⟨b1,b2,b3⟩:=hb f hfm
   rw[CB,if_pos (by simp[AK];omega),At hf1]
   simp only[Option.bind_some]
   have hcl:BW f.params=some f.params:=by
    unfold BW
    rw[CL _ _ _ (by simp;omega) (by simp;omega)];rfl
   rw[hcl,U0 hN b2 b3]
   simp only[Option.bind_some]
   rw[CL _ _ 72 (by simp;omega) (by simp;omega),A3 (by omega) (by omega),show ((i:Int) + 1)=((i+1:Nat):Int) by omega]
   simp only[Option.bind_some]
   have e:Ah.mk f.params f.result f.body=f:=by cases f;rfl
   rw[e,← B8 hf1];exact ih
 have:=key N 0 (Nat.zero_le _) (by omega)
 rw[List.take_zero,show ((0:Nat):Int)=0 from rfl] at this
 rw[this]
 cases p;rfl
end RC



namespace RC
open Go
end RC



namespace RC
open Go
end RC



namespace RC
open Go
end RC



namespace RC
open Go
section
variable {p : AN} {R1 : AN → List Int → AD → Option Int} {R2 : List Int → A1 → AD → Option Int} {T : List Int → AD → Int} {e : AD} {v : List Int} {N : Nat}
end
theorem cA {p:AN} (S:Fk p) {N:Nat} (hN:2000000≤N) (hv:Bc N p=some true):E6 p.decls p.funcs∧∃T,TT p N T∧∀f∈p.funcs,en f.body≤30∧Gn p f.body f.params∧C1 p.decls f.result=true∧T f.params f.body=f.result:=by
 obtain⟨b,h1,_,h3⟩:=Gv S hN
 rw[hv] at h1;cases h1
 obtain⟨SO,hen⟩:=h3 rfl
 obtain⟨T,hT⟩:=OV SO hN 31
 have hl:=S.LF
 refine⟨SO,T,hT,fun f hf=>?_⟩
 obtain⟨q1,q2,q3⟩:=SO.MN f hf
 have he:=hen f hf
 have V:Gn p f.body f.params:=⟨by omega,q2,by omega,(S.fin hf).body⟩
 have L1:=Cg (l:=p.funcs) (BU N p) (fun _ f=>HS p T f) (fun n=>by rw[BU,if_neg (by simp[AK])]) (fun n i f hi=>by
  have hil:=(List.getElem?_eq_some_iff.1 hi).1
  have hf:=List.mem_of_getElem? hi
  obtain⟨q1,q2,q3⟩:=SO.MN f hf
  have he:=hen f hf
  have ty:JB N p f.params f.body=some (T f.params f.body):=(hT f.params f.body (S.fin hf).body (by omega) (by omega) q2 N N (by omega) (by omega)).1
  rw[BU,if_pos (by simp[AK];omega),At hi]
  simp only[Option.bind_some]
  rw[Hx (S.fz hf).2 hN,A3 (by omega) (by omega),show ((i:Int) + 1)=((i+1:Nat):Int) by omega]
  simp only[Option.bind_some]
  unfold HS
  rw[if_pos he,if_neg (by simp),ty]
  by_cases hr:T f.params f.body=f.result <;> simp[he,hr]) (by omega:p.funcs.length < N)
 rw[Dn] at L1
 have hs:p.funcs.all (HS p T)=true:=by
  unfold Bc at hv
  rw[PX S hN] at hv
  simp only[Option.bind_some] at hv
  cases hsg:RS p with
  | false=>rw[hsg] at hv;simp at hv
  | true=>
   rw[hsg] at hv
   simp only[Bool.not_true,Bool.false_eq_true,if_false] at hv
   rw[L1,De] at hv
   cases hb:p.funcs.all (HS p T) with
   | true=>rfl
   | false=>rw[hb] at hv;simp at hv
 have hb:=List.all_eq_true.1 hs f hf
 unfold HS at hb
 simp only[Bool.and_eq_true,decide_eq_true_eq] at hb
 exact⟨he,V,q3,hb.2⟩
end RC



namespace RC
open Go
def wE (e:AD):Nat:=2 * en e
theorem cY (l:List AD):(l.map wE).sum=2 * Cn l:=by
 induction l with
 | nil=>rfl
 | cons a l ih=>simp[Cn,ih,wE];omega
def MX (rec:List AD→Int→Option (Int×List AD)) (rech:List AD→Int→Option Int) (l:List AD):Prop:=∀k:Nat,k+2 * Cn l≤20000000→∃(k':Nat) (l':List AD),k'≤k+2 * Cn l∧rec l k=some ((k':Int),l')∧rech l' k=some (k':Int)
theorem ZA {N:Nat} (hN:2000000≤N) :∀(m:Nat) (l:List AD),Cn l≤1048576→Cn l < m→MX (ED N m) (EE N m) l:=by
 intro m
 induction m with
 | zero=>intro l _ h;omega
 | succ m ih=>
  intro l hl hm k hk
  have hlen:=Fh l
  rw[← cY] at hk ⊢
  rw[ED]
  unfold Ha
  obtain⟨k',l',h1,h2,h3⟩:=Wo (L:=C5 (ED N m)) (H:=fun l=>C2 l (EE N m)) (wt:=wE) (ok:=fun e=>MX (ED N m) (EE N m) e.kids) (fun n k l=>by rw[C5,if_neg (by simp[AK])]) (fun l n k=>by rw[C2,if_neg (by simp[AK])]) (fun n k A x C hA hx hk=>by
   unfold wE at hk ⊢
   rw[FG] at hk ⊢
   obtain⟨o,nu,kd⟩:=x
   simp only[AD.kids] at hx hk ⊢
   obtain⟨k1,l1,g1,g2,g3⟩:=hx (k+1+1) (by omega)
   refine⟨k1,.mk (k:Int) ((k+1:Nat):Int) l1,by omega,?_,fun q E=>?_⟩
   ·rw[C5,if_pos (by simp[AK];omega),FB (n:=k) (by omega),FB (n:=k+1) (by omega),FB (n:=A.length) (by omega)]
    simp only[GP,JP,Option.bind_some,AD.op,AD.num,AD.kids]
    rw[g2]
    simp only[Option.bind_some]
   ·rw[C2,if_pos (by simp[AK];omega),GP]
    simp only[Option.bind_some,AD.op,AD.num,AD.kids]
    rw[FB (n:=k) (by omega),FB (n:=k+1) (by omega),FB (n:=A.length) (by omega),g3]
    simp only[decide_true,Bool.not_true,Bool.false_eq_true,if_false,Option.bind_some]
    rw[if_neg (by simp <;> omega)]) hN (by omega) (fun e he=>by
    have h1:=HD he
    have h2:=FG e
    exact ih e.kids (by omega) (by omega)) hk
  refine⟨k',l',h1,?_,?_⟩
  ·rw[h2];rfl
  ·rw[EE]
   unfold Hd
   rw[h3];rfl
theorem bD {N:Nat} (hN:2000000≤N) {l:List AD} (hl:Cn l≤1048576):MX (IU N) (IV N) l:=by
 unfold IU IV
 exact ZA hN N l hl (by omega)
def fM (f:Ah):Nat:=f.params.length+1+2+2 * Cn f.body.kids
theorem bd {l:List Ah} {k N:Nat} (hN:2000000≤N) (hl:l.length≤1048576) (hok :∀f∈l,JT f≤1048576) (hk:k+(l.map fM).sum≤20000000) :∃(k':Nat) (l':List Ah),k'≤k+(l.map fM).sum∧G4 N l k=some ((k':Int),l')∧HB N l' k=some (k':Int):=by
 obtain⟨k',l',h1,h2,h3⟩:=Wo (L:=Dg N) (H:=Dx N) (wt:=fM) (ok:=fun f=>JT f≤1048576) (fun n k l=>by rw[Dg,if_neg (by simp[AK])]) (fun l n k=>by rw[Dx,if_neg (by simp[AK])]) (fun n k A x C hA hx hk=>by
  unfold JT at hx
  unfold fM at hk ⊢
  obtain⟨pa,re,bo⟩:=x
  obtain⟨o,nu,kd⟩:=bo
  simp only[AD.kids] at hx hk ⊢
  have e1:=QG (l:=pa) (by omega) (k:=k) (by omega) hN
  have f1:=Qn (m:=pa.length) (by omega) (k:=k) (by omega) hN
  obtain⟨k1,l1,g1,g2,g3⟩:=bD hN (l:=kd) (by omega) (k+pa.length+1+1+1) (by omega)
  refine⟨k1,⟨Lw k pa.length,((k+pa.length:Nat):Int),.mk ((k+pa.length+1:Nat):Int) ((k+pa.length+1+1:Nat):Int) l1⟩,by omega,?_,fun m E=>?_⟩
  ·rw[Dg,if_pos (by simp[AK];omega),FB (n:=A.length) (by omega)]
   simp only[GP,JP,Option.bind_some]
   rw[e1]
   simp only[GP,JP,Option.bind_some]
   rw[FB (n:=k+pa.length) (by omega),FB (n:=k+pa.length+1) (by omega),FB (n:=k+pa.length+1+1) (by omega)]
   simp only[AD.op,AD.num,AD.kids]
   rw[g2]
   simp only[GP,JP,Option.bind_some]
  ·rw[Dx,if_pos (by simp[AK];omega),GP,FB (n:=A.length) (by omega)]
   simp only[Option.bind_some]
   rw[f1]
   simp only[Option.bind_some]
   rw[if_neg (by simp <;> omega),FB (n:=k+pa.length) (by omega),FB (n:=k+pa.length+1) (by omega),FB (n:=k+pa.length+1+1) (by omega)]
   simp only[AD.op,AD.num,AD.kids]
   rw[g3]
   simp only[decide_true,Bool.not_true,Bool.false_eq_true,if_false,Option.bind_some]
   rw[if_neg (by simp <;> omega)]) hN hl hok hk
 refine⟨k',l',h1,?_,?_⟩
 ·unfold G4
  rw[h2];rfl
 ·unfold HB
  rw[h3];rfl
theorem UF {p:AN} (hp:LN p≤1048576) {N:Nat} (hN:2000000≤N) :∃(k:Nat) (d:List Ab) (r:List Ah),Fa N p.decls p.funcs 1=some ((k:Int),d,r)∧FY N ⟨d,r⟩ 1=some (k:Int):=by
 unfold LN at hp
 have s1:(p.decls.map Z9).sum≤2 * p.decls.length+1 * (p.decls.map dz).sum:=Mq fun d _=>by unfold Z9 dz;omega
 have s2:(p.funcs.map fM).sum≤3 * p.funcs.length+2 * (p.funcs.map JT).sum:=Mq fun f _=>by unfold fM JT;omega
 obtain⟨k1,d,g1,g2,g3⟩:=cH (l:=p.decls) (k:=1) hN (by omega) (fun d hd=>by have:=Fx dz hd;omega) (by omega)
 obtain⟨k2,r,g4,g5,g6⟩:=bd (l:=p.funcs) (k:=k1) hN (by omega) (fun d hd=>by have:=Fx JT hd;omega) (by omega)
 refine⟨k2,d,r,?_,?_⟩
 ·unfold Fa
  rw[show (1:Int)=((1:Nat):Int) from rfl,g2]
  simp only[Option.bind_some]
  rw[g5];rfl
 ·unfold FY
  rw[show (1:Int)=((1:Nat):Int) from rfl,g3]
  simp only[Option.bind_some]
  rw[if_neg (by simp <;> omega),g6]
  simp only[Option.bind_some]
  rw[if_neg (by simp <;> omega)]
end RC



namespace RC
open Go
end RC



namespace RC
open Go
theorem V4 {N:Nat} (hN:2000000≤N) :∀(n:Nat) (e:AD),en e≤n→en e≤1000→Di N n e=some e:=by
 intro n
 induction n with
 | zero=>intro e h;have:=Gz e;omega
 | succ n ih=>
  intro e hn hs
  have hlen:=Fh e.kids
  have he:=FG e
  rw[Di]
  unfold Gu HZ
  have key :∀(M i:Nat),i≤e.kids.length→e.kids.length - i < M→CW e.kids (Di N n) M i (e.kids.take i)=some e.kids:=by
   intro M i hi hM
   refine BO e.kids.length (fun M i=>CW e.kids (Di N n) M i (e.kids.take i)=some e.kids) ?_ ?_ hi hM
   ·intro m
    rw[CW,if_neg (by simp[AK]),List.take_length]
   ·intro m i hi ih2
    obtain⟨c,hc,hcm⟩:=BV hi
    have h1:=HD hcm
    rw[CW,if_pos (by simp[AK];omega),At hc]
    simp only[Option.bind_some]
    rw[ih c (by omega) (by omega)]
    simp only[Option.bind_some]
    rw[CL _ _ 40 (by simp;omega) (by simp;omega),A3 (by omega) (by omega),show ((i:Int) + 1)=((i+1:Nat):Int) by omega]
    simp only[Option.bind_some]
    rw[← B8 hc];exact ih2
  have:=key N 0 (Nat.zero_le _) (by omega)
  rw[List.take_zero,show ((0:Nat):Int)=0 from rfl] at this
  rw[this]
  simp only[Option.bind_some]
  rw[← Hy]
theorem U2 {N:Nat} (hN:2000000≤N) {e:AD} (hs:en e≤1000):Hs N e=some e:=by
 unfold Hs;exact V4 hN N e (by omega) hs
def wB (p:AN) (g:Ah→AD):AN×Bool:=if (p.funcs.all fun f=>decide (en (g f)≤30))=true then (.mk p.decls (p.funcs.map fun f=>.mk f.params f.result (g f)),true) else (.mk [] [],false)
theorem Sm {N:Nat} (hN:2000000≤N) {p:AN} {g:Ah→AD} (hd:p.decls.length≤1048576) (hz :∀d∈p.decls,dz d≤1048576) (hf:p.funcs.length≤1048576) (hb :∀f∈p.funcs,f.params.length≤1048576∧en (g f)≤1000):F3 N p (p.funcs.map g)=some (wB p g):=by
 unfold F3
 rw[VB hd hz hN]
 simp only[Option.bind_some]
 have key :∀(M i:Nat),i≤p.funcs.length→p.funcs.length - i < M→CE N p (p.funcs.map g) M i ((p.funcs.map fun f=>Ah.mk f.params f.result (g f)).take i)=some (if ((p.funcs.drop i).all fun f=>decide (en (g f)≤30))=true then Sum.inr (p.funcs.map fun f=>Ah.mk f.params f.result (g f)) else Sum.inl (.mk [] [],false)):=by
  intro M i hi hM
  refine BO p.funcs.length (fun M i=>CE N p (p.funcs.map g) M i ((p.funcs.map fun f=>Ah.mk f.params f.result (g f)).take i)=some (if ((p.funcs.drop i).all fun f=>decide (en (g f)≤30))=true then Sum.inr (p.funcs.map fun f=>Ah.mk f.params f.result (g f)) else Sum.inl (.mk [] [],false))) ?_ ?_ hi hM
  ·intro m
   rw[CE,if_neg (by simp[AK]),List.take_of_length_le (by simp),List.drop_length];rfl
  ·intro m i hi ih
   obtain⟨f,hf1,hfm⟩:=BV hi
   obtain⟨hbp,hs⟩:=hb f hfm
   have hze:=FG (g f)
   have hm0:(p.funcs.map g)[i]?=some (g f):=by rw[List.getElem?_map,hf1];rfl
   have hm:(p.funcs.map fun f=>Ah.mk f.params f.result (g f))[i]?=some (Ah.mk f.params f.result (g f)):=by rw[List.getElem?_map,hf1];rfl
   rw[CE,if_pos (by simp[AK];omega),At hm0,drop_cons hf1,List.all_cons]
   simp only[Option.bind_some]
   rw[Hx (by omega) hN]
   simp only[Option.bind_some]
   by_cases h30:en (g f)≤30
   ·rw[if_pos h30,if_neg (by simp),At hf1]
    simp only[Option.bind_some,h30,decide_true,Bool.true_and]
    have hci:Dk f.params=some f.params:=by
     unfold Dk
     rw[CL _ _ _ (by simp;omega) (by simp;omega)];rfl
    rw[hci,U2 hN (by omega)]
    simp only[Option.bind_some]
    rw[CL _ _ 72 (by simp;omega) (by simp;omega),A3 (by omega) (by omega),show ((i:Int) + 1)=((i+1:Nat):Int) by omega]
    simp only[Option.bind_some]
    rw[← B8 hm];exact ih
   ·rw[if_neg h30]
    simp[h30]
 have:=key N 0 (Nat.zero_le _) (by omega)
 rw[List.take_zero,show ((0:Nat):Int)=0 from rfl,List.drop_zero] at this
 rw[this]
 unfold wB
 by_cases h:(p.funcs.all fun f=>decide (en (g f)≤30))=true
 ·rw[if_pos h,if_pos h];rfl
 ·rw[if_neg h,if_neg h];rfl
theorem cM {p:AN} {g:Ah→AD} (hp:LN p≤1048576) (h4:p.funcs.length≤4) (hz:LN p≤500000∨∀f∈p.funcs,f.params.length≤3) (hdz:p.decls.length+(p.decls.map dz).sum≤500000):LN (wB p g).1≤1048576:=by
 unfold wB
 split
 ·rename_i h
  rw[List.all_eq_true] at h
  unfold LN at hp hz ⊢
  simp only[List.length_map,List.map_map]
  have:(p.funcs.map (JT ∘ fun f=>Ah.mk f.params f.result (g f))).sum≤30 * p.funcs.length+1 * (p.funcs.map JT).sum:=Mq fun f hf=>by
   have:=h f hf
   simp only[decide_eq_true_eq] at this
   have h2:=FG (g f)
   show f.params.length+Cn (g f).kids≤_
   unfold JT;omega
  rcases hz with hz | hz
  ·omega
  ·have h5:(p.funcs.map (JT ∘ fun f=>Ah.mk f.params f.result (g f))).sum≤33 * p.funcs.length+0 * (p.funcs.map JT).sum:=Mq fun f hf=>by
    have:=h f hf
    simp only[decide_eq_true_eq] at this
    have h2:=FG (g f)
    have h3:=hz f hf
    show f.params.length+Cn (g f).kids≤_
    omega
   omega
 ·simp[LN]
section
variable {p : AN} {N : Nat}
theorem Xe (S:Fk p) (hN:2000000≤N) (hv:Bc N p=some true):E6 p.decls p.funcs∧∃T,TX p N T∧∀f∈p.funcs,en f.body≤30∧f.params.length≤3∧(∀x∈f.params,C1 p.decls x=true)∧Bn f.body∧C1 p.decls f.result=true∧T f.params f.body=f.result:=by
 obtain⟨SO,T0,hT0,h⟩:=cA S hN hv
 obtain⟨T,hT⟩:=OV SO hN 340
 refine⟨SO,T,hT,fun f hf=>?_⟩
 obtain⟨he,V,ty,hb⟩:=h f hf
 have hp:=(SO.MN f hf).1
 refine⟨he,hp,V.It,V.FE,ty,?_⟩
 have a:=(hT0 f.params f.body V.FE (by omega) (by omega) V.It 340 340 (by omega) (by omega)).1
 have b:=(hT f.params f.body V.FE (by omega) (by omega) V.It 340 340 (Nat.le_refl _) (Nat.le_refl _)).1
 rw[a] at b
 rw[← hb];exact (Option.some.inj b).symm
end
theorem Vv {p:AN} (S:Fk p) {N:Nat} (hN:2000000≤N) (hv:Bc N p=some true):p.funcs.length≤4∧(∀f∈p.funcs,f.params.length≤3)∧p.decls.length+(p.decls.map dz).sum≤500000:=by
 obtain⟨SO,_⟩:=Xe S hN hv
 refine⟨SO.LF,fun f hf=>(SO.MN f hf).1,?_⟩
 have hD:=SO.NY
 have:(p.decls.map dz).sum≤100 * p.decls.length+0 * (p.decls.map dz).sum:=Mq fun d hd=>by
  have h1:=SO.Tj d hd
  have h2:(d.cons.map cz).sum≤30 * d.cons.length+0 * (d.cons.map cz).sum:=Mq fun c hc=>by
   have:=(SO.NK d hd c hc).1
   unfold cz;omega
  unfold dz;omega
 omega
end RC



namespace RC
open Go
mutual
def MB (B:Int):AD→Prop | .mk o n k=>(o=12→0≤n∧n≤B)∧aL B k
def aL (B:Int):List AD→Prop | []=>True | e :: l=>MB B e∧aL B l
end
theorem Xy {B:Int} :∀{l:List AD},aL B l→∀e∈l,MB B e
 | [],_,e,h=>by cases h
 | a :: l,h,e,he=>by
  unfold aL at h
  rcases List.mem_cons.1 he with rfl | he
  ·exact h.1
  ·exact Xy h.2 e he
theorem ZO {B:Int} :∀{l:List AD},(∀e∈l,MB B e)→aL B l
 | [],_=>trivial
 | a :: l,h=>by unfold aL;exact⟨h a (by simp),ZO fun e he=>h e (by simp[he])⟩
theorem dw {B:Int} {e:AD} (h1:e.op=12→0≤e.num∧e.num≤B) (h2 :∀k∈e.kids,MB B k):MB B e:=by cases e;unfold MB;exact⟨h1,ZO h2⟩
theorem MB.n {B:Int} {e:AD} (h:MB B e):e.op=12→0≤e.num∧e.num≤B:=by cases e;unfold MB at h;exact h.1
theorem MB.Jg {B:Int} {e k:AD} (h:MB B e) (hk:k∈e.kids):MB B k:=by cases e;unfold MB at h;exact Xy h.2 k hk
structure QB (B:Int) (e:AD):Prop where
 FE:Bn e
 mb:MB B e
theorem QB.Jg {B:Int} {e k:AD} (h:QB B e) (hk:k∈e.kids):QB B k:=⟨h.FE.kids k hk,h.mb.Jg hk⟩
theorem QB.of {B:Int} {e:AD} (h0:GL e.op) (h1:GL e.num) (h2:e.kids.length≤9223372036854775807) (h3:e.op=12→0≤e.num∧e.num≤B) (h4 :∀k∈e.kids,QB B k):QB B e:=
 ⟨.mk h0 h1 h2 fun k hk=>(h4 k hk).FE,dw h3 fun k hk=>(h4 k hk).mb⟩
theorem QB.mono {B C:Int} (hBC:B≤C) :∀(n:Nat) (e:AD),en e≤n→QB B e→QB C e:=by
 intro n
 induction n with
 | zero=>intro e h;have:=Gz e;omega
 | succ n ih=>
  intro e hn h
  exact .of h.FE.op h.FE.num h.FE.Il (fun h12=>by have:=h.mb.n h12;omega) fun k hk=>ih k (by have:=B7 hk;omega) (h.Jg hk)
theorem QB.up {B C:Int} {e:AD} (h:QB B e) (hBC:B≤C):QB C e:=QB.mono hBC (en e) e (Nat.le_refl _) h
theorem WT {B a k:Int} (hk:0≤k) (hB:B+k≤4611686018427387904) :∀(n:Nat) (e:AD),en e≤n→QB B e→QB (B+k) (sh a k e):=by
 intro n
 induction n with
 | zero=>intro e h;have:=Gz e;omega
 | succ n ih=>
  intro e hn h
  have hnum:=h.FE.num
  refine .of (by rw[bU];exact h.FE.op) ?_ (by rw[QV];simpa using h.FE.Il) (fun h12=>?_) fun x hx=>?_
  ·rw[TP]
   by_cases h12:e.op=12
   ·have:=h.mb.n h12
    split
    ·unfold GL;omega
    ·exact hnum
   ·rw[if_neg (fun q=>h12 q.1)];exact hnum
  ·rw[bU] at h12
   have:=h.mb.n h12
   rw[TP]
   split <;> omega
  ·rw[QV] at hx
   obtain⟨y,hy,rfl⟩:=List.mem_map.1 hx
   exact ih y (by have:=B7 hy;omega) (h.Jg hy)
theorem az {B:Int} {n:Nat} :∀(xs:List AD) (c:Nat) (b:AD),B+c+xs.length≤4611686018427387904→(∀x∈xs,QB B x)→QB (B+c+xs.length) b→QB (B+c+xs.length) (lt n c xs b)
 | [],c,b,_,_,hb=>hb
 | x :: r,c,b,hB,hx,hb=>by
  simp only[List.length_cons] at hB hb ⊢
  have h1:=WT (a:=(n:Int)) (k:=(c:Int)) (by omega) (by omega) (en x) x (Nat.le_refl _) (hx x (by simp))
  have h2:=az (B:=B) (n:=n) r (c+1) b (by omega) (fun y hy=>hx y (by simp[hy])) (by
   refine hb.up ?_
   omega)
  refine .of (show GL 13 by unfold GL;omega) (show GL 0 by unfold GL;omega) (by simp[lt,AD.kids]) (fun h12=>?_) fun k hk=>?_
  ·have:(13:Int)=12:=h12
   omega
  ·simp only[lt,AD.kids,List.mem_cons,List.not_mem_nil,or_false] at hk
   rcases hk with rfl | rfl
   ·exact h1.up (by omega)
   ·exact h2.up (by omega)
def Up (fi:Int) (body:AD) (n:Nat) (o nu:Int) (l:List AD):AD:=if o=9∧nu=fi then lt n 0 l (sh 0 n body) else .mk o nu l
mutual
def inl (D:List Ab) (fi:Int) (body:AD) (n:Nat):AD→AD
 | .mk o nu k=>Up fi body n o nu (IF D fi body n o nu 0 k)
def IF (D:List Ab) (fi:Int) (body:AD) (n:Nat) (o nu:Int):Nat→List AD→List AD
 | _,[]=>[]
 | i,e :: l=>inl D fi body (n+Ia D o nu i) e :: IF D fi body n o nu (i+1) l
end
theorem Vy {D:List Ab} {fi:Int} {body:AD} {n:Nat} (e:AD):inl D fi body n e=Up fi body n e.op e.num (IF D fi body n e.op e.num 0 e.kids):=by cases e;rw[inl];rfl
theorem SA {D:List Ab} {fi:Int} {body:AD} {n:Nat} {o nu:Int} :∀(l:List AD) (i:Nat),(IF D fi body n o nu i l).length=l.length
 | [],_=>rfl
 | e :: l,i=>by simp[IF,SA l]
theorem Rr {D:List Ab} {fi:Int} {body:AD} {n:Nat} {o nu:Int} :∀(l:List AD) (j i:Nat),(IF D fi body n o nu j l)[i]?=(l[i]?).map (inl D fi body (n+Ia D o nu (j+i)))
 | [],j,i=>by simp[IF]
 | e :: l,j,0=>by simp[IF]
 | e :: l,j,i+1=>by
  simp only[IF,List.getElem?_cons_succ]
  rw[Rr l (j+1) i,show j+1+i=j+(i+1) by omega]
section
variable {p : AN} {N : Nat} {T : List Int → AD → Int}
theorem Va (S:E6 p.decls p.funcs) (hN:2000000≤N) (hT:TX p N T) :∀(c:Nat) (e:AD) (v:List Int),en e≤c→VX p e v→T v e≠-1→QB 1000 e:=by
 intro c
 induction c with
 | zero=>intro e _ h;have:=Gz e;omega
 | succ c ih=>
  intro e v hc V ht
  have hl:=V.len
  refine .of V.FE.op V.FE.num V.FE.Il (fun h12=>?_) fun k hk=>?_
  ·have q:=hT.var V h12
   by_cases hr:e.kids=[]∧0≤e.num∧e.num < (v.length:Int)
   ·have h1:=hr.2.1
    have h2:=hr.2.2
    omega
   ·rw[if_neg hr] at q;exact absurd q ht
  ·obtain⟨i,hi⟩:=List.mem_iff_getElem?.1 hk
   obtain⟨m,m1,m2,m3,m4⟩:=UU S hN hT V ht hi
   exact ih k (v ++ m) (by have:=B7 hk;omega) (V.Jg hk m2 m3) m4
theorem UG (S:E6 p.decls p.funcs) (hN:2000000≤N) (hT:TX p N T) {e:AD} {v:List Int} (V:VX p e v) (h:e.op=9) (ht:T v e≠-1) :∃f,p.funcs[e.num.toNat]?=some f∧0≤e.num∧e.num < (p.funcs.length:Int)∧e.kids.map (T v)=f.params∧T v e=f.result:=by
 have hF:=S.LF
 have q:=hT.bs V
 unfold BK EK at q
 simp only[h,Int.reduceEq,decide_true,decide_false,Bool.false_eq_true,if_true,if_false,Option.bind_some] at q
 rw[C3,AK p.funcs,A3 (n:=(p.funcs.length:Int) - 1) (by omega) (by omega)] at q
 rcases WU (p:=p) (n:=e.num) with ⟨f,f0,f1,f2,f3,f4,f5⟩ | hr
 ·have f1'':e.num≤(p.funcs.length:Int) - 1:=by omega
  rw[f4] at q
  simp only[h,Int.reduceEq,decide_true,decide_false,Bool.false_eq_true,if_true,if_false,Option.bind_some,f0,f1'',Bool.and_self,Bool.not_true] at q
  rw[OW (hT.H V) V.YI hN] at q
  by_cases b:e.kids.map (T v)=f.params
  ·simp[b,Sh.cont] at q
   exact⟨f,f2,f0,f1,b,q.symm⟩
  ·simp[b,Sh.cont] at q
   exact absurd q.symm ht
 ·have:(decide (0≤e.num) && decide (e.num≤(p.funcs.length:Int) - 1))=false:=by
   rw[Bool.and_eq_false_iff,decide_eq_false_iff_not,decide_eq_false_iff_not];omega
  rw[this] at q
  simp[Sh.cont] at q
  exact absurd q.symm ht
theorem ZV (S:E6 p.decls p.funcs) (hN:2000000≤N) (hT:TX p N T) {fi:Int} {body:AD} (hb:QB 1000 body) (Gp:en body≤30) :∀(c:Nat) (e:AD) (v:List Int),en e≤c→en e≤30→VX p e v→v.length+3 * en e≤200→T v e≠-1→
  QB (2000 * en e) (inl p.decls fi body v.length e)∧en (inl p.decls fi body v.length e)≤33 * en e∧(∀k∈IF p.decls fi body v.length e.op e.num 0 e.kids,QB (2000 * Cn e.kids) k)∧Cn (IF p.decls fi body v.length e.op e.num 0 e.kids)≤33 * Cn e.kids:=by
 intro c
 induction c with
 | zero=>intro e _ h;have:=Gz e;omega
 | succ c ih=>
  intro e v hc h30 V hlv ht
  have he:=FG e
  have K :∀(i:Nat) k,e.kids[i]?=some k→QB (2000 * en k) (inl p.decls fi body (v.length+Ia p.decls e.op e.num i) k)∧en (inl p.decls fi body (v.length+Ia p.decls e.op e.num i) k)≤33 * en k:=fun i k hk=>by
   obtain⟨m,m1,m2,m3,m4⟩:=UU S hN hT V ht hk
   have hke:=B7 (List.mem_of_getElem? hk)
   have:=ih k (v ++ m) (by omega) (by omega) (V.Jg (List.mem_of_getElem? hk) m2 m3) (by rw[List.length_append];omega) m4
   rw[List.length_append,m1] at this
   exact⟨this.1,this.2.1⟩
  have hsz :∀(l:List AD) (j:Nat),(∀i k,l[i]?=some k→en (inl p.decls fi body (v.length+Ia p.decls e.op e.num (j+i)) k)≤33 * en k)→Cn (IF p.decls fi body v.length e.op e.num j l)≤33 * Cn l:=by
   intro l
   induction l with
   | nil=>intro j _;simp[IF,Cn]
   | cons a l ihl=>
    intro j h
    have h0:=h 0 a rfl
    have h1:=ihl (j+1) (fun i k hk=>by have:=h (i+1) k hk;rwa [show j+1+i=j+(i+1) by omega])
    simp only[IF,Cn]
    rw[Nat.add_zero] at h0
    omega
  have sz:=hsz e.kids 0 (fun i k hk=>by rw[Nat.zero_add];exact (K i k hk).2)
  have hkk :∀k∈IF p.decls fi body v.length e.op e.num 0 e.kids,QB (2000 * Cn e.kids) k:=fun k hk=>by
   obtain⟨i,hi⟩:=List.mem_iff_getElem?.1 hk
   rw[Rr,Nat.zero_add,Option.map_eq_some_iff] at hi
   obtain⟨k0,hk0,rfl⟩:=hi
   have:=HD (List.mem_of_getElem? hk0)
   exact (K i k0 hk0).1.up (by omega)
  have hll:=SA (D:=p.decls) (fi:=fi) (body:=body) (n:=v.length) (o:=e.op) (nu:=e.num) e.kids 0
  refine⟨?_,?_,hkk,sz⟩
  ·rw[Vy]
   unfold Up
   split
   ·rename_i h9
    obtain⟨f,f1,f2,f3,f4,f5⟩:=UG S hN hT V h9.1 ht
    have hp:=(S.MN f (List.mem_of_getElem? f1)).1
    have hlk:e.kids.length≤3:=by rw[← f4,List.length_map] at hp;exact hp
    have hbsh:=WT (a:=0) (k:=(v.length:Int)) (by omega) (by omega) (en body) body (Nat.le_refl _) hb
    have:=az (B:=2000 * Cn e.kids+1500) (n:=v.length) (IF p.decls fi body v.length e.op e.num 0 e.kids) 0 (sh 0 v.length body) (by omega) (fun x hx=>(hkk x hx).up (by omega)) (hbsh.up (by omega))
    exact this.up (by omega)
   ·exact .of V.FE.op V.FE.num (by show (IF p.decls fi body v.length e.op e.num 0 e.kids).length≤_;rw[hll];exact V.FE.Il) (fun h12=>by
     have q:=Va S hN hT (en e) e v (Nat.le_refl _) V ht
     have h:=q.mb.n h12
     show 0≤e.num∧e.num≤_
     omega) (fun k hk=>(hkk k hk).up (by omega))
  ·rw[Vy]
   unfold Up
   split
   ·rename_i h9
    obtain⟨f,f1,f2,f3,f4,f5⟩:=UG S hN hT V h9.1 ht
    have hp:=(S.MN f (List.mem_of_getElem? f1)).1
    have hlk:e.kids.length≤3:=by rw[← f4,List.length_map] at hp;exact hp
    rw[aw,Ys,hll]
    omega
   ·rw[en];omega
theorem dK {B:Int} {n:Nat} {l:List AD} (hB:B≤1000000) (hl:l.length≤100) (hs:Cn l≤1000) (h :∀x∈l,QB B x) :∀(i:Nat) x,l[i]?=some x→en x≤1000∧Bn (sh n i x):=by
 intro i x hx
 have hil:=(List.getElem?_eq_some_iff.1 hx).1
 have hm:=List.mem_of_getElem? hx
 have he:=HD hm
 exact⟨by omega,(WT (a:=(n:Int)) (k:=(i:Int)) (by omega) (by omega) (en x) x (Nat.le_refl _) (h x hm)).FE⟩
theorem aA (S:E6 p.decls p.funcs) (hN:2000000≤N) (hT:TX p N T) {fi:Int} {fb:Ah} (hfb:Sh.get p.funcs fi=some fb) (hb:QB 1000 fb.body) (Gp:en fb.body≤30) :∀(c:Nat) (e:AD) (v:List Int),en e≤c→en e≤30→VX p e v→v.length+3 * en e≤200→T v e≠-1→
  Ex N c p fi e v.length=some (inl p.decls fi fb.body v.length e)∧CD N c e.kids fi p.decls p.funcs p.decls e.op e.num v.length=some (inl p.decls fi fb.body v.length e,fi):=by
 intro c
 induction c with
 | zero=>intro e _ h;have:=Gz e;omega
 | succ c ih=>
  intro e v hc h30 V hlv ht
  obtain⟨i1,i2,i3,i4⟩:=ZV S hN hT (fi:=fi) hb Gp (en e) e v (Nat.le_refl _) h30 V hlv ht
  have hlen:=Fh e.kids
  have he:=FG e
  have hfl:(IF p.decls fi fb.body v.length e.op e.num 0 e.kids).length=e.kids.length:=SA _ _
  have eta:Up fi fb.body v.length e.op e.num (IF p.decls fi fb.body v.length e.op e.num 0 e.kids)=inl p.decls fi fb.body v.length e:=(Vy e).symm
  have hLi :∀(i:Nat) k,e.kids[i]?=some k→(IF p.decls fi fb.body v.length e.op e.num 0 e.kids)[i]?=some (inl p.decls fi fb.body (v.length+Ia p.decls e.op e.num i) k):=fun i k hk=>by
   rw[Rr,hk,Nat.zero_add];rfl
  generalize IF p.decls fi fb.body v.length e.op e.num 0 e.kids=L at *
  have K :∀(i:Nat) k,e.kids[i]?=some k→Ex N c p fi k ((v.length+Ia p.decls e.op e.num i:Nat):Int)=some (inl p.decls fi fb.body (v.length+Ia p.decls e.op e.num i) k)∧CD N c k.kids fi p.decls p.funcs p.decls k.op k.num ((v.length+Ia p.decls e.op e.num i:Nat):Int)=some (inl p.decls fi fb.body (v.length+Ia p.decls e.op e.num i) k,fi):=fun i k hk=>by
   obtain⟨m,m1,m2,m3,m4⟩:=UU S hN hT V ht hk
   have hke:=B7 (List.mem_of_getElem? hk)
   have:=ih k (v ++ m) (by omega) (by omega) (V.Jg (List.mem_of_getElem? hk) m2 m3) (by rw[List.length_append];omega) m4
   rw[List.length_append,m1] at this
   exact this
  have hbsh:=(WT (a:=0) (k:=(v.length:Int)) (by omega) (by omega) (en fb.body) fb.body (Nat.le_refl _) hb).FE
  have hlsh:=dK (n:=v.length) (l:=L) (B:=2000 * Cn e.kids) (by omega) (by omega) (by omega) i3
  constructor
  ·rw[Ex]
   unfold JY
   have key :∀(M i:Nat),i≤e.kids.length→e.kids.length - i < M→DX N p fi e v.length (Ex N c) M i (L.take i)=some L:=by
    intro M i hi hM
    refine BO e.kids.length (fun M i=>DX N p fi e v.length (Ex N c) M i (L.take i)=some L) ?_ ?_ hi hM
    ·intro m
     rw[DX,if_neg (by simp[AK]),List.take_of_length_le (by omega)]
    ·intro m i hi ih2
     obtain⟨k,hk,hkm⟩:=BV hi
     rw[DX,if_pos (by simp[AK];omega),At hk]
     simp only[Option.bind_some]
     rw[(VS S hN hT V ht hi).1]
     simp only[Option.bind_some]
     rw[(K i k hk).1]
     simp only[Option.bind_some]
     rw[CL _ _ 40 (by simp;omega) (by simp;omega),A3 (by omega) (by omega),show ((i:Int) + 1)=((i+1:Nat):Int) by omega]
     simp only[Option.bind_some]
     rw[← B8 (hLi i k hk)];exact ih2
   have:=key N 0 (Nat.zero_le _) (by omega)
   rw[List.take_zero,show ((0:Nat):Int)=0 from rfl] at this
   rw[this]
   by_cases h9:e.op=9
   ·by_cases hn:e.num=fi
    ·have hv:inl p.decls fi fb.body v.length e=lt v.length 0 L (sh 0 v.length fb.body):=by rw[← eta];unfold Up;rw[if_pos ⟨h9,hn⟩]
     rw[hv]
     simp only[h9,hn,decide_true,if_true,Option.bind_some]
     rw[hfb]
     simp only[Option.bind_some]
     rw[Nd hN (by omega) hbsh]
     simp only[Option.bind_some]
     rw[VD hN (by omega) hlsh];rfl
    ·have hv:inl p.decls fi fb.body v.length e=.mk e.op e.num L:=by rw[← eta];unfold Up;rw[if_neg (fun q=>hn q.2)]
     rw[hv]
     simp[h9,hn]
   ·have hv:inl p.decls fi fb.body v.length e=.mk e.op e.num L:=by rw[← eta];unfold Up;rw[if_neg (fun q=>h9 q.1)]
    rw[hv]
    simp[h9]
  ·rw[CD]
   unfold F8
   have key :∀(M i:Nat),i≤e.kids.length→e.kids.length - i < M→Bs N e.kids p.decls p.funcs p.decls e.op e.num v.length (CD N c) M i (L.take i ++ e.kids.drop i) fi=some (L,fi):=by
    intro M i hi hM
    refine BO e.kids.length (fun M i=>Bs N e.kids p.decls p.funcs p.decls e.op e.num v.length (CD N c) M i (L.take i ++ e.kids.drop i) fi=some (L,fi)) ?_ ?_ hi hM
    ·intro m
     rw[Bs,if_neg (by simp[AK]),List.drop_length,List.append_nil,List.take_of_length_le (by omega)]
    ·intro m i hi ih2
     obtain⟨k,hk,hkm⟩:=BV hi
     have hl:(L.take i).length=i:=by simp;omega
     have hget:Sh.get (L.take i ++ e.kids.drop i) (i:Int)=some k:=by
      rw[Np,List.getElem?_append_right (by omega),hl,Nat.sub_self,List.getElem?_drop,Nat.add_zero,hk]
     have hput:Sh.put (L.take i ++ e.kids.drop i) (i:Int) (inl p.decls fi fb.body (v.length+Ia p.decls e.op e.num i) k)=L.take (i+1) ++ e.kids.drop (i+1):=by
      rw[Hm,List.set_append_right _ _ (by omega),hl,Nat.sub_self,drop_cons hk,List.set_cons_zero,B8 (hLi i k hk),List.append_assoc];rfl
     rw[Bs,if_pos (by simp[AK];omega),(VS S hN hT V ht hi).2]
     simp only[Option.bind_some]
     rw[hget]
     simp only[Option.bind_some]
     rw[(K i k hk).2]
     simp only[Option.bind_some]
     rw[hput,A3 (by omega) (by omega),show ((i:Int) + 1)=((i+1:Nat):Int) by omega]
     exact ih2
   have:=key N 0 (Nat.zero_le _) (by omega)
   rw[List.take_zero,List.nil_append,List.drop_zero,show ((0:Nat):Int)=0 from rfl] at this
   rw[this]
   simp only[Option.bind_some]
   unfold JC
   by_cases h9:e.op=9
   ·by_cases hn:e.num=fi
    ·have hv:inl p.decls fi fb.body v.length e=lt v.length 0 L (sh 0 v.length fb.body):=by rw[← eta];unfold Up;rw[if_pos ⟨h9,hn⟩]
     rw[hv]
     simp only[h9,hn,decide_true,Bool.not_true,Bool.false_eq_true,if_false,Option.bind_some]
     rw[hfb]
     simp only[Option.bind_some]
     rw[MJ hN (by omega) hbsh]
     simp only[Option.bind_some]
     rw[Sq hN (by omega) hlsh];rfl
    ·have hv:inl p.decls fi fb.body v.length e=.mk e.op e.num L:=by rw[← eta];unfold Up;rw[if_neg (fun q=>hn q.2)]
     rw[hv]
     simp[h9,hn]
   ·have hv:inl p.decls fi fb.body v.length e=.mk e.op e.num L:=by rw[← eta];unfold Up;rw[if_neg (fun q=>h9 q.1)]
    rw[hv]
    simp[h9]
end
end RC

