import Derived.Test.YtobjlimoekffaaaGreatIVC

namespace RC
open Go
theorem I8 {α:Type} {g:Nat→α→Bool} :∀(l:List α) (k:Nat),Bk g k l=true↔∀(i:Nat) x,l[i]?=some x→g (k+i) x=true
 | [],k=>by simp[Bk]
 | y :: r,k=>by
  rw[Bk,Bool.and_eq_true,I8 r (k+1)]
  constructor
  ·rintro⟨a,b⟩ i x h
   cases i with
   | zero=>simp at h;subst h;exact a
   | succ i=>have:=b i x (by simpa using h);rw[show k+(i+1)=k+1+i by omega];exact this
  ·intro h
   exact⟨h 0 y rfl,fun i x hx=>by have:=h (i+1) x (by simpa using hx);rw[show k+1+i=k+(i+1) by omega];exact this⟩
def H5 (f:Ah) (r:Nat):Bool:=(FA (Cv f.Ab r) || decide (1000≤Cv f.Ab r)) && (decide (0≤Cv f.own r) && decide (Cv f.own r≤999999))
def Ip (h:List Cell) (f:Ah) (r:Nat):Bool:=!decide (0 < Cv f.own r) || Eh h (Cv f.Ab r)
def kept (h:List Cell) (w:Int):Bool:=decide (1000≤w) && (match h[(w - 1000).toNat]? with | some c=>decide (c.count < 0) | none=>false)
def Ln (h:List Cell) (f:Ah) (r:Nat):Bool:=decide (Cv f.held r=0) || kept h (Cv f.held r)
def E9 (n:Nat) (p:Nat→Bool):Bool:=(List.range n).all p
theorem Gn {n:Nat} {p:Nat→Bool}:E9 n p=true↔∀j,j < n→p j=true:=by
 unfold E9;rw[List.all_eq_true];exact⟨fun h j hj=>h j (List.mem_range.2 hj),fun h j hj=>h j (List.mem_range.1 hj)⟩
theorem VG {n:Nat} {p:Nat→Bool} (h :∃j,j < n∧p j=false):E9 n p=false:=by
 obtain⟨j,hj,ho⟩:=h
 cases e:E9 n p with
 | false=>rfl
 | true=>rw[Gn.1 e j hj] at ho;cases ho
theorem Ph {α:Type} (l:List α) (p:Nat→Bool):Bk (fun i _=>p i) 0 l=E9 l.length p:=by
 cases h:E9 l.length p with
 | true=>
  exact (I8 l 0).2 fun i x hx=>by rw[Nat.zero_add];exact Gn.1 h i (List.getElem?_eq_some_iff.1 hx).1
 | false=>
  cases g:Bk (fun i _=>p i) 0 l with
  | false=>rfl
  | true=>
   have:E9 l.length p=true:=Gn.2 fun j hj=>by
    obtain⟨x,hx,_⟩:=BS hj
    have:=(I8 l 0).1 g j x hx
    rwa [Nat.zero_add] at this
   rw[h] at this;cases this
theorem Ww {l:List Int} {i:Nat} {x:Int} (h:l[i]?=some x):Cv l i=x:=by unfold Cv;rw[h];rfl
def JO (A i:Nat) (F:Nat→Int):Prop:=∀j,0≤F j∧F j≤(A:Int) + 999999 * (i:Int)
theorem WZ {f:Ah} {A i:Nat} {F:Nat→Int} (hr:H5 f i=true) (h:JO A i F):JO A (i+1) (LJ f i F):=fun j=>by
 have:=h j
 unfold H5 at hr
 simp only[Bool.and_eq_true,decide_eq_true_eq] at hr
 unfold LJ
 split <;> omega
theorem Y7 {h:List Cell} {w:Int} (hl:Eh h w=true):1000≤w∧w - 1000 < (h.length:Int):=by
 obtain⟨i,c,h1,_,h2,_⟩:=HE hl
 omega
theorem TP {n:Nat} {f:Ah} {h:List Cell} (hn:h.length=n) {i A:Nat} {F:Nat→Int} (hA:A≤1048577000000) (hr:H5 f i=true) (hv:Ip h f i=true) (hJ:JO A i F) (hi:i≤1048576) (ho:0 < Cv f.own i) :
  1000≤Cv f.Ab i∧Cv f.Ab i - 1000 < (n:Int)∧Sh.get (rowOf n F) (Cv f.Ab i - 1000)=some (F (Cv f.Ab i - 1000).toNat)∧
  Sh.put (rowOf n F) (Cv f.Ab i - 1000) (Sh.w (F (Cv f.Ab i - 1000).toNat+Cv f.own i))=rowOf n (LJ f i F):=by
 unfold Ip at hv
 simp only[ho,decide_true,Bool.not_true,Bool.false_or] at hv
 obtain⟨h1,h2⟩:=Y7 hv
 rw[hn] at h2
 refine⟨h1,h2,RU h1 h2,?_⟩
 rw[RK h1]
 refine Bj fun j _=>?_
 have hb:=hJ (Cv f.Ab i - 1000).toNat
 unfold H5 at hr
 simp only[Bool.and_eq_true,decide_eq_true_eq] at hr
 unfold LJ
 rw[Au (by omega) (by omega)]
 by_cases hj:(j:Int) + 1000=Cv f.Ab i
 ·rw[if_pos hj,if_pos ⟨ho,hj⟩,show (Cv f.Ab i - 1000).toNat=j by omega]
 ·rw[if_neg hj,if_neg fun h=>hj h.2]
theorem ZS {f:Ah} {h:List Cell} (hh:h.length≤1048576) (hz:fz f≤1048576) (hin:H9 f) (hlen:f.own.length=f.Ab.length) (hr:E9 f.Ab.length (H5 f)=true) (hv:E9 f.Ab.length (Ip h f)=true) {A:Nat} (hA:A≤1048577000000)
  {N:Nat} (hN:2000000≤N) {F:Nat→Int} (hJ:JO A 0 F) :
  Bv f N 0 (rowOf h.length F)=some (rowOf h.length (Ki f F))∧JO A f.own.length (Ki f F):=by
 have hzl:f.own.length≤1048576:=by unfold RC.fz at hz;omega
 have stp :∀n i F,i < f.own.length→JO A i F→((fun _=>true) i=true→JO A (i+1) (LJ f i F)∧Bv f (n+1) (i:Int) (rowOf h.length F)=Bv f n ((i+1:Nat):Int) (rowOf h.length (LJ f i F)))∧((fun _:Nat=>true) i=false→∃e,False∧Bv f (n+1) (i:Int) (rowOf h.length F)=some e):=by
  intro n i F hi hJ
  have hri:=Gn.1 hr i (by omega)
  have hvi:=Gn.1 hv i (by omega)
  refine⟨fun _=>⟨WZ hri hJ,?_⟩,fun h=>by cases h⟩
  obtain⟨w1,w2⟩:=hin.Ab.1 _ (MR (l:=f.Ab) (r:=i) (by omega))
  have e0:(Sh.w ((i:Int) + 1))=((i+1:Nat):Int):=by rw[Au (by omega) (by omega)];omega
  rw[Bv,if_pos (by simp[AK];omega),GB hi,GB (by omega),e0]
  simp only[Option.bind_some]
  by_cases ho:0 < Cv f.own i
  ·obtain⟨h1,h2,g1,g2⟩:=TP rfl hA hri hvi hJ (by omega) ho
   rw[Au (by omega) (by omega),g1]
   simp only[ho,decide_true,if_true,Option.bind_some]
   rw[g2]
  ·have e:LJ f i F=F:=by funext j;unfold LJ;rw[if_neg fun h=>ho h.1]
   simp[ho,e]
 rcases Jh (τ:=Nat→Int) f.own.length (Bv f) (fun r=>r) (rowOf h.length) (fun _=>true) (LJ f) (JO A) (fun _=>False)
  (fun n r=>by rw[Bv,if_neg (by simp[AK])]) stp (by omega:f.own.length < N) hJ with ⟨a,b,c⟩ | ⟨_,e,he,_⟩
 ·exact⟨b,c⟩
 ·cases he
def U4 (im:At) (f:Ah):A0:=(im.procs[f.proc.toNat]?).getD ⟨[],[],0,0,[]⟩
def SJ (p:A0) (f:Ah):Bool:=decide (0≤f.at_) && (decide (f.at_ < (p.code.length:Int)) && (decide ((f.Ab.length:Int)=p.Ab) && (decide ((f.own.length:Int)=p.Ab) && decide ((f.held.length:Int)=p.Ab))))
def JC (im:At) (f:Ah):Bool:=decide (0≤f.proc) && decide (f.proc < (im.procs.length:Int))
def Nn (im:At) (f:Ah):Bool:=JC im f && (SJ (U4 im f) f && E9 f.Ab.length (H5 f))
def MK (s:Ay) (k:Nat):Bool:=
 if k=0 then decide ((BZ s k).dst=0) else decide (0≤(BZ s k).dst) && (decide ((BZ s k).dst < ((BZ s (k - 1)).own.length:Int)) && decide (Cv (BZ s (k - 1)).own (BZ s k).dst.toNat=0))
theorem Pn {im:At} {f:Ah} (h:JC im f=true):Sh.get im.procs f.proc=some (U4 im f)∧U4 im f∈im.procs:=by
 unfold JC at h
 simp only[Bool.and_eq_true,decide_eq_true_eq] at h
 obtain⟨q,hq⟩:=Int.eq_ofNat_of_zero_le h.1
 obtain⟨x,hx,hm⟩:=BS (l:=im.procs) (i:=q) (by omega)
 have:U4 im f=x:=by unfold U4;rw[show f.proc.toNat=q by omega,hx];rfl
 rw[this,hq]
 exact⟨Ai hx,hm⟩
theorem VU {im:At} {f:Ah} (h:Nn im f=true):f.own.length=f.Ab.length∧f.held.length=f.Ab.length∧E9 f.Ab.length (H5 f)=true:=by
 unfold Nn SJ at h
 simp only[Bool.and_eq_true,decide_eq_true_eq] at h
 obtain⟨_,⟨_,_,a,b,c⟩,d⟩:=h
 exact⟨by omega,by omega,d⟩
theorem RT {im:At} (S:Ej im) {f:Ah} (hz:fz f≤1048576) {N:Nat} (hN:2000000≤N):F7 N im f=some (Nn im f):=by
 unfold RC.fz at hz
 unfold F7 Nn
 cases hp:JC im f with
 | false=>
  unfold JC at hp
  simp only[Bool.and_eq_false_iff,decide_eq_false_iff_not] at hp
  rw[AK]
  by_cases h1:f.proc < 0
  ·simp[h1]
  ·have h2:(im.procs.length:Int)≤f.proc:=by rcases hp with hp | hp <;> omega
   simp[h1,h2]
 | true=>
  obtain⟨g1,g2⟩:=Pn hp
  unfold JC at hp
  simp only[Bool.and_eq_true,decide_eq_true_eq] at hp
  have h1:¬ f.proc < 0:=by omega
  have h2:¬ (im.procs.length:Int)≤f.proc:=by omega
  rw[g1]
  generalize U4 im f=p
  simp only[AK,h1,h2,decide_false,Bool.false_eq_true,if_false,Option.bind_some,Bool.true_and]
  unfold SJ
  by_cases a1:f.at_ < 0
  ·have:¬ 0≤f.at_:=by omega
   simp[a1,this]
  ·have a1':0≤f.at_:=by omega
   by_cases a2:(p.code.length:Int)≤f.at_
   ·have:¬ f.at_ < (p.code.length:Int):=by omega
    simp[a1,a2,this]
   ·have a2':f.at_ < (p.code.length:Int):=by omega
    by_cases a3:(f.Ab.length:Int)=p.Ab
    ·by_cases a4:(f.own.length:Int)=p.Ab
     ·by_cases a5:(f.held.length:Int)=p.Ab
      ·rw[Bn (l:=f.Ab) (C4 f) (fun i _=>H5 f i) (fun n=>by rw[C4,if_neg (by simp[AK])]) (fun n i x hx=>?_) (by omega),Bz,Ph]
       ·cases E9 f.Ab.length (H5 f) <;> simp[a1,a1',a2,a2',a3,a4,a5]
       ·have hi:=(List.getElem?_eq_some_iff.1 hx).1
        rw[C4,if_pos (by simp[AK];omega),Ai hx,GB (by omega),Au (by omega) (by omega),show ((i:Int) + 1)=((i+1:Nat):Int) by omega]
        simp only[Option.bind_some,Me]
        unfold H5
        rw[Ww hx]
        generalize Cv f.own i=o
        by_cases o1:o < 0
        ·have o1':¬ 0≤o:=by omega
         cases FA x <;> by_cases x1:x < 1000 <;> simp[o1,o1',x1]
        ·have o1':0≤o:=by omega
         by_cases o2:999999 < o
         ·have o2':¬ o≤999999:=by omega
          cases FA x <;> by_cases x1:x < 1000 <;> simp[o1,o2,o2',x1]
         ·have o2':o≤999999:=by omega
          by_cases x1:x < 1000
          ·have x1':¬ 1000≤x:=by omega
           cases FA x <;> simp[o1,o1',o2,o2',x1,x1']
          ·have x1':1000≤x:=by omega
           cases FA x <;> simp[o1,o1',o2,o2',x1,x1']
      ·simp[a1,a2,a3,a4,a5]
     ·simp[a1,a2,a3,a4]
    ·simp[a1,a2,a3]
theorem Qz {im:At} (S:Ej im) {s:Ay} (Q:Il s) {k:Nat} (hk:k < s.AT.length) {N:Nat} (hN:2000000≤N) :
  Fx N im s k=some (Nn im (BZ s k) && (E9 (BZ s k).Ab.length (Ip s.heap (BZ s k)) && MK s k)):=by
 have hpl:=S.pl
 have hfl:=Q.fl
 have hhl:=Q.hp.len
 obtain⟨g1,g2,g3⟩:=HZ hk
 have hz:=Q.fz g2
 have hin:=Q.fin g2
 have hdst:(if (decide ((k:Int)=0))=true then some (decide ((BZ s k).dst=0)) else Option.bind (Option.bind (Sh.get s.AT (Sh.w ((k:Int) - 1))) fun c26=>Option.bind (As (BZ s k).dst 0 (Sh.w ((Sh.len c26.own) - 1))) fun q27=>if q27=true then Option.bind (Sh.get c26.own (BZ s k).dst) fun c29=>some (decide (c29=0)) else some false) fun t24=>some t24)=some (MK s k):=by
  unfold MK
  by_cases h0:k=0
  ·have:(k:Int)=0:=by omega
   simp[h0]
  ·have h0':¬ (k:Int)=0:=by omega
   have e1:Sh.w ((k:Int) - 1)=((k - 1:Nat):Int):=by rw[Au (by omega) (by omega)];omega
   obtain⟨b1,b2,b3⟩:=HZ (s:=s) (i:=k - 1) (by omega)
   have hz2:=Q.fz b2
   unfold RC.fz at hz2
   rw[e1,b1,if_neg (by simpa using h0'),if_neg h0]
   simp only[Option.bind_some,A6,AK]
   have e2:Sh.w (((BZ s (k - 1)).own.length:Int) - 1)=((BZ s (k - 1)).own.length:Int) - 1:=Au (by omega) (by omega)
   rw[e2]
   by_cases d1:0≤(BZ s k).dst
   ·by_cases d2:(BZ s k).dst < ((BZ s (k - 1)).own.length:Int)
    ·have d2':(BZ s k).dst≤((BZ s (k - 1)).own.length:Int) - 1:=by omega
     obtain⟨q,hq⟩:=Int.eq_ofNat_of_zero_le d1
     have e3:Sh.get (BZ s (k - 1)).own (BZ s k).dst=some (Cv (BZ s (k - 1)).own (BZ s k).dst.toNat):=by
      rw[hq];exact GB (by omega)
     rw[e3]
     simp[d1,d2,d2']
    ·have d2':¬ (BZ s k).dst≤((BZ s (k - 1)).own.length:Int) - 1:=by omega
     simp[d1,d2,d2']
   ·simp[d1]
 unfold Fx
 rw[g1]
 simp only[Option.bind_some]
 rw[hdst]
 generalize hf:BZ s k=f at *
 unfold RC.fz at hz
 simp only[A6,AK,Option.bind_some]
 have e1:Sh.w ((im.procs.length:Int) - 1)=(im.procs.length:Int) - 1:=Au (by omega) (by omega)
 rw[e1]
 have e2:(decide (0≤f.proc) && decide (f.proc≤(im.procs.length:Int) - 1))=JC im f:=by
  unfold JC;congr 1;exact decide_eq_decide.2 (by omega)
 rw[e2]
 unfold Nn
 cases hp:JC im f with
 | false=>simp
 | true=>
  obtain⟨p1,p2⟩:=Pn hp
  rw[p1]
  have hcl:=S.cl _ p2
  generalize U4 im f=p at *
  simp only[Option.bind_some,Bool.not_true,Bool.false_eq_true,if_false,Bool.true_and]
  have e3:Sh.w ((p.code.length:Int) - 1)=(p.code.length:Int) - 1:=Au (by omega) (by omega)
  rw[e3]
  have e4:(decide (0≤f.at_) && decide (f.at_≤(p.code.length:Int) - 1))=(decide (0≤f.at_) && decide (f.at_ < (p.code.length:Int))):=by
   congr 1;exact decide_eq_decide.2 (by omega)
  rw[e4]
  unfold SJ
  by_cases a1:0≤f.at_
  ·by_cases a2:f.at_ < (p.code.length:Int)
   ·by_cases a3:(f.Ab.length:Int)=p.Ab
    ·by_cases a4:(f.own.length:Int)=p.Ab
     ·by_cases a5:(f.held.length:Int)=p.Ab
      ·have hreg:GX N s.heap f=some (E9 f.Ab.length (H5 f) && E9 f.Ab.length (Ip s.heap f)):=by
        unfold GX
        have e5:(E9 f.Ab.length (H5 f) && E9 f.Ab.length (Ip s.heap f))=E9 f.Ab.length (fun i=>H5 f i && Ip s.heap f i):=by
         unfold E9
         induction List.range f.Ab.length with
         | nil=>rfl
         | cons x r ih=>simp only[List.all_cons];rw[← ih];cases H5 f x <;> cases Ip s.heap f x <;> cases r.all (H5 f) <;> simp
        rw[e5,← Ph f.Ab]
        rw[Bn (l:=f.Ab) (DL s.heap f) (fun i _=>H5 f i && Ip s.heap f i) (fun n=>by rw[DL,if_neg (by simp[AK])]) (fun n i x hx=>?_) (by omega),Bz]
        ·cases Bk (fun i (_:Int)=>H5 f i && Ip s.heap f i) 0 f.Ab <;> rfl
        ·have hi:=(List.getElem?_eq_some_iff.1 hx).1
         rw[DL,if_pos (by simp[AK];omega),Ai hx,GB (by omega),Au (by omega) (by omega),show ((i:Int) + 1)=((i+1:Nat):Int) by omega]
         unfold Ct
         simp only[Option.bind_some,A6,LL hhl (hin.Ab.1 x (List.mem_of_getElem? hx))]
         unfold H5 Ip
         rw[Ww hx,show (decide (-999≤x) && decide (x≤999))=FA x from rfl]
         generalize Cv f.own i=o
         cases FA x <;> by_cases x1:1000≤x <;> by_cases o1:0≤o <;> by_cases o2:o≤999999 <;> by_cases o3:0 < o <;> cases Eh s.heap x <;> simp[x1,o1,o2,o3]
       rw[hreg]
       cases E9 f.Ab.length (H5 f) <;> cases E9 f.Ab.length (Ip s.heap f) <;> cases MK s k <;> simp[a1,a2,a3,a4,a5]
      ·simp[a1,a2,a3,a4,a5]
     ·simp[a1,a2,a3,a4]
    ·simp[a1,a2,a3]
   ·simp[a1,a2]
  ·simp[a1]
end RC

