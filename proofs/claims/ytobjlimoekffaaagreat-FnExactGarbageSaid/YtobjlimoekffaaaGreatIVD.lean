import Derived.Test.YtobjlimoekffaaaGreatIVC

namespace RC
open Go
theorem JE {α:Type} {g:Nat→α→Bool} :∀(l:List α) (k:Nat),Bl g k l=true↔∀(i:Nat) x,l[i]?=some x→g (k+i) x=true
 | [],k=>by simp[Bl]
 | y :: r,k=>by
  rw[Bl,Bool.and_eq_true,JE r (k+1)]
  constructor
  ·rintro⟨a,b⟩ i x h
   cases i with
   | zero=>simp at h;subst h;exact a
   | succ i=>have:=b i x (by simpa using h);rw[show k+(i+1)=k+1+i by omega];exact this
  ·intro h
   exact⟨h 0 y rfl,fun i x hx=>by have:=h (i+1) x (by simpa using hx);rw[show k+1+i=k+(i+1) by omega];exact this⟩
def IE (f:Ai) (r:Nat):Bool:=(FE (Cy f.Ab r) || decide (1000≤Cy f.Ab r)) && (decide (0≤Cy f.own r) && decide (Cy f.own r≤999999))
def IM (h:List Cell) (f:Ai) (r:Nat):Bool:=!decide (0 < Cy f.own r) || En h (Cy f.Ab r)
def kept (h:List Cell) (w:Int):Bool:=decide (1000≤w) && (match h[(w - 1000).toNat]? with | some c=>decide (c.count < 0) | none=>false)
def L0 (h:List Cell) (f:Ai) (r:Nat):Bool:=decide (Cy f.held r=0) || kept h (Cy f.held r)
def FD (n:Nat) (p:Nat→Bool):Bool:=(List.range n).all p
theorem Gs {n:Nat} {p:Nat→Bool}:FD n p=true↔∀j,j < n→p j=true:=by
 unfold FD;rw[List.all_eq_true];exact⟨fun h j hj=>h j (List.mem_range.2 hj),fun h j hj=>h j (List.mem_range.1 hj)⟩
theorem U0 {n:Nat} {p:Nat→Bool} (h :∃j,j < n∧p j=false):FD n p=false:=by
 obtain⟨j,hj,ho⟩:=h
 cases e:FD n p with
 | false=>rfl
 | true=>rw[Gs.1 e j hj] at ho;cases ho
theorem P0 {α:Type} (l:List α) (p:Nat→Bool):Bl (fun i _=>p i) 0 l=FD l.length p:=by
 cases h:FD l.length p with
 | true=>
  exact (JE l 0).2 fun i x hx=>by rw[Nat.zero_add];exact Gs.1 h i (List.getElem?_eq_some_iff.1 hx).1
 | false=>
  cases g:Bl (fun i _=>p i) 0 l with
  | false=>rfl
  | true=>
   have:FD l.length p=true:=Gs.2 fun j hj=>by
    obtain⟨x,hx,_⟩:=BR hj
    have:=(JE l 0).1 g j x hx
    rwa [Nat.zero_add] at this
   rw[h] at this;cases this
theorem XC {l:List Int} {i:Nat} {x:Int} (h:l[i]?=some x):Cy l i=x:=by unfold Cy;rw[h];rfl
def JO (A i:Nat) (F:Nat→Int):Prop:=∀j,0≤F j∧F j≤(A:Int) + 999999 * (i:Int)
theorem WQ {f:Ai} {A i:Nat} {F:Nat→Int} (hr:IE f i=true) (h:JO A i F):JO A (i+1) (LI f i F):=fun j=>by
 have:=h j
 unfold IE at hr
 simp only[Bool.and_eq_true,decide_eq_true_eq] at hr
 unfold LI
 split <;> omega
theorem Zf {h:List Cell} {w:Int} (hl:En h w=true):1000≤w∧w - 1000 < (h.length:Int):=by
 obtain⟨i,c,h1,_,h2,_⟩:=G5 hl
 omega
theorem TG {n:Nat} {f:Ai} {h:List Cell} (hn:h.length=n) {i A:Nat} {F:Nat→Int} (hA:A≤1048577000000) (hr:IE f i=true) (hv:IM h f i=true) (hJ:JO A i F) (hi:i≤1048576) (ho:0 < Cy f.own i) :
  1000≤Cy f.Ab i∧Cy f.Ab i - 1000 < (n:Int)∧Sh.get (rowOf n F) (Cy f.Ab i - 1000)=some (F (Cy f.Ab i - 1000).toNat)∧
  Sh.put (rowOf n F) (Cy f.Ab i - 1000) (Sh.w (F (Cy f.Ab i - 1000).toNat+Cy f.own i))=rowOf n (LI f i F):=by
 unfold IM at hv
 simp only[ho,decide_true,Bool.not_true,Bool.false_or] at hv
 obtain⟨h1,h2⟩:=Zf hv
 rw[hn] at h2
 refine⟨h1,h2,RU h1 h2,?_⟩
 rw[Rb h1]
 refine Bj fun j _=>?_
 have hb:=hJ (Cy f.Ab i - 1000).toNat
 unfold IE at hr
 simp only[Bool.and_eq_true,decide_eq_true_eq] at hr
 unfold LI
 rw[As (by omega) (by omega)]
 by_cases hj:(j:Int) + 1000=Cy f.Ab i
 ·rw[if_pos hj,if_pos ⟨ho,hj⟩,show (Cy f.Ab i - 1000).toNat=j by omega]
 ·rw[if_neg hj,if_neg fun h=>hj h.2]
theorem Zt {f:Ai} {h:List Cell} (hh:h.length≤1048576) (hz:fz f≤1048576) (hin:IJ f) (hlen:f.own.length=f.Ab.length) (hr:FD f.Ab.length (IE f)=true) (hv:FD f.Ab.length (IM h f)=true) {A:Nat} (hA:A≤1048577000000)
  {N:Nat} (hN:2000000≤N) {F:Nat→Int} (hJ:JO A 0 F) :
  Bv f N 0 (rowOf h.length F)=some (rowOf h.length (LG f F))∧JO A f.own.length (LG f F):=by
 have hzl:f.own.length≤1048576:=by unfold RC.fz at hz;omega
 have stp :∀n i F,i < f.own.length→JO A i F→((fun _=>true) i=true→JO A (i+1) (LI f i F)∧Bv f (n+1) (i:Int) (rowOf h.length F)=Bv f n ((i+1:Nat):Int) (rowOf h.length (LI f i F)))∧((fun _:Nat=>true) i=false→∃e,False∧Bv f (n+1) (i:Int) (rowOf h.length F)=some e):=by
  intro n i F hi hJ
  have hri:=Gs.1 hr i (by omega)
  have hvi:=Gs.1 hv i (by omega)
  refine⟨fun _=>⟨WQ hri hJ,?_⟩,fun h=>by cases h⟩
  obtain⟨w1,w2⟩:=hin.Ab.1 _ (MZ (l:=f.Ab) (r:=i) (by omega))
  have e0:(Sh.w ((i:Int) + 1))=((i+1:Nat):Int):=by rw[As (by omega) (by omega)];omega
  rw[Bv,if_pos (by simp[AK];omega),Fy hi,Fy (by omega),e0]
  simp only[Option.bind_some]
  by_cases ho:0 < Cy f.own i
  ·obtain⟨h1,h2,g1,g2⟩:=TG rfl hA hri hvi hJ (by omega) ho
   rw[As (by omega) (by omega),g1]
   simp only[ho,decide_true,if_true,Option.bind_some]
   rw[g2]
  ·have e:LI f i F=F:=by funext j;unfold LI;rw[if_neg fun h=>ho h.1]
   simp[ho,e]
 rcases Jt (τ:=Nat→Int) f.own.length (Bv f) (fun r=>r) (rowOf h.length) (fun _=>true) (LI f) (JO A) (fun _=>False)
  (fun n r=>by rw[Bv,if_neg (by simp[AK])]) stp (by omega:f.own.length < N) hJ with ⟨a,b,c⟩ | ⟨_,e,he,_⟩
 ·exact⟨b,c⟩
 ·cases he
def Up (im:Au) (f:Ai):A0:=(im.procs[f.proc.toNat]?).getD ⟨[],[],0,0,[]⟩
def Ra (p:A0) (f:Ai):Bool:=decide (0≤f.at_) && (decide (f.at_ < (p.code.length:Int)) && (decide ((f.Ab.length:Int)=p.Ab) && (decide ((f.own.length:Int)=p.Ab) && decide ((f.held.length:Int)=p.Ab))))
def JH (im:Au) (f:Ai):Bool:=decide (0≤f.proc) && decide (f.proc < (im.procs.length:Int))
def N4 (im:Au) (f:Ai):Bool:=JH im f && (Ra (Up im f) f && FD f.Ab.length (IE f))
def MB (s:Av) (k:Nat):Bool:=
 if k=0 then decide ((Ba s k).dst=0) else decide (0≤(Ba s k).dst) && (decide ((Ba s k).dst < ((Ba s (k - 1)).own.length:Int)) && decide (Cy (Ba s (k - 1)).own (Ba s k).dst.toNat=0))
theorem Pm {im:Au} {f:Ai} (h:JH im f=true):Sh.get im.procs f.proc=some (Up im f)∧Up im f∈im.procs:=by
 unfold JH at h
 simp only[Bool.and_eq_true,decide_eq_true_eq] at h
 obtain⟨q,hq⟩:=Int.eq_ofNat_of_zero_le h.1
 obtain⟨x,hx,hm⟩:=BR (l:=im.procs) (i:=q) (by omega)
 have:Up im f=x:=by unfold Up;rw[show f.proc.toNat=q by omega,hx];rfl
 rw[this,hq]
 exact⟨Ak hx,hm⟩
theorem VS {im:Au} {f:Ai} (h:N4 im f=true):f.own.length=f.Ab.length∧f.held.length=f.Ab.length∧FD f.Ab.length (IE f)=true:=by
 unfold N4 Ra at h
 simp only[Bool.and_eq_true,decide_eq_true_eq] at h
 obtain⟨_,⟨_,_,a,b,c⟩,d⟩:=h
 exact⟨by omega,by omega,d⟩
theorem RW {im:Au} (S:Eo im) {f:Ai} (hz:fz f≤1048576) {N:Nat} (hN:2000000≤N):GA N im f=some (N4 im f):=by
 unfold RC.fz at hz
 unfold GA N4
 cases hp:JH im f with
 | false=>
  unfold JH at hp
  simp only[Bool.and_eq_false_iff,decide_eq_false_iff_not] at hp
  rw[AK]
  by_cases h1:f.proc < 0
  ·simp[h1]
  ·have h2:(im.procs.length:Int)≤f.proc:=by rcases hp with hp | hp <;> omega
   simp[h1,h2]
 | true=>
  obtain⟨g1,g2⟩:=Pm hp
  unfold JH at hp
  simp only[Bool.and_eq_true,decide_eq_true_eq] at hp
  have h1:¬ f.proc < 0:=by omega
  have h2:¬ (im.procs.length:Int)≤f.proc:=by omega
  rw[g1]
  generalize Up im f=p
  simp only[AK,h1,h2,decide_false,Bool.false_eq_true,if_false,Option.bind_some,Bool.true_and]
  unfold Ra
  by_cases a1:f.at_ < 0
  ·have:¬ 0≤f.at_:=by omega
   simp[a1,this]
  ·have a1':0≤f.at_:=by omega
   by_cases a2:(p.code.length:Int)≤f.at_
   ·have:¬ f.at_ < (p.code.length:Int):=by omega
    simp[a1,a2,this]
   ·have a2':f.at_ < (p.code.length:Int):=by omega
    by_cases a3:(f.Ab.length:Int)=p.Ab
    ·by_cases a4:(f.own.length:Int)=p.Ab
     ·by_cases a5:(f.held.length:Int)=p.Ab
      ·rw[Bo (l:=f.Ab) (C7 f) (fun i _=>IE f i) (fun n=>by rw[C7,if_neg (by simp[AK])]) (fun n i x hx=>?_) (by omega),Bz,P0]
       ·cases FD f.Ab.length (IE f) <;> simp[a1,a1',a2,a2',a3,a4,a5]
       ·have hi:=(List.getElem?_eq_some_iff.1 hx).1
        rw[C7,if_pos (by simp[AK];omega),Ak hx,Fy (by omega),As (by omega) (by omega),show ((i:Int) + 1)=((i+1:Nat):Int) by omega]
        simp only[Option.bind_some,Mx]
        unfold IE
        rw[XC hx]
        generalize Cy f.own i=o
        by_cases o1:o < 0
        ·have o1':¬ 0≤o:=by omega
         cases FE x <;> by_cases x1:x < 1000 <;> simp[o1,o1',x1]
        ·have o1':0≤o:=by omega
         by_cases o2:999999 < o
         ·have o2':¬ o≤999999:=by omega
          cases FE x <;> by_cases x1:x < 1000 <;> simp[o1,o2,o2',x1]
         ·have o2':o≤999999:=by omega
          by_cases x1:x < 1000
          ·have x1':¬ 1000≤x:=by omega
           cases FE x <;> simp[o1,o1',o2,o2',x1,x1']
          ·have x1':1000≤x:=by omega
           cases FE x <;> simp[o1,o1',o2,o2',x1,x1']
      ·simp[a1,a2,a3,a4,a5]
     ·simp[a1,a2,a3,a4]
    ·simp[a1,a2,a3]
theorem Rs {im:Au} (S:Eo im) {s:Av} (Q:IU s) {k:Nat} (hk:k < s.AT.length) {N:Nat} (hN:2000000≤N) :
  F4 N im s k=some (N4 im (Ba s k) && (FD (Ba s k).Ab.length (IM s.heap (Ba s k)) && MB s k)):=by
 have hpl:=S.pl
 have hfl:=Q.fl
 have hhl:=Q.hp.len
 obtain⟨g1,g2,g3⟩:=Hu hk
 have hz:=Q.fz g2
 have hin:=Q.fin g2
 have hdst:(if (decide ((k:Int)=0))=true then some (decide ((Ba s k).dst=0)) else Option.bind (Option.bind (Sh.get s.AT (Sh.w ((k:Int) - 1))) fun c26=>Option.bind (At (Ba s k).dst 0 (Sh.w ((Sh.len c26.own) - 1))) fun q27=>if q27=true then Option.bind (Sh.get c26.own (Ba s k).dst) fun c29=>some (decide (c29=0)) else some false) fun t24=>some t24)=some (MB s k):=by
  unfold MB
  by_cases h0:k=0
  ·have:(k:Int)=0:=by omega
   simp[h0]
  ·have h0':¬ (k:Int)=0:=by omega
   have e1:Sh.w ((k:Int) - 1)=((k - 1:Nat):Int):=by rw[As (by omega) (by omega)];omega
   obtain⟨b1,b2,b3⟩:=Hu (s:=s) (i:=k - 1) (by omega)
   have hz2:=Q.fz b2
   unfold RC.fz at hz2
   rw[e1,b1,if_neg (by simpa using h0'),if_neg h0]
   simp only[Option.bind_some,A6,AK]
   have e2:Sh.w (((Ba s (k - 1)).own.length:Int) - 1)=((Ba s (k - 1)).own.length:Int) - 1:=As (by omega) (by omega)
   rw[e2]
   by_cases d1:0≤(Ba s k).dst
   ·by_cases d2:(Ba s k).dst < ((Ba s (k - 1)).own.length:Int)
    ·have d2':(Ba s k).dst≤((Ba s (k - 1)).own.length:Int) - 1:=by omega
     obtain⟨q,hq⟩:=Int.eq_ofNat_of_zero_le d1
     have e3:Sh.get (Ba s (k - 1)).own (Ba s k).dst=some (Cy (Ba s (k - 1)).own (Ba s k).dst.toNat):=by
      rw[hq];exact Fy (by omega)
     rw[e3]
     simp[d1,d2,d2']
    ·have d2':¬ (Ba s k).dst≤((Ba s (k - 1)).own.length:Int) - 1:=by omega
     simp[d1,d2,d2']
   ·simp[d1]
 unfold F4
 rw[g1]
 simp only[Option.bind_some]
 rw[hdst]
 generalize hf:Ba s k=f at *
 unfold RC.fz at hz
 simp only[A6,AK,Option.bind_some]
 have e1:Sh.w ((im.procs.length:Int) - 1)=(im.procs.length:Int) - 1:=As (by omega) (by omega)
 rw[e1]
 have e2:(decide (0≤f.proc) && decide (f.proc≤(im.procs.length:Int) - 1))=JH im f:=by
  unfold JH;congr 1;exact decide_eq_decide.2 (by omega)
 rw[e2]
 unfold N4
 cases hp:JH im f with
 | false=>simp
 | true=>
  obtain⟨p1,p2⟩:=Pm hp
  rw[p1]
  have hcl:=S.cl _ p2
  generalize Up im f=p at *
  simp only[Option.bind_some,Bool.not_true,Bool.false_eq_true,if_false,Bool.true_and]
  have e3:Sh.w ((p.code.length:Int) - 1)=(p.code.length:Int) - 1:=As (by omega) (by omega)
  rw[e3]
  have e4:(decide (0≤f.at_) && decide (f.at_≤(p.code.length:Int) - 1))=(decide (0≤f.at_) && decide (f.at_ < (p.code.length:Int))):=by
   congr 1;exact decide_eq_decide.2 (by omega)
  rw[e4]
  unfold Ra
  by_cases a1:0≤f.at_
  ·by_cases a2:f.at_ < (p.code.length:Int)
   ·by_cases a3:(f.Ab.length:Int)=p.Ab
    ·by_cases a4:(f.own.length:Int)=p.Ab
     ·by_cases a5:(f.held.length:Int)=p.Ab
      ·have hreg:Ga N s.heap f=some (FD f.Ab.length (IE f) && FD f.Ab.length (IM s.heap f)):=by
        unfold Ga
        have e5:(FD f.Ab.length (IE f) && FD f.Ab.length (IM s.heap f))=FD f.Ab.length (fun i=>IE f i && IM s.heap f i):=by
         unfold FD
         induction List.range f.Ab.length with
         | nil=>rfl
         | cons x r ih=>simp only[List.all_cons];rw[← ih];cases IE f x <;> cases IM s.heap f x <;> cases r.all (IE f) <;> simp
        rw[e5,← P0 f.Ab]
        rw[Bo (l:=f.Ab) (DK s.heap f) (fun i _=>IE f i && IM s.heap f i) (fun n=>by rw[DK,if_neg (by simp[AK])]) (fun n i x hx=>?_) (by omega),Bz]
        ·cases Bl (fun i (_:Int)=>IE f i && IM s.heap f i) 0 f.Ab <;> rfl
        ·have hi:=(List.getElem?_eq_some_iff.1 hx).1
         rw[DK,if_pos (by simp[AK];omega),Ak hx,Fy (by omega),As (by omega) (by omega),show ((i:Int) + 1)=((i+1:Nat):Int) by omega]
         unfold Cx
         simp only[Option.bind_some,A6,LY hhl (hin.Ab.1 x (List.mem_of_getElem? hx))]
         unfold IE IM
         rw[XC hx,show (decide (-999≤x) && decide (x≤999))=FE x from rfl]
         generalize Cy f.own i=o
         cases FE x <;> by_cases x1:1000≤x <;> by_cases o1:0≤o <;> by_cases o2:o≤999999 <;> by_cases o3:0 < o <;> cases En s.heap x <;> simp[x1,o1,o2,o3]
       rw[hreg]
       cases FD f.Ab.length (IE f) <;> cases FD f.Ab.length (IM s.heap f) <;> cases MB s k <;> simp[a1,a2,a3,a4,a5]
      ·simp[a1,a2,a3,a4,a5]
     ·simp[a1,a2,a3,a4]
    ·simp[a1,a2,a3]
   ·simp[a1,a2]
  ·simp[a1]
end RC

