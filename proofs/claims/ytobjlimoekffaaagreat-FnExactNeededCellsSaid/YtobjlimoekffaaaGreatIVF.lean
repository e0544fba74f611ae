import Derived.Test.YtobjlimoekffaaaGreatIVE

namespace RC
open Go
theorem Xi {s:Ay} (Q:Il s) {i:Nat} (hi:i < s.AT.length) :
  (if (decide ((i:Int)=0))=true then
      if (!decide ((BZ s i).dst=0))=true then some true
      else
      if (decide (0 < (i:Int)))=true then
       if (decide ((BZ s i).dst < 0))=true then some true
       else
        Option.bind (Sh.get s.AT (Sh.w ((i:Int) - 1))) fun c86=>
        if (decide ((Sh.len c86.own)≤(BZ s i).dst))=true then some true
        else
         Option.bind (Sh.get c86.own (BZ s i).dst) fun c88=>some (!decide (c88=0))
      else some false
     else
     if (decide (0 < (i:Int)))=true then
      if (decide ((BZ s i).dst < 0))=true then some true
      else
       Option.bind (Sh.get s.AT (Sh.w ((i:Int) - 1))) fun c91=>
       if (decide ((Sh.len c91.own)≤(BZ s i).dst))=true then some true
       else
        Option.bind (Sh.get c91.own (BZ s i).dst) fun c93=>some (!decide (c93=0))
     else some false)=some (!MK s i):=by
 have hfl:=Q.fl
 unfold MK
 by_cases h0:i=0
 ·subst h0
  by_cases d:(BZ s 0).dst=0 <;> simp[d]
 ·have h0':¬ (i:Int)=0:=by omega
  have h1:(0:Int) < (i:Int):=by omega
  have e1:Sh.w ((i:Int) - 1)=((i - 1:Nat):Int):=by rw[Au (by omega) (by omega)];omega
  obtain⟨b1,b2,b3⟩:=HZ (s:=s) (i:=i - 1) (by omega)
  rw[e1,b1,if_neg (by simpa using h0'),if_pos (by simpa using h1),if_neg h0]
  simp only[Option.bind_some,AK]
  by_cases d1:(BZ s i).dst < 0
  ·have d1':¬ 0≤(BZ s i).dst:=by omega
   simp[d1,d1']
  ·have d1':0≤(BZ s i).dst:=by omega
   by_cases d2:((BZ s (i - 1)).own.length:Int)≤(BZ s i).dst
   ·have d2':¬ (BZ s i).dst < ((BZ s (i - 1)).own.length:Int):=by omega
    simp[d1,d2,d2']
   ·have d2':(BZ s i).dst < ((BZ s (i - 1)).own.length:Int):=by omega
    obtain⟨q,hq⟩:=Int.eq_ofNat_of_zero_le d1'
    have e3:Sh.get (BZ s (i - 1)).own (BZ s i).dst=some (Cv (BZ s (i - 1)).own (BZ s i).dst.toNat):=by
     rw[hq];exact GB (by omega)
    rw[e3]
    simp[d1,d1',d2,d2']
def okF (im:At) (s:Ay) (i:Nat):Bool:=Nn im (BZ s i) && (MK s i && (U6 s (BZ s i) && YR s (BZ s i)))
def JE (s:Ay) (i:Nat) (c:Cell):Bool:=(!decide (0 < c.count) || decide (c.count=(E0 s.heap s.heap i:Int) + Ld s s.AT.length Z i)) && (!decide (c.count < 0) || decide (G7 s s.AT.length Z i=1))
def R0 (s:Ay):Nat→Int:=fun j=>(E0 s.heap s.heap j:Int)
theorem Xz {im:At} (S:Ej im) {s:Ay} (Q:Il s) {N:Nat} (hN:2000000≤N) :
  (H0 s (okF im s)=true∧BR N im s N 0 (refs s.heap) (rowOf s.heap.length Z)=some (.inr (rowOf s.heap.length (fun j=>(E0 s.heap s.heap j:Int) + Ld s s.AT.length Z j),rowOf s.heap.length (G7 s s.AT.length Z))))∨
  (H0 s (okF im s)=false∧BR N im s N 0 (refs s.heap) (rowOf s.heap.length Z)=some (.inl false)):=by
 have hl:=Q.hp.len
 have hfl:=Q.fl
 have stp :∀n i (p:(Nat→Int)×(Nat→Int)),i < s.AT.length→(JO (1048576+999999 * hb s i) 0 p.1∧JB (hb s i) 0 p.2)→
   (okF im s i=true→(JO (1048576+999999 * hb s (i+1)) 0 (Ki (BZ s i) p.1)∧JB (hb s (i+1)) 0 (H2 (BZ s i) p.2))∧
    (fun n i (r:List Int×List Int)=>BR N im s n i r.1 r.2) (n+1) (i:Int) (rows2 s.heap.length p)=(fun n i (r:List Int×List Int)=>BR N im s n i r.1 r.2) n ((i+1:Nat):Int) (rows2 s.heap.length (Ki (BZ s i) p.1,H2 (BZ s i) p.2)))∧
   (okF im s i=false→∃e,e=Sum.inl false∧(fun n i (r:List Int×List Int)=>BR N im s n i r.1 r.2) (n+1) (i:Int) (rows2 s.heap.length p)=some e):=by
  intro n i ⟨F,G⟩ hi ⟨hF,hG⟩
  unfold rows2
  dsimp only at hF hG ⊢
  obtain⟨g1,g2,g3⟩:=HZ hi
  have hz:=Q.fz g2
  have hin:=Q.fin g2
  have hb1:=Q.hb i
  have e0:(Sh.w ((i:Int) + 1))=((i+1:Nat):Int):=by rw[Au (by omega) (by omega)];omega
  rw[BR,if_pos (by simp[AK];omega),g1,e0]
  simp only[Option.bind_some]
  rw[RT S hz hN,Xi Q hi]
  simp only[Option.bind_some,Bool.not_not]
  unfold okF
  cases hv:Nn im (BZ s i) with
  | false=>exact⟨fun h=>by simp at h,fun _=>⟨_,rfl,by simp⟩⟩
  | true=>
   cases hd:MK s i with
   | false=>exact⟨fun h=>by simp at h,fun _=>⟨_,rfl,by simp⟩⟩
   | true=>
    obtain⟨l1,l2,l3⟩:=VU hv
    rcases XV hl hz hin l1 l2 l3 (A:=1048576+999999 * hb s i) (B:=hb s i) (by omega) hb1 hN hF hG with ⟨a1,a2,a3,a4,a5⟩ | ⟨a1,x,y,a2⟩
    ·rw[a3]
     refine⟨fun _=>⟨⟨R8 Q hi (Sv a4),fun j=>?_⟩,by simp⟩,fun h=>?_⟩
     ·have:=a5 j
      have h2:=OS hi
      have h3:(BZ s i).own.length≤fz (BZ s i):=by unfold fz;omega
      omega
     ·unfold U6 YR at h
      rw[a1,a2] at h;cases h
    ·rw[a2]
     unfold U6 YR
     rw[a1]
     exact⟨fun h=>by simp at h,fun _=>⟨_,rfl,by simp⟩⟩
 have hJ0:JO (1048576+999999 * hb s 0) 0 (R0 s)∧JB (hb s 0) 0 Z:=⟨fun j=>by have:=R6 Q j;unfold R0;omega,fun j=>⟨Int.le_refl _,by unfold Z;omega⟩⟩
 have hadd:Ek (fun i=>Ki (BZ s i)) s.AT.length (R0 s)=fun j=>(E0 s.heap s.heap j:Int) + Ld s s.AT.length Z j:=by
  have:=Xt s s.AT.length (R0 s) Z
  have e:(fun j=>R0 s j+Z j)=R0 s:=by funext j;unfold Z;omega
  rw[e] at this
  exact this
 rcases Jh (τ:=(Nat→Int)×(Nat→Int)) s.AT.length (fun n i (r:List Int×List Int)=>BR N im s n i r.1 r.2) (Sum.inr) (rows2 s.heap.length) (okF im s) (fun i p=>(Ki (BZ s i) p.1,H2 (BZ s i) p.2)) (fun i p=>JO (1048576+999999 * hb s i) 0 p.1∧JB (hb s i) 0 p.2) (fun e=>e=Sum.inl false)
  (fun n r=>by rw[BR,if_neg (by simp[AK])]) stp (by omega:s.AT.length < N) (s:=(R0 s,Z)) hJ0 with ⟨a,b,c⟩ | ⟨ho,e,he,hb⟩
 ·refine .inl ⟨G2.2 a,?_⟩
  rw[MS,hadd] at b
  exact b
 ·refine .inr ⟨OZ ho,?_⟩
  rw[he] at hb
  exact hb
theorem V5 {im:At} (S:Ej im) {s:Ay} (Q:Il s) {N:Nat} (hN:2000000≤N) :
  (Option.bind (Sh.mk (0:Int) (Sh.len s.heap) 8) fun l23=>
    Sh.cont (BR N im s N 0 (refs s.heap) l23) (id) fun (l29,l30)=>
    Sh.cont (Bs l29 l30 s N 0) (id) fun ()=>
    some true)=some (H0 s (okF im s) && Bk (JE s) 0 s.heap):=by
 have hl:=Q.hp.len
 rw[AK,Gu _ s.heap.length 8 (by omega) (by omega),Ea,show (fun _:Nat=>(0:Int))=Z from rfl]
 simp only[Option.bind_some]
 rcases Xz S Q hN with ⟨a,b⟩ | ⟨a,b⟩
 ·rw[a,b]
  simp only[Sh.cont,Bool.true_and]
  have L:=Bn (l:=s.heap) (Bs (rowOf s.heap.length (fun j=>(E0 s.heap s.heap j:Int) + Ld s s.AT.length Z j)) (rowOf s.heap.length (G7 s s.AT.length Z)) s) (JE s) (fun n=>by rw[Bs,if_neg (by simp[AK])]) (fun n i c hc=>?_) (by omega:s.heap.length < N)
  ·rw[L]
   cases Bk (JE s) 0 s.heap <;> rfl
  ·have hi:=(List.getElem?_eq_some_iff.1 hc).1
   rw[Bs,if_pos (by simp[AK];omega),Ai hc,Ai (Bc hi),Ai (Bc hi),Au (n:=(i:Int) + 1) (by omega) (by omega),show ((i:Int) + 1)=((i+1:Nat):Int) by omega]
   simp only[Option.bind_some]
   unfold JE
   generalize (E0 s.heap s.heap i:Int) + Ld s s.AT.length Z i=m
   generalize G7 s s.AT.length Z i=k
   by_cases h1:0 < c.count
   ·have h2:¬ c.count < 0:=by omega
    by_cases h3:c.count=m
    ·have h1':0 < m:=by omega
     have h2':¬ m < 0:=by omega
     simp[h3,h1',h2']
    ·simp[h1,h2,h3]
   ·by_cases h2:c.count < 0 <;> by_cases h3:k=1 <;> simp[h1,h2,h3]
 ·rw[a,b];rfl
def Ls (im:At) (s:Ay) (i:Nat):Bool:=Nn im (BZ s i) && (U6 s (BZ s i) && MK s i)
theorem OK {im:At} (S:Ej im) {s:Ay} (Q:Il s) {N:Nat} (hN:2000000≤N) :
  (Sh.cont (CP N im s N 0) (id) fun ()=>
    Option.bind (Option.bind (GD N s) fun q27=>if q27=true then Option.bind (E1 N s) fun q29=>some q29 else some false) fun t25=>
    some t25)=some (H0 s (Ls im s) && ((Tr s && Bk (Kd (G7 s s.AT.length Z)) 0 s.heap) && Bk (MJ s) 0 s.heap)):=by
 have hfl:=Q.fl
 have e:H0 s (Ls im s)=Bk (fun i _=>Ls im s i) 0 s.AT:=by rw[Ph];rfl
 rw[Bn (l:=s.AT) (CP N im s) (fun i _=>Ls im s i) (fun n=>by rw[CP,if_neg (by simp[AK])]) (fun n i f hf=>?_) (by omega),Bz,← e]
 ·cases ha:H0 s (Ls im s) with
  | false=>simp
  | true=>
   have hv :∀i,i < s.AT.length→Nn im (BZ s i)=true∧U6 s (BZ s i)=true:=fun i hi=>by
    have:=G2.1 ha i hi
    unfold Ls at this
    simp only[Bool.and_eq_true] at this
    exact⟨this.1,this.2.1⟩
   rw[Tq Q hN,Xl Q hv hN]
   simp only[if_true,Option.bind_some,Bool.true_and]
   cases Tr s <;> cases Bk (Kd (G7 s s.AT.length Z)) 0 s.heap <;> simp
 ·have hi:=(List.getElem?_eq_some_iff.1 hf).1
  rw[CP,if_pos (by simp[AK];omega),Qz S Q hi hN,Au (by omega) (by omega),show ((i:Int) + 1)=((i+1:Nat):Int) by omega]
  simp only[Option.bind_some]
  have:(Nn im (BZ s i) && (E9 (BZ s i).Ab.length (Ip s.heap (BZ s i)) && MK s i))=Ls im s i:=rfl
  rw[this]
  cases Ls im s i <;> simp
theorem XT {a b:Bool} (h:a=true↔b=true):a=b:=by cases a <;> cases b <;> simp at h ⊢
theorem Wr {im:At} {s:Ay}:(H0 s (Ls im s) && ((Tr s && Bk (Kd (G7 s s.AT.length Z)) 0 s.heap) && Bk (MJ s) 0 s.heap))=(H0 s (okF im s) && Bk (JE s) 0 s.heap):=by
 apply XT
 simp only[Bool.and_eq_true]
 unfold Tr
 rw[G2,G2,G2,I8,I8,I8]
 have hitT:=fun j=>R5 s j s.AT.length Z
 constructor
 ·rintro⟨h1,⟨h2,h3⟩,h4⟩
  refine⟨fun i hi=>?_,fun i c hc=>?_⟩
  ·have a:=h1 i hi
   have b:=OR.1 (h2 i hi)
   unfold Ls at a
   simp only[Bool.and_eq_true] at a
   unfold okF
   rw[a.1,a.2.1,a.2.2]
   simp only[Bool.true_and]
   unfold YR
   refine Gn.2 fun r hr=>?_
   have c:=b r hr
   unfold UI at c
   unfold Ln
   cases h0:decide (Cv (BZ s i).held r=0) with
   | true=>rfl
   | false=>
    rw[h0] at c
    unfold Y9 at c
    simp only[Bool.false_or,Bool.and_eq_true,decide_eq_true_eq] at c
    obtain⟨c1,c2⟩:=c
    obtain⟨x,hx,_⟩:=BS (l:=s.heap) (i:=(Cv (BZ s i).held r - 1000).toNat) (by omega)
    have g:=h3 _ x hx
    have t:=(hitT (Cv (BZ s i).held r - 1000).toNat).1 ⟨i,hi,r,hr,by omega⟩
    have z:Z (Cv (BZ s i).held r - 1000).toNat=0:=rfl
    rw[Nat.zero_add] at g
    unfold Kd at g
    unfold kept
    rw[hx]
    simp only[Bool.and_eq_true,Bool.or_eq_true,Bool.not_eq_true',decide_eq_false_iff_not,decide_eq_true_eq,Bool.false_or] at g ⊢
    refine⟨c1,?_⟩
    rcases g.2 with g2 | g2
    ·omega
    ·omega
  ·have a:=h3 i c hc
   have b:=h4 i c hc
   rw[Nat.zero_add] at a b ⊢
   unfold Kd at a
   unfold MJ at b
   unfold JE
   simp only[Bool.and_eq_true] at a
   rw[b,a.1];rfl
 ·rintro⟨h1,h2⟩
  have hk :∀i,i < s.AT.length→Nn im (BZ s i)=true∧MK s i=true∧U6 s (BZ s i)=true∧YR s (BZ s i)=true:=fun i hi=>by
   have a:=h1 i hi
   unfold okF at a
   simp only[Bool.and_eq_true] at a
   exact a
  refine⟨fun i hi=>?_,⟨fun i hi=>?_,fun i c hc=>?_⟩,fun i c hc=>?_⟩
  ·obtain⟨a,b,c,d⟩:=hk i hi
   unfold Ls;rw[a,b,c];rfl
  ·obtain⟨_,_,_,d⟩:=hk i hi
   refine OR.2 fun r hr=>?_
   have e:=Gn.1 d r hr
   unfold Ln at e
   unfold UI
   cases h0:decide (Cv (BZ s i).held r=0) with
   | true=>rfl
   | false=>
    rw[h0,Bool.false_or] at e
    obtain⟨c1,c2,_⟩:=RE e
    unfold Y9
    simp[c1,c2]
  ·have a:=h2 i c hc
   rw[Nat.zero_add] at a ⊢
   unfold JE at a
   unfold Kd
   simp only[Bool.and_eq_true] at a ⊢
   refine⟨a.2,?_⟩
   simp only[Bool.or_eq_true,Bool.not_eq_true',decide_eq_false_iff_not,decide_eq_true_eq]
   by_cases h0:0≤c.count
   ·refine .inr ?_
    refine (hitT i).2 fun⟨k,hkk,r,hr,he⟩=>?_
    obtain⟨_,_,_,d⟩:=hk k hkk
    have e:=Gn.1 d r hr
    unfold Ln at e
    rw[decide_eq_false (by omega),Bool.false_or] at e
    obtain⟨c1,c2,x,hx,hc2⟩:=RE e
    rw[show (Cv (BZ s k).held r - 1000).toNat=i by omega,hc] at hx
    cases hx
    omega
   ·exact .inl h0
  ·have a:=h2 i c hc
   rw[Nat.zero_add] at a ⊢
   unfold JE at a
   unfold MJ
   simp only[Bool.and_eq_true] at a
   exact a.1
theorem SL {l:List Int} (hl:l.length≤1048576) {N:Nat} (hN:2000000≤N):CX N l=some (!l.all FA):=by
 unfold CX EN
 have key :∀{N i:Nat},i≤l.length→l.length - i < N→((l.drop i).all FA=true∧BE l N i=some (.inr ()))∨((l.drop i).all FA=false∧∃k:Nat,BE l N i=some (.inl (k:Int))):=by
  intro N i hi hN
  refine BN l.length (fun N i=>((l.drop i).all FA=true∧BE l N i=some (.inr ()))∨((l.drop i).all FA=false∧∃k:Nat,BE l N i=some (.inl (k:Int)))) ?_ ?_ hi hN
  ·intro n;exact .inl ⟨by simp,by rw[BE,if_neg (by simp[AK])]⟩
  ·intro n i hi ih
   obtain⟨x,hx,_⟩:=BS hi
   rw[BE,if_pos (by simp[AK];omega),Ai hx,drop_cons hx,List.all_cons]
   unfold GH
   simp only[Option.bind_some,Me]
   rw[Au (by omega) (by omega),show ((i:Int) + 1)=((i+1:Nat):Int) by omega]
   cases FA x with
   | true=>simpa using ih
   | false=>exact .inr ⟨rfl,i,by simp⟩
 rcases key (Nat.zero_le _) (by omega:l.length - 0 < N) with ⟨a,b⟩ | ⟨a,k,b⟩
 ·have b':BE l N 0=some (.inr ()):=b
  rw[b'];simp only[List.drop_zero] at a;rw[a];simp[Sh.cont]
 ·have b':BE l N 0=some (.inl (k:Int)):=b
  rw[b'];simp only[List.drop_zero] at a;rw[a];simp[Sh.cont]
theorem Q4 {l:List Int} (hl:l.length≤1048576) {N:Nat} (hN:2000000≤N):FK N l=some (l.all FA):=by
 unfold FK
 rw[Bn (l:=l) (C5 l) (fun _ x=>FA x) (fun n=>by rw[C5,if_neg (by simp[AK])]) (fun n i x hx=>?_) (by omega),Bz,CW]
 ·cases l.all FA <;> rfl
 ·have hi:=(List.getElem?_eq_some_iff.1 hx).1
  rw[C5,if_pos (by simp[AK];omega),Ai hx,Au (by omega) (by omega),show ((i:Int) + 1)=((i+1:Nat):Int) by omega]
  simp only[Option.bind_some,A6]
  show (if (!FA x)=true then _ else _)=_
  cases FA x <;> simp
end RC

