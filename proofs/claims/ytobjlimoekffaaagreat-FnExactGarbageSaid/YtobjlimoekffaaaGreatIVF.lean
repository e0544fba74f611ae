import Derived.Test.YtobjlimoekffaaaGreatIVE

namespace RC
open Go
theorem YF {s:Av} (Q:IU s) {i:Nat} (hi:i < s.AT.length) :
  (if (decide ((i:Int)=0))=true then
      if (!decide ((Ba s i).dst=0))=true then some true
      else
      if (decide (0 < (i:Int)))=true then
       if (decide ((Ba s i).dst < 0))=true then some true
       else
        Option.bind (Sh.get s.AT (Sh.w ((i:Int) - 1))) fun c86=>
        if (decide ((Sh.len c86.own)≤(Ba s i).dst))=true then some true
        else
         Option.bind (Sh.get c86.own (Ba s i).dst) fun c88=>some (!decide (c88=0))
      else some false
     else
     if (decide (0 < (i:Int)))=true then
      if (decide ((Ba s i).dst < 0))=true then some true
      else
       Option.bind (Sh.get s.AT (Sh.w ((i:Int) - 1))) fun c91=>
       if (decide ((Sh.len c91.own)≤(Ba s i).dst))=true then some true
       else
        Option.bind (Sh.get c91.own (Ba s i).dst) fun c93=>some (!decide (c93=0))
     else some false)=some (!MB s i):=by
 have hfl:=Q.fl
 unfold MB
 by_cases h0:i=0
 ·subst h0
  by_cases d:(Ba s 0).dst=0 <;> simp[d]
 ·have h0':¬ (i:Int)=0:=by omega
  have h1:(0:Int) < (i:Int):=by omega
  have e1:Sh.w ((i:Int) - 1)=((i - 1:Nat):Int):=by rw[As (by omega) (by omega)];omega
  obtain⟨b1,b2,b3⟩:=Hu (s:=s) (i:=i - 1) (by omega)
  rw[e1,b1,if_neg (by simpa using h0'),if_pos (by simpa using h1),if_neg h0]
  simp only[Option.bind_some,AK]
  by_cases d1:(Ba s i).dst < 0
  ·have d1':¬ 0≤(Ba s i).dst:=by omega
   simp[d1,d1']
  ·have d1':0≤(Ba s i).dst:=by omega
   by_cases d2:((Ba s (i - 1)).own.length:Int)≤(Ba s i).dst
   ·have d2':¬ (Ba s i).dst < ((Ba s (i - 1)).own.length:Int):=by omega
    simp[d1,d2,d2']
   ·have d2':(Ba s i).dst < ((Ba s (i - 1)).own.length:Int):=by omega
    obtain⟨q,hq⟩:=Int.eq_ofNat_of_zero_le d1'
    have e3:Sh.get (Ba s (i - 1)).own (Ba s i).dst=some (Cy (Ba s (i - 1)).own (Ba s i).dst.toNat):=by
     rw[hq];exact Fy (by omega)
    rw[e3]
    simp[d1,d1',d2,d2']
def okF (im:Au) (s:Av) (i:Nat):Bool:=N4 im (Ba s i) && (MB s i && (Vp s (Ba s i) && YN s (Ba s i)))
def JM (s:Av) (i:Nat) (c:Cell):Bool:=(!decide (0 < c.count) || decide (c.count=(E5 s.heap s.heap i:Int) + Ln s s.AT.length Z i)) && (!decide (c.count < 0) || decide (HG s s.AT.length Z i=1))
def R0 (s:Av):Nat→Int:=fun j=>(E5 s.heap s.heap j:Int)
theorem ZI {im:Au} (S:Eo im) {s:Av} (Q:IU s) {N:Nat} (hN:2000000≤N) :
  (H9 s (okF im s)=true∧BS N im s N 0 (refs s.heap) (rowOf s.heap.length Z)=some (.inr (rowOf s.heap.length (fun j=>(E5 s.heap s.heap j:Int) + Ln s s.AT.length Z j),rowOf s.heap.length (HG s s.AT.length Z))))∨
  (H9 s (okF im s)=false∧BS N im s N 0 (refs s.heap) (rowOf s.heap.length Z)=some (.inl false)):=by
 have hl:=Q.hp.len
 have hfl:=Q.fl
 have stp :∀n i (p:(Nat→Int)×(Nat→Int)),i < s.AT.length→(JO (1048576+999999 * hb s i) 0 p.1∧JB (hb s i) 0 p.2)→
   (okF im s i=true→(JO (1048576+999999 * hb s (i+1)) 0 (LG (Ba s i) p.1)∧JB (hb s (i+1)) 0 (H8 (Ba s i) p.2))∧
    (fun n i (r:List Int×List Int)=>BS N im s n i r.1 r.2) (n+1) (i:Int) (rows2 s.heap.length p)=(fun n i (r:List Int×List Int)=>BS N im s n i r.1 r.2) n ((i+1:Nat):Int) (rows2 s.heap.length (LG (Ba s i) p.1,H8 (Ba s i) p.2)))∧
   (okF im s i=false→∃e,e=Sum.inl false∧(fun n i (r:List Int×List Int)=>BS N im s n i r.1 r.2) (n+1) (i:Int) (rows2 s.heap.length p)=some e):=by
  intro n i ⟨F,G⟩ hi ⟨hF,hG⟩
  unfold rows2
  dsimp only at hF hG ⊢
  obtain⟨g1,g2,g3⟩:=Hu hi
  have hz:=Q.fz g2
  have hin:=Q.fin g2
  have hb1:=Q.hb i
  have e0:(Sh.w ((i:Int) + 1))=((i+1:Nat):Int):=by rw[As (by omega) (by omega)];omega
  rw[BS,if_pos (by simp[AK];omega),g1,e0]
  simp only[Option.bind_some]
  rw[RW S hz hN,YF Q hi]
  simp only[Option.bind_some,Bool.not_not]
  unfold okF
  cases hv:N4 im (Ba s i) with
  | false=>exact⟨fun h=>by simp at h,fun _=>⟨_,rfl,by simp⟩⟩
  | true=>
   cases hd:MB s i with
   | false=>exact⟨fun h=>by simp at h,fun _=>⟨_,rfl,by simp⟩⟩
   | true=>
    obtain⟨l1,l2,l3⟩:=VS hv
    rcases X5 hl hz hin l1 l2 l3 (A:=1048576+999999 * hb s i) (B:=hb s i) (by omega) hb1 hN hF hG with ⟨a1,a2,a3,a4,a5⟩ | ⟨a1,x,y,a2⟩
    ·rw[a3]
     refine⟨fun _=>⟨⟨SM Q hi (TA a4),fun j=>?_⟩,by simp⟩,fun h=>?_⟩
     ·have:=a5 j
      have h2:=Oz hi
      have h3:(Ba s i).own.length≤fz (Ba s i):=by unfold fz;omega
      omega
     ·unfold Vp YN at h
      rw[a1,a2] at h;cases h
    ·rw[a2]
     unfold Vp YN
     rw[a1]
     exact⟨fun h=>by simp at h,fun _=>⟨_,rfl,by simp⟩⟩
 have hJ0:JO (1048576+999999 * hb s 0) 0 (R0 s)∧JB (hb s 0) 0 Z:=⟨fun j=>by have:=Ro Q j;unfold R0;omega,fun j=>⟨Int.le_refl _,by unfold Z;omega⟩⟩
 have hadd:Er (fun i=>LG (Ba s i)) s.AT.length (R0 s)=fun j=>(E5 s.heap s.heap j:Int) + Ln s s.AT.length Z j:=by
  have:=Xm s s.AT.length (R0 s) Z
  have e:(fun j=>R0 s j+Z j)=R0 s:=by funext j;unfold Z;omega
  rw[e] at this
  exact this
 rcases Jt (τ:=(Nat→Int)×(Nat→Int)) s.AT.length (fun n i (r:List Int×List Int)=>BS N im s n i r.1 r.2) (Sum.inr) (rows2 s.heap.length) (okF im s) (fun i p=>(LG (Ba s i) p.1,H8 (Ba s i) p.2)) (fun i p=>JO (1048576+999999 * hb s i) 0 p.1∧JB (hb s i) 0 p.2) (fun e=>e=Sum.inl false)
  (fun n r=>by rw[BS,if_neg (by simp[AK])]) stp (by omega:s.AT.length < N) (s:=(R0 s,Z)) hJ0 with ⟨a,b,c⟩ | ⟨ho,e,he,hb⟩
 ·refine .inl ⟨G9.2 a,?_⟩
  rw[Mn,hadd] at b
  exact b
 ·refine .inr ⟨O9 ho,?_⟩
  rw[he] at hb
  exact hb
theorem Wh {im:Au} (S:Eo im) {s:Av} (Q:IU s) {N:Nat} (hN:2000000≤N) :
  (Option.bind (Sh.mk (0:Int) (Sh.len s.heap) 8) fun l23=>
    Sh.cont (BS N im s N 0 (refs s.heap) l23) (id) fun (l29,l30)=>
    Sh.cont (Bt l29 l30 s N 0) (id) fun ()=>
    some true)=some (H9 s (okF im s) && Bl (JM s) 0 s.heap):=by
 have hl:=Q.hp.len
 rw[AK,Gw _ s.heap.length 8 (by omega) (by omega),Ed,show (fun _:Nat=>(0:Int))=Z from rfl]
 simp only[Option.bind_some]
 rcases ZI S Q hN with ⟨a,b⟩ | ⟨a,b⟩
 ·rw[a,b]
  simp only[Sh.cont,Bool.true_and]
  have L:=Bo (l:=s.heap) (Bt (rowOf s.heap.length (fun j=>(E5 s.heap s.heap j:Int) + Ln s s.AT.length Z j)) (rowOf s.heap.length (HG s s.AT.length Z)) s) (JM s) (fun n=>by rw[Bt,if_neg (by simp[AK])]) (fun n i c hc=>?_) (by omega:s.heap.length < N)
  ·rw[L]
   cases Bl (JM s) 0 s.heap <;> rfl
  ·have hi:=(List.getElem?_eq_some_iff.1 hc).1
   rw[Bt,if_pos (by simp[AK];omega),Ak hc,Ak (Bd hi),Ak (Bd hi),As (n:=(i:Int) + 1) (by omega) (by omega),show ((i:Int) + 1)=((i+1:Nat):Int) by omega]
   simp only[Option.bind_some]
   unfold JM
   generalize (E5 s.heap s.heap i:Int) + Ln s s.AT.length Z i=m
   generalize HG s s.AT.length Z i=k
   by_cases h1:0 < c.count
   ·have h2:¬ c.count < 0:=by omega
    by_cases h3:c.count=m
    ·have h1':0 < m:=by omega
     have h2':¬ m < 0:=by omega
     simp[h3,h1',h2']
    ·simp[h1,h2,h3]
   ·by_cases h2:c.count < 0 <;> by_cases h3:k=1 <;> simp[h1,h2,h3]
 ·rw[a,b];rfl
def MC (im:Au) (s:Av) (i:Nat):Bool:=N4 im (Ba s i) && (Vp s (Ba s i) && MB s i)
theorem Ns {im:Au} (S:Eo im) {s:Av} (Q:IU s) {N:Nat} (hN:2000000≤N) :
  (Sh.cont (CS N im s N 0) (id) fun ()=>
    Option.bind (Option.bind (F6 N s) fun q27=>if q27=true then Option.bind (E7 N s) fun q29=>some q29 else some false) fun t25=>
    some t25)=some (H9 s (MC im s) && ((UC s && Bl (Kn (HG s s.AT.length Z)) 0 s.heap) && Bl (Md s) 0 s.heap)):=by
 have hfl:=Q.fl
 have e:H9 s (MC im s)=Bl (fun i _=>MC im s i) 0 s.AT:=by rw[P0];rfl
 rw[Bo (l:=s.AT) (CS N im s) (fun i _=>MC im s i) (fun n=>by rw[CS,if_neg (by simp[AK])]) (fun n i f hf=>?_) (by omega),Bz,← e]
 ·cases ha:H9 s (MC im s) with
  | false=>simp
  | true=>
   have hv :∀i,i < s.AT.length→N4 im (Ba s i)=true∧Vp s (Ba s i)=true:=fun i hi=>by
    have:=G9.1 ha i hi
    unfold MC at this
    simp only[Bool.and_eq_true] at this
    exact⟨this.1,this.2.1⟩
   rw[UD Q hN,XX Q hv hN]
   simp only[if_true,Option.bind_some,Bool.true_and]
   cases UC s <;> cases Bl (Kn (HG s s.AT.length Z)) 0 s.heap <;> simp
 ·have hi:=(List.getElem?_eq_some_iff.1 hf).1
  rw[CS,if_pos (by simp[AK];omega),Rs S Q hi hN,As (by omega) (by omega),show ((i:Int) + 1)=((i+1:Nat):Int) by omega]
  simp only[Option.bind_some]
  have:(N4 im (Ba s i) && (FD (Ba s i).Ab.length (IM s.heap (Ba s i)) && MB s i))=MC im s i:=rfl
  rw[this]
  cases MC im s i <;> simp
theorem YB {a b:Bool} (h:a=true↔b=true):a=b:=by cases a <;> cases b <;> simp at h ⊢
theorem V4 {im:Au} {s:Av}:(H9 s (MC im s) && ((UC s && Bl (Kn (HG s s.AT.length Z)) 0 s.heap) && Bl (Md s) 0 s.heap))=(H9 s (okF im s) && Bl (JM s) 0 s.heap):=by
 apply YB
 simp only[Bool.and_eq_true]
 unfold UC
 rw[G9,G9,G9,JE,JE,JE]
 have hitT:=fun j=>SG s j s.AT.length Z
 constructor
 ·rintro⟨h1,⟨h2,h3⟩,h4⟩
  refine⟨fun i hi=>?_,fun i c hc=>?_⟩
  ·have a:=h1 i hi
   have b:=O4.1 (h2 i hi)
   unfold MC at a
   simp only[Bool.and_eq_true] at a
   unfold okF
   rw[a.1,a.2.1,a.2.2]
   simp only[Bool.true_and]
   unfold YN
   refine Gs.2 fun r hr=>?_
   have c:=b r hr
   unfold UT at c
   unfold L0
   cases h0:decide (Cy (Ba s i).held r=0) with
   | true=>rfl
   | false=>
    rw[h0] at c
    unfold YR at c
    simp only[Bool.false_or,Bool.and_eq_true,decide_eq_true_eq] at c
    obtain⟨c1,c2⟩:=c
    obtain⟨x,hx,_⟩:=BR (l:=s.heap) (i:=(Cy (Ba s i).held r - 1000).toNat) (by omega)
    have g:=h3 _ x hx
    have t:=(hitT (Cy (Ba s i).held r - 1000).toNat).1 ⟨i,hi,r,hr,by omega⟩
    have z:Z (Cy (Ba s i).held r - 1000).toNat=0:=rfl
    rw[Nat.zero_add] at g
    unfold Kn at g
    unfold kept
    rw[hx]
    simp only[Bool.and_eq_true,Bool.or_eq_true,Bool.not_eq_true',decide_eq_false_iff_not,decide_eq_true_eq,Bool.false_or] at g ⊢
    refine⟨c1,?_⟩
    rcases g.2 with g2 | g2
    ·omega
    ·omega
  ·have a:=h3 i c hc
   have b:=h4 i c hc
   rw[Nat.zero_add] at a b ⊢
   unfold Kn at a
   unfold Md at b
   unfold JM
   simp only[Bool.and_eq_true] at a
   rw[b,a.1];rfl
 ·rintro⟨h1,h2⟩
  have hk :∀i,i < s.AT.length→N4 im (Ba s i)=true∧MB s i=true∧Vp s (Ba s i)=true∧YN s (Ba s i)=true:=fun i hi=>by
   have a:=h1 i hi
   unfold okF at a
   simp only[Bool.and_eq_true] at a
   exact a
  refine⟨fun i hi=>?_,⟨fun i hi=>?_,fun i c hc=>?_⟩,fun i c hc=>?_⟩
  ·obtain⟨a,b,c,d⟩:=hk i hi
   unfold MC;rw[a,b,c];rfl
  ·obtain⟨_,_,_,d⟩:=hk i hi
   refine O4.2 fun r hr=>?_
   have e:=Gs.1 d r hr
   unfold L0 at e
   unfold UT
   cases h0:decide (Cy (Ba s i).held r=0) with
   | true=>rfl
   | false=>
    rw[h0,Bool.false_or] at e
    obtain⟨c1,c2,_⟩:=SF e
    unfold YR
    simp[c1,c2]
  ·have a:=h2 i c hc
   rw[Nat.zero_add] at a ⊢
   unfold JM at a
   unfold Kn
   simp only[Bool.and_eq_true] at a ⊢
   refine⟨a.2,?_⟩
   simp only[Bool.or_eq_true,Bool.not_eq_true',decide_eq_false_iff_not,decide_eq_true_eq]
   by_cases h0:0≤c.count
   ·refine .inr ?_
    refine (hitT i).2 fun⟨k,hkk,r,hr,he⟩=>?_
    obtain⟨_,_,_,d⟩:=hk k hkk
    have e:=Gs.1 d r hr
    unfold L0 at e
    rw[decide_eq_false (by omega),Bool.false_or] at e
    obtain⟨c1,c2,x,hx,hc2⟩:=SF e
    rw[show (Cy (Ba s k).held r - 1000).toNat=i by omega,hc] at hx
    cases hx
    omega
   ·exact .inl h0
  ·have a:=h2 i c hc
   rw[Nat.zero_add] at a ⊢
   unfold JM at a
   unfold Md
   simp only[Bool.and_eq_true] at a
   exact a.1
theorem Sl {l:List Int} (hl:l.length≤1048576) {N:Nat} (hN:2000000≤N):CX N l=some (!l.all FE):=by
 unfold CX ES
 have key :∀{N i:Nat},i≤l.length→l.length - i < N→((l.drop i).all FE=true∧BE l N i=some (.inr ()))∨((l.drop i).all FE=false∧∃k:Nat,BE l N i=some (.inl (k:Int))):=by
  intro N i hi hN
  refine BM l.length (fun N i=>((l.drop i).all FE=true∧BE l N i=some (.inr ()))∨((l.drop i).all FE=false∧∃k:Nat,BE l N i=some (.inl (k:Int)))) ?_ ?_ hi hN
  ·intro n;exact .inl ⟨by simp,by rw[BE,if_neg (by simp[AK])]⟩
  ·intro n i hi ih
   obtain⟨x,hx,_⟩:=BR hi
   rw[BE,if_pos (by simp[AK];omega),Ak hx,drop_cons hx,List.all_cons]
   unfold GM
   simp only[Option.bind_some,Mx]
   rw[As (by omega) (by omega),show ((i:Int) + 1)=((i+1:Nat):Int) by omega]
   cases FE x with
   | true=>simpa using ih
   | false=>exact .inr ⟨rfl,i,by simp⟩
 rcases key (Nat.zero_le _) (by omega:l.length - 0 < N) with ⟨a,b⟩ | ⟨a,k,b⟩
 ·have b':BE l N 0=some (.inr ()):=b
  rw[b'];simp only[List.drop_zero] at a;rw[a];simp[Sh.cont]
 ·have b':BE l N 0=some (.inl (k:Int)):=b
  rw[b'];simp only[List.drop_zero] at a;rw[a];simp[Sh.cont]
theorem Re {l:List Int} (hl:l.length≤1048576) {N:Nat} (hN:2000000≤N):FN N l=some (l.all FE):=by
 unfold FN
 rw[Bo (l:=l) (C6 l) (fun _ x=>FE x) (fun n=>by rw[C6,if_neg (by simp[AK])]) (fun n i x hx=>?_) (by omega),Bz,CW]
 ·cases l.all FE <;> rfl
 ·have hi:=(List.getElem?_eq_some_iff.1 hx).1
  rw[C6,if_pos (by simp[AK];omega),Ak hx,As (by omega) (by omega),show ((i:Int) + 1)=((i+1:Nat):Int) by omega]
  simp only[Option.bind_some,A6]
  show (if (!FE x)=true then _ else _)=_
  cases FE x <;> simp
end RC

