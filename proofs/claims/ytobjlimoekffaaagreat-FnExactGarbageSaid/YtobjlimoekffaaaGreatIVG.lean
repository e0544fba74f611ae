import Derived.Test.YtobjlimoekffaaaGreatIVF

namespace RC
open Go
theorem Pq {im:Au} (S:Eo im) {s:Av} (Q:IU s) {N:Nat} (hN:2000000≤N) :∃b,I1 N im s=some b∧FM N im s=some b:=by
 have hl:=Q.hp.len
 have hfl:=Q.fl
 have hol:s.out.length≤1048576:=by have:=Q.size;unfold KC at this;omega
 obtain⟨c1,c2⟩:=Q.dL.calls
 obtain⟨b0,i1,i2⟩:=QI S hN
 have i1':Dh N im=some b0:=by
  unfold I8 at i1
  cases h:Dh N im with
  | none=>rw[h] at i1;cases i1
  | some b=>rw[h] at i1;exact i1
 obtain⟨bh,r,h1,_,h3,_,_,h6⟩:=KQ Q.hp hN
 unfold I1 FM B2 HL
 rw[Ns S Q hN,V4,i1',i2,h1,h3,Sl hol hN,Re hol hN]
 simp only[Option.bind_some,A6,Mx]
 have evI:(decide (-999≤s.value) && decide (s.value≤999))=FE s.value:=rfl
 rw[evI]
 cases b0 with
 | false=>exact⟨false,by simp,by simp⟩
 | true=>
  have h4':(if bh=true then (Option.bind (Sh.mk (0:Int) (Sh.len s.heap) 8) fun l23=>
    Sh.cont (BS N im s N 0 r l23) (id) fun (l29,l30)=>
    Sh.cont (Bt l29 l30 s N 0) (id) fun ()=>
    some true)=some (H9 s (okF im s) && Bl (JM s) 0 s.heap) else True):=by
   cases bh with
   | false=>trivial
   | true=>rw[h6 rfl];exact Wh S Q hN
  generalize (H9 s (okF im s) && Bl (JM s) 0 s.heap)=T at *
  generalize (Option.bind (Sh.mk (0:Int) (Sh.len s.heap) 8) fun l23=>
    Sh.cont (BS N im s N 0 r l23) (id) fun (l29,l30)=>
    Sh.cont (Bt l29 l30 s N 0) (id) fun ()=>
    some true)=X at *
  simp only[if_true,Bool.not_true,Bool.false_eq_true,if_false]
  by_cases a1:s.status < 0
  ·have a1':¬ 0≤s.status:=by omega
   exact⟨false,by simp[a1'],by simp[a1]⟩
  have a1':0≤s.status:=by omega
  by_cases a2:3 < s.status
  ·have a2':¬ s.status≤3:=by omega
   exact⟨false,by simp[a1',a2'],by simp[a1,a2]⟩
  have a2':s.status≤3:=by omega
  generalize hdn:((decide (s.status=0)) != (decide ((Sh.len s.AT)=0)))=dn
  simp only[a1,a1',a2,a2',decide_true,decide_false,Bool.and_self,Bool.not_true,Bool.false_eq_true,if_false]
  cases dn with
  | true=>exact⟨false,by simp,by simp⟩
  | false=>
   simp only[Bool.false_eq_true,if_false,Option.bind_some]
   cases hv:FE s.value with
   | false=>exact⟨false,by simp,by simp⟩
   | true=>
    simp only[Bool.not_true,Bool.false_eq_true,if_false]
    have tail :∃b,(Option.bind
       (Option.bind
        (if (!(decide (0≤s.CV) && decide (s.CV≤40)))=true then some true
        else some (!(decide (0≤s.calls) && decide (s.calls≤s.CV)))) fun t10=>
       if t10=true then some false
       else
        Option.bind (if (decide ((Sh.w (s.calls+1)) < (Sh.len s.AT)))=true then some true else if (!s.out.all FE)=true then some true else some (!bh)) fun t16=>
        if t16=true then some false else some T) fun q3=>some q3)=some b∧
      (Option.bind (if (decide (s.CV < 0))=true then some true else if (decide (40 < s.CV))=true then some true else if (decide (s.calls < 0))=true then some true else if (decide (s.CV < s.calls))=true then some true else some (decide ((Sh.w (s.calls+1)) < (Sh.len s.AT)))) fun t10=>
       if t10=true then some false
       else
        Option.bind (if (!bh)=true then some true else some (!s.out.all FE)) fun t18=>
        if t18=true then some false else X)=some b:=by
     rw[AK]
     by_cases m1:s.CV < 0
     ·have m1':¬ 0≤s.CV:=by omega
      exact⟨false,by simp[m1'],by simp[m1]⟩
     have m1':0≤s.CV:=by omega
     by_cases m2:40 < s.CV
     ·have m2':¬ s.CV≤40:=by omega
      exact⟨false,by simp[m1',m2'],by simp[m1,m2]⟩
     have m2':s.CV≤40:=by omega
     by_cases m3:s.calls < 0
     ·have m3':¬ 0≤s.calls:=by omega
      exact⟨false,by simp[m1',m2',m3'],by simp[m1,m2,m3]⟩
     have m3':0≤s.calls:=by omega
     by_cases m4:s.CV < s.calls
     ·have m4':¬ s.calls≤s.CV:=by omega
      exact⟨false,by simp[m1',m2',m3',m4'],by simp[m1,m2,m3,m4]⟩
     have m4':s.calls≤s.CV:=by omega
     by_cases m5:Sh.w (s.calls+1) < (s.AT.length:Int)
     ·exact⟨false,by simp[m1',m2',m3',m4',m5],by simp[m1,m2,m3,m4,m5]⟩
     cases bh with
     | false=>exact⟨false,by cases s.out.all FE <;> simp[m1',m2',m3',m4',m5],by simp[m1,m2,m3,m4,m5]⟩
     | true=>
      rw[if_pos rfl] at h4'
      rw[h4']
      cases s.out.all FE with
      | false=>exact⟨false,by simp[m1',m2',m3',m4',m5],by simp[m1,m2,m3,m4,m5]⟩
      | true=>exact⟨T,by simp[m1',m2',m3',m4',m5],by simp[m1,m2,m3,m4,m5]⟩
    obtain⟨b,t1,t2⟩:=tail
    by_cases v0:s.value=0
    ·refine⟨b,?_,?_⟩
     ·rw[← t1];simp[v0]
     ·simp only[v0,decide_true,Bool.not_true,Bool.false_eq_true,if_false,Option.bind_some]
      rw[t2];rfl
    ·by_cases s0:s.status=0
     ·refine⟨b,?_,?_⟩
      ·rw[← t1];simp[v0,s0]
      ·simp only[v0,s0,decide_true,decide_false,Bool.not_true,Bool.not_false,Bool.false_eq_true,if_true,if_false,Option.bind_some]
       rw[t2];rfl
     ·exact⟨false,by simp[v0,s0],by simp[v0,s0]⟩
end RC

