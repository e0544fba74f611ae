import Derived.Test.YtobjlimoekffaaaGreatGPlainAToIMJ

namespace RC
open Go
def Sy (N:Nat) (im:Au):Bool:=decide (im.procs.length≤4) && ((LV im.decls (im.procs.map fun p=>(p.params,p.result)) && im.procs.all Di) && im.procs.all (FY N im))
theorem NM {im:Au} (S:Eo im) {N:Nat} (hN:2000000≤N):Dh N im=some (Sy N im):=by
 have hpl:=S.pl
 unfold Dh
 rw[JX hpl hN]
 simp only[Option.bind_some,AK]
 rw[J2 (p:=⟨im.decls,im.procs.map UE⟩) S.decls (by simpa using hpl) (fun f hf=>by obtain⟨q,hq,rfl⟩:=List.mem_map.1 hf;exact S.pp q hq) hN]
 rw[Mj S hN,Bz]
 have e2:(im.procs.all fun p=>Di p && FY N im p)=(im.procs.all Di && im.procs.all (FY N im)):=by
  induction im.procs with
  | nil=>rfl
  | cons x r ih=>simp only[List.all_cons,ih];cases Di x <;> cases FY N im x <;> cases r.all Di <;> rfl
 have e3:(List.map (fun f:IT=>(f.params,f.result)) (List.map UE im.procs))=im.procs.map fun p=>(p.params,p.result):=by
  rw[List.map_map];rfl
 rw[e2,e3]
 unfold Sy
 by_cases h4:im.procs.length≤4
 ·have h4':¬ 4 < (im.procs.length:Int):=by omega
  simp only[h4,h4',decide_true,decide_false,Bool.false_eq_true,if_false,Option.bind_some]
  cases LV im.decls (im.procs.map fun p=>(p.params,p.result)) <;> cases im.procs.all Di <;> cases im.procs.all (FY N im) <;> simp
 ·have h4':4 < (im.procs.length:Int):=by omega
  simp[h4,h4']
theorem OC {α:Type} {f:Nat→α→Bool} :∀{l:List α} {k:Nat},Bl f k l=true→∀(i:Nat) x,l[i]?=some x→f (k+i) x=true
 | [],_,_,i,x,h=>by simp at h
 | a :: r,k,h,i,x,hi=>by
  simp only[Bl,Bool.and_eq_true] at h
  cases i with
  | zero=>simp only[List.getElem?_cons_zero,Option.some.injEq] at hi;subst hi;exact h.1
  | succ i=>
   have:=OC h.2 i x (by simpa using hi)
   rwa [show k+(i+1)=k+1+i by omega]
def leads (L:Nat) (at_:Nat) (i:Ag):Prop:=
 (i.op=22∨i.op=20→(at_:Int) < i.num∧i.num < (L:Int))∧(i.op=21→∀j∈i.jumps,(at_:Int) < j∧j < (L:Int))∧(i.op≠23→i.op≠24→at_+1 < L)
structure PV (p:A0):Prop where
 r1:1≤p.Ab
 r2:p.Ab≤2000
 pr:(p.params.length:Int)≤p.Ab
 c1:1≤p.code.length
 c2:p.code.length≤2000
 leads :∀(k:Nat) i,p.code[k]?=some i→leads p.code.length k i
 args :∀i∈p.code,∀a∈i.args,0≤a∧a < p.Ab
 dst :∀i∈p.code,0≤i.dst∧i.dst < p.Ab
theorem X2 {im:Au} (S:Eo im) {N:Nat} (hN:2000000≤N) (h:Sy N im=true) {p:A0} (hp:p∈im.procs):PV p:=by
 unfold Sy at h
 simp only[Bool.and_eq_true] at h
 have hb:=List.all_eq_true.1 h.2.2 p hp
 unfold FY at hb
 simp only[Bool.and_eq_true] at hb
 obtain⟨hs,hl,ha⟩:=hb
 have hs':=hs
 unfold G0 at hs'
 simp only[Bool.and_eq_true,decide_eq_true_eq] at hs'
 obtain⟨s1,s2,s3,s4,s5⟩:=hs'
 have key :∀(k:Nat) i,p.code[k]?=some i→(i.args.all (Is p.Ab) && preB p i)=true∧Bq N im p k i=some true:=fun k i hi=>by
  have hv:=OC ha k i hi
  rw[Nat.zero_add] at hv
  have H:=LP S hp hs hi
  unfold HQ at hv
  rw[Pj H hN] at hv
  obtain⟨m,hm,_⟩:=KW H hN
  rw[Pj H hN] at hm
  cases hc:(i.args.all (Is p.Ab) && preB p i) with
  | false=>rw[hc] at hv;simp at hv
  | true=>
   rw[hc] at hv hm
   simp only[if_true] at hv hm
   rw[hm] at hv
   refine⟨rfl,?_⟩
   rw[hm]
   simpa using hv
 refine⟨s1,s3,s2,s4,s5,fun k i hi=>?_,fun i hi a ha=>?_,fun i hi=>?_⟩
 ·have hk:=(List.getElem?_eq_some_iff.1 hi).1
  obtain⟨_,hm⟩:=key k i hi
  have ew:Sh.w ((k:Int) + 1)=(k:Int) + 1:=As (by omega) (by omega)
  have el:Sh.w (Sh.len p.code - 1)=(p.code.length:Int) - 1:=by rw[AK];exact As (by omega) (by omega)
  refine⟨fun ho=>?_,fun ho=>?_,fun h1 h2=>?_⟩
  ·rcases ho with ho | ho
   ·unfold Bq at hm
    simp only[ho,decide_true,decide_false,if_true,if_false,Bool.false_eq_true,Option.bind_some,A6,ew,el,reduceCtorEq,Int.reduceEq] at hm
    split at hm
    ·simp only[Option.bind_some,Option.some.injEq,Bool.and_eq_true,decide_eq_true_eq] at hm;omega
    ·cases hm
   ·unfold Bq at hm
    simp only[ho,decide_true,decide_false,if_true,if_false,Bool.false_eq_true,Option.bind_some,A6,ew,el,reduceCtorEq,Int.reduceEq] at hm
    split at hm
    ·simp only[Option.bind_some,Option.some.injEq,Bool.and_eq_true,decide_eq_true_eq] at hm;omega
    ·cases hm
  ·have H:=LP S hp hs hi
   obtain⟨m,h1,h2⟩:=Vf H hN ho
   rw[hm] at h2
   simp only[Option.some.injEq] at h2
   have h3:(i.jumps.all (Gg k p.code.length))=true:=by cases hj:(i.jumps.all (Gg k p.code.length)) <;> rw[hj] at h2 <;> simp_all
   intro j hj
   have:=List.all_eq_true.1 h3 j hj
   unfold Gg at this
   simp only[Bool.and_eq_true,decide_eq_true_eq] at this
   exact this
  ·rcases Nat.lt_or_ge (k+1) p.code.length with h | h
   ·exact h
   ·exfalso
    obtain⟨c,hc,_,hlb⟩:=Nx hs
    have ek:p.code.length - 1=k:=by omega
    rw[ek,hi] at hc
    cases hc
    rw[hl] at hlb
    simp only[h1,h2,decide_false,Bool.or_self] at hlb
    cases hlb
 ·obtain⟨k,hk⟩:=List.mem_iff_getElem?.1 hi
  have:=(key k i hk).1
  simp only[Bool.and_eq_true] at this
  have:=List.all_eq_true.1 this.1 a ha
  unfold Is at this
  simpa using this
 ·obtain⟨k,hk⟩:=List.mem_iff_getElem?.1 hi
  have:=(key k i hk).1
  simp only[Bool.and_eq_true] at this
  have:=this.2
  unfold preB at this
  simp only[Bool.and_eq_true,decide_eq_true_eq] at this
  exact this.1.1.1
end RC

