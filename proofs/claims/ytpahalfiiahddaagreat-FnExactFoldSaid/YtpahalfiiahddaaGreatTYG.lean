import Derived.Test.YtpahalfiiahddaaGreatGTYEToKNK

namespace RC
open Go
theorem Ub {N:Nat} (hN:2000000≤N) :∀(n:Nat) (e:AG),en e≤n→en e≤1000→DV N n e=some e:=by
 intro n
 induction n with
 | zero=>intro e h;have:=H0 e;omega
 | succ n ih=>
  intro e hn hs
  have hlen:=FR e.kids
  have he:=Em e
  rw[DV]
  unfold GY G1
  have key :∀(M i:Nat),i≤e.kids.length→e.kids.length - i < M→Ca e.kids (DV N n) M i (e.kids.take i)=some e.kids:=by
   intro M i hi hM
   refine Bx e.kids.length (fun M i=>Ca e.kids (DV N n) M i (e.kids.take i)=some e.kids) ?_ ?_ hi hM
   ·intro m
    rw[Ca,if_neg (by simp[AS]),List.take_length]
   ·intro m i hi ih2
    obtain⟨c,hc,hcm⟩:=Bn hi
    have h1:=GJ hcm
    rw[Ca,if_pos (by simp[AS];omega),A8 hc]
    simp only[Option.bind_some]
    rw[ih c (by omega) (by omega)]
    simp only[Option.bind_some]
    rw[DM _ _ 40 (by simp;omega) (by simp;omega),A9 (by omega) (by omega),show ((i:Int) + 1)=((i+1:Nat):Int) by omega]
    simp only[Option.bind_some]
    rw[← CC hc];exact ih2
  have:=key N 0 (Nat.zero_le _) (by omega)
  rw[List.take_zero,show ((0:Nat):Int)=0 from rfl] at this
  rw[this]
  simp only[Option.bind_some]
  rw[← Ga]
theorem Tz {N:Nat} (hN:2000000≤N) {e:AG} (hs:en e≤1000):HQ N e=some e:=by
 unfold HQ;exact Ub hN N e (by omega) hs
def wB (p:Aa) (g:Am→AG):Aa×Bool:=if (p.funcs.all fun f=>decide (en (g f)≤30))=true then (.mk p.decls (p.funcs.map fun f=>.mk f.params f.result (g f)),true) else (.mk [] [],false)
theorem Rq {N:Nat} (hN:2000000≤N) {p:Aa} {g:Am→AG} (hd:p.decls.length≤1048576) (hz :∀d∈p.decls,dz d≤1048576) (hf:p.funcs.length≤1048576) (hb :∀f∈p.funcs,f.params.length≤1048576∧en (g f)≤1000):Fa N p (p.funcs.map g)=some (wB p g):=by
 unfold Fa
 rw[Tk hd hz hN]
 simp only[Option.bind_some]
 have key :∀(M i:Nat),i≤p.funcs.length→p.funcs.length - i < M→CF N p (p.funcs.map g) M i ((p.funcs.map fun f=>Am.mk f.params f.result (g f)).take i)=some (if ((p.funcs.drop i).all fun f=>decide (en (g f)≤30))=true then Sum.inr (p.funcs.map fun f=>Am.mk f.params f.result (g f)) else Sum.inl (.mk [] [],false)):=by
  intro M i hi hM
  refine Bx p.funcs.length (fun M i=>CF N p (p.funcs.map g) M i ((p.funcs.map fun f=>Am.mk f.params f.result (g f)).take i)=some (if ((p.funcs.drop i).all fun f=>decide (en (g f)≤30))=true then Sum.inr (p.funcs.map fun f=>Am.mk f.params f.result (g f)) else Sum.inl (.mk [] [],false))) ?_ ?_ hi hM
  ·intro m
   rw[CF,if_neg (by simp[AS]),List.take_of_length_le (by simp),List.drop_length];rfl
  ·intro m i hi ih
   obtain⟨f,hf1,hfm⟩:=Bn hi
   obtain⟨hbp,hs⟩:=hb f hfm
   have hze:=Em (g f)
   have hm0:(p.funcs.map g)[i]?=some (g f):=by rw[List.getElem?_map,hf1];rfl
   have hm:(p.funcs.map fun f=>Am.mk f.params f.result (g f))[i]?=some (Am.mk f.params f.result (g f)):=by rw[List.getElem?_map,hf1];rfl
   rw[CF,if_pos (by simp[AS];omega),A8 hm0,drop_cons hf1,List.all_cons]
   simp only[Option.bind_some]
   rw[JB (by omega) hN]
   simp only[Option.bind_some]
   by_cases h30:en (g f)≤30
   ·rw[if_pos h30,if_neg (by simp),A8 hf1]
    simp only[Option.bind_some,h30,decide_true,Bool.true_and]
    have hci:DQ f.params=some f.params:=by
     unfold DQ
     rw[DM _ _ _ (by simp;omega) (by simp;omega)];rfl
    rw[hci,Tz hN (by omega)]
    simp only[Option.bind_some]
    rw[DM _ _ 72 (by simp;omega) (by simp;omega),A9 (by omega) (by omega),show ((i:Int) + 1)=((i+1:Nat):Int) by omega]
    simp only[Option.bind_some]
    rw[← CC hm];exact ih
   ·rw[if_neg h30]
    simp[h30]
 have:=key N 0 (Nat.zero_le _) (by omega)
 rw[List.take_zero,show ((0:Nat):Int)=0 from rfl,List.drop_zero] at this
 rw[this]
 unfold wB
 by_cases h:(p.funcs.all fun f=>decide (en (g f)≤30))=true
 ·rw[if_pos h,if_pos h];rfl
 ·rw[if_neg h,if_neg h];rfl
theorem Z2 {p:Aa} {g:Am→AG} (hp:Kg p≤1048576) (h4:p.funcs.length≤4) (hz:Kg p≤500000∨∀f∈p.funcs,f.params.length≤3) (hdz:p.decls.length+(p.decls.map dz).sum≤500000):Kg (wB p g).1≤1048576:=by
 unfold wB
 split
 ·rename_i h
  rw[List.all_eq_true] at h
  unfold Kg at hp hz ⊢
  simp only[List.length_map,List.map_map]
  have:(p.funcs.map (Ip ∘ fun f=>Am.mk f.params f.result (g f))).sum≤30 * p.funcs.length+1 * (p.funcs.map Ip).sum:=MO fun f hf=>by
   have:=h f hf
   simp only[decide_eq_true_eq] at this
   have h2:=Em (g f)
   show f.params.length+CK (g f).kids≤_
   unfold Ip;omega
  rcases hz with hz | hz
  ·omega
  ·have h5:(p.funcs.map (Ip ∘ fun f=>Am.mk f.params f.result (g f))).sum≤33 * p.funcs.length+0 * (p.funcs.map Ip).sum:=MO fun f hf=>by
    have:=h f hf
    simp only[decide_eq_true_eq] at this
    have h2:=Em (g f)
    have h3:=hz f hf
    show f.params.length+CK (g f).kids≤_
    omega
   omega
 ·simp[Kg]
section
variable {p : Aa} {N : Nat}
theorem WQ (S:F8 p) (hN:2000000≤N) (hv:Cc N p=some true):Dy p.decls p.funcs∧∃T,TX p N T∧∀f∈p.funcs,en f.body≤30∧f.params.length≤3∧(∀x∈f.params,CB p.decls x=true)∧BG f.body∧CB p.decls f.result=true∧T f.params f.body=f.result:=by
 obtain⟨SO,T0,hT0,h⟩:=Zb S hN hv
 obtain⟨T,hT⟩:=Qx SO hN 340
 refine⟨SO,T,hT,fun f hf=>?_⟩
 obtain⟨he,V,ty,hb⟩:=h f hf
 have hp:=(SO.QC f hf).1
 refine⟨he,hp,V.GQ,V.Ea,ty,?_⟩
 have a:=(hT0 f.params f.body V.Ea (by omega) (by omega) V.GQ 340 340 (by omega) (by omega)).1
 have b:=(hT f.params f.body V.Ea (by omega) (by omega) V.GQ 340 340 (Nat.le_refl _) (Nat.le_refl _)).1
 rw[a] at b
 rw[← hb];exact (Option.some.inj b).symm
def Hl (p:Aa) (f:Am):AG:=fd p.decls f.params.length f.body
theorem Wx (S:F8 p) (hN:2000000≤N) (hd:p.decls.length≤1048576) (hz :∀d∈p.decls,dz d≤1048576) :
  ∃b,Cc N p=some b∧Es N p=some b∧KO N p=some (if b=true then wB p (Hl p) else (.mk [] [],false))∧HD N p=some (if b=true then wB p (Hl p) else (.mk [] [],false)):=by
 obtain⟨b,e1,e2,_⟩:=KW S hN
 refine⟨b,e1,e2,?_⟩
 unfold KO HD
 rw[e1,e2]
 simp only[Option.bind_some]
 cases b with
 | false=>exact⟨rfl,rfl⟩
 | true=>
  obtain⟨SO,T,hT,hfs⟩:=WQ S hN e1
  have hfl:=S.OF
  have hF :∀f∈p.funcs,Oi N p f.body f.params.length=some (Hl p f)∧(∀F,Hd N f.body.kids p.decls F p.decls f.body.op f.body.num f.params.length=some (Hl p f))∧en (Hl p f)≤60:=fun f hf=>by
   obtain⟨h1,h2,h3,h4,h5,h6⟩:=hfs f hf
   have hne:T f.params f.body≠-1:=by rw[h6];have:=(IZ h5).1;omega
   have q:=bp SO hN hT N f.body f.params (by omega) (by omega) h3 h4 hne
   have sz:=(Zr SO hN hT (en f.body) f.body f.params (Nat.le_refl _) ⟨by omega,h3,h4⟩ hne).1.2.2
   exact⟨q.1,q.2,by unfold Hl;omega⟩
  have hfz:=fun f hf=>(hfs f hf)
  constructor
  ·simp only[Bool.not_true,Bool.false_eq_true,if_false,if_true]
   have key :∀(M i:Nat),i≤p.funcs.length→p.funcs.length - i < M→E0 N p M i ((p.funcs.map (Hl p)).take i)=some (p.funcs.map (Hl p)):=by
    intro M i hi hM
    refine Bx p.funcs.length (fun M i=>E0 N p M i ((p.funcs.map (Hl p)).take i)=some (p.funcs.map (Hl p))) ?_ ?_ hi hM
    ·intro m
     rw[E0,if_neg (by simp[AS]),List.take_of_length_le (by simp)]
    ·intro m i hi ih
     obtain⟨f,hf1,hfm⟩:=Bn hi
     have hm:(p.funcs.map (Hl p))[i]?=some (Hl p f):=by rw[List.getElem?_map,hf1];rfl
     rw[E0,if_pos (by simp[AS];omega),A8 hf1]
     simp only[Option.bind_some]
     rw[AS,(hF f hfm).1]
     simp only[Option.bind_some]
     rw[DM _ _ 40 (by simp;omega) (by simp;omega),A9 (by omega) (by omega),show ((i:Int) + 1)=((i+1:Nat):Int) by omega]
     simp only[Option.bind_some]
     rw[← CC hm];exact ih
   have:=key N 0 (Nat.zero_le _) (by omega)
   rw[List.take_zero,show ((0:Nat):Int)=0 from rfl] at this
   rw[this]
   simp only[Option.bind_some]
   rw[Rq hN hd hz hfl (fun f hf=>⟨(S.fz hf).1,by have:=(hF f hf).2.2;omega⟩)];rfl
  ·simp only[Bool.not_true,Bool.false_eq_true,if_false,if_true]
   unfold G7
   rw[QP hN hd hz hfl (fun f hf=>⟨(S.fz hf).1,by have:=(hfs f hf).1;omega,(hfs f hf).2.2.2.1⟩)]
   simp only[Option.bind_some]
   have key :∀(M i:Nat),i≤p.funcs.length→p.funcs.length - i < M→CZ N p.decls p.funcs p p M i ((p.funcs.map fun f=>Am.mk f.params f.result (Hl p f)).take i ++ p.funcs.drop i)=some (if ((p.funcs.drop i).all fun f=>decide (en (Hl p f)≤30))=true then Sum.inr (p.funcs.map fun f=>Am.mk f.params f.result (Hl p f)) else Sum.inl (.mk [] [],false)):=by
    intro M i hi hM
    refine Bx p.funcs.length (fun M i=>CZ N p.decls p.funcs p p M i ((p.funcs.map fun f=>Am.mk f.params f.result (Hl p f)).take i ++ p.funcs.drop i)=some (if ((p.funcs.drop i).all fun f=>decide (en (Hl p f)≤30))=true then Sum.inr (p.funcs.map fun f=>Am.mk f.params f.result (Hl p f)) else Sum.inl (.mk [] [],false))) ?_ ?_ hi hM
    ·intro m
     rw[CZ,if_neg (by simp[AS]),List.drop_length,List.append_nil,List.take_of_length_le (by simp)];rfl
    ·intro m i hi ih
     obtain⟨f,hf1,hfm⟩:=Bn hi
     obtain⟨q1,q2,q3⟩:=hF f hfm
     have hl:((p.funcs.map fun f=>Am.mk f.params f.result (Hl p f)).take i).length=i:=by simp;omega
     have hm:(p.funcs.map fun f=>Am.mk f.params f.result (Hl p f))[i]?=some (Am.mk f.params f.result (Hl p f)):=by rw[List.getElem?_map,hf1];rfl
     have hget:Sh.get ((p.funcs.map fun f=>Am.mk f.params f.result (Hl p f)).take i ++ p.funcs.drop i) (i:Int)=some f:=by
      rw[LY,List.getElem?_append_right (by omega),hl,Nat.sub_self,List.getElem?_drop,Nat.add_zero,hf1]
     have hput:Sh.put ((p.funcs.map fun f=>Am.mk f.params f.result (Hl p f)).take i ++ p.funcs.drop i) (i:Int) (Am.mk f.params f.result (Hl p f))=(p.funcs.map fun f=>Am.mk f.params f.result (Hl p f)).take (i+1) ++ p.funcs.drop (i+1):=by
      rw[Hi,List.set_append_right _ _ (by omega),hl,Nat.sub_self,drop_cons hf1,List.set_cons_zero,CC hm,List.append_assoc];rfl
     have hget2:Sh.get ((p.funcs.map fun f=>Am.mk f.params f.result (Hl p f)).take (i+1) ++ p.funcs.drop (i+1)) (i:Int)=some (Am.mk f.params f.result (Hl p f)):=by
      rw[LY,List.getElem?_append_left (by simp;omega),List.getElem?_take,if_pos (by omega),hm]
     have hze:=Em (Hl p f)
     rw[CZ,if_pos (by simp[AS];omega),hget,drop_cons hf1,List.all_cons]
     simp only[Option.bind_some]
     rw[AS,q2]
     simp only[Option.bind_some]
     rw[← drop_cons hf1,hput,hget2]
     simp only[Option.bind_some]
     rw[LV (by omega) hN]
     simp only[Option.bind_some]
     by_cases h30:en (Hl p f)≤30
     ·rw[if_pos h30,if_neg (by simp),A9 (by omega) (by omega),show ((i:Int) + 1)=((i+1:Nat):Int) by omega]
      simp only[h30,decide_true,Bool.true_and]
      exact ih
     ·rw[if_neg h30]
      simp[h30]
   have:=key N 0 (Nat.zero_le _) (by omega)
   rw[List.take_zero,List.nil_append,List.drop_zero,show ((0:Nat):Int)=0 from rfl] at this
   rw[this]
   unfold wB
   by_cases h:(p.funcs.all fun f=>decide (en (Hl p f)≤30))=true
   ·rw[if_pos h,if_pos h];rfl
   ·rw[if_neg h,if_neg h];rfl
end
theorem Ug {p:Aa} (S:F8 p) {N:Nat} (hN:2000000≤N) (hv:Cc N p=some true):p.funcs.length≤4∧(∀f∈p.funcs,f.params.length≤3)∧p.decls.length+(p.decls.map dz).sum≤500000:=by
 obtain⟨SO,_⟩:=WQ S hN hv
 refine⟨SO.OF,fun f hf=>(SO.QC f hf).1,?_⟩
 have hD:=SO.Lj
 have:(p.decls.map dz).sum≤100 * p.decls.length+0 * (p.decls.map dz).sum:=MO fun d hd=>by
  have h1:=SO.PH d hd
  have h2:(d.cons.map cz).sum≤30 * d.cons.length+0 * (d.cons.map cz).sum:=MO fun c hc=>by
   have:=(SO.Kv d hd c hc).1
   unfold cz;omega
  unfold dz;omega
 omega
theorem Ob {p:Aa} (H:Ku p):G0 2000000 p=some true:=by
 have hN:(2000000:Nat)≤2000000:=Nat.le_refl _
 unfold G0
 rw[TY H (by omega) (by omega) hN]
 simp only[Option.bind_some]
 by_cases h:(1048576:Int) - (Kg p:Int) < 0
 ·rw[Cp h];rfl
 ·rw[EA h]
  have hz:Kg p≤1048576:=by omega
  have S:F8 p:=⟨H,hz⟩
  have hz2:=hz
  unfold Kg at hz2
  obtain⟨b,e1,e2,w1,w2⟩:=Wx S hN (by omega) (fun d hd=>by have:=FQ dz hd;omega)
  have gz:Kg (if b=true then wB p (Hl p) else (Aa.mk [] [],false)).1≤1048576:=by
   cases b with
   | false=>simp[Kg]
   | true=>
    obtain⟨s1,s2,s3⟩:=Ug S hN e1
    exact Z2 hz s1 (.inr s2) s3
  generalize (if b=true then wB p (Hl p) else (Aa.mk [] [],false))=g at *
  obtain⟨k,d,r,m1,_⟩:=SC hz hN
  obtain⟨k2,d2,r2,m2,m3⟩:=SC gz hN
  rw[if_neg (by simpa using h),To hz hN]
  simp only[Option.bind_some]
  rw[w1]
  simp only[Option.bind_some]
  rw[w2]
  simp only[Option.bind_some]
  rw[OH gz hN,OH hz hN,m1,m2]
  have hk:¬ (k:Int) < 0:=by omega
  have hh:¬ (k2:Int) < 0:=by omega
  simp only[hk,hh,decide_false,decide_true,Bool.not_true,Bool.false_eq_true,if_false,Option.bind_some,bne_self_eq_false,m3]
end RC

