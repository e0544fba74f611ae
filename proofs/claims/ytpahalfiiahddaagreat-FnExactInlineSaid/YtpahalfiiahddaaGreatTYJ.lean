import Derived.Test.YtpahalfiiahddaaGreatGXOGToTYI

namespace RC
open Go
section
variable {p : AN} {N : Nat}
def inf (p:AN) (fi:Int) (fb:Ah) (f:Ah):AD:=inl p.decls fi fb.body f.params.length f.body
theorem U7 (S:Fk p) (hN:2000000≤N) (hd:p.decls.length≤1048576) (hz :∀d∈p.decls,dz d≤1048576) {fi:Int} {fb:Ah} (hfb:Sh.get p.funcs fi=some fb) (e1:Bc N p=some true) (m1:Dy N p fi=some true) (m2:EW N p fi=some true) :
  FK N p fi=some (wB p (inf p fi fb))∧D5 N p fi=some (wB p (inf p fi fb))∧∀f∈p.funcs,en (inf p fi fb f)≤990:=by
 unfold FK D5
 rw[e1]
 simp only[Option.bind_some]
 rw[m1,m2]
 obtain⟨SO,T,hT,hfs⟩:=Xe S hN e1
 have hfl:=S.LF
 have hfbm:fb∈p.funcs:=List.mem_of_getElem? (Sh.get_some hfb).2.1
 have hne :∀f∈p.funcs,T f.params f.body≠-1:=fun f hf=>by
  obtain⟨h1,h2,h3,h4,h5,h6⟩:=hfs f hf
  rw[h6];have:=(J0 h5).1;omega
 have hV :∀f∈p.funcs,VX p f.body f.params:=fun f hf=>by
  obtain⟨h1,h2,h3,h4,h5,h6⟩:=hfs f hf
  exact⟨by omega,h3,h4⟩
 have hb:QB 1000 fb.body:=Va SO hN hT (en fb.body) fb.body fb.params (Nat.le_refl _) (hV fb hfbm) (hne fb hfbm)
 have Gp:=(hfs fb hfbm).1
 have hF :∀f∈p.funcs,MV N p fi f.body f.params.length=some (inf p fi fb f)∧IA N f.body.kids fi p.decls p.funcs p.decls f.body.op f.body.num f.params.length=some (inf p fi fb f,fi)∧en (inf p fi fb f)≤990:=fun f hf=>by
  obtain⟨h1,h2,h3,h4,h5,h6⟩:=hfs f hf
  have q:=aA SO hN hT hfb hb Gp N f.body f.params (by omega) h1 (hV f hf) (by omega) (hne f hf)
  have sz:=(ZV SO hN hT (fi:=fi) hb Gp (en f.body) f.body f.params (Nat.le_refl _) h1 (hV f hf) (by omega) (hne f hf)).2.1
  exact⟨q.1,q.2,by unfold inf;omega⟩
 refine⟨?_,?_,fun f hf=>(hF f hf).2.2⟩
 ·simp only[Bool.not_true,Bool.false_eq_true,if_false,Option.bind_some]
  have key :∀(M i:Nat),i≤p.funcs.length→p.funcs.length - i < M→Ea N p fi M i ((p.funcs.map (inf p fi fb)).take i)=some (p.funcs.map (inf p fi fb)):=by
   intro M i hi hM
   refine BO p.funcs.length (fun M i=>Ea N p fi M i ((p.funcs.map (inf p fi fb)).take i)=some (p.funcs.map (inf p fi fb))) ?_ ?_ hi hM
   ·intro m
    rw[Ea,if_neg (by simp[AK]),List.take_of_length_le (by simp)]
   ·intro m i hi ih
    obtain⟨f,hf1,hfm⟩:=BV hi
    have hm:(p.funcs.map (inf p fi fb))[i]?=some (inf p fi fb f):=by rw[List.getElem?_map,hf1];rfl
    rw[Ea,if_pos (by simp[AK];omega),At hf1]
    simp only[Option.bind_some]
    rw[AK,(hF f hfm).1]
    simp only[Option.bind_some]
    rw[CL _ _ 40 (by simp;omega) (by simp;omega),A3 (by omega) (by omega),show ((i:Int) + 1)=((i+1:Nat):Int) by omega]
    simp only[Option.bind_some]
    rw[← B8 hm];exact ih
  have:=key N 0 (Nat.zero_le _) (by omega)
  rw[List.take_zero,show ((0:Nat):Int)=0 from rfl] at this
  rw[this]
  simp only[Option.bind_some]
  rw[Sm hN hd hz hfl (fun f hf=>⟨(S.fz hf).1,by have:=(hF f hf).2.2;omega⟩)];rfl
 ·simp only[Bool.not_true,Bool.false_eq_true,if_false,Option.bind_some]
  unfold HT
  rw[Rb hN hd hz hfl (fun f hf=>⟨(S.fz hf).1,by have:=(hfs f hf).1;omega,(hfs f hf).2.2.2.1⟩)]
  simp only[Option.bind_some]
  have key :∀(M i:Nat),i≤p.funcs.length→p.funcs.length - i < M→Cb N p.decls p.funcs p p M i fi ((p.funcs.map fun f=>Ah.mk f.params f.result (inf p fi fb f)).take i ++ p.funcs.drop i)=some (if ((p.funcs.drop i).all fun f=>decide (en (inf p fi fb f)≤30))=true then Sum.inr (fi,p.funcs.map fun f=>Ah.mk f.params f.result (inf p fi fb f)) else Sum.inl (.mk [] [],false,fi)):=by
   intro M i hi hM
   refine BO p.funcs.length (fun M i=>Cb N p.decls p.funcs p p M i fi ((p.funcs.map fun f=>Ah.mk f.params f.result (inf p fi fb f)).take i ++ p.funcs.drop i)=some (if ((p.funcs.drop i).all fun f=>decide (en (inf p fi fb f)≤30))=true then Sum.inr (fi,p.funcs.map fun f=>Ah.mk f.params f.result (inf p fi fb f)) else Sum.inl (.mk [] [],false,fi))) ?_ ?_ hi hM
   ·intro m
    rw[Cb,if_neg (by simp[AK]),List.drop_length,List.append_nil,List.take_of_length_le (by simp)];rfl
   ·intro m i hi ih
    obtain⟨f,hf1,hfm⟩:=BV hi
    obtain⟨q1,q2,q3⟩:=hF f hfm
    have hl:((p.funcs.map fun f=>Ah.mk f.params f.result (inf p fi fb f)).take i).length=i:=by simp;omega
    have hm:(p.funcs.map fun f=>Ah.mk f.params f.result (inf p fi fb f))[i]?=some (Ah.mk f.params f.result (inf p fi fb f)):=by rw[List.getElem?_map,hf1];rfl
    have hget:Sh.get ((p.funcs.map fun f=>Ah.mk f.params f.result (inf p fi fb f)).take i ++ p.funcs.drop i) (i:Int)=some f:=by
     rw[Np,List.getElem?_append_right (by omega),hl,Nat.sub_self,List.getElem?_drop,Nat.add_zero,hf1]
    have hput:Sh.put ((p.funcs.map fun f=>Ah.mk f.params f.result (inf p fi fb f)).take i ++ p.funcs.drop i) (i:Int) (Ah.mk f.params f.result (inf p fi fb f))=(p.funcs.map fun f=>Ah.mk f.params f.result (inf p fi fb f)).take (i+1) ++ p.funcs.drop (i+1):=by
     rw[Hm,List.set_append_right _ _ (by omega),hl,Nat.sub_self,drop_cons hf1,List.set_cons_zero,B8 hm,List.append_assoc];rfl
    have hget2:Sh.get ((p.funcs.map fun f=>Ah.mk f.params f.result (inf p fi fb f)).take (i+1) ++ p.funcs.drop (i+1)) (i:Int)=some (Ah.mk f.params f.result (inf p fi fb f)):=by
     rw[Np,List.getElem?_append_left (by simp;omega),List.getElem?_take,if_pos (by omega),hm]
    have hze:=FG (inf p fi fb f)
    rw[Cb,if_pos (by simp[AK];omega),hget,drop_cons hf1,List.all_cons]
    simp only[Option.bind_some]
    rw[AK,q2]
    simp only[Option.bind_some]
    rw[← drop_cons hf1,hput,hget2]
    simp only[Option.bind_some]
    rw[L8 (by omega) hN]
    simp only[Option.bind_some]
    by_cases h30:en (inf p fi fb f)≤30
    ·rw[if_pos h30,if_neg (by simp),A3 (by omega) (by omega),show ((i:Int) + 1)=((i+1:Nat):Int) by omega]
     simp only[h30,decide_true,Bool.true_and]
     exact ih
    ·rw[if_neg h30]
     simp[h30]
  have:=key N 0 (Nat.zero_le _) (by omega)
  rw[List.take_zero,List.nil_append,List.drop_zero,show ((0:Nat):Int)=0 from rfl] at this
  rw[this]
  unfold wB
  by_cases h:(p.funcs.all fun f=>decide (en (inf p fi fb f)≤30))=true
  ·rw[if_pos h,if_pos h];rfl
  ·rw[if_neg h,if_neg h];rfl
theorem Ud {fi:Int} (hN:2000000≤N) (hfl:p.funcs.length≤1048576) (m1:Dy N p fi=some true) :∃fb,Sh.get p.funcs fi=some fb∧1≤fi∧fi < (p.funcs.length:Int):=by
 unfold Dy at m1
 rw[C3,AK,A3 (n:=(p.funcs.length:Int) - 1) (by omega) (by omega)] at m1
 by_cases h:1≤fi∧fi≤(p.funcs.length:Int) - 1
 ·obtain⟨fb,h1,_⟩:=Nf (l:=p.funcs) (j:=fi) (by omega) (by omega)
  exact⟨fb,h1,h.1,by omega⟩
 ·have:(decide (1≤fi) && decide (fi≤(p.funcs.length:Int) - 1))=false:=by
   rw[Bool.and_eq_false_iff,decide_eq_false_iff_not,decide_eq_false_iff_not];omega
  rw[this] at m1
  simp at m1
theorem Wx (S:Fk p) (hN:2000000≤N) (hd:p.decls.length≤1048576) (hz :∀d∈p.decls,dz d≤1048576) (fi:Int) :
  (FK N p fi=some (.mk [] [],false)∧D5 N p fi=some (.mk [] [],false))∨
  ∃fb,Sh.get p.funcs fi=some fb∧1≤fi∧fi < (p.funcs.length:Int)∧Bc N p=some true∧Ce N p=some true∧EW N p fi=some true∧FK N p fi=some (wB p (inf p fi fb))∧D5 N p fi=some (wB p (inf p fi fb)):=by
 obtain⟨b,e1,e2,_⟩:=Gv S hN
 obtain⟨c,m1,m2⟩:=TE S (f:=fi) hN
 have m1':=m1
 unfold G5 at m1'
 rw[e1] at m1'
 cases b with
 | false=>
  simp at m1'
  subst m1'
  refine .inl ⟨?_,?_⟩
  ·unfold FK;rw[e1];rfl
  ·unfold D5;rw[m2];rfl
 | true=>
  simp only[Option.bind_some,if_true] at m1'
  have m3:Dy N p fi=some c:=by
   cases h:Dy N p fi with
   | none=>rw[h] at m1';simp at m1'
   | some x=>rw[h] at m1';simpa using m1'
  cases c with
  | false=>
   refine .inl ⟨?_,?_⟩
   ·unfold FK;rw[e1]
    simp only[Option.bind_some,Bool.not_true,Bool.false_eq_true,if_false]
    rw[m3];rfl
   ·unfold D5;rw[m2];rfl
  | true=>
   obtain⟨fb,g1,g2,g3⟩:=Ud hN S.LF m3
   obtain⟨w1,w2,_⟩:=U7 S hN hd hz g1 e1 m3 m2
   exact .inr ⟨fb,g1,g2,g3,e1,e2,m2,w1,w2⟩
end
theorem Ng {p:AN} (H:LX p) {f:Int} (_:GL f):GV 2000000 p f=some true:=by
 have hN:(2000000:Nat)≤2000000:=Nat.le_refl _
 unfold GV
 rw[U4 H (by omega) (by omega) hN]
 simp only[Option.bind_some]
 by_cases h:(1048576:Int) - (LN p:Int) < 0
 ·rw[Cr h];rfl
 ·rw[Eo h]
  have hz:LN p≤1048576:=by omega
  have S:Fk p:=⟨H,hz⟩
  have hz2:=hz
  unfold LN at hz2
  obtain⟨g,w1,w2,gz⟩ :∃g,FK 2000000 p f=some g∧D5 2000000 p f=some g∧LN g.1≤1048576:=by
   rcases Wx S hN (by omega) (fun d hd=>by have:=Fx dz hd;omega) f with ⟨w1,w2⟩ | ⟨fb,_,_,_,e1,_,_,w1,w2⟩
   ·exact⟨_,w1,w2,by simp[LN]⟩
   ·obtain⟨s1,s2,s3⟩:=Vv S hN e1
    exact⟨_,w1,w2,cM hz s1 (.inr s2) s3⟩
  obtain⟨k,d,r,m1,_⟩:=UF hz hN
  obtain⟨k2,d2,r2,m2,m3⟩:=UF gz hN
  rw[if_neg (by simpa using h),U5 hz hN]
  simp only[Option.bind_some]
  rw[w1]
  simp only[Option.bind_some]
  rw[w2]
  simp only[Option.bind_some]
  rw[O3 gz hN,O3 hz hN,m1,m2]
  have hk:¬ (k:Int) < 0:=by omega
  have hh:¬ (k2:Int) < 0:=by omega
  simp only[hk,hh,decide_false,decide_true,Bool.not_true,Bool.false_eq_true,if_false,Option.bind_some,bne_self_eq_false,m3]
end RC

