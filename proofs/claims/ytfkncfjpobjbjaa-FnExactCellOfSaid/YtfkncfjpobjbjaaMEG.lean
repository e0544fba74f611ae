import Derived.Test.YtfkncfjpobjbjaaMEF
set_option linter.all false
namespace RC
def Ju (M:List (Int×Bool))(x:Int):Prop:=(Sh.BK M x).getD false=true
theorem J2 {β:Type}(k x:Int)(v:β):∀m:List (Int×β),Sh.BK (Sh.BX m k v) x=if x=k then some v else Sh.BK m x
 | []=>by simp[Sh.BX,Sh.BK]
 | (a,u)::m=>by
  rw[Sh.BX];by_cases h:k=a
  ·subst h;rw[R1 rfl,Sh.BK,Sh.BK];by_cases hx:x=k<;>simp[hx]
  ·rw[R0 h,Sh.BK,Sh.BK,J2 k x v m];by_cases hx:x=a
   ·subst hx;simp[show ¬ x=k from λe=>h e.symm]
   ·simp[hx]
theorem Ox {M:List (Int×Bool)}{k x:Int}:Ju (Sh.BX M k true) x↔x=k∨Ju M x:=by
 unfold Ju;rw[J2];by_cases h:x=k<;>simp[h]
section
variable {m : Aj} {A : List Nat}
theorem KN (H:GC m.words A)(hI :∀x∈m.words,Bh x)(k:Nat)(T:Int->Prop)(hT :∀x∈(C6 m.words A k).map Int.ofNat,¬ T x):∀(n:Nat) (h:Int) (s:List Int) (M:List (Int×Bool)),Bh h->(∀x,Ju M x↔(T x∨x∈s))->
  match IN m.words (C6 m.words A k) n h s with
  | none=>True
  | some none=>Aq m ⟨A.map (raw m.words),EG A⟩ (k:Int) n h M=some (Sum.inl false)
  | some (some l)=>∃M',Aq m ⟨A.map (raw m.words),EG A⟩ (k:Int) n h M=some (Sum.inr M')/\∀x,Ju M' x↔(T x∨x∈l)
 | 0,_,_,_,_,_=>trivial
 | n+1,h,s,M,hh,hM=>by
  have hW:=H.size;rw[IN,Aq];by_cases h0:h=0
  ·rw[R1 h0,R0 (by simp[h0])];exact⟨M,rfl,hM⟩
  ·rw[R0 h0,R1 (show (!decide (h=0))=true by simp[h0])];simp only[Kd];cases hp:C9 A (Sh.w (h-1)) with
   | none=>
    have Yg:Sh.w (h-1) ∉ (C6 m.words A k).map Int.ofNat:=λhm=>by
     obtain⟨a,ha,e,_⟩:=ER.1 hm;exact HF hp a ha e
    rw[R0 (λq=>Yg q.1)];simp
   | some i=>
    obtain⟨a,ha,e⟩:=D5 hp;have hm:=Ro ha;have G:=H.Cf a hm;have h2:=G.h2;have WO:Sh.w (h-1)∈(C6 m.words A k).map Int.ofNat↔wd m.words a=0/\Cq m.words a=k:=by
     rw[ER];constructor
     ·rintro⟨b,_,e',h3,h4⟩;have:b=a:=by omega
      subst this;exact⟨h3,h4⟩
     ·rintro⟨h3,h4⟩;exact⟨a,hm,e,h3,h4⟩
    have Um:Sh.get (A.map (raw m.words)) (i:Int)=some (raw m.words a):=As (by rw[Rs,ha];rfl);have Xt:(raw m.words a).count=wd m.words a:=by unfold raw;split<;>rfl
    have T9:Sh.get m.words (Sh.w (Sh.w (h-1)+1))=some (wd m.words (a+1)):=by
     rw[<- e,Ao (n:=(a:Int)+1) (by omega) (by omega),show (a:Int)+1=((a+1:Nat):Int) by omega];exact gw (by omega)
    simp only[SG,Option.isSome_some,Sw,R4,Sa,Sv];rw[Um,Rp,Xt,T9];by_cases h3:wd m.words a=0
    ·rw[R0 (show ¬ (!decide (wd m.words a=0))=true by simp[h3])];simp only[Rp];rw[<- Gy G.c1];by_cases h4:Cq m.words a=k
     ·rw[R0 (show ¬ (!decide (((Cq m.words a:Nat):Int)=(k:Int)))=true by simp[h4])];have Uy:=WO.2 ⟨h3,h4⟩;have jT:=hT _ Uy;have hl:Ju M (Sh.w (h-1))↔Sh.w (h-1)∈s:=by rw[hM];exact⟨λh=>h.resolve_left jT,.inr⟩
      by_cases hs:Sh.w (h-1)∈s
      ·rw[R0 (λq=>q.2 hs)];have:=hl.2 hs;unfold Ju at this;simp[this]
      ·rw[R1 ⟨Uy,hs⟩];have hf:(Sh.BK M (Sh.w (h-1))).getD false=false:=by
        cases hq:(Sh.BK M (Sh.w (h-1))).getD false with
        | false=>rfl
        | true=>exact absurd (hl.1 hq) hs
       obtain⟨a',_,e1,e2,_,_,h5,h6,h7,h8⟩:=Ia H hI hh Uy;obtain rfl:a'=a:=by omega
       rw[hf];simp only[Rp,R4,Sa];rw[h8];have ih:=KN H hI k T hT n (Int.tdiv (wd m.words (a'+1)) 4) (s++[Sh.w (h-1)]) (Sh.BX M (Sh.w (h-1)) true) h7 (λx=>by
        rw[Ox,hM];simp only[SM,SC];constructor
        ·rintro (h|h|h)
         ·exact .inr (.inr h)
         ·exact .inl h
         ·exact .inr (.inl h)
        ·rintro (h|h|h)
         ·exact .inr (.inl h)
         ·exact .inr (.inr h)
         ·exact .inl h)
       rw[e1,S0];rw[e1]at ih;exact ih
     ·rw[R1 (show (!decide (((Cq m.words a:Nat):Int)=(k:Int)))=true by simp;omega),R0 (λq=>h4 (WO.1 q.1).2)];simp
    ·rw[R1 (show (!decide (wd m.words a=0))=true by simp[h3]),R0 (λq=>h3 (WO.1 q.1).1)];simp
theorem Kh (H:GC m.words A)(hI :∀x∈m.words,Bh x)(hf:m.free.length=4)(XY :∀x∈m.free,Bh x){N:Nat}(hN:2000000<=N):∀(n k:Nat) (T:Int->Prop) (M:List (Int×Bool)),k<=4->4-k<n->(∀k',k<=k'->∀x∈(C6 m.words A k').map Int.ofNat,¬ T x)->(∀x,Ju M x↔T x)->
  (∃M',Ar N m ⟨A.map (raw m.words),EG A⟩ n (k:Int) M=some (Sum.inr M')/\(∀k' h,k<=k'->m.free[k']?=some h->∃l,Nf m.words A k' h=some (some l))/\∀x,Ju M' x↔(T x∨∃k' h l,k<=k'/\m.free[k']?=some h/\Nf m.words A k' h=some (some l)/\x∈l))∨
  (Ar N m ⟨A.map (raw m.words),EG A⟩ n (k:Int) M=some (Sum.inl false)/\∃k' h,k<=k'/\m.free[k']?=some h/\Nf m.words A k' h=some none)
 | 0,_,_,_,_,h,_,_=>by omega
 | n+1,k,T,M,hk,hn,hT,hM=>by
  have hW:=H.size;have X3:=H.len;rw[Ar];by_cases h:k<4
  ·obtain⟨f,hfk,hfm⟩:=BL (l:=m.free) (i:=k) (by omega);rw[R1 (show decide ((k:Int)<Sh.len m.free)=true by simp only[AT,hf,SJ];omega),As hfk,Rp];have fC:=Hi (W:=m.words) (A:=A) (k:=k);obtain⟨r,hr,hr2⟩:=Hn H (k:=k) 2000000 f [] Td (by simp) (by simp;omega);have h3:=KN H hI k T (hT k (R3 _)) N f [] M (XY f hfm) (λx=>by rw[hM];simp);rw[IA hr hN]at h3;cases r with
   | none=>
    simp only at h3;rw[h3];exact .inr ⟨rfl,k,f,R3 _,hfk,hr⟩
   | some l=>
    obtain⟨M',h4,h5⟩:=h3;obtain⟨kT,ZI⟩:=hr2 l rfl;rw[h4];simp only[Sh.cont,Rp];rw[Ao (n:=(k:Int)+1) (by omega) (by omega),show (k:Int)+1=((k+1:Nat):Int) by omega];have ih:=Kh H hI hf XY hN n (k+1) (λx=>T x∨x∈l) M' (by omega) (by omega) (λk' YF x hx hq=>by
     rcases hq with hq|hq
     ·exact hT k' (by omega) x hx hq
     ·obtain⟨a,_,e1,_,e3⟩:=ER.1 hx;obtain⟨b,_,e4,_,e6⟩:=ER.1 (ZI x hq);have:a=b:=by omega
      subst this;omega) h5
    rcases ih with ⟨M2,g1,g2,g3⟩|⟨g1,k',h',g2,g3⟩
    ·refine .inl ⟨M2,g1,λk' h' YF fD=>?_,λx=>?_⟩
     ·by_cases e:k'=k
      ·subst e;rw[hfk]at fD;cases fD;exact⟨l,hr⟩
      ·exact g2 k' h' (by omega) fD
     ·rw[g3];constructor
      ·rintro ((h6|h6)|⟨k',h',l',e1,e2,e3,e4⟩)
       ·exact .inl h6
       ·exact .inr ⟨k,f,l,R3 _,hfk,hr,h6⟩
       ·exact .inr ⟨k',h',l',by omega,e2,e3,e4⟩
      ·rintro (h6|⟨k',h',l',e1,e2,e3,e4⟩)
       ·exact .inl (.inl h6)
       ·by_cases e:k'=k
        ·subst e;rw[hfk]at e2;cases e2;rw[show Nf m.words A k' f=some (some l) from hr]at e3;cases e3;exact .inl (.inr e4)
        ·exact .inr ⟨k',h',l',by omega,e2,e3,e4⟩
    ·exact .inr ⟨g1,k',h',by omega,g3⟩
  ·rw[R0 (show ¬ decide ((k:Int)<Sh.len m.free)=true by simp only[AT,hf,SJ];omega)];have Yg:∀k' h',k<=k'->m.free[k']?≠some h':=λk' h' YF e=>by
    have:=(Rq.1 e).1;omega
   exact .inl ⟨M,rfl,λk' h' YF e=>absurd e (Yg k' h' YF),λx=>by
    rw[hM];exact⟨.inl,λq=>q.elim id λ⟨k',h',_,e1,e2,_⟩=>absurd e2 (Yg k' h' e1)⟩⟩
theorem LB (H:GC m.words A)(M:List (Int×Bool)):∀(n i:Nat),i<=A.length->A.length-i<n->Av M m (A.map Int.ofNat) n (i:Int)=some (if (A.drop i).all (λa=>!decide (wd m.words a=0) || (Sh.BK M (a:Int)).getD false)=true then Sum.inr () else Sum.inl false)
 | 0,_,_,h=>by omega
 | n+1,i,hi,hn=>by
  have hW:=H.size;have X3:=H.len;rw[Av];by_cases h:i<A.length
  ·obtain⟨a,ha,hm⟩:=BL h;have G:=H.Cf a hm;have h2:=G.h2;rw[R1 (show decide ((i:Int)<Sh.len (A.map Int.ofNat))=true by simpa [AT] using h),As (show (A.map Int.ofNat)[i]?=some (a:Int) by rw[Rs,ha];rfl),Rp,gw (by omega),Rp,drop_cons ha,Ts];have hq:(if decide (wd m.words a=0)=true then some (!((Sh.BK M (a:Int)).getD false)) else some false)=some (!(!decide (wd m.words a=0) || (Sh.BK M (a:Int)).getD false)):=by
    by_cases h0:wd m.words a=0<;>simp[h0]
   rw[hq,Rp];cases hb:(!decide (wd m.words a=0) || (Sh.BK M (a:Int)).getD false) with
   | false=>simp
   | true=>
    rw[R0 (by simp),Ao (n:=(i:Int)+1) (by omega) (by omega),show (i:Int)+1=((i+1:Nat):Int) by omega,LB H M n (i+1) (by omega) (by omega),TS]
  ·rw[R0 (show ¬ decide ((i:Int)<Sh.len (A.map Int.ofNat))=true by simpa [AT] using h),Sk (by omega)];rfl
def P4 (m:Aj)(A:List Nat):Prop:=∀(k:Nat) (h:Int),m.free[k]?=some h->p4 m.words A k h=true
theorem KL (H:GC m.words A)(hI :∀x∈m.words,Bh x)(XY :∀x∈m.free,Bh x){N:Nat}(hN:2000000<=N):
  ∃b,Bn N m ⟨A.map (raw m.words),EG A⟩ (A.map Int.ofNat)=some b/\(b=true↔m.free.length=4/\P4 m A):=by
 have hW:=H.size;have X3:=H.len;unfold Bn;by_cases hf:m.free.length=4
 ·rw[R0 (show ¬ (!decide ((Sh.len m.free)=4))=true by simp[AT,hf])];have h1:=Kh H hI hf XY hN N 0 (λ_=>False) [] (by omega) (by omega) (λ_ _ _ _ h=>h) (λx=>by simp[Ju,Sh.BK]);rw[UI]at h1;rcases h1 with ⟨M,g1,g2,g3⟩|⟨g1,k,h,_,g2,g3⟩
  ·rw[g1];have h2:=LB H M N 0 (by omega) (by omega);rw[UI,SL]at h2;simp only[Sh.cont,Rp];rw[h2];refine⟨A.all (λa=>!decide (wd m.words a=0) || (Sh.BK M (a:Int)).getD false),?_,?_⟩
   ·cases A.all (λa=>!decide (wd m.words a=0) || (Sh.BK M (a:Int)).getD false)<;>simp
   ·rw[Ry];have Yc:∀k h l,Nf m.words A k h=some (some l)->l.Nodup/\∀x∈l,x∈(C6 m.words A k).map Int.ofNat:=λk h l hl=>by
     have fC:=Hi (W:=m.words) (A:=A) (k:=k);obtain⟨r,hr,hr2⟩:=Hn H (k:=k) 2000000 h [] Td (by simp) (by simp;omega);rw[show IN m.words (C6 m.words A k) 2000000 h []=some (some l) from hl]at hr;cases hr;exact hr2 l rfl
    constructor
    ·intro VK;refine⟨hf,λk h hk=>?_⟩;obtain⟨l,hl⟩:=g2 k h (SA _) hk;obtain⟨n1,n2⟩:=Yc k h l hl;unfold p4;rw[hl];simp only[SJ];have e1:=FX n1 n2;have e2:=FX (l:=(C6 m.words A k).map Int.ofNat) (m:=l) (Ml H.nodup) λx hx=>by
      obtain⟨a,ha,e,h0,hb⟩:=ER.1 hx;have:=VK a ha;simp only[h0,T5,Sw,Bool.false_or]at this;rcases (g3 (a:Int)).1 this with h5|⟨k',h',l',_,e2,e3,e4⟩
      ·exact h5.elim
      ·obtain⟨b,_,e5,_,e7⟩:=ER.1 ((Yc k' h' l' e3).2 _ e4);have:b=a:=by omega
       subst this;have:k'=k:=by omega
       subst this;rw[hk]at e2;cases e2;rw[hl]at e3;cases e3;rw[<- e];exact e4
     simp only[SF]at e1 e2;omega
    ·rintro⟨_,hP⟩ a ha;by_cases h0:wd m.words a=0
     ·have G:=H.Cf a ha;have hb:=FA G.c1;obtain⟨h,hk,_⟩:=BL (l:=m.free) (i:=Cq m.words a) (by omega);obtain⟨l,hl⟩:=g2 _ h (SA _) hk;obtain⟨n1,n2⟩:=Yc _ h l hl;have hp:=hP _ h hk;unfold p4 at hp;rw[hl]at hp;simp only[SJ]at hp;have:=LG n1 n2 (by simp;omega) (a:Int) (ER.2 ⟨a,ha,rfl,h0,rfl⟩);have:=(g3 (a:Int)).2 (.inr ⟨_,h,l,SA _,hk,hl,this⟩);unfold Ju at this;simp[this]
     ·simp[h0]
  ·rw[g1];refine⟨false,rfl,by simp,λ⟨_,hP⟩=>?_⟩;have:=hP k h g2;unfold p4 at this;rw[g3]at this;simp at this
 ·rw[R1 (show (!decide ((Sh.len m.free)=4))=true by rw[AT];simp only[TY,TX];omega)];exact⟨false,rfl,by simp,λq=>absurd q.1 hf⟩
end
end RC
