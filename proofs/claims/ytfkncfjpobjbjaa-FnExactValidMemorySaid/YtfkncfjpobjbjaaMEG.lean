import Derived.Test.YtfkncfjpobjbjaaMEF
set_option linter.all false
namespace RC
def I0 (M:List (Int×Bool))(x:Int):Prop:=(Sh.BJ M x).getD false=true
theorem JV {β:Type}(k x:Int)(v:β):∀m:List (Int×β),Sh.BJ (Sh.BW m k v) x=if x=k then some v else Sh.BJ m x
 | []=>by simp[Sh.BW,Sh.BJ]
 | (a,u)::m=>by
  rw[Sh.BW];by_cases h:k=a
  ·subst h;rw[Ry rfl,Sh.BJ,Sh.BJ];by_cases hx:x=k<;>simp[hx]
  ·rw[Rx h,Sh.BJ,Sh.BJ,JV k x v m];by_cases hx:x=a
   ·subst hx;simp[show ¬ x=k from λe=>h e.symm]
   ·simp[hx]
theorem O9 {M:List (Int×Bool)}{k x:Int}:I0 (Sh.BW M k true) x↔x=k∨I0 M x:=by
 unfold I0;rw[JV];by_cases h:x=k<;>simp[h]
section
variable {m : Al} {A : List Nat}
theorem KJ (H:F8 m.words A)(hI :∀x∈m.words,Bl x)(k:Nat)(T:Int->Prop)(hT :∀x∈(C2 m.words A k).map Int.ofNat,¬ T x):∀(n:Nat) (h:Int) (s:List Int) (M:List (Int×Bool)),Bl h->(∀x,I0 M x↔(T x∨x∈s))->
  match IG m.words (C2 m.words A k) n h s with
  | none=>True
  | some none=>Ar m ⟨A.map (raw m.words),EH A⟩ (k:Int) n h M=some (Sum.inl false)
  | some (some l)=>∃M',Ar m ⟨A.map (raw m.words),EH A⟩ (k:Int) n h M=some (Sum.inr M')/\∀x,I0 M' x↔(T x∨x∈l)
 | 0,_,_,_,_,_=>trivial
 | n+1,h,s,M,hh,hM=>by
  have hW:=H.size;rw[IG,Ar];by_cases h0:h=0
  ·rw[Ry h0,Rx (by simp[h0])];exact⟨M,rfl,hM⟩
  ·rw[Rx h0,Ry (show (!decide (h=0))=true by simp[h0])];simp only[Kp];cases hp:DD A (Sh.w (h-1)) with
   | none=>
    have ZE:Sh.w (h-1) ∉ (C2 m.words A k).map Int.ofNat:=λhm=>by
     obtain⟨a,ha,e,_⟩:=EF.1 hm;exact JT hp a ha e
    rw[Rx (λq=>ZE q.1)];simp
   | some i=>
    obtain⟨a,ha,e⟩:=Em hp;have hm:=Rk ha;have G:=H.C4 a hm;have h2:=G.h2;have WK:Sh.w (h-1)∈(C2 m.words A k).map Int.ofNat↔wd m.words a=0/\Cm m.words a=k:=by
     rw[EF];constructor
     ·rintro⟨b,_,e',h3,h4⟩;have:b=a:=by omega
      subst this;exact⟨h3,h4⟩
     ·rintro⟨h3,h4⟩;exact⟨a,hm,e,h3,h4⟩
    have Ui:Sh.get (A.map (raw m.words)) (i:Int)=some (raw m.words a):=As (by rw[Ro,ha];rfl);have Xo:(raw m.words a).count=wd m.words a:=by unfold raw;split<;>rfl
    have T5:Sh.get m.words (Sh.w (Sh.w (h-1)+1))=some (wd m.words (a+1)):=by
     rw[<- e,Ao (n:=(a:Int)+1) (by omega) (by omega),show (a:Int)+1=((a+1:Nat):Int) by omega];exact gw (by omega)
    simp only[SC,Option.isSome_some,S0,R1,SX,Sp];rw[Ui,Rl,Xo,T5];by_cases h3:wd m.words a=0
    ·rw[Rx (show ¬ (!decide (wd m.words a=0))=true by simp[h3])];simp only[Rl];rw[<- Gm G.c1];by_cases h4:Cm m.words a=k
     ·rw[Rx (show ¬ (!decide (((Cm m.words a:Nat):Int)=(k:Int)))=true by simp[h4])];have Ut:=WK.2 ⟨h3,h4⟩;have jK:=hT _ Ut;have hl:I0 M (Sh.w (h-1))↔Sh.w (h-1)∈s:=by rw[hM];exact⟨λh=>h.resolve_left jK,.inr⟩
      by_cases hs:Sh.w (h-1)∈s
      ·rw[Rx (λq=>q.2 hs)];have:=hl.2 hs;unfold I0 at this;simp[this]
      ·rw[Ry ⟨Ut,hs⟩];have hf:(Sh.BJ M (Sh.w (h-1))).getD false=false:=by
        cases hq:(Sh.BJ M (Sh.w (h-1))).getD false with
        | false=>rfl
        | true=>exact absurd (hl.1 hq) hs
       obtain⟨a',_,e1,e2,_,_,h5,h6,h7,h8⟩:=Ii H hI hh Ut;obtain rfl:a'=a:=by omega
       rw[hf];simp only[Rl,R1,SX];rw[h8];have ih:=KJ H hI k T hT n (Int.tdiv (wd m.words (a'+1)) 4) (s++[Sh.w (h-1)]) (Sh.BW M (Sh.w (h-1)) true) h7 (λx=>by
        rw[O9,hM];simp only[SI,R8];constructor
        ·rintro (h|h|h)
         ·exact .inr (.inr h)
         ·exact .inl h
         ·exact .inr (.inl h)
        ·rintro (h|h|h)
         ·exact .inr (.inl h)
         ·exact .inr (.inr h)
         ·exact .inl h)
       rw[e1,Su];rw[e1]at ih;exact ih
     ·rw[Ry (show (!decide (((Cm m.words a:Nat):Int)=(k:Int)))=true by simp;omega),Rx (λq=>h4 (WK.1 q.1).2)];simp
    ·rw[Ry (show (!decide (wd m.words a=0))=true by simp[h3]),Rx (λq=>h3 (WK.1 q.1).1)];simp
theorem Kw (H:F8 m.words A)(hI :∀x∈m.words,Bl x)(hf:m.free.length=4)(YV :∀x∈m.free,Bl x){N:Nat}(hN:2000000<=N):∀(n k:Nat) (T:Int->Prop) (M:List (Int×Bool)),k<=4->4-k<n->(∀k',k<=k'->∀x∈(C2 m.words A k').map Int.ofNat,¬ T x)->(∀x,I0 M x↔T x)->
  (∃M',Aq N m ⟨A.map (raw m.words),EH A⟩ n (k:Int) M=some (Sum.inr M')/\(∀k' h,k<=k'->m.free[k']?=some h->∃l,NL m.words A k' h=some (some l))/\∀x,I0 M' x↔(T x∨∃k' h l,k<=k'/\m.free[k']?=some h/\NL m.words A k' h=some (some l)/\x∈l))∨
  (Aq N m ⟨A.map (raw m.words),EH A⟩ n (k:Int) M=some (Sum.inl false)/\∃k' h,k<=k'/\m.free[k']?=some h/\NL m.words A k' h=some none)
 | 0,_,_,_,_,h,_,_=>by omega
 | n+1,k,T,M,hk,hn,hT,hM=>by
  have hW:=H.size;have YU:=H.len;rw[Aq];by_cases h:k<4
  ·obtain⟨f,hfk,hfm⟩:=BN (l:=m.free) (i:=k) (by omega);rw[Ry (show decide ((k:Int)<Sh.len m.free)=true by simp only[AT,hf,SF];omega),As hfk,Rl];have ey:=Hq (W:=m.words) (A:=A) (k:=k);obtain⟨r,hr,hr2⟩:=Hl H (k:=k) 2000000 f [] TZ (by simp) (by simp;omega);have h3:=KJ H hI k T (hT k (Rz _)) N f [] M (YV f hfm) (λx=>by rw[hM];simp);rw[IT hr hN]at h3;cases r with
   | none=>
    simp only at h3;rw[h3];exact .inr ⟨rfl,k,f,Rz _,hfk,hr⟩
   | some l=>
    obtain⟨M',h4,h5⟩:=h3;obtain⟨kI,ZF⟩:=hr2 l rfl;rw[h4];simp only[Sh.cont,Rl];rw[Ao (n:=(k:Int)+1) (by omega) (by omega),show (k:Int)+1=((k+1:Nat):Int) by omega];have ih:=Kw H hI hf YV hN n (k+1) (λx=>T x∨x∈l) M' (by omega) (by omega) (λk' X8 x hx hq=>by
     rcases hq with hq|hq
     ·exact hT k' (by omega) x hx hq
     ·obtain⟨a,_,e1,_,e3⟩:=EF.1 hx;obtain⟨b,_,e4,_,e6⟩:=EF.1 (ZF x hq);have:a=b:=by omega
      subst this;omega) h5
    rcases ih with ⟨M2,g1,g2,g3⟩|⟨g1,k',h',g2,g3⟩
    ·refine .inl ⟨M2,g1,λk' h' X8 fA=>?_,λx=>?_⟩
     ·by_cases e:k'=k
      ·subst e;rw[hfk]at fA;cases fA;exact⟨l,hr⟩
      ·exact g2 k' h' (by omega) fA
     ·rw[g3];constructor
      ·rintro ((h6|h6)|⟨k',h',l',e1,e2,e3,e4⟩)
       ·exact .inl h6
       ·exact .inr ⟨k,f,l,Rz _,hfk,hr,h6⟩
       ·exact .inr ⟨k',h',l',by omega,e2,e3,e4⟩
      ·rintro (h6|⟨k',h',l',e1,e2,e3,e4⟩)
       ·exact .inl (.inl h6)
       ·by_cases e:k'=k
        ·subst e;rw[hfk]at e2;cases e2;rw[show NL m.words A k' f=some (some l) from hr]at e3;cases e3;exact .inl (.inr e4)
        ·exact .inr ⟨k',h',l',by omega,e2,e3,e4⟩
    ·exact .inr ⟨g1,k',h',by omega,g3⟩
  ·rw[Rx (show ¬ decide ((k:Int)<Sh.len m.free)=true by simp only[AT,hf,SF];omega)];have ZE:∀k' h',k<=k'->m.free[k']?≠some h':=λk' h' X8 e=>by
    have:=(Rm.1 e).1;omega
   exact .inl ⟨M,rfl,λk' h' X8 e=>absurd e (ZE k' h' X8),λx=>by
    rw[hM];exact⟨.inl,λq=>q.elim id λ⟨k',h',_,e1,e2,_⟩=>absurd e2 (ZE k' h' e1)⟩⟩
theorem KT (H:F8 m.words A)(M:List (Int×Bool)):∀(n i:Nat),i<=A.length->A.length-i<n->Av M m (A.map Int.ofNat) n (i:Int)=some (if (A.drop i).all (λa=>!decide (wd m.words a=0) || (Sh.BJ M (a:Int)).getD false)=true then Sum.inr () else Sum.inl false)
 | 0,_,_,h=>by omega
 | n+1,i,hi,hn=>by
  have hW:=H.size;have YU:=H.len;rw[Av];by_cases h:i<A.length
  ·obtain⟨a,ha,hm⟩:=BN h;have G:=H.C4 a hm;have h2:=G.h2;rw[Ry (show decide ((i:Int)<Sh.len (A.map Int.ofNat))=true by simpa [AT] using h),As (show (A.map Int.ofNat)[i]?=some (a:Int) by rw[Ro,ha];rfl),Rl,gw (by omega),Rl,drop_cons ha,To];have hq:(if decide (wd m.words a=0)=true then some (!((Sh.BJ M (a:Int)).getD false)) else some false)=some (!(!decide (wd m.words a=0) || (Sh.BJ M (a:Int)).getD false)):=by
    by_cases h0:wd m.words a=0<;>simp[h0]
   rw[hq,Rl];cases hb:(!decide (wd m.words a=0) || (Sh.BJ M (a:Int)).getD false) with
   | false=>simp
   | true=>
    rw[Rx (by simp),Ao (n:=(i:Int)+1) (by omega) (by omega),show (i:Int)+1=((i+1:Nat):Int) by omega,KT H M n (i+1) (by omega) (by omega),TO]
  ·rw[Rx (show ¬ decide ((i:Int)<Sh.len (A.map Int.ofNat))=true by simpa [AT] using h),Sf (by omega)];rfl
def P4 (m:Al)(A:List Nat):Prop:=∀(k:Nat) (h:Int),m.free[k]?=some h->p4 m.words A k h=true
theorem J9 (H:F8 m.words A)(hI :∀x∈m.words,Bl x)(YV :∀x∈m.free,Bl x){N:Nat}(hN:2000000<=N):
  ∃b,Bm N m ⟨A.map (raw m.words),EH A⟩ (A.map Int.ofNat)=some b/\(b=true↔m.free.length=4/\P4 m A):=by
 have hW:=H.size;have YU:=H.len;unfold Bm;by_cases hf:m.free.length=4
 ·rw[Rx (show ¬ (!decide ((Sh.len m.free)=4))=true by simp[AT,hf])];have h1:=Kw H hI hf YV hN N 0 (λ_=>False) [] (by omega) (by omega) (λ_ _ _ _ h=>h) (λx=>by simp[I0,Sh.BJ]);rw[UI]at h1;rcases h1 with ⟨M,g1,g2,g3⟩|⟨g1,k,h,_,g2,g3⟩
  ·rw[g1];have h2:=KT H M N 0 (by omega) (by omega);rw[UI,SH]at h2;simp only[Sh.cont,Rl];rw[h2];refine⟨A.all (λa=>!decide (wd m.words a=0) || (Sh.BJ M (a:Int)).getD false),?_,?_⟩
   ·cases A.all (λa=>!decide (wd m.words a=0) || (Sh.BJ M (a:Int)).getD false)<;>simp
   ·rw[Ru];have YX:∀k h l,NL m.words A k h=some (some l)->l.Nodup/\∀x∈l,x∈(C2 m.words A k).map Int.ofNat:=λk h l hl=>by
     have ey:=Hq (W:=m.words) (A:=A) (k:=k);obtain⟨r,hr,hr2⟩:=Hl H (k:=k) 2000000 h [] TZ (by simp) (by simp;omega);rw[show IG m.words (C2 m.words A k) 2000000 h []=some (some l) from hl]at hr;cases hr;exact hr2 l rfl
    constructor
    ·intro VD;refine⟨hf,λk h hk=>?_⟩;obtain⟨l,hl⟩:=g2 k h (R5 _) hk;obtain⟨n1,n2⟩:=YX k h l hl;unfold p4;rw[hl];simp only[SF];have e1:=FH n1 n2;have e2:=FH (l:=(C2 m.words A k).map Int.ofNat) (m:=l) (NR H.nodup) λx hx=>by
      obtain⟨a,ha,e,h0,hb⟩:=EF.1 hx;have:=VD a ha;simp only[h0,T1,S0,Bool.false_or]at this;rcases (g3 (a:Int)).1 this with h5|⟨k',h',l',_,e2,e3,e4⟩
      ·exact h5.elim
      ·obtain⟨b,_,e5,_,e7⟩:=EF.1 ((YX k' h' l' e3).2 _ e4);have:b=a:=by omega
       subst this;have:k'=k:=by omega
       subst this;rw[hk]at e2;cases e2;rw[hl]at e3;cases e3;rw[<- e];exact e4
     simp only[SB]at e1 e2;omega
    ·rintro⟨_,hP⟩ a ha;by_cases h0:wd m.words a=0
     ·have G:=H.C4 a ha;have hb:=E1 G.c1;obtain⟨h,hk,_⟩:=BN (l:=m.free) (i:=Cm m.words a) (by omega);obtain⟨l,hl⟩:=g2 _ h (R5 _) hk;obtain⟨n1,n2⟩:=YX _ h l hl;have hp:=hP _ h hk;unfold p4 at hp;rw[hl]at hp;simp only[SF]at hp;have:=Ln n1 n2 (by simp;omega) (a:Int) (EF.2 ⟨a,ha,rfl,h0,rfl⟩);have:=(g3 (a:Int)).2 (.inr ⟨_,h,l,R5 _,hk,hl,this⟩);unfold I0 at this;simp[this]
     ·simp[h0]
  ·rw[g1];refine⟨false,rfl,by simp,λ⟨_,hP⟩=>?_⟩;have:=hP k h g2;unfold p4 at this;rw[g3]at this;simp at this
 ·rw[Ry (show (!decide ((Sh.len m.free)=4))=true by rw[AT];simp only[TU,TT];omega)];exact⟨false,rfl,by simp,λq=>absurd q.1 hf⟩
end
end RC
