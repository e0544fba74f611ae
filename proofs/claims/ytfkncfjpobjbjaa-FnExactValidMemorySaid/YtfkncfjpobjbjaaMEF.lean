import Derived.Test.YtfkncfjpobjbjaaMEE
set_option linter.all false
namespace RC
theorem FH {α:Type}[DecidableEq α]:∀{l m:List α},l.Nodup->(∀x∈l,x∈m)->l.length<=m.length
 | [],_,_,_=>by simp
 | a::l,m,hn,hm=>by
  obtain⟨h1,h2⟩:=List.nodup_cons.1 hn;have ha:=hm a (by simp);have:=FH (l:=l) (m:=m.erase a) h2 λx hx=>(List.mem_erase_of_ne (by intro e;subst e;exact h1 hx)).2 (hm x (by simp[hx]));rw[TP ha]at this;have:=List.length_pos_of_mem ha;simp only[Si];omega
theorem Ln {α:Type}[DecidableEq α]{l m:List α}(hn:l.Nodup)(hl :∀x∈l,x∈m)(he:m.length<=l.length):∀x∈m,x∈l:=λx hx=>by
 refine TL λhc=>?_;have:=FH (l:=l) (m:=m.erase x) hn λy hy=>(List.mem_erase_of_ne (by intro e;subst e;exact hc hy)).2 (hl y hy);rw[TP hx]at this;have:=List.length_pos_of_mem hx;omega
def C2 (W:List Int)(A:List Nat)(k:Nat):List Nat:=A.filter λa=>decide (wd W a=0)&&decide (Cm W a=k)
theorem HX {W:List Int}{A:List Nat}(H:F8 W A)(k:Nat):∀(n i:Nat) (p:List Nat),i<=A.length->A.length-i<n->p.length<=i->B7 W (A.map Int.ofNat) (k:Int) n (i:Int) (p.map Int.ofNat)=some ((p++C2 W (A.drop i) k).map Int.ofNat)
 | 0,_,_,_,h,_=>by omega
 | n+1,i,p,hi,hn,hp=>by
  have hW:=H.size;have YU:=H.len;rw[B7];by_cases h:i<A.length
  ·obtain⟨a,ha,hm⟩:=BN h;have G:=H.C4 a hm;have h2:=G.h2;have hg:Sh.get (A.map Int.ofNat) (i:Int)=some (a:Int):=As (show (A.map Int.ofNat)[i]?=some (a:Int) by rw[Ro,ha];rfl);rw[Ry (show decide ((i:Int)<Sh.len (A.map Int.ofNat))=true by simpa [AT] using h),hg];simp only[Rl];rw[gw (by omega),Rl,Fj hW G.h2 G.c1,drop_cons ha,Rl];have hq:(if decide (wd W a=0)=true then some (decide (((Cm W a:Nat):Int)=(k:Int))) else some false)=some (decide (wd W a=0)&&decide (Cm W a=k)):=by
    by_cases h0:wd W a=0
    ·rw[Ry (by simpa using h0)];simp[h0];omega
    ·rw[Rx (by simpa using h0)];simp[h0]
   rw[hq,Rl];by_cases hc:(decide (wd W a=0)&&decide (Cm W a=k))=true
   ·rw[Ry hc,De _ _ _ (by simp;omega) (by simp;omega),Rl,Rl,Ao (n:=(i:Int)+1) (by omega) (by omega),show (i:Int)+1=((i+1:Nat):Int) by omega,show p.map Int.ofNat++[(a:Int)]=(p++[a]).map Int.ofNat by simp,HX H k n (i+1) (p++[a]) (by omega) (by omega) (by simp;omega)];rw[show C2 W (a::A.drop (i+1)) k=a::C2 W (A.drop (i+1)) k from by unfold C2;rw[Ts,Ry hc]];simp
   ·rw[Rx hc,Rl,Ao (n:=(i:Int)+1) (by omega) (by omega),show (i:Int)+1=((i+1:Nat):Int) by omega,HX H k n (i+1) p (by omega) (by omega) (by omega)];rw[show C2 W (a::A.drop (i+1)) k=C2 W (A.drop (i+1)) k from by unfold C2;rw[Ts,Rx hc]]
  ·rw[Rx (show ¬ decide ((i:Int)<Sh.len (A.map Int.ofNat))=true by simpa [AT] using h),Sf (by omega)];simp[C2]
theorem NU {W:List Int}{A:List Nat}(H:F8 W A)(k:Nat){N:Nat}(hN:2000000<=N):Dq N W (A.map Int.ofNat) (k:Int)=some ((C2 W A k).map Int.ofNat):=by
 unfold Dq;have YU:=H.len;have hW:=H.size;have h0:=HX H k N 0 [] (by omega) (by omega) (by simp);rw[UI,SH]at h0;simp only[S7,Sx]at h0;rw[h0];rfl
def IG (W:List Int)(F:List Nat):Nat->Int->List Int->Option (Option (List Int))
 | 0,_,_=>none
 | n+1,h,s=>if h=0 then some (some s) else if Sh.w (h-1)∈F.map Int.ofNat/\Sh.w (h-1) ∉ s then IG W F n (Int.tdiv (wd W ((Sh.w (h-1)).toNat+1)) 4) (s++[Sh.w (h-1)]) else some none
theorem Po {h:Int}(hh:Bl h):(Sh.w (h-1)=h-1/\-9223372036854775808<=h-1)∨Sh.w (h-1)=9223372036854775807:=by
 have h1:=hh.1;have h2:=hh.2;by_cases h0:-9223372036854775808<=h-1
 ·exact .inl ⟨Ao h0 (by omega),h0⟩
 ·right;have:=Go.Abs.Ko (n:=h-1) (by omega) (by omega);show Go.IntKind.i64.wrap (h-1)=_;rw[this];omega
theorem EF {W:List Int}{A:List Nat}{k:Nat}{y:Int}:y∈(C2 W A k).map Int.ofNat↔∃a∈A,(a:Int)=y/\wd W a=0/\Cm W a=k:=by
 simp only[R7,C2,List.mem_filter,SL,SF];constructor
 ·rintro⟨a,⟨h1,h2,h3⟩,h4⟩;exact⟨a,h1,h4,h2,h3⟩
 ·rintro⟨a,h1,h4,h2,h3⟩;exact⟨a,⟨h1,h2,h3⟩,h4⟩
theorem NR {W:List Int}{A:List Nat}{k:Nat}(h:A.Nodup):((C2 W A k).map Int.ofNat).Nodup:=
 (List.Nodup.sublist List.filter_sublist h).map _ λa b bc e=>bc (Int.ofNat.inj e)
theorem Hq {W:List Int}{A:List Nat}{k:Nat}:(C2 W A k).length<=A.length:=List.length_filter_le _ _
theorem Ii {W:List Int}{A:List Nat}(H:F8 W A)(hI :∀x∈W,Bl x){k:Nat}{h:Int}(hh:Bl h)(hm:Sh.w (h-1)∈(C2 W A k).map Int.ofNat):
  ∃a∈A,Sh.w (h-1)=(a:Int)/\h=((a+1:Nat):Int)/\wd W a=0/\Cm W a=k/\a+1<W.length/\0<=wd W (a+1)/\Bl (Int.tdiv (wd W (a+1)) 4)/\Sh.w (Int.tdiv (wd W (a+1)) 4)=Int.tdiv (wd W (a+1)) 4:=by
 obtain⟨a,ha,e,h0,hk⟩:=EF.1 hm;have G:=H.C4 a ha;have h2:=G.h2;have hW:=H.size;have hb:=hI _ (Rk (E7 (W:=W) (i:=a+1) (by omega)));have h3:=hb.1;have h4:=hb.2;have h5:=G.c1;have ht:Int.tdiv (wd W (a+1)) 4=wd W (a+1) / 4:=S5 h5;refine⟨a,ha,e.symm,?_,h0,hk,by omega,h5,?_,?_⟩
 ·rcases Po hh with ⟨h6,h7⟩|h6
  ·omega
  ·omega
 ·rw[ht];exact⟨by omega,by omega⟩
 ·rw[ht];exact Ao (by omega) (by omega)
theorem Ki {W:List Int}{A:List Nat}(H:F8 W A)(hI :∀x∈W,Bl x)(k:Nat){N:Nat}(hN:2000000<=N):∀(n:Nat) (h:Int) (s:List Int),Bl h->s.Nodup->(∀x∈s,x∈(C2 W A k).map Int.ofNat)->
  Bw N W ((C2 W A k).map Int.ofNat) n h s=(IG W (C2 W A k) n h s).map (λr=>match r with|some l=>Sum.inr l|none=>Sum.inl false)
 | 0,_,_,_,_,_=>rfl
 | n+1,h,s,hh,hs,hsub=>by
  have hW:=H.size;have YU:=H.len;have ey:=Hq (W:=W) (A:=A) (k:=k);have kH:s.length<=A.length:=by have:=FH hs hsub;simp at this;omega
  rw[Bw,IG];by_cases h0:h=0
  ·rw[Rx (by simp[h0]),Ry h0];rfl
  ·rw[Ry (by simp[h0]),Rx h0,MX (by simp;omega) _ hN,Rl];by_cases hm:Sh.w (h-1)∈(C2 W A k).map Int.ofNat
   ·rw[Rx (by simpa using hm),MX (by omega) _ hN,Rl,Rl];by_cases Ut:Sh.w (h-1)∈s
    ·rw[Ry (by simpa using Ut),Rx (λq=>q.2 Ut)];rfl
    ·obtain⟨a,ha,e1,e2,h3,h4,h5,h6,h7,h8⟩:=Ii H hI hh hm;rw[Rx (by simpa using Ut),Ry ⟨hm,Ut⟩,De _ _ _ (by simp;omega) (by simp;omega),Rl];have hg:Sh.get W h=some (wd W (a+1)):=by rw[e2];exact gw h5
     have Vx:(s++[Sh.w (h-1)]).Nodup:=by
      rw[TY];exact⟨hs,by simp,λx hx y hy=>by simp only[R8]at hy;subst hy;intro e;subst e;exact Ut hx⟩
     have XR :∀x∈s++[Sh.w (h-1)],x∈(C2 W A k).map Int.ofNat:=λx hx=>by
      rcases SI.1 hx with hx|hx
      ·exact hsub x hx
      ·simp only[R8]at hx;subst hx;exact hm
     rw[hg,Rl,h8,Ki H hI k hN n _ _ h7 Vx XR,e1,Su]
   ·rw[Ry (by simpa using hm),Rl,Ry rfl,Rx (λq=>hm q.1)];rfl
theorem Hl {W:List Int}{A:List Nat}(H:F8 W A){k:Nat}:∀(n:Nat) (h:Int) (s:List Int),s.Nodup->(∀x∈s,x∈(C2 W A k).map Int.ofNat)->(C2 W A k).length-s.length<n->
  ∃r,IG W (C2 W A k) n h s=some r/\∀l,r=some l->l.Nodup/\∀x∈l,x∈(C2 W A k).map Int.ofNat
 | 0,_,_,_,_,h=>by omega
 | n+1,h,s,hs,hsub,hn=>by
  rw[IG];by_cases h0:h=0
  ·rw[Ry h0];exact⟨_,rfl,λl e=>by cases e;exact⟨hs,hsub⟩⟩
  ·rw[Rx h0];by_cases hc:Sh.w (h-1)∈(C2 W A k).map Int.ofNat/\Sh.w (h-1) ∉ s
   ·rw[Ry hc];have Vx:(s++[Sh.w (h-1)]).Nodup:=by
     rw[TY];exact⟨hs,by simp,λx hx y hy=>by simp only[R8]at hy;subst hy;intro e;subst e;exact hc.2 hx⟩
    have XR :∀x∈s++[Sh.w (h-1)],x∈(C2 W A k).map Int.ofNat:=λx hx=>by
     rcases SI.1 hx with hx|hx
     ·exact hsub x hx
     ·simp only[R8]at hx;subst hx;exact hc.1
    have hl:=FH Vx XR;simp only[SP,Ta,SB]at hl;exact Hl H n _ _ Vx XR (by simp;omega)
   ·rw[Rx hc];exact⟨_,rfl,λl e=>by cases e⟩
def NL (W:List Int)(A:List Nat)(k:Nat)(h:Int):Option (Option (List Int)):=IG W (C2 W A k) 2000000 h []
def p4 (W:List Int)(A:List Nat)(k:Nat)(h:Int):Bool:=match NL W A k h with|some (some l)=>decide (l.length=(C2 W A k).length)|_=>false
theorem IT {W:List Int}{F:List Nat}:∀{n m:Nat} {h:Int} {s:List Int} {r:Option (List Int)},IG W F n h s=some r->n<=m->IG W F m h s=some r
 | 0,_,_,_,_,h,_=>by simp[IG]at h
 | n+1,0,_,_,_,_,h=>by omega
 | n+1,m+1,h,s,r,hr,hnm=>by
  rw[IG]at hr⊢;split
  ·rename_i h0;rw[Ry h0]at hr;exact hr
  ·rename_i h0;rw[Rx h0]at hr;split
   ·rename_i hc;rw[Ry hc]at hr;exact IT hr (by omega)
   ·rename_i hc;rw[Rx hc]at hr;exact hr
theorem MH {W:List Int}{A:List Nat}(H:F8 W A)(hI :∀x∈W,Bl x)(k:Nat){h:Int}(hh:Bl h){N:Nat}(hN:2000000<=N):DZ N W h ((C2 W A k).map Int.ofNat)=some (p4 W A k h):=by
 unfold DZ;have YU:=H.len;have hW:=H.size;have ey:=Hq (W:=W) (A:=A) (k:=k);rw[Ki H hI k hN N h [] hh TZ (by simp)];obtain⟨r,hr,_⟩:=Hl H (k:=k) 2000000 h [] TZ (by simp) (by simp;omega);have hp:p4 W A k h=match r with|some l=>decide (l.length=(C2 W A k).length)|none=>false:=by simp only[p4,NL,hr];cases r<;>rfl
 rw[IT hr hN,hp];cases r with
 | none=>simp[Sh.cont]
 | some l=>simp[Sh.cont,AT];omega
end RC
