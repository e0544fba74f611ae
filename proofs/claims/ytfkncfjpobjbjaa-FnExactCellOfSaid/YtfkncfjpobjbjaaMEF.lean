import Derived.Test.YtfkncfjpobjbjaaMEE
set_option linter.all false
namespace RC
theorem FX {α:Type}[DecidableEq α]:∀{l m:List α},l.Nodup->(∀x∈l,x∈m)->l.length<=m.length
 | [],_,_,_=>by simp
 | a::l,m,hn,hm=>by
  obtain⟨h1,h2⟩:=List.nodup_cons.1 hn;have ha:=hm a (by simp);have:=FX (l:=l) (m:=m.erase a) h2 λx hx=>(List.mem_erase_of_ne (by intro e;subst e;exact h1 hx)).2 (hm x (by simp[hx]));rw[TT ha]at this;have:=List.length_pos_of_mem ha;simp only[Sm];omega
theorem LG {α:Type}[DecidableEq α]{l m:List α}(hn:l.Nodup)(hl :∀x∈l,x∈m)(he:m.length<=l.length):∀x∈m,x∈l:=λx hx=>by
 refine TP λhc=>?_;have:=FX (l:=l) (m:=m.erase x) hn λy hy=>(List.mem_erase_of_ne (by intro e;subst e;exact hc hy)).2 (hl y hy);rw[TT hx]at this;have:=List.length_pos_of_mem hx;omega
def C6 (W:List Int)(A:List Nat)(k:Nat):List Nat:=A.filter λa=>decide (wd W a=0)&&decide (Cq W a=k)
theorem HV {W:List Int}{A:List Nat}(H:GC W A)(k:Nat):∀(n i:Nat) (p:List Nat),i<=A.length->A.length-i<n->p.length<=i->B9 W (A.map Int.ofNat) (k:Int) n (i:Int) (p.map Int.ofNat)=some ((p++C6 W (A.drop i) k).map Int.ofNat)
 | 0,_,_,_,h,_=>by omega
 | n+1,i,p,hi,hn,hp=>by
  have hW:=H.size;have X3:=H.len;rw[B9];by_cases h:i<A.length
  ·obtain⟨a,ha,hm⟩:=BL h;have G:=H.Cf a hm;have h2:=G.h2;have hg:Sh.get (A.map Int.ofNat) (i:Int)=some (a:Int):=As (show (A.map Int.ofNat)[i]?=some (a:Int) by rw[Rs,ha];rfl);rw[R1 (show decide ((i:Int)<Sh.len (A.map Int.ofNat))=true by simpa [AT] using h),hg];simp only[Rp];rw[gw (by omega),Rp,Fc hW G.h2 G.c1,drop_cons ha,Rp];have hq:(if decide (wd W a=0)=true then some (decide (((Cq W a:Nat):Int)=(k:Int))) else some false)=some (decide (wd W a=0)&&decide (Cq W a=k)):=by
    by_cases h0:wd W a=0
    ·rw[R1 (by simpa using h0)];simp[h0];omega
    ·rw[R0 (by simpa using h0)];simp[h0]
   rw[hq,Rp];by_cases hc:(decide (wd W a=0)&&decide (Cq W a=k))=true
   ·rw[R1 hc,Df _ _ _ (by simp;omega) (by simp;omega),Rp,Rp,Ao (n:=(i:Int)+1) (by omega) (by omega),show (i:Int)+1=((i+1:Nat):Int) by omega,show p.map Int.ofNat++[(a:Int)]=(p++[a]).map Int.ofNat by simp,HV H k n (i+1) (p++[a]) (by omega) (by omega) (by simp;omega)];rw[show C6 W (a::A.drop (i+1)) k=a::C6 W (A.drop (i+1)) k from by unfold C6;rw[Tw,R1 hc]];simp
   ·rw[R0 hc,Rp,Ao (n:=(i:Int)+1) (by omega) (by omega),show (i:Int)+1=((i+1:Nat):Int) by omega,HV H k n (i+1) p (by omega) (by omega) (by omega)];rw[show C6 W (a::A.drop (i+1)) k=C6 W (A.drop (i+1)) k from by unfold C6;rw[Tw,R0 hc]]
  ·rw[R0 (show ¬ decide ((i:Int)<Sh.len (A.map Int.ofNat))=true by simpa [AT] using h),Sk (by omega)];simp[C6]
theorem Na {W:List Int}{A:List Nat}(H:GC W A)(k:Nat){N:Nat}(hN:2000000<=N):Dv N W (A.map Int.ofNat) (k:Int)=some ((C6 W A k).map Int.ofNat):=by
 unfold Dv;have X3:=H.len;have hW:=H.size;have h0:=HV H k N 0 [] (by omega) (by omega) (by simp);rw[UI,SL]at h0;simp only[TB,S4]at h0;rw[h0];rfl
def IN (W:List Int)(F:List Nat):Nat->Int->List Int->Option (Option (List Int))
 | 0,_,_=>none
 | n+1,h,s=>if h=0 then some (some s) else if Sh.w (h-1)∈F.map Int.ofNat/\Sh.w (h-1) ∉ s then IN W F n (Int.tdiv (wd W ((Sh.w (h-1)).toNat+1)) 4) (s++[Sh.w (h-1)]) else some none
theorem Pb {h:Int}(hh:Bh h):(Sh.w (h-1)=h-1/\-9223372036854775808<=h-1)∨Sh.w (h-1)=9223372036854775807:=by
 have h1:=hh.1;have h2:=hh.2;by_cases h0:-9223372036854775808<=h-1
 ·exact .inl ⟨Ao h0 (by omega),h0⟩
 ·right;have:=Go.Abs.KP (n:=h-1) (by omega) (by omega);show Go.IntKind.i64.wrap (h-1)=_;rw[this];omega
theorem ER {W:List Int}{A:List Nat}{k:Nat}{y:Int}:y∈(C6 W A k).map Int.ofNat↔∃a∈A,(a:Int)=y/\wd W a=0/\Cq W a=k:=by
 simp only[R9,C6,List.mem_filter,SP,SJ];constructor
 ·rintro⟨a,⟨h1,h2,h3⟩,h4⟩;exact⟨a,h1,h4,h2,h3⟩
 ·rintro⟨a,h1,h4,h2,h3⟩;exact⟨a,⟨h1,h2,h3⟩,h4⟩
theorem Ml {W:List Int}{A:List Nat}{k:Nat}(h:A.Nodup):((C6 W A k).map Int.ofNat).Nodup:=
 (List.Nodup.sublist List.filter_sublist h).map _ λa b bk e=>bk (Int.ofNat.inj e)
theorem Hi {W:List Int}{A:List Nat}{k:Nat}:(C6 W A k).length<=A.length:=List.length_filter_le _ _
theorem Ia {W:List Int}{A:List Nat}(H:GC W A)(hI :∀x∈W,Bh x){k:Nat}{h:Int}(hh:Bh h)(hm:Sh.w (h-1)∈(C6 W A k).map Int.ofNat):
  ∃a∈A,Sh.w (h-1)=(a:Int)/\h=((a+1:Nat):Int)/\wd W a=0/\Cq W a=k/\a+1<W.length/\0<=wd W (a+1)/\Bh (Int.tdiv (wd W (a+1)) 4)/\Sh.w (Int.tdiv (wd W (a+1)) 4)=Int.tdiv (wd W (a+1)) 4:=by
 obtain⟨a,ha,e,h0,hk⟩:=ER.1 hm;have G:=H.Cf a ha;have h2:=G.h2;have hW:=H.size;have hb:=hI _ (Ro (E2 (W:=W) (i:=a+1) (by omega)));have h3:=hb.1;have h4:=hb.2;have h5:=G.c1;have ht:Int.tdiv (wd W (a+1)) 4=wd W (a+1) / 4:=S9 h5;refine⟨a,ha,e.symm,?_,h0,hk,by omega,h5,?_,?_⟩
 ·rcases Pb hh with ⟨h6,h7⟩|h6
  ·omega
  ·omega
 ·rw[ht];exact⟨by omega,by omega⟩
 ·rw[ht];exact Ao (by omega) (by omega)
theorem KV {W:List Int}{A:List Nat}(H:GC W A)(hI :∀x∈W,Bh x)(k:Nat){N:Nat}(hN:2000000<=N):∀(n:Nat) (h:Int) (s:List Int),Bh h->s.Nodup->(∀x∈s,x∈(C6 W A k).map Int.ofNat)->
  B1 N W ((C6 W A k).map Int.ofNat) n h s=(IN W (C6 W A k) n h s).map (λr=>match r with|some l=>Sum.inr l|none=>Sum.inl false)
 | 0,_,_,_,_,_=>rfl
 | n+1,h,s,hh,hs,hsub=>by
  have hW:=H.size;have X3:=H.len;have fC:=Hi (W:=W) (A:=A) (k:=k);have kS:s.length<=A.length:=by have:=FX hs hsub;simp at this;omega
  rw[B1,IN];by_cases h0:h=0
  ·rw[R0 (by simp[h0]),R1 h0];rfl
  ·rw[R1 (by simp[h0]),R0 h0,JS (by simp;omega) _ hN,Rp];by_cases hm:Sh.w (h-1)∈(C6 W A k).map Int.ofNat
   ·rw[R0 (by simpa using hm),JS (by omega) _ hN,Rp,Rp];by_cases Uy:Sh.w (h-1)∈s
    ·rw[R1 (by simpa using Uy),R0 (λq=>q.2 Uy)];rfl
    ·obtain⟨a,ha,e1,e2,h3,h4,h5,h6,h7,h8⟩:=Ia H hI hh hm;rw[R0 (by simpa using Uy),R1 ⟨hm,Uy⟩,Df _ _ _ (by simp;omega) (by simp;omega),Rp];have hg:Sh.get W h=some (wd W (a+1)):=by rw[e2];exact gw h5
     have V1:(s++[Sh.w (h-1)]).Nodup:=by
      rw[Tc];exact⟨hs,by simp,λx hx y hy=>by simp only[SC]at hy;subst hy;intro e;subst e;exact Uy hx⟩
     have XX :∀x∈s++[Sh.w (h-1)],x∈(C6 W A k).map Int.ofNat:=λx hx=>by
      rcases SM.1 hx with hx|hx
      ·exact hsub x hx
      ·simp only[SC]at hx;subst hx;exact hm
     rw[hg,Rp,h8,KV H hI k hN n _ _ h7 V1 XX,e1,S0]
   ·rw[R1 (by simpa using hm),Rp,R1 rfl,R0 (λq=>hm q.1)];rfl
theorem Hn {W:List Int}{A:List Nat}(H:GC W A){k:Nat}:∀(n:Nat) (h:Int) (s:List Int),s.Nodup->(∀x∈s,x∈(C6 W A k).map Int.ofNat)->(C6 W A k).length-s.length<n->
  ∃r,IN W (C6 W A k) n h s=some r/\∀l,r=some l->l.Nodup/\∀x∈l,x∈(C6 W A k).map Int.ofNat
 | 0,_,_,_,_,h=>by omega
 | n+1,h,s,hs,hsub,hn=>by
  rw[IN];by_cases h0:h=0
  ·rw[R1 h0];exact⟨_,rfl,λl e=>by cases e;exact⟨hs,hsub⟩⟩
  ·rw[R0 h0];by_cases hc:Sh.w (h-1)∈(C6 W A k).map Int.ofNat/\Sh.w (h-1) ∉ s
   ·rw[R1 hc];have V1:(s++[Sh.w (h-1)]).Nodup:=by
     rw[Tc];exact⟨hs,by simp,λx hx y hy=>by simp only[SC]at hy;subst hy;intro e;subst e;exact hc.2 hx⟩
    have XX :∀x∈s++[Sh.w (h-1)],x∈(C6 W A k).map Int.ofNat:=λx hx=>by
     rcases SM.1 hx with hx|hx
     ·exact hsub x hx
     ·simp only[SC]at hx;subst hx;exact hc.1
    have hl:=FX V1 XX;simp only[SV,Te,SF]at hl;exact Hn H n _ _ V1 XX (by simp;omega)
   ·rw[R0 hc];exact⟨_,rfl,λl e=>by cases e⟩
def Nf (W:List Int)(A:List Nat)(k:Nat)(h:Int):Option (Option (List Int)):=IN W (C6 W A k) 2000000 h []
def p4 (W:List Int)(A:List Nat)(k:Nat)(h:Int):Bool:=match Nf W A k h with|some (some l)=>decide (l.length=(C6 W A k).length)|_=>false
theorem IA {W:List Int}{F:List Nat}:∀{n m:Nat} {h:Int} {s:List Int} {r:Option (List Int)},IN W F n h s=some r->n<=m->IN W F m h s=some r
 | 0,_,_,_,_,h,_=>by simp[IN]at h
 | n+1,0,_,_,_,_,h=>by omega
 | n+1,m+1,h,s,r,hr,hnm=>by
  rw[IN]at hr⊢;split
  ·rename_i h0;rw[R1 h0]at hr;exact hr
  ·rename_i h0;rw[R0 h0]at hr;split
   ·rename_i hc;rw[R1 hc]at hr;exact IA hr (by omega)
   ·rename_i hc;rw[R0 hc]at hr;exact hr
theorem Md {W:List Int}{A:List Nat}(H:GC W A)(hI :∀x∈W,Bh x)(k:Nat){h:Int}(hh:Bh h){N:Nat}(hN:2000000<=N):DW N W h ((C6 W A k).map Int.ofNat)=some (p4 W A k h):=by
 unfold DW;have X3:=H.len;have hW:=H.size;have fC:=Hi (W:=W) (A:=A) (k:=k);rw[KV H hI k hN N h [] hh Td (by simp)];obtain⟨r,hr,_⟩:=Hn H (k:=k) 2000000 h [] Td (by simp) (by simp;omega);have hp:p4 W A k h=match r with|some l=>decide (l.length=(C6 W A k).length)|none=>false:=by simp only[p4,Nf,hr];cases r<;>rfl
 rw[IA hr hN,hp];cases r with
 | none=>simp[Sh.cont]
 | some l=>simp[Sh.cont,AT];omega
end RC
