import Derived.Test.YtfkncfjpobjbjaaMEA
set_option linter.all false
namespace RC
def CJ (W:List Int)(a:Nat):List Int:=(W.drop (a+2)).take (Cq W a)
def raw (W:List Int)(a:Nat):Cell:=if 0<wd W a then ⟨wd W a,Int.tdiv (wd W (a+1)) 4,CJ W a⟩ else ⟨wd W a,0,[]⟩
def fz (W:List Int)(a:Nat):Bool:=decide (0<wd W a) || B4 (CJ W a)
def EG (P:List Nat):List (Int×Int):=P.mapIdx λ(i b:Nat)=>((b:Int),(i:Int))
theorem EZ.GS {W:List Int}{a:Nat}(G:EZ W a):(CJ W a).length=Cq W a:=by
 have:=G.fit;simp[CJ];omega
theorem Qn {W:List Int}{a:Nat}(G:EZ W a):Sh.sl W ((a+2:Nat):Int) ((a+2+Cq W a:Nat):Int)=some (CJ W a):=by
 unfold Sh.sl;have:=G.fit;rw[R1 ⟨by omega,by omega,by omega⟩];simp only[S0,CJ,List.drop_take];congr 2;omega
theorem idx_eq {l:List Int}(hl:l.length<=1048576):∀(n i:Nat),i<=l.length->l.length-i<n->(B4 (l.drop i)=true->Am l n (i:Int)=some (Sum.inr ()))/\(B4 (l.drop i)=false->∃j:Nat,Am l n (i:Int)=some (Sum.inl (j:Int)))
 | 0,_,_,h=>by omega
 | n+1,i,hi,hn=>by
  rw[Am];by_cases h:i<l.length
  ·obtain⟨x,hx,_⟩:=BL h;rw[R1 (by simpa [AT] using h),As hx,Rp,Dg,Rp,drop_cons hx];by_cases h0:x=0
   ·subst h0;rw[R0 (by simp),Ao (by omega) (by omega),show ((i:Int)+1)=((i+1:Nat):Int) by omega];have:=idx_eq hl n (i+1) (by omega) (by omega);simpa [B4] using this
   ·rw[R1 (by simpa using h0)];exact⟨λh=>by simp[B4,h0]at h,λ_=>⟨i,rfl⟩⟩
  ·rw[R0 (by simpa [AT] using h),Sk (by omega)];exact⟨λ_=>rfl,λh=>by simp[B4]at h⟩
theorem LV {l:List Int}(hl:l.length<=1048576){N:Nat}(hN:2000000<=N):C4 N l=some (B4 l):=by
 unfold C4 Be Bs;obtain⟨h1,h2⟩:=idx_eq hl N 0 (by omega) (by omega);rw[SL]at h1 h2;rw[UI]at h1 h2;cases h:B4 l with
 | true=>rw[h1 h];simp[Sh.cont]
 | false=>obtain⟨j,hj⟩:=h2 h;rw[hj];simp[Sh.cont]
theorem Kc {β:Type}:∀(m:List (Int×β)) (k:Int) (v:β),(∀p∈m,p.1≠k)->Sh.BX m k v=m++[(k,v)]
 | [],_,_,_=>rfl
 | (a,u)::m,k,v,h=>by
  rw[Sh.BX,R0 (λe=>h (a,u) (by simp) e.symm),Kc m k v λp hp=>h p (by simp[hp])];rfl
theorem OJ (P:List Nat)(a:Nat):EG (P++[a])=EG P++[((a:Int),(P.length:Int))]:=by simp[EG,List.mapIdx_concat]
theorem PL {P:List Nat}{p:Int×Int}(h:p∈EG P):∃b∈P,p.1=(b:Int):=by
 obtain⟨i,hi,rfl⟩:=List.mem_mapIdx.1 h;exact⟨P[i],S7 hi,rfl⟩
theorem MB {m:Aj}(hW:m.words.length<=1048576)(hi :∀x∈m.words,Bh x){N:Nat}(hN:2000000<=N):∀(n a:Nat) (P:List Nat),a<=m.words.length->m.words.length-a<n->P.length<=a->(∀b∈P,b<a)->
  match par m.words n a with
  | some B=>if B.all (fz m.words)=true then A7 N m n (a:Int) (P.map Int.ofNat) (P.map (raw m.words)) (EG P)=some (Sum.inr ((P++B).map Int.ofNat,(P++B).map (raw m.words),EG (P++B)))
   else∃o,A7 N m n (a:Int) (P.map Int.ofNat) (P.map (raw m.words)) (EG P)=some (Sum.inl (o,false))
  | none=>∃o,A7 N m n (a:Int) (P.map Int.ofNat) (P.map (raw m.words)) (EG P)=some (Sum.inl (o,false))
 | 0,_,_,_,h,_,_=>by omega
 | n+1,a,P,ha,hn,hP,hPa=>by
  rw[A7,par];by_cases h:a<m.words.length
  ·rw[R1 (show decide ((a:Int)<Sh.len m.words)=true by simpa [AT] using h),R1 h];have hc:(if (decide ((Sh.w ((Sh.len m.words)-(a:Int)))<2))=true then some true
     else (Sh.get m.words (a:Int)).bind λYM=>if (decide (YM<0))=true then some true
      else (Sh.get m.words (Sh.w ((a:Int)+1))).bind λXl=>some (decide (Xl<0)))=some (decide (m.words.length<a+2) || decide (wd m.words a<0) || decide (wd m.words (a+1)<0)):=by
    rw[AT,Ao (by omega) (by omega),Ao (n:=(a:Int)+1) (by omega) (by omega)];by_cases h1:m.words.length<a+2
    ·simp[h1,show ((m.words.length:Int)-a<2) by omega]
    ·rw[R0 (by simp;omega),gw h,Rp];by_cases h2:wd m.words a<0
     ·simp[h2]
     ·rw[R0 (by simpa using h2),show ((a:Int)+1)=((a+1:Nat):Int) by omega,gw (by omega),Rp];simp[h1,h2]
   rw[hc,Rp];by_cases hq:(decide (m.words.length<a+2) || decide (wd m.words a<0) || decide (wd m.words (a+1)<0))=true
   ·rw[R1 hq,R1 (by unfold Gf;rw[hq];rfl)];exact⟨_,rfl⟩
   ·rw[R0 hq];simp only[T1,SJ,not_or]at hq;obtain⟨⟨h2,VA⟩,aL⟩:=hq;have Uc:=FA (W:=m.words) (a:=a) (by omega);rw[gw h,Rp,Ao (n:=(a:Int)+1) (by omega) (by omega),show ((a:Int)+1)=((a+1:Nat):Int) by omega,gw (by omega),Rp,<- Gy (by omega),Ao (n:=(a:Int)+2) (by omega) (by omega),Ao (n:=(a:Int)+2+((Cq m.words a:Nat):Int)) (by omega) (by omega)];have e1:(a:Int)+2+((Cq m.words a:Nat):Int)=((a+2+Cq m.words a:Nat):Int):=by omega
    have e3:(a:Int)+2=((a+2:Nat):Int):=by omega
    rw[e1,e3,AT];by_cases hf:m.words.length<a+2+Cq m.words a
    ·rw[R1 (show decide (((m.words.length:Nat):Int)<((a+2+Cq m.words a:Nat):Int))=true by simp only[SJ];omega),R1 (show Gf m.words a=true by unfold Gf;simp[hf])];exact⟨_,rfl⟩
    ·rw[R0 (show ¬ decide (((m.words.length:Nat):Int)<((a+2+Cq m.words a:Nat):Int))=true by simp only[SJ];omega),R0 (show ¬ Gf m.words a=true by unfold Gf;simp;omega)];have G:EZ m.words a:=⟨by omega,by omega,by omega,by omega⟩
     have V3:=G.GS;rw[Df _ _ _ (by simp;omega) (by simp;omega),Rp,Qn G];have e2:P.map Int.ofNat++[(a:Int)]=(P++[a]).map Int.ofNat:=by simp
     have e4:Sh.BX (EG P) (a:Int) (Sh.len (P.map (raw m.words)))=EG (P++[a]):=by
      rw[OJ,AT,SF];exact Kc _ _ _ λp hp=>by
       obtain⟨b,hb,e⟩:=PL hp;have:=hPa b hb;rw[e];omega
     have ih:=MB hW hi hN n (a+2+Cq m.words a) (P++[a]) (by omega) (by omega) (by simp;omega) (λb hb=>by
      rcases SM.1 hb with hb|hb
      ·have:=hPa b hb;omega
      ·simp only[SC]at hb;omega)
     have ey:(if (decide (0<wd m.words a))=true then (some (CJ m.words a)).bind λcH=>(BO cH).bind λXy=>some (Sum.inr (Sh.w (Int.tdiv (wd m.words (a+1)) 4),Xy))
       else (some (CJ m.words a)).bind λcI=>(C4 N cI).bind λaY=>if (!aY)=true then some (Sum.inl (Sum.inl (Af.mk (P.map (raw m.words)) (EG (P++[a])),false)))
        else some (Sum.inr (0,[])))=(some (if fz m.words a=true then (Sum.inr ((raw m.words a).tag,(raw m.words a).fields)) else Sum.inl (Sum.inl (Af.mk (P.map (raw m.words)) (EG (P++[a])),false))):Option (((Af×Bool) ⊕ ((List Int)×(List Cell)×(List (Int×Int)))) ⊕ (Int×List Int))):=by
      by_cases Ui:0<wd m.words a
      ·have hI:=hi _ (Ro (E2 (W:=m.words) (i:=a+1) (by omega)));have hd:Sh.w (Int.tdiv (wd m.words (a+1)) 4)=Int.tdiv (wd m.words (a+1)) 4:=by
        have h1:=hI.1;have h2:=hI.2;rw[S9 (by omega)];exact Ao (by omega) (by omega)
       rw[R1 (by simpa using Ui),Rp,Kg _ (by omega),Rp,hd,R1 (by simp[fz,Ui])];simp[raw,Ui]
      ·rw[R0 (by simpa using Ui),Rp,LV (by omega) hN,Rp];cases hz:B4 (CJ m.words a) with
       | true=>rw[R0 (by simp),R1 (by simp[fz,hz])];simp[raw,Ui]
       | false=>rw[R1 (by simp),R0 (by simp[fz,Ui,hz])]
     rw[e4];rw[ey];have fA:Cell.mk (wd m.words a) (raw m.words a).tag (raw m.words a).fields=raw m.words a:=by unfold raw;split<;>rfl
     by_cases hz:fz m.words a=true
     ·rw[R1 hz];simp only[Sh.cont,Rp];rw[Df _ _ _ (by simp;omega) (by simp;omega),Rp,fA];have e5:P.map (raw m.words)++[raw m.words a]=(P++[a]).map (raw m.words):=by simp
      rw[e2,e5];cases hp:par m.words n (a+2+Cq m.words a) with
      | none=>rw[hp]at ih;simpa using ih
      | some B=>rw[hp]at ih;simpa [hz] using ih
     ·rw[R0 hz];simp only[Sh.cont,id];cases hp:par m.words n (a+2+Cq m.words a) with
      | none=>exact⟨_,rfl⟩
      | some B=>simp[hz]
  ·rw[R0 (show ¬ decide ((a:Int)<Sh.len m.words)=true by simpa [AT] using h),R0 h];simp
end RC
