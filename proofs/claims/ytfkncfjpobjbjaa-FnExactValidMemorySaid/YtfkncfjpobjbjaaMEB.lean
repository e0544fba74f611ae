import Derived.Test.YtfkncfjpobjbjaaMEA
set_option linter.all false
namespace RC
def CH (W:List Int)(a:Nat):List Int:=(W.drop (a+2)).take (Cm W a)
def raw (W:List Int)(a:Nat):Cell:=if 0<wd W a then ⟨wd W a,Int.tdiv (wd W (a+1)) 4,CH W a⟩ else ⟨wd W a,0,[]⟩
def fz (W:List Int)(a:Nat):Bool:=decide (0<wd W a) || B3 (CH W a)
def EH (P:List Nat):List (Int×Int):=P.mapIdx λ(i b:Nat)=>((b:Int),(i:Int))
theorem EO.GR {W:List Int}{a:Nat}(G:EO W a):(CH W a).length=Cm W a:=by
 have:=G.fit;simp[CH];omega
theorem QP {W:List Int}{a:Nat}(G:EO W a):Sh.sl W ((a+2:Nat):Int) ((a+2+Cm W a:Nat):Int)=some (CH W a):=by
 unfold Sh.sl;have:=G.fit;rw[Ry ⟨by omega,by omega,by omega⟩];simp only[Su,CH,List.drop_take];congr 2;omega
theorem idx_eq {l:List Int}(hl:l.length<=1048576):∀(n i:Nat),i<=l.length->l.length-i<n->(B3 (l.drop i)=true->Am l n (i:Int)=some (Sum.inr ()))/\(B3 (l.drop i)=false->∃j:Nat,Am l n (i:Int)=some (Sum.inl (j:Int)))
 | 0,_,_,h=>by omega
 | n+1,i,hi,hn=>by
  rw[Am];by_cases h:i<l.length
  ·obtain⟨x,hx,_⟩:=BN h;rw[Ry (by simpa [AT] using h),As hx,Rl,Dc,Rl,drop_cons hx];by_cases h0:x=0
   ·subst h0;rw[Rx (by simp),Ao (by omega) (by omega),show ((i:Int)+1)=((i+1:Nat):Int) by omega];have:=idx_eq hl n (i+1) (by omega) (by omega);simpa [B3] using this
   ·rw[Ry (by simpa using h0)];exact⟨λh=>by simp[B3,h0]at h,λ_=>⟨i,rfl⟩⟩
  ·rw[Rx (by simpa [AT] using h),Sf (by omega)];exact⟨λ_=>rfl,λh=>by simp[B3]at h⟩
theorem LR {l:List Int}(hl:l.length<=1048576){N:Nat}(hN:2000000<=N):C0 N l=some (B3 l):=by
 unfold C0 Be Br;obtain⟨h1,h2⟩:=idx_eq hl N 0 (by omega) (by omega);rw[SH]at h1 h2;rw[UI]at h1 h2;cases h:B3 l with
 | true=>rw[h1 h];simp[Sh.cont]
 | false=>obtain⟨j,hj⟩:=h2 h;rw[hj];simp[Sh.cont]
theorem Ks {β:Type}:∀(m:List (Int×β)) (k:Int) (v:β),(∀p∈m,p.1≠k)->Sh.BW m k v=m++[(k,v)]
 | [],_,_,_=>rfl
 | (a,u)::m,k,v,h=>by
  rw[Sh.BW,Rx (λe=>h (a,u) (by simp) e.symm),Ks m k v λp hp=>h p (by simp[hp])];rfl
theorem OO (P:List Nat)(a:Nat):EH (P++[a])=EH P++[((a:Int),(P.length:Int))]:=by simp[EH,List.mapIdx_concat]
theorem PA {P:List Nat}{p:Int×Int}(h:p∈EH P):∃b∈P,p.1=(b:Int):=by
 obtain⟨i,hi,rfl⟩:=List.mem_mapIdx.1 h;exact⟨P[i],S3 hi,rfl⟩
theorem Lx {m:Al}(hW:m.words.length<=1048576)(hi :∀x∈m.words,Bl x){N:Nat}(hN:2000000<=N):∀(n a:Nat) (P:List Nat),a<=m.words.length->m.words.length-a<n->P.length<=a->(∀b∈P,b<a)->
  match par m.words n a with
  | some B=>if B.all (fz m.words)=true then A2 N m n (a:Int) (P.map Int.ofNat) (P.map (raw m.words)) (EH P)=some (Sum.inr ((P++B).map Int.ofNat,(P++B).map (raw m.words),EH (P++B)))
   else∃o,A2 N m n (a:Int) (P.map Int.ofNat) (P.map (raw m.words)) (EH P)=some (Sum.inl (o,false))
  | none=>∃o,A2 N m n (a:Int) (P.map Int.ofNat) (P.map (raw m.words)) (EH P)=some (Sum.inl (o,false))
 | 0,_,_,_,h,_,_=>by omega
 | n+1,a,P,ha,hn,hP,hPa=>by
  rw[A2,par];by_cases h:a<m.words.length
  ·rw[Ry (show decide ((a:Int)<Sh.len m.words)=true by simpa [AT] using h),Ry h];have hc:(if (decide ((Sh.w ((Sh.len m.words)-(a:Int)))<2))=true then some true
     else (Sh.get m.words (a:Int)).bind λYG=>if (decide (YG<0))=true then some true
      else (Sh.get m.words (Sh.w ((a:Int)+1))).bind λXe=>some (decide (Xe<0)))=some (decide (m.words.length<a+2) || decide (wd m.words a<0) || decide (wd m.words (a+1)<0)):=by
    rw[AT,Ao (by omega) (by omega),Ao (n:=(a:Int)+1) (by omega) (by omega)];by_cases h1:m.words.length<a+2
    ·simp[h1,show ((m.words.length:Int)-a<2) by omega]
    ·rw[Rx (by simp;omega),gw h,Rl];by_cases h2:wd m.words a<0
     ·simp[h2]
     ·rw[Rx (by simpa using h2),show ((a:Int)+1)=((a+1:Nat):Int) by omega,gw (by omega),Rl];simp[h1,h2]
   rw[hc,Rl];by_cases hq:(decide (m.words.length<a+2) || decide (wd m.words a<0) || decide (wd m.words (a+1)<0))=true
   ·rw[Ry hq,Ry (by unfold GZ;rw[hq];rfl)];exact⟨_,rfl⟩
   ·rw[Rx hq];simp only[Tx,SF,not_or]at hq;obtain⟨⟨h2,U3⟩,aD⟩:=hq;have UX:=E1 (W:=m.words) (a:=a) (by omega);rw[gw h,Rl,Ao (n:=(a:Int)+1) (by omega) (by omega),show ((a:Int)+1)=((a+1:Nat):Int) by omega,gw (by omega),Rl,<- Gm (by omega),Ao (n:=(a:Int)+2) (by omega) (by omega),Ao (n:=(a:Int)+2+((Cm m.words a:Nat):Int)) (by omega) (by omega)];have e1:(a:Int)+2+((Cm m.words a:Nat):Int)=((a+2+Cm m.words a:Nat):Int):=by omega
    have e3:(a:Int)+2=((a+2:Nat):Int):=by omega
    rw[e1,e3,AT];by_cases hf:m.words.length<a+2+Cm m.words a
    ·rw[Ry (show decide (((m.words.length:Nat):Int)<((a+2+Cm m.words a:Nat):Int))=true by simp only[SF];omega),Ry (show GZ m.words a=true by unfold GZ;simp[hf])];exact⟨_,rfl⟩
    ·rw[Rx (show ¬ decide (((m.words.length:Nat):Int)<((a+2+Cm m.words a:Nat):Int))=true by simp only[SF];omega),Rx (show ¬ GZ m.words a=true by unfold GZ;simp;omega)];have G:EO m.words a:=⟨by omega,by omega,by omega,by omega⟩
     have Vz:=G.GR;rw[De _ _ _ (by simp;omega) (by simp;omega),Rl,QP G];have e2:P.map Int.ofNat++[(a:Int)]=(P++[a]).map Int.ofNat:=by simp
     have e4:Sh.BW (EH P) (a:Int) (Sh.len (P.map (raw m.words)))=EH (P++[a]):=by
      rw[OO,AT,SB];exact Ks _ _ _ λp hp=>by
       obtain⟨b,hb,e⟩:=PA hp;have:=hPa b hb;rw[e];omega
     have ih:=Lx hW hi hN n (a+2+Cm m.words a) (P++[a]) (by omega) (by omega) (by simp;omega) (λb hb=>by
      rcases SI.1 hb with hb|hb
      ·have:=hPa b hb;omega
      ·simp only[R8]at hb;omega)
     have eo:(if (decide (0<wd m.words a))=true then (some (CH m.words a)).bind λcC=>(BO cC).bind λXu=>some (Sum.inr (Sh.w (Int.tdiv (wd m.words (a+1)) 4),Xu))
       else (some (CH m.words a)).bind λcD=>(C0 N cD).bind λaQ=>if (!aQ)=true then some (Sum.inl (Sum.inl (Af.mk (P.map (raw m.words)) (EH (P++[a])),false)))
        else some (Sum.inr (0,[])))=(some (if fz m.words a=true then (Sum.inr ((raw m.words a).tag,(raw m.words a).fields)) else Sum.inl (Sum.inl (Af.mk (P.map (raw m.words)) (EH (P++[a])),false))):Option (((Af×Bool) ⊕ ((List Int)×(List Cell)×(List (Int×Int)))) ⊕ (Int×List Int))):=by
      by_cases Ue:0<wd m.words a
      ·have hI:=hi _ (Rk (E7 (W:=m.words) (i:=a+1) (by omega)));have hd:Sh.w (Int.tdiv (wd m.words (a+1)) 4)=Int.tdiv (wd m.words (a+1)) 4:=by
        have h1:=hI.1;have h2:=hI.2;rw[S5 (by omega)];exact Ao (by omega) (by omega)
       rw[Ry (by simpa using Ue),Rl,KN _ (by omega),Rl,hd,Ry (by simp[fz,Ue])];simp[raw,Ue]
      ·rw[Rx (by simpa using Ue),Rl,LR (by omega) hN,Rl];cases hz:B3 (CH m.words a) with
       | true=>rw[Rx (by simp),Ry (by simp[fz,hz])];simp[raw,Ue]
       | false=>rw[Ry (by simp),Rx (by simp[fz,Ue,hz])]
     rw[e4];rw[eo];have ep:Cell.mk (wd m.words a) (raw m.words a).tag (raw m.words a).fields=raw m.words a:=by unfold raw;split<;>rfl
     by_cases hz:fz m.words a=true
     ·rw[Ry hz];simp only[Sh.cont,Rl];rw[De _ _ _ (by simp;omega) (by simp;omega),Rl,ep];have e5:P.map (raw m.words)++[raw m.words a]=(P++[a]).map (raw m.words):=by simp
      rw[e2,e5];cases hp:par m.words n (a+2+Cm m.words a) with
      | none=>rw[hp]at ih;simpa using ih
      | some B=>rw[hp]at ih;simpa [hz] using ih
     ·rw[Rx hz];simp only[Sh.cont,id];cases hp:par m.words n (a+2+Cm m.words a) with
      | none=>exact⟨_,rfl⟩
      | some B=>simp[hz]
  ·rw[Rx (show ¬ decide ((a:Int)<Sh.len m.words)=true by simpa [AT] using h),Rx h];simp
end RC
