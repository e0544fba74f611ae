import Derived.Test.YtihdgoiebmfapaaGreatGFTDefsToKNK
set_option linter.all false
namespace RC
open Go
section
variable {p : AJ} {R1 : AJ -> List Int -> AD -> Option Int} {R2 : List Int -> BO -> AD -> Option Int} {T : List Int -> AD -> Int} {e : AD} {v : List Int} {N : Nat}
theorem Xg (H:LC p (FE p) R1 R2 T (en e))(V:IW p e v)(h:e.op=13){a b:AD}(hk:e.kids=[a,b])(hn:e.num=0)(ha:T v a≠-1):
  Al N R2 v (FE p) e=some (T (v++[T v a]) b)/\Dc p.decls (T v a)=true:=by
 have hv:v.length<=1000:=by have:=V.len;omega
 have vW:a∈e.kids:=by rw[hk];simp
 have yG:b∈e.kids:=by rw[hk];simp
 obtain⟨a1,a2,a3⟩:=H v a (V.CT.kids a vW) (Ca vW) (V.KF vW) V.Jm;have hty:Dc p.decls (T v a)=true:=a3.resolve_left ha;have h0:¬ T v a<0:=by have:=(LL hty).1;omega
 have g0:Sh.get e.kids 0=some a:=by rw[hk];rfl
 have g1:Sh.get e.kids 1=some b:=by rw[hk];rfl
 obtain⟨b1,b2,b3⟩:=H (v++[T v a]) b (V.CT.kids b yG) (Ca yG) (V.more yG (by simp)) (V.X4 (by simp[hty]));refine⟨?_,hty⟩;unfold Al;simp only[h,Int.reduceEq,pX,pa,pF,pt,pV];rw[g0,g1];have hl:((e.kids.length:Int)=2):=by rw[hk];rfl
 simp only[ov,AI,hl,hn,pX,qD,pF,pV];rw[a2];simp only[ov,h0,pa,pF,pV];rw[DJ v [T v a] 8 (by simp;omega) (by simp;omega)];simp only[ov,b2]
theorem Xu (H:LC p (FE p) R1 R2 T (en e))(V:IW p e v)(h:e.op=13){t:Int}(hB:Al N R2 v (FE p) e=some t)(ht:t≠-1):
  ∃a b,e.kids=[a,b]/\e.num=0/\T v a≠-1/\Dc p.decls (T v a)=true/\t=T (v++[T v a]) b:=by
 have hB0:=hB;unfold Al at hB;simp only[h,Int.reduceEq,pX,pa,pF,pt,pV]at hB;by_cases hl:e.kids.length=2
 .obtain⟨a,b,hk⟩ :∃a b,e.kids=[a,b]:=by
   match hk:e.kids,hl with
   | [a,b],_=>exact⟨a,b,rfl⟩
  have vW:a∈e.kids:=by rw[hk];simp
  obtain⟨a1,a2,a3⟩:=H v a (V.CT.kids a vW) (Ca vW) (V.KF vW) V.Jm;by_cases hn:e.num=0
  .by_cases ha:T v a=-1
   .exfalso;have g0:Sh.get e.kids 0=some a:=by rw[hk];rfl
    rw[g0]at hB;simp only[ov,AI,hl]at hB;rw[a2]at hB;simp[hn,ha]at hB;exact ht hB.symm
   .obtain⟨q1,q2⟩:=Xg (N:=N) H V h hk hn ha;rw[hB0]at q1;exact⟨a,b,hk,hn,ha,q2,by simpa using q1⟩
  .simp[hn]at hB;exact absurd hB.symm ht
 .have:¬ ((e.kids.length:Int)=2):=by omega
  simp[AI,this]at hB;exact absurd hB.symm ht
theorem fm (H:LC p (FE p) R1 R2 T (en e))(V:IW p e v)(hN:2000000<=N)(h:e.op=7){a b c:AD}(hk:e.kids=[a,b,c])(hn:e.num=0)(ha:T v a=0):
  Al N R2 v (FE p) e=some (MO [T v b,T v c]):=by
 have vW:a∈e.kids:=by rw[hk];simp
 have yG:b∈e.kids:=by rw[hk];simp
 have hmc:c∈e.kids:=by rw[hk];simp
 obtain⟨a1,a2,a3⟩:=H v a (V.CT.kids a vW) (Ca vW) (V.KF vW) V.Jm;have hl:((e.kids.length:Int)=3):=by rw[hk];rfl
 have g0:Sh.get e.kids 0=some a:=by rw[hk];rfl
 have g3:Sh.sl e.kids 1 3=some [b,c]:=by rw[hk];rfl
 have o:=Ky (ks:=[b,c]) (ms:=[[],[]]) H V hN (by intro k hk;simp only[pL,pn,qc]at hk;rcases hk with rfl|rfl<;>assumption) (by simp) rfl (by simp);have mk2:Sh.mk ([]:List Int) 2 24=some [[],[]]:=OJ [] 2 24 (by omega) (by omega);unfold Al;simp only[h,Int.reduceEq,pX,pa,pF,pt,pV];rw[g0];simp only[ov,AI,hl];rw[a2,g3,mk2];simp only[ov];rw[o];simp[hn,ha]
theorem fu (H:LC p (FE p) R1 R2 T (en e))(V:IW p e v)(hN:2000000<=N)(h:e.op=7){t:Int}(hB:Al N R2 v (FE p) e=some t)(ht:t≠-1):
  ∃a b c,e.kids=[a,b,c]/\e.num=0/\T v a=0/\t=T v b/\t=T v c:=by
 have hB0:=hB;unfold Al at hB;simp only[h,Int.reduceEq,pX,pa,pF,pt,pV]at hB;by_cases hl:e.kids.length=3
 .obtain⟨a,b,c,hk⟩ :∃a b c,e.kids=[a,b,c]:=by
   match hk:e.kids,hl with
   | [a,b,c],_=>exact⟨a,b,c,rfl⟩
  have vW:a∈e.kids:=by rw[hk];simp
  obtain⟨a1,a2,a3⟩:=H v a (V.CT.kids a vW) (Ca vW) (V.KF vW) V.Jm;by_cases hn:e.num=0
  .by_cases ha:T v a=0
   .have q:=fm H V hN h hk hn ha;rw[hB0]at q;have q:t=MO [T v b,T v c]:=by simpa using q
    have hal:=Ux (l:=[T v b,T v c]) (by rw[<- q];exact ht);rw[U5]at q;by_cases hcb:T v c=T v b
    .rw[pJ hcb]at q;exact⟨a,b,c,hk,hn,ha,q,by rw[hcb];exact q⟩
    .rw[pK hcb]at q;exact absurd q ht
   .exfalso;have g0:Sh.get e.kids 0=some a:=by rw[hk];rfl
    rw[g0]at hB;simp only[ov,AI,hl]at hB;rw[a2]at hB;simp[hn,ha]at hB;exact ht hB.symm
  .simp[hn]at hB;exact absurd hB.symm ht
 .have:¬ ((e.kids.length:Int)=3):=by omega
  simp[AI,this]at hB;exact absurd hB.symm ht
def cG (D:List AL)(T:List Int->AD->Int)(v C:List Int)(r:List AD):List Int:=List.zipWith (λm k=>T (v++m) k) (C.map (Gf D)) r
theorem Xh (H:LC p (FE p) R1 R2 T (en e))(V:IW p e v)(S:FA p.decls p.funcs)(hN:2000000<=N)(h8:e.op=8){a:AD}{r:List AD}(wq:e.kids=a::r)(h0:CO p.decls e.num≠[])(ye:r.length=(CO p.decls e.num).length)(hta:T v a=e.num):
  Al N R2 v (FE p) e=some (MO (cG p.decls T v (CO p.decls e.num) r)):=by
 have xz:=V.Kc;have hD:=S.P6;have hn:=S.nc;have hCl:=Na S.Vq e.num;unfold Al;simp only[h8,Int.reduceEq,pX,pa,pF,pt,pV];rw[show (FE p).decls=p.decls from rfl,JE (by omega) (by omega) hN];simp only[ov];generalize hCe:CO p.decls e.num=C at *;have hCm:∀c∈C,Bt N p.decls c=some (Gf p.decls c)/\Eg N p.decls c=some (Gf p.decls c)/\(Gf p.decls c).length<=3/\∀x∈Gf p.decls c,Dc p.decls x=true:=λc hc=>Ra S (hCe▸hc) hN;have h1:e.kids.length=1+C.length:=by rw[wq];simp;omega
 have xH:((e.kids.length:Int)=1+(C.length:Int)):=by omega
 have vW:a∈e.kids:=by rw[wq];simp
 have hmr:∀k∈r,k∈e.kids:=λk hk=>by rw[wq];simp[hk]
 obtain⟨a1,a2,a3⟩:=H v a (V.CT.kids a vW) (Ca vW) (V.KF vW) V.Jm;have g0:Sh.get e.kids 0=some a:=by rw[wq];rfl
 have g3:Sh.sl e.kids 1 (e.kids.length:Int)=some r:=by
  unfold Sh.sl;rw[pJ ⟨by omega,by omega,by omega⟩,wq];simp
 have mkC:Sh.mk ([]:List Int) (C.length:Int) 24=some (List.replicate C.length []):=OJ [] C.length 24 (by omega) (by omega);have o:=Ky (ks:=r) (ms:=C.map (Gf p.decls)) H V hN hmr (by omega) (by simp[ye]) (by
  intro m hm;obtain⟨c,hc,rfl⟩:=pS.1 hm;exact (hCm c hc).2.2)
 have FL:=Pc (p:=p) S hN hCl λc hc=>(hCm c hc).2.1;rw[AI C,AI e.kids,BE (n:=1+(C.length:Int)) (by omega) (by omega),g0,g3,mkC];simp only[ov];rw[a2,FL];simp only[ov];rw[o];simp[h0,xH,hta,cG]
theorem Sl (H:LC p (FE p) R1 R2 T (en e))(V:IW p e v)(S:FA p.decls p.funcs)(hN:2000000<=N)(h8:e.op=8){t:Int}(hB:Al N R2 v (FE p) e=some t)(ht:t≠-1):
  ∃a r,e.kids=a::r/\CO p.decls e.num≠[]/\r.length=(CO p.decls e.num).length/\T v a=e.num/\t=MO (cG p.decls T v (CO p.decls e.num) r):=by
 have hB0:=hB;have xz:=V.Kc;have hD:=S.P6;have hn:=S.nc;have hCl:=Na S.Vq e.num;unfold Al at hB;simp only[h8,Int.reduceEq,pX,pa,pF,pt,pV]at hB;rw[show (FE p).decls=p.decls from rfl,JE (by omega) (by omega) hN]at hB;simp only[ov]at hB;have mv:=λa r=>Xh (a:=a) (r:=r) H V S hN h8;rw[AI (CO p.decls e.num),AI e.kids,BE (n:=1+((CO p.decls e.num).length:Int)) (by omega) (by omega)]at hB;by_cases h0:(CO p.decls e.num)=[]
 .simp[h0]at hB;exact absurd hB.symm ht
 .have yk:¬ (((CO p.decls e.num).length:Int)=0):=by
   intro q;exact h0 (qN (by omega))
  by_cases h1:e.kids.length=1+(CO p.decls e.num).length
  .have xH:((e.kids.length:Int)=1+((CO p.decls e.num).length:Int)):=by omega
   obtain⟨a,r,wq⟩ :∃a r,e.kids=a::r:=by
    cases hq:e.kids with
    |nil=>rw[hq]at h1;simp at h1;omega
    |cons a r=>exact⟨a,r,rfl⟩
   have ye:r.length=(CO p.decls e.num).length:=by rw[wq]at h1;simp at h1;omega
   have vW:a∈e.kids:=by rw[wq];simp
   obtain⟨a1,a2,a3⟩:=H v a (V.CT.kids a vW) (Ca vW) (V.KF vW) V.Jm;by_cases hta:T v a=e.num
   .have q:=mv a r wq h0 ye hta;rw[hB0]at q;exact⟨a,r,wq,h0,ye,hta,by simpa using q⟩
   .exfalso;have g0:Sh.get e.kids 0=some a:=by rw[wq];rfl
    rw[g0]at hB;simp only[ov]at hB;rw[a2]at hB;simp[h0,xH,hta]at hB;exact ht hB.symm
  .have xH:¬ ((e.kids.length:Int)=1+((CO p.decls e.num).length:Int)):=by omega
   simp[h0,xH]at hB;exact absurd hB.symm ht
theorem Ze {l:List Int}{t:Int}(h:t=MO l)(ht:t≠-1):∀x∈l,x=t:=by
 cases l with
 |nil=>intro x hx;cases hx
 |cons a r=>
  simp only[MO]at h;by_cases hr:r.all (λx=>decide (x=a))=true
  .rw[pJ hr]at h;intro x hx;rcases pL.1 hx with rfl|hx
   .exact h.symm
   .have:=pH.1 hr x hx;simp only[pQ]at this;rw[this,h]
  .rw[pK hr]at h;exact absurd h ht
def HN (D:List AL)(o nu:Int)(i:Nat):Nat:=if o=13/\i=1 then 1 else if o=8/\0<i then (Gf D (((CO D nu)[i-1]?).getD 0)).length else 0
theorem Tm {e':AD}{v':List Int}(H:LC p (FE p) R1 R2 T (en e))(H':LC p (FE p) R1 R2 T (en e'))(V:IW p e v)(V':IW p e' v')(S:FA p.decls p.funcs)(hN:2000000<=N){t:Int}(hB:Al N R2 v (FE p) e=some t)(ht:t≠-1)
  (ho:e'.op=e.op) (hn:e'.num=e.num) (vr:e.op≠12) (hl:e'.kids.length=e.kids.length)
  (hf :∀(i:Nat) k k',e.kids[i]?=some k->e'.kids[i]?=some k'->∀m:List Int,m.length=HN p.decls e.op e.num i->m.length<=3->(∀x∈m,Dc p.decls x=true)->T (v++m) k≠-1->T (v'++m) k'=T (v++m) k) :
  Al N R2 v' (FE p) e'=some t:=by
 have hf0:∀(i:Nat) k k',e.kids[i]?=some k->e'.kids[i]?=some k'->HN p.decls e.op e.num i=0->T v k≠-1->T v' k'=T v k:=λi k k' hk wY hx h=>by
  have:=hf i k k' hk wY [] (by rw[hx];rfl) (by simp) (λx hx=>(by cases hx)) (by simpa using h);simpa using this
 by_cases h13:e.op=13
 .obtain⟨a,b,q1,q2,q3,q4,q5⟩:=Xu H V h13 hB ht;obtain⟨a',b',wY⟩ :∃a' b',e'.kids=[a',b']:=by
   match hq:e'.kids,hl with
   | [a',b'],_=>exact⟨a',b',rfl⟩
   | [],hl=>rw[q1]at hl;simp at hl
   | [_],hl=>rw[q1]at hl;simp at hl
   |_::_::_::_,hl=>rw[q1]at hl;simp at hl
  have e1:=hf0 0 a a' (by rw[q1];rfl) (by rw[wY];rfl) (by simp[HN,h13]) q3;have e2:=hf 1 b b' (by rw[q1];rfl) (by rw[wY];rfl) [T v a] (by simp[HN,h13]) (by simp) (by simp[q4]) (by rw[<- q5];exact ht);have:=(Xg (N:=N) H' V' (by rw[ho];exact h13) wY (by rw[hn];exact q2) (by rw[e1];exact q3)).1;rw[this,e1,e2,<- q5]
 by_cases h7:e.op=7
 .obtain⟨a,b,c,q1,q2,q3,q4,q5⟩:=fu H V hN h7 hB ht;obtain⟨a',b',c',wY⟩ :∃a' b' c',e'.kids=[a',b',c']:=by
   match hq:e'.kids,hl with
   | [a',b',c'],_=>exact⟨a',b',c',rfl⟩
   | [],hl=>rw[q1]at hl;simp at hl
   | [_],hl=>rw[q1]at hl;simp at hl
   | [_,_],hl=>rw[q1]at hl;simp at hl
   |_::_::_::_::_,hl=>rw[q1]at hl;simp at hl
  have hx:∀i,HN p.decls e.op e.num i=0:=λi=>by simp[HN,h7]
  have e1:=hf0 0 a a' (by rw[q1];rfl) (by rw[wY];rfl) (hx _) (by rw[q3];omega);have e2:=hf0 1 b b' (by rw[q1];rfl) (by rw[wY];rfl) (hx _) (by rw[<- q4];exact ht);have e3:=hf0 2 c c' (by rw[q1];rfl) (by rw[wY];rfl) (hx _) (by rw[<- q5];exact ht);have:=fm H' V' hN (by rw[ho];exact h7) wY (by rw[hn];exact q2) (by rw[e1];exact q3);rw[this,e2,e3,<- q4,<- q5,U5,pJ rfl]
 by_cases h8:e.op=8
 .obtain⟨a,r,q1,q2,q3,q4,q5⟩:=Sl H V S hN h8 hB ht;have yY:e.num≠-1:=λq=>q2 (by rw[q];simp[CO]);obtain⟨a',r',wY⟩ :∃a' r',e'.kids=a'::r':=by
   match hq:e'.kids,hl with
   |a'::r',_=>exact⟨a',r',rfl⟩
   | [],hl=>rw[q1]at hl;simp at hl
  have ye:r'.length=r.length:=by rw[wY,q1]at hl;simpa using hl
  have e1:=hf0 0 a a' (by rw[q1];rfl) (by rw[wY];rfl) (by simp[HN,h8]) (by rw[q4];exact yY);have:=Xh H' V' S hN (by rw[ho];exact h8) wY (by rw[hn];exact q2) (by rw[hn,ye];exact q3) (by rw[hn,e1];exact q4);rw[this,hn,q5];have al:=Ze q5 ht;congr 2;unfold cG at al⊢;apply qk;intro i;rw[rE,rE,pC];cases hc:(CO p.decls e.num)[i]? with
  |none=>rfl
  |some c=>
   cases hr:r[i]? with
   |none=>
    have:r'[i]?=none:=by rw[rW]at hr⊢;omega
    rw[this];rfl
   |some k=>
    have vh:=(pB.1 hr).1;have vf:r'[i]?=some r'[i]:=pG (by omega);have wI:=oz hc;have F:=Ra S wI hN;have:=al (T (v++Gf p.decls c) k) (pZ.2 ⟨i,by rw[rE,pC,hc,hr];rfl⟩);have g:=hf (i+1) k r'[i] (by rw[q1];exact hr) (by rw[wY];exact vf) (Gf p.decls c) (by simp[HN,h8,hc]) F.2.2.1 F.2.2.2 (by rw[this];exact ht);rw[vf];show some (T (v'++Gf p.decls c) r'[i])=some (T (v++Gf p.decls c) k);rw[g]
 have hb:=hB;rw[F9 H V hN vr h13 h7 h8]at hb;rw[F9 H' V' hN (by rw[ho];exact vr) (by rw[ho];exact h13) (by rw[ho];exact h7) (by rw[ho];exact h8),ho,hn];have:e'.kids.map (T v')=e.kids.map (T v):=by
  apply qk;intro i;rw[pC,pC];cases hk:e.kids[i]? with
  |none=>
   have:e'.kids[i]?=none:=by rw[rW]at hk⊢;omega
   rw[this];rfl
  |some k=>
   have vh:=(pB.1 hk).1;have wY:e'.kids[i]?=some e'.kids[i]:=pG (by omega);rw[wY];have:=hf0 i k _ hk wY (by simp[HN,h13,h8]) λq=>by
    rw[pJ (ra.2 ⟨T v k,rD (oz hk),by rw[q];rfl⟩)]at hb;simp at hb;exact ht hb.symm
   show some (T v' e'.kids[i])=some (T v k);rw[this]
 rw[this];exact hb
end
end RC
namespace RC
open Go
structure VX (p:AJ) (e:AD) (v:List Int):Prop where
 len:v.length+3*en e<=900
 Jm :∀x∈v,Dc p.decls x=true
 CT:Ak e
theorem VX.VD {p:AJ}{e:AD}{v:List Int}(V:VX p e v):IW p e v:=⟨by have:=V.len;omega,V.Jm,by have:=V.len;omega,V.CT⟩
def TX (p:AJ)(N:Nat)(T:List Int->AD->Int):Prop:=∀(v:List Int) (e:AD),Ak e->en e<340->v.length+3*en e<=1000->(∀x∈v,Dc p.decls x=true)->
  ∀n1 n2,340<=n1->340<=n2->Ci N n1 p v e=some (T v e)/\Ba N n2 v (FE p) e=some (T v e)/\(T v e=-1∨Dc p.decls (T v e)=true)
section
variable {p : AJ} {N : Nat} {T : List Int -> AD -> Int} {e : AD} {v : List Int}
theorem TX.tok (hT:TX p N T){m:Nat}(hm:m<=340):LC p (FE p) (Ci N 340) (Ba N 340) T m:=λv e a b c d=>hT v e a (by omega) c d 340 340 (pM _) (pM _)
theorem TX.bi (hT:TX p N T)(V:VX p e v):Al N (Ba N 340) v (FE p) e=some (T v e):=by
 have h:=V.len;have:=(hT v e V.CT (by omega) (by omega) V.Jm 341 341 (by omega) (by omega)).2.1;rwa [Ba]at this
theorem TX.bs (hT:TX p N T)(V:VX p e v):Bs N (Ci N 340) p v e=some (T v e):=by
 have h:=V.len;have:=(hT v e V.CT (by omega) (by omega) V.Jm 341 341 (by omega) (by omega)).1;rwa [Ci]at this
theorem TX.ty (hT:TX p N T)(V:VX p e v)(h:T v e≠-1):Dc p.decls (T v e)=true:=by
 have h1:=V.len;exact ((hT v e V.CT (by omega) (by omega) V.Jm 341 341 (by omega) (by omega)).2.2).resolve_left h
theorem TX.H (hT:TX p N T)(V:VX p e v):LC p (FE p) (Ci N 340) (Ba N 340) T (en e):=hT.tok (by have:=V.len;omega)
theorem VX.KF (V:VX p e v){k:AD}(hk:k∈e.kids){m:List Int}(hm:m.length<=3)(ht :∀x∈m,Dc p.decls x=true):VX p k (v++m):=by
 have h:=V.len;have hke:=Ca hk;refine⟨by rw[pW];omega,λx hx=>?_,V.CT.kids k hk⟩;rcases pY.1 hx with hx|hx
 .exact V.Jm x hx
 .exact ht x hx
theorem TX.var (hT:TX p N T)(V:VX p e v)(h:e.op=12):T v e=if e.kids=[]/\0<=e.num/\e.num<(v.length:Int) then (v[e.num.toNat]?).getD (-1) else -1:=by
 have q:=hT.bi V;unfold Al at q;simp only[h,pX,pt]at q;by_cases hk:e.kids=[]
 .rw[hk]at q⊢;by_cases h0:e.num<0
  .have:¬ (0<=e.num):=by omega
   simp[AI,h0]at q;simp[this,<- q]
  .by_cases h1:(v.length:Int)<=e.num
   .have:¬ (e.num<(v.length:Int)):=by omega
    simp[AI,h0,h1]at q;simp[this,<- q]
   .obtain⟨x,hx1,hx2⟩:=Oc (l:=v) (j:=e.num) (by omega) (by omega);have a1:0<=e.num:=by omega
    have a2:e.num<(v.length:Int):=by omega
    simp only[AI,qj,h0,h1,pa,pF,pV,ov]at q;rw[hx1]at q;rw[pJ ⟨rfl,a1,a2⟩,hx2];simpa using q.symm
 .have:0<Sh.len e.kids:=by rw[AI];have:=sd.2 hk;omega
  simp only[this,pX,pt,ov,pD]at q;simp[hk,<- q]
end
mutual
def sh (n k:Int):AD->AD|.mk o nu ks=>.mk o (if o=12/\n<=nu then nu+k else nu) (shl n k ks)
def shl (n k:Int):List AD->List AD|[]=>[]|e::l=>sh n k e::shl n k l
end
theorem fU {n k:Int}:∀l,shl n k l=l.map (sh n k)
 | []=>by simp[shl]
 |e::l=>by simp[shl,fU l]
theorem Us {n k:Int}(e:AD):sh n k e=.mk e.op (if e.op=12/\n<=e.num then e.num+k else e.num) (e.kids.map (sh n k)):=by cases e;simp only[sh,fU];rfl
theorem U3 {n k:Int}(e:AD):(sh n k e).op=e.op:=by rw[Us];rfl
theorem Nw {n k:Int}(e:AD):(sh n k e).num=if e.op=12/\n<=e.num then e.num+k else e.num:=by rw[Us];rfl
theorem KX {n k:Int}(e:AD):(sh n k e).kids=e.kids.map (sh n k):=by rw[Us];rfl
mutual
theorem W9 {n k:Int}:∀e,en (sh n k e)=en e
 |.mk o nu ks=>by simp only[sh,en,cJ ks]
theorem cJ {n k:Int}:∀l,CL (shl n k l)=CL l
 | []=>rfl
 |e::l=>by simp only[shl,CL,W9 e,cJ l]
end
section
variable {p : AJ} {N : Nat} {T : List Int -> AD -> Int}
theorem jT (S:FA p.decls p.funcs)(hN:2000000<=N)(hT:TX p N T)(v d:List Int)(hd :∀x∈d,Dc p.decls x=true):∀(c:Nat) (e:AD) (w:List Int),en e<=c->VX p e (v++w)->v.length+d.length+w.length+3*en e<=900->T (v++w) e≠-1->
  T (v++d++w) (sh v.length d.length e)=T (v++w) e/\Ak (sh v.length d.length e):=by
 intro c
 induction c with
 |zero=>intro e w h;have:=Fc e;omega
 |succ c ih=>
  intro e w hc V hl ht;have K:∀k∈e.kids,Ak (sh v.length d.length k):=λk hk=>by
   obtain⟨m,m1,m2,m3⟩:=bt (hT.H V) V.VD S hN (hT.bi V) ht k hk;have hke:=Ca hk;have:=ih k (w++m) (by omega) (by rw[<- qf];exact V.KF hk m1 m2) (by simp;omega) (by rw[<- qf];exact m3);exact this.2
  have hI:=V.CT;have Vt:∀x∈v++d++w,Dc p.decls x=true:=λx hx=>by
   rcases pY.1 hx with hx|hx
   .rcases pY.1 hx with hx|hx
    .exact V.Jm x (by simp[hx])
    .exact hd x hx
   .exact V.Jm x (by simp[hx])
  have CT:Ak (sh v.length d.length e):=by
   have hop:=hI.op;have yY:=hI.num;have xz:=hI.Kc;refine .mk (by rw[U3];exact hop) ?_ (by rw[KX];simpa using xz) (λk hk=>?_)
   .rw[Nw];by_cases vr:e.op=12
    .have q:=hT.var V vr;by_cases hr:e.kids=[]/\0<=e.num/\e.num<((v++w).length:Int)
     .have hlv:=V.len;split
      .have h1:=hr.2.2;have h2:=hr.2.1;unfold HB at *;omega
      .exact yY
     .rw[pK hr]at q;exact absurd q ht
    .rw[pK (λh=>vr h.1)];exact yY
   .rw[KX]at hk;obtain⟨k0,hk0,rfl⟩:=pS.1 hk;exact K k0 hk0
  have V':VX p (sh v.length d.length e) (v++d++w):=⟨by rw[W9];simp;omega,Vt,CT⟩
  refine⟨?_,CT⟩;by_cases vr:e.op=12
  .have q:=hT.var V vr;have q':=hT.var V' (by rw[U3];exact vr);by_cases hr:e.kids=[]/\0<=e.num/\e.num<((v++w).length:Int)
   .obtain⟨r1,r2,r3⟩:=hr;rw[pJ ⟨r1,r2,r3⟩]at q;rw[q,q'];rw[KX,Nw,r1,qu];simp only[vr,true_and];simp only[pW]at r3;by_cases hv:(v.length:Int)<=e.num
    .rw[pJ hv,pJ ⟨by omega,by simp only[pW];omega⟩];have e1:(e.num+(d.length:Int)).toNat=e.num.toNat+d.length:=by omega
     rw[e1,pO (by simp;omega),pO (by omega)];congr 2;simp;omega
    .rw[pK hv,pJ ⟨by omega,by simp only[pW];omega⟩];rw[qf,pN (by omega),pN (by omega)]
   .rw[pK hr]at q;exact absurd q ht
  .have hB:=Tm (e':=sh v.length d.length e) (v':=v++d++w) (hT.H V) (hT.H V') V.VD V'.VD S hN (hT.bi V) ht (U3 e) (by rw[Nw,pK (λh=>vr h.1)]) vr (by rw[KX];simp) (λi k k' hk wY m _ hm3 hmt hkt=>by
    rw[KX,pC,hk]at wY;obtain rfl:sh v.length d.length k=k':=by simpa using wY
    have xV:=oz hk;have hke:=Ca xV;rw[qf v w m]at hkt⊢;rw[qf (v++d) w m];exact (ih k (w++m) (by omega) (by rw[<- qf];exact V.KF xV hm3 hmt) (by simp;omega) hkt).1)
   have:=hT.bi V';rw[hB]at this;exact (qg this).symm
def lt (n:Nat):Nat->List AD->AD->AD
 |_,[],b=>b
 |k,x::r,b=>.mk 13 0 [sh n k x,lt n (k+1) r b]
theorem Z0 {n:Nat}:∀(xs:List AD) (k:Nat) (b:AD),en (lt n k xs b)=xs.length+CL xs+en b
 | [],k,b=>by simp[lt,CL]
 |x::r,k,b=>by
  simp only[lt,en,CL,W9,Z0 r,pq];omega
theorem ig (S:FA p.decls p.funcs)(hN:2000000<=N)(hT:TX p N T)(v:List Int)(hv :∀x∈v,Dc p.decls x=true):∀(xs:List AD) (d:List Int) (b:AD),(∀x∈d,Dc p.decls x=true)->v.length+d.length+3*(xs.length+CL xs+en b)<=900->(∀x∈xs,Ak x/\T v x≠-1)->Ak b->
  T (v++d) (lt v.length d.length xs b)=T (v++d++xs.map (T v)) b/\Ak (lt v.length d.length xs b)
 | [],d,b,_,_,_,hb=>by simp[lt,hb]
 |x::r,d,b,hd,hl,hx,hb=>by
  obtain⟨x1,x2⟩:=hx x (by simp);simp only[pq,CL]at hl;have hep:=Fc x;have Vx:VX p x (v++[]):=⟨by simp;omega,by simpa using hv,x1⟩
  have s:=jT S hN hT v d hd (en x) x [] (pM _) Vx (by simp;omega) (by simpa using x2);rw[qS,qS]at s;have htx:Dc p.decls (T v x)=true:=by
   have:=hT.ty Vx (by simpa using x2);simpa using this
  have hd' :∀y∈d++[T v x],Dc p.decls y=true:=λy hy=>by
   rcases pY.1 hy with hy|hy
   .exact hd y hy
   .simp only[pU]at hy;rw[hy];exact htx
  have r1:=ig S hN hT v hv r (d++[T v x]) b hd' (by simp;omega) (λy hy=>hx y (by simp[hy])) hb;rw[pW,ru]at r1;have CT:Ak (lt v.length d.length (x::r) b):=by
   refine .mk (show HB 13 by unfold HB;omega) (show HB 0 by unfold HB;omega) (by simp[lt,AD.kids]) (λk hk=>?_);simp only[lt,AD.kids,pL,pn,qc]at hk;rcases hk with rfl|rfl
   .exact s.2
   .exact r1.2
  have zI:=Z0 (n:=v.length) (x::r) d.length b;simp only[pq,CL]at zI;have V:VX p (lt v.length d.length (x::r) b) (v++d):=⟨by rw[zI,pW];omega,λy hy=>by
   rcases pY.1 hy with hy|hy
   .exact hv y hy
   .exact hd y hy,CT⟩
  refine⟨?_,CT⟩;have q:=(Xg (N:=N) (hT.H V) V.VD rfl (a:=sh v.length d.length x) (b:=lt v.length (d.length+1) r b) rfl rfl (by rw[s.1];exact x2)).1;rw[hT.bi V]at q;rw[qg q,s.1];have:=r1.1;rw[<- qf]at this;rw[this];simp
end
end RC
namespace RC
open Go
def ci (D:List AL)(t c:Int):Nat:=(c-(nc (D.take (t-1).toNat):Int)).toNat
section
variable {p : AJ} {N : Nat} {T : List Int -> AD -> Int} {e : AD} {v : List Int}
end
end RC
namespace RC
open Go
section
variable {p : AJ} {N : Nat} {T : List Int -> AD -> Int}
theorem Q5 (S:FA p.decls p.funcs)(hN:2000000<=N)(hT:TX p N T){e:AD}{v:List Int}(V:VX p e v)(ht:T v e≠-1){i:Nat}{k:AD}(hk:e.kids[i]?=some k):
  ∃m:List Int,m.length=HN p.decls e.op e.num i/\m.length<=3/\(∀x∈m,Dc p.decls x=true)/\T (v++m) k≠-1:=by
 have hB:=hT.bi V;have nil:HN p.decls e.op e.num i=0->T v k≠-1->∃m:List Int,m.length=HN p.decls e.op e.num i/\m.length<=3/\(∀x∈m,Dc p.decls x=true)/\T (v++m) k≠-1:=λhx h=>⟨[],by rw[hx];rfl,by simp,λx hx=>(by cases hx),by simpa using h⟩;by_cases vr:e.op=12
 .have q:=hT.var V vr;by_cases hr:e.kids=[]/\0<=e.num/\e.num<(v.length:Int)
  .rw[hr.1]at hk;simp at hk
  .rw[pK hr]at q;exact absurd q ht
 by_cases h13:e.op=13
 .obtain⟨a,b,q1,q2,q3,q4,q5⟩:=Xu (hT.H V) V.VD h13 hB ht;rw[q1]at hk
  match i,hk with
  |0,hk=>simp at hk;subst hk;exact nil (by simp[HN,h13]) q3
  |1,hk=>simp at hk;subst hk;exact⟨[T v a],by simp[HN,h13],by simp,by simp[q4],by rw[<- q5];exact ht⟩
 by_cases h7:e.op=7
 .obtain⟨a,b,c,q1,q2,q3,q4,q5⟩:=fu (hT.H V) V.VD hN h7 hB ht;have hx:HN p.decls e.op e.num i=0:=by simp[HN,h7]
  rw[q1]at hk
  match i,hk with
  |0,hk=>simp at hk;subst hk;exact nil hx (by rw[q3];omega)
  |1,hk=>simp at hk;subst hk;exact nil hx (by rw[<- q4];exact ht)
  |2,hk=>simp at hk;subst hk;exact nil hx (by rw[<- q5];exact ht)
 by_cases h8:e.op=8
 .obtain⟨a,r,q1,q2,q3,q4,q5⟩:=Sl (hT.H V) V.VD S hN h8 hB ht;have yY:e.num≠-1:=λq=>q2 (by rw[q];simp[CO]);rw[q1]at hk
  match i,hk with
  |0,hk=>simp at hk;subst hk;exact nil (by simp[HN,h8]) (by rw[q4];exact yY)
  |i+1,hk=>
   simp only[pz]at hk;have vh:=(pB.1 hk).1;have hc:(CO p.decls e.num)[i]?=some (CO p.decls e.num)[i]:=pG (by omega);have F:=Ra S (oz hc) hN;have:=Ze q5 ht (T (v++Gf p.decls (CO p.decls e.num)[i]) k) (pZ.2 ⟨i,by unfold cG;rw[rE,pC,hc,hk];rfl⟩);exact⟨_,by simp[HN,h8,hc],F.2.2.1,F.2.2.2,by rw[this];exact ht⟩
 rw[F9 (hT.H V) V.VD hN vr h13 h7 h8]at hB;by_cases h:(e.kids.map (T v)).any (λt=>decide (t<0))=true
 .rw[pJ h]at hB;simp at hB;exact absurd hB.symm ht
 .exact nil (by simp[HN,h13,h8]) λhq=>h (ra.2 ⟨T v k,rD (oz hk),by rw[hq];rfl⟩)
theorem lj {e:AD}(h:Ak e){l:List AD}(hl:l.length=e.kids.length)(hk :∀k∈l,Ak k):Ak (.mk e.op e.num l):=
 .mk (show HB e.op from h.op) (show HB e.num from h.num) (by show l.length<=_;rw[hl];exact h.Kc) hk
end
end RC
namespace RC
open Go
section
variable {p : AJ} {N : Nat} {T : List Int -> AD -> Int}
end
theorem VZ {N:Nat}(hN:2000000<=N){a b:Int}:∀(n:Nat) (e:AD),en e<=n->en e<=1000->Ak (sh a b e)->HS N n e a b=some (sh a b e):=by
 intro n
 induction n with
 |zero=>intro e h;have:=Fc e;omega
 |succ n ih=>
  intro e hn hs hI;have hlen:=HL e.kids;have he:=Fs e;have hIn:=hI.num;rw[Nw]at hIn;have hIk:=hI.kids;rw[KX]at hIk;rw[HS];unfold MD LV;have key:∀(M i:Nat),i<=e.kids.length->e.kids.length-i<M->E5 e.kids a b (HS N n) M i ((e.kids.map (sh a b)).take i)=some (e.kids.map (sh a b)):=by
   intro M i hi hM;refine BQ e.kids.length (λM i=>E5 e.kids a b (HS N n) M i ((e.kids.map (sh a b)).take i)=some (e.kids.map (sh a b))) ?_ ?_ hi hM
   .intro m;rw[E5,pK (by simp[AI]),qJ (by simp)]
   .intro m i hi xI;obtain⟨c,hc,wI⟩:=Bh hi;have h1:=I9 wI;rw[E5,pJ (by simp[AI];omega),Ax hc];simp only[ov];rw[ih c (by omega) (by omega) (hIk _ (rD wI))];simp only[ov];rw[DJ _ _ 40 (by simp;omega) (by simp;omega),BE (by omega) (by omega),show ((i:Int)+1)=((i+1:Nat):Int) by omega];simp only[ov];have hm:(e.kids.map (sh a b))[i]?=some (sh a b c):=by rw[pC,hc];rfl
    rw[<- EJ hm];exact xI
  have:=key N 0 (pT _) (by omega);rw[qt,tl]at this;rw[this,Us];by_cases h:e.op=12
  .by_cases h2:a<=e.num
   .have hc:(if e.op=12/\a<=e.num then e.num+b else e.num)=e.num+b:=pJ ⟨h,h2⟩;rw[hc]at hIn⊢;simp only[h,h2,pX,pt,ov];rw[BE (by unfold HB at hIn;omega) (by unfold HB at hIn;omega)]
   .have hc:(if e.op=12/\a<=e.num then e.num+b else e.num)=e.num:=pK λq=>h2 q.2;rw[hc];simp[h,h2]
  .have hc:(if e.op=12/\a<=e.num then e.num+b else e.num)=e.num:=pK λq=>h q.1;rw[hc];simp[h]
theorem Qx {N:Nat}(hN:2000000<=N){a b:Int}{e:AD}(hs:en e<=1000)(hI:Ak (sh a b e)):MU N e a b=some (sh a b e):=by
 unfold MU;exact VZ hN N e (by omega) hs hI
theorem Sj {N:Nat}(hN:2000000<=N){a b:Int}:∀(n:Nat) (e:AD),en e<=n->en e<=1000->Ak (sh a b e)->EG N n e a b=some (sh a b e):=by
 intro n
 induction n with
 |zero=>intro e h;have:=Fc e;omega
 |succ n ih=>
  intro e hn hs hI;have hlen:=HL e.kids;have he:=Fs e;have hIn:=hI.num;rw[Nw]at hIn;have hIk:=hI.kids;rw[KX]at hIk;rw[EG];unfold I1;have key:∀(M i:Nat),i<=e.kids.length->e.kids.length-i<M->Co e a b (EG N n) M i ((e.kids.map (sh a b)).take i)=some (e.kids.map (sh a b)):=by
   intro M i hi hM;refine BQ e.kids.length (λM i=>Co e a b (EG N n) M i ((e.kids.map (sh a b)).take i)=some (e.kids.map (sh a b))) ?_ ?_ hi hM
   .intro m;rw[Co,pK (by simp[AI]),qJ (by simp)]
   .intro m i hi xI;obtain⟨c,hc,wI⟩:=Bh hi;have h1:=I9 wI;rw[Co,pJ (by simp[AI];omega),Ax hc];simp only[ov];rw[ih c (by omega) (by omega) (hIk _ (rD wI))];simp only[ov];rw[DJ _ _ 40 (by simp;omega) (by simp;omega),BE (by omega) (by omega),show ((i:Int)+1)=((i+1:Nat):Int) by omega];simp only[ov];have hm:(e.kids.map (sh a b))[i]?=some (sh a b c):=by rw[pC,hc];rfl
    rw[<- EJ hm];exact xI
  have:=key N 0 (pT _) (by omega);rw[qt,tl]at this;rw[this,Us];by_cases h:e.op=12
  .by_cases h2:a<=e.num
   .have hc:(if e.op=12/\a<=e.num then e.num+b else e.num)=e.num+b:=pJ ⟨h,h2⟩;rw[hc]at hIn⊢;simp only[h,h2,pX,pt,ov];rw[BE (by unfold HB at hIn;omega) (by unfold HB at hIn;omega)]
   .have hc:(if e.op=12/\a<=e.num then e.num+b else e.num)=e.num:=pK λq=>h2 q.2;rw[hc];simp[h,h2]
  .have hc:(if e.op=12/\a<=e.num then e.num+b else e.num)=e.num:=pK λq=>h q.1;rw[hc];simp[h]
theorem O4 {N:Nat}(hN:2000000<=N){a b:Int}{e:AD}(hs:en e<=1000)(hI:Ak (sh a b e)):Gv N e a b=some (sh a b e):=by
 unfold Gv;exact Sj hN N e (by omega) hs hI
theorem fq {n:Nat}:∀(xs ys:List AD) (k:Nat) (b:AD),lt n k (xs++ys) b=lt n k xs (lt n (k+xs.length) ys b)
 | [],ys,k,b=>by simp[lt]
 |x::xs,ys,k,b=>by
  simp only[tE,lt,fq xs,pq];rw[show k+1+xs.length=k+(xs.length+1) by omega]
theorem cd {n:Nat}{l:List AD}{i:Nat}{x:AD}(h:l[i]?=some x)(b:AD):lt n 0 (l.take i) (.mk 13 0 [sh n i x,b])=lt n 0 (l.take (i+1)) b:=by
 have vh:=(pB.1 h).1;rw[EJ h,fq,rQ,sM (by omega),qP];rfl
theorem NO {N:Nat}(hN:2000000<=N){n:Nat}{l:List AD}(hl :∀(i:Nat) x,l[i]?=some x->en x<=1000/\Ak (sh n i x)):∀(i:Nat) (b:AD),i<=l.length->Ge N l (n:Int) i b=some (lt n 0 (l.take i) b)
 |0,b,_=>by rw[Ge,qt];rfl
 |i+1,b,hi=>by
  obtain⟨x,hx,_⟩:=Bh (l:=l) (i:=i) (by omega);obtain⟨h1,h2⟩:=hl i x hx;rw[Ge,Ax hx];simp only[ov];rw[O4 hN h1 h2];simp only[ov];rw[NO hN hl i _ (by omega),cd hx]
theorem WI {N:Nat}(hN:2000000<=N){n:Nat}{l:List AD}{b:AD}(zM:l.length<=1000)(hl :∀(i:Nat) x,l[i]?=some x->en x<=1000/\Ak (sh n i x)):LO N b.kids l b.op b.num (n:Int)=some (lt n 0 l b):=by
 unfold LO;rw[pJ (by omega),<- KG,NO hN hl l.length b (pM _),qs]
theorem Oo {N:Nat}(hN:2000000<=N){n:Nat}{l:List AD}(zM:l.length<=1000)(hl :∀(i:Nat) x,l[i]?=some x->en x<=1000/\Ak (sh n i x)):∀(i:Nat) (b:AD) (M:Nat),i<=l.length->i<M->HV N l (n:Int) M ((i:Int)-1) b.op b.num b.kids=some ((lt n 0 (l.take i) b).op,(lt n 0 (l.take i) b).num,(lt n 0 (l.take i) b).kids)
 |0,b,M,_,hM=>by
  obtain⟨M,rfl⟩ :∃m,M=m+1:=⟨M-1,by omega⟩
  rw[HV,pK (by simp),qt];rfl
 |i+1,b,M,hi,hM=>by
  obtain⟨M,rfl⟩ :∃m,M=m+1:=⟨M-1,by omega⟩
  obtain⟨x,hx,_⟩:=Bh (l:=l) (i:=i) (by omega);obtain⟨h1,h2⟩:=hl i x hx;have e:((i+1:Nat):Int)-1=(i:Int):=by omega
  rw[HV,e,pJ (by simp),Ax hx];simp only[ov];rw[Qx hN h1 h2];simp only[ov];rw[<- KG,BE (by omega) (by omega)];have:=Oo hN zM hl i (.mk 13 0 [sh n i x,b]) M (by omega) (by omega);rw[cd hx]at this;exact this
theorem Yf {N:Nat}(hN:2000000<=N){n:Nat}{l:List AD}{b:AD}(zM:l.length<=1000)(hl :∀(i:Nat) x,l[i]?=some x->en x<=1000/\Ak (sh n i x)):NT N l b (n:Int)=some (lt n 0 l b):=by
 unfold NT;rw[AI,BE (by omega) (by omega),Oo hN zM hl l.length b N (pM _) (by omega),qs];simp only[ov];rw[<- KG]
end RC
namespace RC
open Go
section
variable {p : AJ} {N : Nat} {T : List Int -> AD -> Int}
theorem ZY (S:FA p.decls p.funcs)(hN:2000000<=N)(hT:TX p N T){e:AD}{v:List Int}(V:VX p e v)(ht:T v e≠-1){i:Nat}(hi:i<e.kids.length):
  Kb N p e i v.length=some ((v.length+HN p.decls e.op e.num i:Nat):Int)/\
  ((if decide (e.op=13)=true then some (decide ((i:Int)=1)) else some false).bind λt23=>if t23=true then some (Sh.w ((v.length:Int)+1)) else (if decide (e.op=8)=true then some (decide (0<(i:Int))) else some false).bind λt27=>if t27=true then (I0 N p.decls e.num).bind λzG=>(Sh.get zG (Sh.w ((i:Int)-1))).bind λc31=>(Eg N p.decls c31).bind λzF=>some (Sh.w ((v.length:Int)+Sh.len zF)) else some (v.length:Int))=some ((v.length+HN p.decls e.op e.num i:Nat):Int):=by
 have hlv:=V.len;have hD:=S.P6;have hnc:=S.nc;have xz:=HL e.kids;have zI:=Fs e;unfold Kb;by_cases h13:e.op=13
 .obtain⟨a,b,q1,_⟩:=Xu (hT.H V) V.VD h13 (hT.bi V) ht;rw[q1]at hi
  match i,hi with
  |0,_=>simp[h13,HN]
  |1,_=>
   have hw:Sh.w ((v.length:Int)+1)=((v.length+1:Nat):Int):=by rw[BE (by omega) (by omega)];rfl
   simp[h13,HN,hw]
 by_cases h8:e.op=8
 .obtain⟨a,r,q1,q2,q3,q4,q5⟩:=Sl (hT.H V) V.VD S hN h8 (hT.bi V) ht;rw[q1]at hi
  match i,hi with
  |0,_=>simp[h8,HN]
  |i+1,hi=>
   simp only[pq]at hi;have xb:=Na S.Vq e.num;have hc:(CO p.decls e.num)[i]?=some (CO p.decls e.num)[i]:=pG (by omega);have F:=Ra S (oz hc) hN;have f3:=F.2.2.1;have hx:HN p.decls e.op e.num (i+1)=(Gf p.decls (CO p.decls e.num)[i]).length:=by simp[HN,h8,hc]
   have e1:Sh.w (((i+1:Nat):Int)-1)=(i:Int):=by rw[BE (by omega) (by omega)];omega
   have e2:Sh.w ((v.length:Int)+((Gf p.decls (CO p.decls e.num)[i]).length:Int))=((v.length+HN p.decls e.op e.num (i+1):Nat):Int):=by rw[BE (by omega) (by omega),hx];omega
   have n0:¬ ((i+1:Nat):Int)=0:=by omega
   have n1:(0:Int)<((i+1:Nat):Int):=by omega
   rw[e1,Ma (by omega) (by omega) hN,JE (by omega) (by omega) hN];simp only[h8,n0,n1,Int.reduceEq,pX,pa,pF,pt,pV,ov];rw[Ax hc];simp only[ov];rw[F.1,F.2.1];simp only[ov,AI];rw[e2,h8];exact⟨rfl,rfl⟩
 .have hx:HN p.decls e.op e.num i=0:=by simp[HN,h13,h8]
  rw[hx];simp[h13,h8]
end
end RC
namespace RC
open Go
def wB (p:AJ)(g:AU->AD):AJ×Bool:=if (p.funcs.all λf=>decide (en (g f)<=30))=true then (.mk p.decls (p.funcs.map λf=>.mk f.params f.result (g f)),true) else (.mk [] [],false)
theorem Wa {N:Nat}(hN:2000000<=N){p:AJ}{g:AU->AD}(hd:p.decls.length<=1048576)(hz :∀d∈p.decls,dz d<=1048576)(hf:p.funcs.length<=1048576)(hb :∀f∈p.funcs,f.params.length<=1048576/\en (g f)<=1000):IV N p (p.funcs.map g)=some (wB p g):=by
 unfold IV;rw[Ym hd hz hN];simp only[ov];have key:∀(M i:Nat),i<=p.funcs.length->p.funcs.length-i<M->EF N p (p.funcs.map g) M i ((p.funcs.map λf=>AU.mk f.params f.result (g f)).take i)=some (if ((p.funcs.drop i).all λf=>decide (en (g f)<=30))=true then Sum.inr (p.funcs.map λf=>AU.mk f.params f.result (g f)) else Sum.inl (.mk [] [],false)):=by
  intro M i hi hM;refine BQ p.funcs.length (λM i=>EF N p (p.funcs.map g) M i ((p.funcs.map λf=>AU.mk f.params f.result (g f)).take i)=some (if ((p.funcs.drop i).all λf=>decide (en (g f)<=30))=true then Sum.inr (p.funcs.map λf=>AU.mk f.params f.result (g f)) else Sum.inl (.mk [] [],false))) ?_ ?_ hi hM
  .intro m;rw[EF,pK (by simp[AI]),qJ (by simp),qq];rfl
  .intro m i hi ih;obtain⟨f,yL,hfm⟩:=Bh hi;obtain⟨hbp,hs⟩:=hb f hfm;have hze:=Fs (g f);have hm0:(p.funcs.map g)[i]?=some (g f):=by rw[pC,yL];rfl
   have hm:(p.funcs.map λf=>AU.mk f.params f.result (g f))[i]?=some (AU.mk f.params f.result (g f)):=by rw[pC,yL];rfl
   rw[EF,pJ (by simp[AI];omega),Ax hm0,drop_cons yL,rR];simp only[ov];rw[Gm (by omega) hN];simp only[ov];by_cases yH:en (g f)<=30
   .rw[pJ yH,pK (by simp),Ax yL];simp only[ov,yH,pX,sJ];have hci:Fu f.params=some f.params:=by
     unfold Fu;rw[DJ _ _ _ (by simp;omega) (by simp;omega)];rfl
    rw[hci,Yh hN (by have:=Fs (g f);omega)];simp only[ov];rw[DJ _ _ 72 (by simp;omega) (by simp;omega),BE (by omega) (by omega),show ((i:Int)+1)=((i+1:Nat):Int) by omega];simp only[ov];rw[<- EJ hm];exact ih
   .rw[pK yH];simp[yH]
 have:=key N 0 (pT _) (by omega);rw[qt,tl,qK]at this;rw[this];unfold wB;by_cases h:(p.funcs.all λf=>decide (en (g f)<=30))=true
 .rw[pJ h,pJ h];rfl
 .rw[pK h,pK h];rfl
theorem jK {p:AJ}{g:AU->AD}(hp:Un p<=1048576)(h4:p.funcs.length<=4)(hz:Un p<=500000∨∀f∈p.funcs,f.params.length<=3)(hdz:p.decls.length+(p.decls.map dz).sum<=500000):Un (wB p g).1<=1048576:=by
 unfold wB;split
 .rename_i h;rw[pH]at h;unfold Un at hp hz⊢;simp only[pR,rG];have:(p.funcs.map (aB∘λf=>AU.mk f.params f.result (g f))).sum<=30*p.funcs.length+1*(p.funcs.map aB).sum:=T7 λf hf=>by
   have:=h f hf;simp only[pQ]at this;have h2:=Fs (g f);show f.params.length+CL (g f).kids<=_;unfold aB;omega
  rcases hz with hz|hz
  .omega
  .have h5:(p.funcs.map (aB∘λf=>AU.mk f.params f.result (g f))).sum<=33*p.funcs.length+0*(p.funcs.map aB).sum:=T7 λf hf=>by
    have:=h f hf;simp only[pQ]at this;have h2:=Fs (g f);have h3:=hz f hf;show f.params.length+CL (g f).kids<=_;omega
   omega
 .simp[Un]
section
variable {p : AJ} {N : Nat}
theorem TM (S:Du p)(hN:2000000<=N)(hv:BM N p=some true):FA p.decls p.funcs/\∃T,TX p N T/\∀f∈p.funcs,en f.body<=30/\f.params.length<=3/\(∀x∈f.params,Dc p.decls x=true)/\Ak f.body/\Dc p.decls f.result=true/\T f.params f.body=f.result:=by
 obtain⟨SO,T0,hT0,h⟩:=jO S hN hv;obtain⟨T,hT⟩:=O3 SO hN 340;refine⟨SO,T,hT,λf hf=>?_⟩;obtain⟨he,V,ty,hb⟩:=h f hf;have hp:=(SO.NV f hf).1;refine⟨he,hp,V.Jm,V.CT,ty,?_⟩;have a:=(hT0 f.params f.body V.CT (by omega) (by omega) V.Jm 340 340 (by omega) (by omega)).1;have b:=(hT f.params f.body V.CT (by omega) (by omega) V.Jm 340 340 (pM _) (pM _)).1;rw[a]at b;rw[<- hb];exact (qg b).symm
end
theorem bF {p:AJ}(S:Du p){N:Nat}(hN:2000000<=N)(hv:BM N p=some true):p.funcs.length<=4/\(∀f∈p.funcs,f.params.length<=3)/\p.decls.length+(p.decls.map dz).sum<=500000:=by
 obtain⟨SO,_⟩:=TM S hN hv;refine⟨SO.JL,λf hf=>(SO.NV f hf).1,?_⟩;have hD:=SO.P6;have:(p.decls.map dz).sum<=100*p.decls.length+0*(p.decls.map dz).sum:=T7 λd hd=>by
  have h1:=SO.Vq d hd;have h2:(d.cons.map cz).sum<=30*d.cons.length+0*(d.cons.map cz).sum:=T7 λc hc=>by
   have:=(SO.NJ d hd c hc).1;unfold cz;omega
  unfold dz;omega
 omega
end RC
namespace RC
open Go
mutual
def MB (B:Int):AD->Prop|.mk o n k=>(o=12->0<=n/\n<=B)/\iJ B k
def iJ (B:Int):List AD->Prop|[]=>True|e::l=>MB B e/\iJ B l
end
theorem cu {B:Int}:∀{l:List AD},iJ B l->∀e∈l,MB B e
 | [],_,e,h=>by cases h
 |a::l,h,e,he=>by
  unfold iJ at h;rcases pL.1 he with rfl|he
  .exact h.1
  .exact cu h.2 e he
theorem fX {B:Int}:∀{l:List AD},(∀e∈l,MB B e)->iJ B l
 | [],_=>trivial
 |a::l,h=>by unfold iJ;exact⟨h a (by simp),fX λe he=>h e (by simp[he])⟩
theorem mw {B:Int}{e:AD}(h1:e.op=12->0<=e.num/\e.num<=B)(h2 :∀k∈e.kids,MB B k):MB B e:=by cases e;unfold MB;exact⟨h1,fX h2⟩
theorem MB.n {B:Int}{e:AD}(h:MB B e):e.op=12->0<=e.num/\e.num<=B:=by cases e;unfold MB at h;exact h.1
theorem MB.KF {B:Int}{e k:AD}(h:MB B e)(hk:k∈e.kids):MB B k:=by cases e;unfold MB at h;exact cu h.2 k hk
structure QB (B:Int) (e:AD):Prop where
 CT:Ak e
 mb:MB B e
theorem QB.KF {B:Int}{e k:AD}(h:QB B e)(hk:k∈e.kids):QB B k:=⟨h.CT.kids k hk,h.mb.KF hk⟩
theorem QB.of {B:Int}{e:AD}(h0:HB e.op)(h1:HB e.num)(h2:e.kids.length<=9223372036854775807)(h3:e.op=12->0<=e.num/\e.num<=B)(h4 :∀k∈e.kids,QB B k):QB B e:=
 ⟨.mk h0 h1 h2 λk hk=>(h4 k hk).CT,mw h3 λk hk=>(h4 k hk).mb⟩
theorem QB.mono {B C:Int}(hBC:B<=C):∀(n:Nat) (e:AD),en e<=n->QB B e->QB C e:=by
 intro n
 induction n with
 |zero=>intro e h;have:=Fc e;omega
 |succ n ih=>
  intro e hn h;exact .of h.CT.op h.CT.num h.CT.Kc (λvr=>by have:=h.mb.n vr;omega) λk hk=>ih k (by have:=Ca hk;omega) (h.KF hk)
theorem QB.up {B C:Int}{e:AD}(h:QB B e)(hBC:B<=C):QB C e:=QB.mono hBC (en e) e (pM _) h
theorem ak {B a k:Int}(hk:0<=k)(hB:B+k<=4611686018427387904):∀(n:Nat) (e:AD),en e<=n->QB B e->QB (B+k) (sh a k e):=by
 intro n
 induction n with
 |zero=>intro e h;have:=Fc e;omega
 |succ n ih=>
  intro e hn h;have yY:=h.CT.num;refine .of (by rw[U3];exact h.CT.op) ?_ (by rw[KX];simpa using h.CT.Kc) (λvr=>?_) λx hx=>?_
  .rw[Nw];by_cases vr:e.op=12
   .have:=h.mb.n vr;split
    .unfold HB;omega
    .exact yY
   .rw[pK (λq=>vr q.1)];exact yY
  .rw[U3]at vr;have:=h.mb.n vr;rw[Nw];split<;>omega
  .rw[KX]at hx;obtain⟨y,hy,rfl⟩:=pS.1 hx;exact ih y (by have:=Ca hy;omega) (h.KF hy)
theorem jE {B:Int}{n:Nat}:∀(xs:List AD) (c:Nat) (b:AD),B+c+xs.length<=4611686018427387904->(∀x∈xs,QB B x)->QB (B+c+xs.length) b->QB (B+c+xs.length) (lt n c xs b)
 | [],c,b,_,_,hb=>hb
 |x::r,c,b,hB,hx,hb=>by
  simp only[pq]at hB hb⊢;have h1:=ak (a:=(n:Int)) (k:=(c:Int)) (by omega) (by omega) (en x) x (pM _) (hx x (by simp));have h2:=jE (B:=B) (n:=n) r (c+1) b (by omega) (λy hy=>hx y (by simp[hy])) (by
   refine hb.up ?_;omega)
  refine .of (show HB 13 by unfold HB;omega) (show HB 0 by unfold HB;omega) (by simp[lt,AD.kids]) (λvr=>?_) λk hk=>?_
  .have:(13:Int)=12:=vr;omega
  .simp only[lt,AD.kids,pL,pn,qc]at hk;rcases hk with rfl|rfl
   .exact h1.up (by omega)
   .exact h2.up (by omega)
def QW (fi:Int)(body:AD)(n:Nat)(o nu:Int)(l:List AD):AD:=if o=9/\nu=fi then lt n 0 l (sh 0 n body) else .mk o nu l
mutual
def inl (D:List AL)(fi:Int)(body:AD)(n:Nat):AD->AD
 |.mk o nu k=>QW fi body n o nu (Gt D fi body n o nu 0 k)
def Gt (D:List AL)(fi:Int)(body:AD)(n:Nat)(o nu:Int):Nat->List AD->List AD
 |_,[]=>[]
 |i,e::l=>inl D fi body (n+HN D o nu i) e::Gt D fi body n o nu (i+1) l
end
theorem Mu {D:List AL}{fi:Int}{body:AD}{n:Nat}(e:AD):inl D fi body n e=QW fi body n e.op e.num (Gt D fi body n e.op e.num 0 e.kids):=by cases e;rw[inl];rfl
theorem RK {D:List AL}{fi:Int}{body:AD}{n:Nat}{o nu:Int}:∀(l:List AD) (i:Nat),(Gt D fi body n o nu i l).length=l.length
 | [],_=>rfl
 |e::l,i=>by simp[Gt,RK l]
theorem Kz {D:List AL}{fi:Int}{body:AD}{n:Nat}{o nu:Int}:∀(l:List AD) (j i:Nat),(Gt D fi body n o nu j l)[i]?=(l[i]?).map (inl D fi body (n+HN D o nu (j+i)))
 | [],j,i=>by simp[Gt]
 |e::l,j,0=>by simp[Gt]
 |e::l,j,i+1=>by
  simp only[Gt,pz];rw[Kz l (j+1) i,show j+1+i=j+(i+1) by omega]
section
variable {p : AJ} {N : Nat} {T : List Int -> AD -> Int}
theorem Zx (S:FA p.decls p.funcs)(hN:2000000<=N)(hT:TX p N T):∀(c:Nat) (e:AD) (v:List Int),en e<=c->VX p e v->T v e≠-1->QB 1000 e:=by
 intro c
 induction c with
 |zero=>intro e _ h;have:=Fc e;omega
 |succ c ih=>
  intro e v hc V ht;have hl:=V.len;refine .of V.CT.op V.CT.num V.CT.Kc (λvr=>?_) λk hk=>?_
  .have q:=hT.var V vr;by_cases hr:e.kids=[]/\0<=e.num/\e.num<(v.length:Int)
   .have h1:=hr.2.1;have h2:=hr.2.2;omega
   .rw[pK hr]at q;exact absurd q ht
  .obtain⟨i,hi⟩:=pZ.1 hk;obtain⟨m,m1,m2,m3,m4⟩:=Q5 S hN hT V ht hi;exact ih k (v++m) (by have:=Ca hk;omega) (V.KF hk m2 m3) m4
theorem Sx (S:FA p.decls p.funcs)(hN:2000000<=N)(hT:TX p N T){e:AD}{v:List Int}(V:VX p e v)(h:e.op=9)(ht:T v e≠-1):∃f,p.funcs[e.num.toNat]?=some f/\0<=e.num/\e.num<(p.funcs.length:Int)/\e.kids.map (T v)=f.params/\T v e=f.result:=by
 have hF:=S.JL;have q:=hT.bs V;unfold Bs Fo at q;simp only[h,Int.reduceEq,pX,pa,pF,pt,pV,ov]at q;rw[Dn,AI p.funcs,BE (n:=(p.funcs.length:Int)-1) (by omega) (by omega)]at q;rcases aa (p:=p) (n:=e.num) with ⟨f,f0,f1,f2,f3,f4,f5⟩|hr
 .have f1'':e.num<=(p.funcs.length:Int)-1:=by omega
  rw[f4]at q;simp only[h,Int.reduceEq,pX,pa,pF,pt,pV,ov,f0,f1'',sI,qD]at q;rw[RS (hT.H V) V.VD hN]at q;by_cases b:e.kids.map (T v)=f.params
  .simp[b,Sh.cont]at q;exact⟨f,f2,f0,f1,b,q.symm⟩
  .simp[b,Sh.cont]at q;exact absurd q.symm ht
 .have:(decide (0<=e.num)&&decide (e.num<=(p.funcs.length:Int)-1))=false:=by
   rw[rV,qZ,qZ];omega
  rw[this]at q;simp[Sh.cont]at q;exact absurd q.symm ht
theorem fk (S:FA p.decls p.funcs)(hN:2000000<=N)(hT:TX p N T){fi:Int}{body:AD}(hb:QB 1000 body)(Ip:en body<=30):∀(c:Nat) (e:AD) (v:List Int),en e<=c->en e<=30->VX p e v->v.length+3*en e<=200->T v e≠-1->
  QB (2000*en e) (inl p.decls fi body v.length e)/\en (inl p.decls fi body v.length e)<=33*en e/\(∀k∈Gt p.decls fi body v.length e.op e.num 0 e.kids,QB (2000*CL e.kids) k)/\CL (Gt p.decls fi body v.length e.op e.num 0 e.kids)<=33*CL e.kids:=by
 intro c
 induction c with
 |zero=>intro e _ h;have:=Fc e;omega
 |succ c ih=>
  intro e v hc yH V hlv ht;have he:=Fs e;have K:∀(i:Nat) k,e.kids[i]?=some k->QB (2000*en k) (inl p.decls fi body (v.length+HN p.decls e.op e.num i) k)/\en (inl p.decls fi body (v.length+HN p.decls e.op e.num i) k)<=33*en k:=λi k hk=>by
   obtain⟨m,m1,m2,m3,m4⟩:=Q5 S hN hT V ht hk;have hke:=Ca (oz hk);have:=ih k (v++m) (by omega) (by omega) (V.KF (oz hk) m2 m3) (by rw[pW];omega) m4;rw[pW,m1]at this;exact⟨this.1,this.2.1⟩
  have uf:∀(l:List AD) (j:Nat),(∀i k,l[i]?=some k->en (inl p.decls fi body (v.length+HN p.decls e.op e.num (j+i)) k)<=33*en k)->CL (Gt p.decls fi body v.length e.op e.num j l)<=33*CL l:=by
   intro l
   induction l with
   |nil=>intro j _;simp[Gt,CL]
   |cons a l ihl=>
    intro j h;have h0:=h 0 a rfl;have h1:=ihl (j+1) (λi k hk=>by have:=h (i+1) k hk;rwa [show j+1+i=j+(i+1) by omega]);simp only[Gt,CL];rw[qp]at h0;omega
  have sz:=uf e.kids 0 (λi k hk=>by rw[qP];exact (K i k hk).2);have hkk:∀k∈Gt p.decls fi body v.length e.op e.num 0 e.kids,QB (2000*CL e.kids) k:=λk hk=>by
   obtain⟨i,hi⟩:=pZ.1 hk;rw[Kz,qP,pI]at hi;obtain⟨k0,hk0,rfl⟩:=hi;have:=I9 (oz hk0);exact (K i k0 hk0).1.up (by omega)
  have zM:=RK (D:=p.decls) (fi:=fi) (body:=body) (n:=v.length) (o:=e.op) (nu:=e.num) e.kids 0;refine⟨?_,?_,hkk,sz⟩
  .rw[Mu];unfold QW;split
   .rename_i h9;obtain⟨f,f1,f2,f3,f4,f5⟩:=Sx S hN hT V h9.1 ht;have hp:=(S.NV f (oz f1)).1;have hlk:e.kids.length<=3:=by rw[<- f4,pR]at hp;exact hp
    have hbsh:=ak (a:=0) (k:=(v.length:Int)) (by omega) (by omega) (en body) body (pM _) hb;have:=jE (B:=2000*CL e.kids+1500) (n:=v.length) (Gt p.decls fi body v.length e.op e.num 0 e.kids) 0 (sh 0 v.length body) (by omega) (λx hx=>(hkk x hx).up (by omega)) (hbsh.up (by omega));exact this.up (by omega)
   .exact .of V.CT.op V.CT.num (by show (Gt p.decls fi body v.length e.op e.num 0 e.kids).length<=_;rw[zM];exact V.CT.Kc) (λvr=>by
     have q:=Zx S hN hT (en e) e v (pM _) V ht;have h:=q.mb.n vr;show 0<=e.num/\e.num<=_;omega) (λk hk=>(hkk k hk).up (by omega))
  .rw[Mu];unfold QW;split
   .rename_i h9;obtain⟨f,f1,f2,f3,f4,f5⟩:=Sx S hN hT V h9.1 ht;have hp:=(S.NV f (oz f1)).1;have hlk:e.kids.length<=3:=by rw[<- f4,pR]at hp;exact hp
    rw[Z0,W9,zM];omega
   .rw[en];omega
theorem lK {B:Int}{n:Nat}{l:List AD}(hB:B<=1000000)(hl:l.length<=100)(hs:CL l<=1000)(h :∀x∈l,QB B x):∀(i:Nat) x,l[i]?=some x->en x<=1000/\Ak (sh n i x):=by
 intro i x hx;have vh:=(pB.1 hx).1;have hm:=oz hx;have he:=I9 hm;exact⟨by omega,(ak (a:=(n:Int)) (k:=(i:Int)) (by omega) (by omega) (en x) x (pM _) (h x hm)).CT⟩
theorem gJ (S:FA p.decls p.funcs)(hN:2000000<=N)(hT:TX p N T){fi:Int}{fb:AU}(hfb:Sh.get p.funcs fi=some fb)(hb:QB 1000 fb.body)(Ip:en fb.body<=30):∀(c:Nat) (e:AD) (v:List Int),en e<=c->en e<=30->VX p e v->v.length+3*en e<=200->T v e≠-1->
  GX N c p fi e v.length=some (inl p.decls fi fb.body v.length e)/\DP N c e.kids fi p.decls p.funcs p.decls e.op e.num v.length=some (inl p.decls fi fb.body v.length e,fi):=by
 intro c
 induction c with
 |zero=>intro e _ h;have:=Fc e;omega
 |succ c ih=>
  intro e v hc yH V hlv ht;obtain⟨i1,i2,i3,i4⟩:=fk S hN hT (fi:=fi) hb Ip (en e) e v (pM _) yH V hlv ht;have hlen:=HL e.kids;have he:=Fs e;have yO:(Gt p.decls fi fb.body v.length e.op e.num 0 e.kids).length=e.kids.length:=RK _ _;have eta:QW fi fb.body v.length e.op e.num (Gt p.decls fi fb.body v.length e.op e.num 0 e.kids)=inl p.decls fi fb.body v.length e:=(Mu e).symm;have hLi:∀(i:Nat) k,e.kids[i]?=some k->(Gt p.decls fi fb.body v.length e.op e.num 0 e.kids)[i]?=some (inl p.decls fi fb.body (v.length+HN p.decls e.op e.num i) k):=λi k hk=>by
   rw[Kz,hk,qP];rfl
  generalize Gt p.decls fi fb.body v.length e.op e.num 0 e.kids=L at *;have K:∀(i:Nat) k,e.kids[i]?=some k->GX N c p fi k ((v.length+HN p.decls e.op e.num i:Nat):Int)=some (inl p.decls fi fb.body (v.length+HN p.decls e.op e.num i) k)/\DP N c k.kids fi p.decls p.funcs p.decls k.op k.num ((v.length+HN p.decls e.op e.num i:Nat):Int)=some (inl p.decls fi fb.body (v.length+HN p.decls e.op e.num i) k,fi):=λi k hk=>by
   obtain⟨m,m1,m2,m3,m4⟩:=Q5 S hN hT V ht hk;have hke:=Ca (oz hk);have:=ih k (v++m) (by omega) (by omega) (V.KF (oz hk) m2 m3) (by rw[pW];omega) m4;rw[pW,m1]at this;exact this
  have hbsh:=(ak (a:=0) (k:=(v.length:Int)) (by omega) (by omega) (en fb.body) fb.body (pM _) hb).CT;have hlsh:=lK (n:=v.length) (l:=L) (B:=2000*CL e.kids) (by omega) (by omega) (by omega) i3;constructor
  .rw[GX];unfold LJ;have key:∀(M i:Nat),i<=e.kids.length->e.kids.length-i<M->Eu N p fi e v.length (GX N c) M i (L.take i)=some L:=by
    intro M i hi hM;refine BQ e.kids.length (λM i=>Eu N p fi e v.length (GX N c) M i (L.take i)=some L) ?_ ?_ hi hM
    .intro m;rw[Eu,pK (by simp[AI]),qJ (by omega)]
    .intro m i hi xI;obtain⟨k,hk,xV⟩:=Bh hi;rw[Eu,pJ (by simp[AI];omega),Ax hk];simp only[ov];rw[(ZY S hN hT V ht hi).1];simp only[ov];rw[(K i k hk).1];simp only[ov];rw[DJ _ _ 40 (by simp;omega) (by simp;omega),BE (by omega) (by omega),show ((i:Int)+1)=((i+1:Nat):Int) by omega];simp only[ov];rw[<- EJ (hLi i k hk)];exact xI
   have:=key N 0 (pT _) (by omega);rw[qt,tl]at this;rw[this];by_cases h9:e.op=9
   .by_cases hn:e.num=fi
    .have hv:inl p.decls fi fb.body v.length e=lt v.length 0 L (sh 0 v.length fb.body):=by rw[<- eta];unfold QW;rw[pJ ⟨h9,hn⟩]
     rw[hv];simp only[h9,hn,pX,pt,ov];rw[hfb];simp only[ov];rw[Qx hN (by omega) hbsh];simp only[ov];rw[Yf hN (by omega) hlsh];rfl
    .have hv:inl p.decls fi fb.body v.length e=.mk e.op e.num L:=by rw[<- eta];unfold QW;rw[pK (λq=>hn q.2)]
     rw[hv];simp[h9,hn]
   .have hv:inl p.decls fi fb.body v.length e=.mk e.op e.num L:=by rw[<- eta];unfold QW;rw[pK (λq=>h9 q.1)]
    rw[hv];simp[h9]
  .rw[DP];unfold Hj;have key:∀(M i:Nat),i<=e.kids.length->e.kids.length-i<M->Cr N e.kids p.decls p.funcs p.decls e.op e.num v.length (DP N c) M i (L.take i++e.kids.drop i) fi=some (L,fi):=by
    intro M i hi hM;refine BQ e.kids.length (λM i=>Cr N e.kids p.decls p.funcs p.decls e.op e.num v.length (DP N c) M i (L.take i++e.kids.drop i) fi=some (L,fi)) ?_ ?_ hi hM
    .intro m;rw[Cr,pK (by simp[AI]),qq,qS,qJ (by omega)]
    .intro m i hi xI;obtain⟨k,hk,xV⟩:=Bh hi;have hl:(L.take i).length=i:=by simp;omega
     have uF:Sh.get (L.take i++e.kids.drop i) (i:Int)=some k:=by
      rw[Q9,pO (by omega),hl,qy,qI,qp,hk]
     have hput:Sh.put (L.take i++e.kids.drop i) (i:Int) (inl p.decls fi fb.body (v.length+HN p.decls e.op e.num i) k)=L.take (i+1)++e.kids.drop (i+1):=by
      rw[Om,sV _ _ (by omega),hl,qy,drop_cons hk,sO,EJ (hLi i k hk),qf];rfl
     rw[Cr,pJ (by simp[AI];omega),(ZY S hN hT V ht hi).2];simp only[ov];rw[uF];simp only[ov];rw[(K i k hk).2];simp only[ov];rw[hput,BE (by omega) (by omega),show ((i:Int)+1)=((i+1:Nat):Int) by omega];exact xI
   have:=key N 0 (pT _) (by omega);rw[qt,qT,qK,tl]at this;rw[this];simp only[ov];unfold Li;by_cases h9:e.op=9
   .by_cases hn:e.num=fi
    .have hv:inl p.decls fi fb.body v.length e=lt v.length 0 L (sh 0 v.length fb.body):=by rw[<- eta];unfold QW;rw[pJ ⟨h9,hn⟩]
     rw[hv];simp only[h9,hn,pX,qD,pF,pV,ov];rw[hfb];simp only[ov];rw[O4 hN (by omega) hbsh];simp only[ov];rw[WI hN (by omega) hlsh];rfl
    .have hv:inl p.decls fi fb.body v.length e=.mk e.op e.num L:=by rw[<- eta];unfold QW;rw[pK (λq=>hn q.2)]
     rw[hv];simp[h9,hn]
   .have hv:inl p.decls fi fb.body v.length e=.mk e.op e.num L:=by rw[<- eta];unfold QW;rw[pK (λq=>h9 q.1)]
    rw[hv];simp[h9]
end
end RC
namespace RC
open Go
section
variable {p : AJ} {N : Nat}
def inf (p:AJ)(fi:Int)(fb f:AU):AD:=inl p.decls fi fb.body f.params.length f.body
theorem SH (S:Du p)(hN:2000000<=N)(hd:p.decls.length<=1048576)(hz :∀d∈p.decls,dz d<=1048576){fi:Int}{fb:AU}(hfb:Sh.get p.funcs fi=some fb)(e1:BM N p=some true)(m1:Dk N p fi=some true)(m2:DI N p fi=some true):
  GY N p fi=some (wB p (inf p fi fb))/\F5 N p fi=some (wB p (inf p fi fb))/\∀f∈p.funcs,en (inf p fi fb f)<=990:=by
 unfold GY F5;rw[e1];simp only[ov];rw[m1,m2];obtain⟨SO,T,hT,hfs⟩:=TM S hN e1;have yO:=S.JL;have hfbm:fb∈p.funcs:=oz (Sh.get_some hfb).2.1;have uu:∀f∈p.funcs,T f.params f.body≠-1:=λf hf=>by
  obtain⟨h1,h2,h3,h4,h5,h6⟩:=hfs f hf;rw[h6];have:=(LL h5).1;omega
 have hV:∀f∈p.funcs,VX p f.body f.params:=λf hf=>by
  obtain⟨h1,h2,h3,h4,h5,h6⟩:=hfs f hf;exact⟨by omega,h3,h4⟩
 have hb:QB 1000 fb.body:=Zx SO hN hT (en fb.body) fb.body fb.params (pM _) (hV fb hfbm) (uu fb hfbm);have Ip:=(hfs fb hfbm).1;have hF:∀f∈p.funcs,Pn N p fi f.body f.params.length=some (inf p fi fb f)/\KP N f.body.kids fi p.decls p.funcs p.decls f.body.op f.body.num f.params.length=some (inf p fi fb f,fi)/\en (inf p fi fb f)<=990:=λf hf=>by
  obtain⟨h1,h2,h3,h4,h5,h6⟩:=hfs f hf;have q:=gJ SO hN hT hfb hb Ip N f.body f.params (by omega) h1 (hV f hf) (by omega) (uu f hf);have sz:=(fk SO hN hT (fi:=fi) hb Ip (en f.body) f.body f.params (pM _) h1 (hV f hf) (by omega) (uu f hf)).2.1;exact⟨q.1,q.2,by unfold inf;omega⟩
 refine⟨?_,?_,λf hf=>(hF f hf).2.2⟩
 .simp only[qD,pF,pV,ov];have key:∀(M i:Nat),i<=p.funcs.length->p.funcs.length-i<M->Fw N p fi M i ((p.funcs.map (inf p fi fb)).take i)=some (p.funcs.map (inf p fi fb)):=by
   intro M i hi hM;refine BQ p.funcs.length (λM i=>Fw N p fi M i ((p.funcs.map (inf p fi fb)).take i)=some (p.funcs.map (inf p fi fb))) ?_ ?_ hi hM
   .intro m;rw[Fw,pK (by simp[AI]),qJ (by simp)]
   .intro m i hi ih;obtain⟨f,yL,hfm⟩:=Bh hi;have hm:(p.funcs.map (inf p fi fb))[i]?=some (inf p fi fb f):=by rw[pC,yL];rfl
    rw[Fw,pJ (by simp[AI];omega),Ax yL];simp only[ov];rw[AI,(hF f hfm).1];simp only[ov];rw[DJ _ _ 40 (by simp;omega) (by simp;omega),BE (by omega) (by omega),show ((i:Int)+1)=((i+1:Nat):Int) by omega];simp only[ov];rw[<- EJ hm];exact ih
  have:=key N 0 (pT _) (by omega);rw[qt,tl]at this;rw[this];simp only[ov];rw[Wa hN hd hz yO (λf hf=>⟨(S.fz hf).1,by have:=(hF f hf).2.2;omega⟩)];rfl
 .simp only[qD,pF,pV,ov];unfold Ji;rw[U0 hN hd hz yO (λf hf=>⟨(S.fz hf).1,by have:=(hfs f hf).1;omega,(hfs f hf).2.2.2.1⟩)];simp only[ov];have key:∀(M i:Nat),i<=p.funcs.length->p.funcs.length-i<M->Dx N p.decls p.funcs p p M i fi ((p.funcs.map λf=>AU.mk f.params f.result (inf p fi fb f)).take i++p.funcs.drop i)=some (if ((p.funcs.drop i).all λf=>decide (en (inf p fi fb f)<=30))=true then Sum.inr (fi,p.funcs.map λf=>AU.mk f.params f.result (inf p fi fb f)) else Sum.inl (.mk [] [],false,fi)):=by
   intro M i hi hM;refine BQ p.funcs.length (λM i=>Dx N p.decls p.funcs p p M i fi ((p.funcs.map λf=>AU.mk f.params f.result (inf p fi fb f)).take i++p.funcs.drop i)=some (if ((p.funcs.drop i).all λf=>decide (en (inf p fi fb f)<=30))=true then Sum.inr (fi,p.funcs.map λf=>AU.mk f.params f.result (inf p fi fb f)) else Sum.inl (.mk [] [],false,fi))) ?_ ?_ hi hM
   .intro m;rw[Dx,pK (by simp[AI]),qq,qS,qJ (by simp)];rfl
   .intro m i hi ih;obtain⟨f,yL,hfm⟩:=Bh hi;obtain⟨q1,q2,q3⟩:=hF f hfm;have hl:((p.funcs.map λf=>AU.mk f.params f.result (inf p fi fb f)).take i).length=i:=by simp;omega
    have hm:(p.funcs.map λf=>AU.mk f.params f.result (inf p fi fb f))[i]?=some (AU.mk f.params f.result (inf p fi fb f)):=by rw[pC,yL];rfl
    have uF:Sh.get ((p.funcs.map λf=>AU.mk f.params f.result (inf p fi fb f)).take i++p.funcs.drop i) (i:Int)=some f:=by
     rw[Q9,pO (by omega),hl,qy,qI,qp,yL]
    have hput:Sh.put ((p.funcs.map λf=>AU.mk f.params f.result (inf p fi fb f)).take i++p.funcs.drop i) (i:Int) (AU.mk f.params f.result (inf p fi fb f))=(p.funcs.map λf=>AU.mk f.params f.result (inf p fi fb f)).take (i+1)++p.funcs.drop (i+1):=by
     rw[Om,sV _ _ (by omega),hl,qy,drop_cons yL,sO,EJ hm,qf];rfl
    have hget2:Sh.get ((p.funcs.map λf=>AU.mk f.params f.result (inf p fi fb f)).take (i+1)++p.funcs.drop (i+1)) (i:Int)=some (AU.mk f.params f.result (inf p fi fb f)):=by
     rw[Q9,pN (by simp;omega),po,pJ (by omega),hm]
    have hze:=Fs (inf p fi fb f);rw[Dx,pJ (by simp[AI];omega),uF,drop_cons yL,rR];simp only[ov];rw[AI,q2];simp only[ov];rw[<- drop_cons yL,hput,hget2];simp only[ov];rw[Ow (by omega) hN];simp only[ov];by_cases yH:en (inf p fi fb f)<=30
    .rw[pJ yH,pK (by simp),BE (by omega) (by omega),show ((i:Int)+1)=((i+1:Nat):Int) by omega];simp only[yH,pX,sJ];exact ih
    .rw[pK yH];simp[yH]
  have:=key N 0 (pT _) (by omega);rw[qt,qT,qK,tl]at this;rw[this];unfold wB;by_cases h:(p.funcs.all λf=>decide (en (inf p fi fb f)<=30))=true
  .rw[pJ h,pJ h];rfl
  .rw[pK h,pK h];rfl
theorem XA {fi:Int}(hN:2000000<=N)(yO:p.funcs.length<=1048576)(m1:Dk N p fi=some true):∃fb,Sh.get p.funcs fi=some fb/\1<=fi/\fi<(p.funcs.length:Int):=by
 unfold Dk at m1;rw[Dn,AI,BE (n:=(p.funcs.length:Int)-1) (by omega) (by omega)]at m1;by_cases h:1<=fi/\fi<=(p.funcs.length:Int)-1
 .obtain⟨fb,h1,_⟩:=Oc (l:=p.funcs) (j:=fi) (by omega) (by omega);exact⟨fb,h1,h.1,by omega⟩
 .have:(decide (1<=fi)&&decide (fi<=(p.funcs.length:Int)-1))=false:=by
   rw[rV,qZ,qZ];omega
  rw[this]at m1;simp at m1
theorem af (S:Du p)(hN:2000000<=N)(hd:p.decls.length<=1048576)(hz :∀d∈p.decls,dz d<=1048576)(fi:Int):
  (GY N p fi=some (.mk [] [],false)/\F5 N p fi=some (.mk [] [],false))∨
  ∃fb,Sh.get p.funcs fi=some fb/\1<=fi/\fi<(p.funcs.length:Int)/\BM N p=some true/\Bz N p=some true/\DI N p fi=some true/\GY N p fi=some (wB p (inf p fi fb))/\F5 N p fi=some (wB p (inf p fi fb)):=by
 obtain⟨b,e1,e2,_⟩:=Gq S hN;obtain⟨c,m1,m2⟩:=WS S (f:=fi) hN;have m1':=m1;unfold GA at m1';rw[e1]at m1';cases b with
 |false=>
  simp at m1';subst m1';refine .inl ⟨?_,?_⟩
  .unfold GY;rw[e1];rfl
  .unfold F5;rw[m2];rfl
 |true=>
  simp only[ov,pt]at m1';have m3:Dk N p fi=some c:=by
   cases h:Dk N p fi with
   |none=>rw[h]at m1';simp at m1'
   |some x=>rw[h]at m1';simpa using m1'
  cases c with
  |false=>
   refine .inl ⟨?_,?_⟩
   .unfold GY;rw[e1];simp only[ov,qD,pF,pV];rw[m3];rfl
   .unfold F5;rw[m2];rfl
  |true=>
   obtain⟨fb,g1,g2,g3⟩:=XA hN S.JL m3;obtain⟨w1,w2,_⟩:=SH S hN hd hz g1 e1 m3 m2;exact .inr ⟨fb,g1,g2,g3,e1,e2,m2,w1,w2⟩
end
end RC
namespace RC
open Go
def Fq (p:AJ)(g:AU->AD):AJ:=.mk p.decls (p.funcs.map λf=>.mk f.params f.result (g f))
theorem dk {p:AJ}{g:AU->AD}(h :∀f∈p.funcs,en (g f)<=30):wB p g=(Fq p g,true):=by
 unfold wB;rw[pJ (pH.2 λf hf=>by simpa using h f hf)];rfl
theorem hX {p:AJ}{g:AU->AD}:FE (Fq p g)=FE p:=by
 unfold FE Fq;simp[AJ.funcs,AJ.decls,rG]
theorem FA.Fq {p:AJ}{g:AU->AD}(S:FA p.decls p.funcs):FA (Fq p g).decls (Fq p g).funcs:=
 ⟨S.P6,S.Vq,S.NJ,S.kI,by show (p.funcs.map _).length<=4;rw[pR];exact S.JL,λf hf=>by
  obtain⟨f0,h0,rfl⟩:=pS.1 (show f∈p.funcs.map _ from hf);exact S.NV f0 h0⟩
theorem Du.Fq {p:AJ}{g:AU->AD}(S:Du p)(h4:p.funcs.length<=4)(h3 :∀f∈p.funcs,f.params.length<=3)(hd:p.decls.length+(p.decls.map dz).sum<=500000)(hg :∀f∈p.funcs,en (g f)<=30/\Ak (g f)):Du (Fq p g):=by
 refine⟨⟨S.CT.decls,λf hf=>?_,?_⟩,?_⟩
 .obtain⟨f0,h0,rfl⟩:=pS.1 (show f∈p.funcs.map _ from hf);have:=S.fin h0;exact⟨this.params,this.result,(hg f0 h0).2⟩
 .show (p.funcs.map _).length<=_;rw[pR];omega
 .have:=jK (g:=g) S.size h4 (.inr h3) hd;rwa [dk λf hf=>(hg f hf).1]at this
theorem cO {p:AJ}(S:Du p){N:Nat}(hN:2000000<=N)(SO:FA p.decls p.funcs){T:List Int->AD->Int}(hT:TX p N T)(zI :∀f∈p.funcs,en f.body<=30):BM N p=some (Mg p&&p.funcs.all (HO p T)):=by
 have hl:=S.JL;have L1:=EH (l:=p.funcs) (Bl N p) (λ_ f=>HO p T f) (λn=>by rw[Bl,pK (by simp[AI])]) (λn i f hi=>by
  have vh:=(pB.1 hi).1;have hf:=oz hi;obtain⟨q1,q2,q3⟩:=SO.NV f hf;have he:=zI f hf;have ty:KE N p f.params f.body=some (T f.params f.body):=(hT f.params f.body (S.fin hf).body (by omega) (by omega) q2 N N (by omega) (by omega)).1;rw[Bl,pJ (by simp[AI];omega),Ax hi];simp only[ov];rw[Gm (S.fz hf).2 hN,BE (by omega) (by omega),show ((i:Int)+1)=((i+1:Nat):Int) by omega];simp only[ov];unfold HO;rw[pJ he,pK (by simp),ty];by_cases hr:T f.params f.body=f.result<;>simp[he,hr]) (by omega:p.funcs.length<N)
 rw[GB]at L1;unfold BM;rw[Nb S hN];simp only[ov];cases yj:Mg p with
 |false=>simp
 |true=>
  simp only[qD,pF,pV,sJ];rw[L1,EM];cases p.funcs.all (HO p T)<;>rfl
theorem bx {p:AJ}(S:Du p){N:Nat}(hN:2000000<=N)(hv:BM N p=some true):Mg p=true:=by
 unfold BM at hv;rw[Nb S hN]at hv;simp only[ov]at hv;cases yj:Mg p with
 |false=>rw[yj]at hv;simp at hv
 |true=>rfl
theorem eP {p:AJ}(S:Du p){N:Nat}(hN:2000000<=N)(hv:BM N p=some true){T:List Int->AD->Int}(hT:TX p N T){g:AU->AD}(hg :∀f∈p.funcs,en (g f)<=30/\Ak (g f)/\T f.params (g f)=f.result):
  BM N (Fq p g)=some true/\Bz N (Fq p g)=some true/\Du (Fq p g)/\TX (Fq p g) N T:=by
 obtain⟨SO,_⟩:=TM S hN hv;obtain⟨s1,s2,s3⟩:=bF S hN hv;have S':Du (Fq p g):=S.Fq s1 s2 s3 λf hf=>⟨(hg f hf).1,(hg f hf).2.1⟩;have SO':=SO.Fq (g:=g);obtain⟨T',hT'⟩:=O3 SO' hN 340;have eqT:∀(v:List Int) (e:AD),Ak e->en e<340->v.length+3*en e<=1000->(∀x∈v,Dc p.decls x=true)->T' v e=T v e:=λv e a b c d=>by
  have h1:=(hT' v e a b c d 340 340 (pM _) (pM _)).2.1;have h2:=(hT v e a b c d 340 340 (pM _) (pM _)).2.1;rw[hX,h2]at h1;exact (qg h1).symm
 have hTm:TX (Fq p g) N T:=λv e a b c d n1 n2 h1 h2=>by
  have:=hT' v e a b c d n1 n2 h1 h2;rwa [eqT v e a b c d]at this
 have yj:Mg (Fq p g)=true:=by
  rw[<- bx S hN hv];unfold Mg Fq;simp[AJ.funcs,AJ.decls,rG];rfl
 have hb:=cO S' hN SO' hTm (λf hf=>by
  obtain⟨f0,h0,rfl⟩:=pS.1 (show f∈p.funcs.map _ from hf);exact (hg f0 h0).1)
 have vd:(Fq p g).funcs.all (HO (Fq p g) T)=true:=pH.2 λf hf=>by
  obtain⟨f0,h0,rfl⟩:=pS.1 (show f∈p.funcs.map _ from hf);obtain⟨g1,g2,g3⟩:=hg f0 h0;unfold HO;simp only[pb,pQ];exact⟨g1,g3⟩
 rw[yj,vd]at hb;obtain⟨b,e1,e2,_⟩:=Gq S' hN;rw[hb]at e1;cases e1;exact⟨hb,e2,S',hTm⟩
end RC
namespace RC
open Go
theorem cH {a k:Int}:∀(c:Nat) (e:AD),en e<=c->HZ (sh a k e)=HZ e:=by
 intro c
 induction c with
 |zero=>intro e h;have:=Fc e;omega
 |succ c ih=>
  intro e hc;have hl:∀l:List AD,(∀k∈l,en k<=c)->Fk (l.map (sh a k))=Fk l:=by
   intro l
   induction l with
   |nil=>intro _;rfl
   |cons x l ihl=>
    intro h;simp only[pd,Fk];rw[ih x (h x (by simp)),ihl λy hy=>h y (by simp[hy])]
  rw[H0,H0 e,KX,hl e.kids λy hy=>by have:=Ca hy;omega];congr 1;unfold Mm;rw[U3,Nw];split
  .rw[pK (by omega)]
  .rfl
theorem Qj {x:Int}{k:AD}:∀{l:List AD},k∈l->x∈HZ k->x∈Fk l
 | [],h,_=>by cases h
 |a::r,h,hx=>by
  simp only[Fk,pY];rcases pL.1 h with rfl|h
  .exact .inl hx
  .exact .inr (Qj h hx)
theorem bh {n:Nat}{x:Int}:∀(xs:List AD) (c:Nat) (b:AD),x∈HZ (lt n c xs b)->x∈Fk xs∨x∈HZ b
 | [],_,b,h=>.inr h
 |y::r,c,b,h=>by
  rw[H0]at h;simp only[lt,AD.kids,Fk,pY]at h;rcases h with h|h|h|h
  .have:x∈Mm (.mk 13 0 [sh n c y,lt n (c+1) r b]):=h;unfold Mm at this;rw[pK (by show ¬ ((13:Int)=9∨(13:Int)=10);omega)]at this;cases this
  .rw[cH (en y) y (pM _)]at h;exact .inl (by simp only[Fk,pY];exact .inl h)
  .rcases bh r (c+1) b h with h|h
   .exact .inl (by simp only[Fk,pY];exact .inr h)
   .exact .inr h
  .cases h
end RC
namespace RC
open Go
section
variable {p : AJ} {N : Nat} {T : List Int -> AD -> Int} {e : AD} {v : List Int}
end
end RC
namespace RC
open Go
structure Bk (b:List Int):Prop where
 u8 :∀x∈b,U8 x
 len:b.length<=2000
def At (p K:Int):Prop:=0<=p/\p<=K
theorem X0 {code:List Int}(h8 :∀x∈code,U8 x)(hl:code.length<=1048576):Ae (JJ code) λq=>Bk q.1/\q.2=0:=by
 unfold JJ;refine Ae.bind (R:=λb=>Bk b) (BB (λh=>?_) λh=>?_) λb hb=>Ae.some ⟨hb,rfl⟩
 .rw[AI]at h;have e:Sh.sl code 0 2000=some (code.take 2000):=by
   unfold Sh.sl;rw[pJ ⟨by decide,by decide,by omega⟩];rfl
  exact AR e (Ae.some ⟨λx hx=>h8 x (qd hx),by simp;omega⟩)
 .rw[AI]at h;exact Ae.some ⟨h8,by omega⟩
theorem RM {a n:Int}(ha:0<=a)(hn:1<=n):0<=a.tmod n/\a.tmod n<n/\a.tmod n<=a:=by
 rw[Int.tmod_eq_emod_of_nonneg ha];refine⟨Int.emod_nonneg _ (by omega),Int.emod_lt_of_pos _ (by omega),?_⟩;have:=Int.mul_ediv_add_emod a n;have h2:0<=n*(a / n):=Int.mul_nonneg (by omega) (Int.ediv_nonneg ha (by omega));omega
theorem ZS {a n:Int}(ha:0<=a)(hn:1<=n):0<=a.tdiv n/\a.tdiv n<=a:=by
 rw[Int.tdiv_eq_ediv_of_nonneg ha];exact⟨Int.ediv_nonneg ha (by omega),Int.ediv_le_self _ ha⟩
theorem Wv {a n:Int}(hn:n≠0):Sh.rem a n=some (a.tmod n):=by unfold Sh.rem;rw[pK hn]
theorem fW {a n:Int}(hn:n≠0):Sh.quo a n=some (Sh.w (a.tdiv n)):=by unfold Sh.quo;rw[pK hn]
structure Pk (n p:Int) (q:Int×Int):Prop where
 pos:q.2=p+1
 nn:0<=q.1
 lt:1<=n->q.1<n
 zero:n<1->q.1=0
theorem Ce {b:List Int}(B:Bk b){p n:Int}(hp:At p 1000000):Ae (Az b p n) (Pk n p):=by
 obtain⟨p0,p1⟩:=hp;have hlen:=B.len;have ew:Sh.w (p+1)=p+1:=BE (by omega) (by omega);have ew2:Sh.w (p+1-1)=p:=by rw[BE (by omega) (by omega)];omega
 unfold Az;rw[ew,ew2,AI];refine Ae.bind (R:=λt=>t=true↔n<1∨b.length=0) (BB (λh=>Ae.some (by simp[h])) λh=>Ae.some (by simp[h])) λt ht=>?_;refine Cn (λh=>?_) λh=>?_
 .refine Ae.some ⟨rfl,by show (0:Int)<=0;decide,λh1=>?_,λ_=>rfl⟩;show (0:Int)<n;omega
 .have hn:¬ (n<1∨b.length=0):=λh1=>by rw[ht.2 h1]at h;cases h
  have hn1:1<=n:=by omega
  have hb1:1<=b.length:=by omega
  refine BB (λh1=>?_) λh1=>?_
  .refine Ae.get p0 h1 λc _ hc=>?_;obtain⟨c0,c1⟩:=B.u8 c hc;rw[dZ (by omega) (by omega)];obtain⟨m0,m1,_⟩:=RM c0 hn1;exact AR (Wv (by omega)) (Ae.some ⟨rfl,m0,λ_=>m1,λh=>absurd h (by omega)⟩)
  .have k1:(1:Int)<=b.length:=by omega
   obtain⟨a0,a1,_⟩:=RM p0 k1;have e7:Sh.w (p*7)=p*7:=BE (by omega) (by omega);have e73:Sh.w (p*7+3)=p*7+3:=BE (by omega) (by omega);obtain⟨d0,d1,_⟩:=RM (a:=p*7+3) (by omega) k1;obtain⟨f0,f1⟩:=ZS p0 k1;rw[e7,e73];refine AR (Wv (by omega)) ?_;refine Ae.get a0 a1 λc _ hc=>?_;obtain⟨c0,c1⟩:=B.u8 c hc;refine AR (Wv (by omega)) ?_;refine Ae.get d0 d1 λc' _ yA=>?_;obtain⟨c0',c1'⟩:=B.u8 c' yA;refine AR (fW (by omega)) ?_;rw[dZ (n:=c) (by omega) (by omega),dZ (n:=c') (by omega) (by omega),BE (n:=p.tdiv b.length) (by omega) (by omega),BE (n:=c*131) (by omega) (by omega),BE (n:=c'*1117) (by omega) (by omega),
    BE (n:=c*131+c'*1117) (by omega) (by omega),BE (n:=p*29) (by omega) (by omega),BE (n:=c*131+c'*1117+p*29) (by omega) (by omega),BE (n:=p.tdiv b.length*53) (by omega) (by omega),
    BE (n:=c*131+c'*1117+p*29+p.tdiv b.length*53) (by omega) (by omega)]
   obtain⟨x,hx⟩ :∃x,x=c*131+c'*1117+p*29+p.tdiv b.length*53:=⟨_,rfl⟩
   rw[<- hx];have x0:0<=x:=by omega
   have x1:x<=1000000000000:=by omega
   obtain⟨y0,y1⟩:=ZS x0 (by decide:(1:Int)<=64);rw[BE (n:=x.tdiv 64) (by omega) (by omega)];obtain⟨z0,z1⟩:=kf x0 (by omega) y0 (by omega);obtain⟨m0,m1,_⟩:=RM z0 hn1;exact AR (Wv (by omega)) (Ae.some ⟨rfl,m0,λ_=>m1,λh=>absurd h (by omega)⟩)
structure On (l:List Int) (p:Int) (q:Int×Int):Prop where
 pos:q.2=p+1
 mem:q.1∈l
theorem G5 {b:List Int}(B:Bk b){p:Int}{l:List Int}(hp:At p 1000000)(hl:1<=l.length)(hl2:l.length<=1000):Ae (Bx b p l) (On l p):=by
 unfold Bx;rw[AI];refine Ae.bind (Ce B hp) λq ⟨h1,h2,h3,_⟩=>?_;exact Ae.get h2 (h3 (by omega)) λx _ hx=>Ae.some ⟨h1,hx⟩
end RC
namespace RC
open Go
structure CX (D:List AL) (F:List AU):Prop where
 dl:D.length<=4
 nP:nc D<=7
 cons :∀d∈D,d.cons.length<=3
 NJ :∀d∈D,∀c∈d.cons,c.fields.length<=3/\∀x∈c.fields,x=0∨x=1∨x=3
 c1:CO D 1=[0,1]
 c3:CO D 3=[2,3]
 f0 :∃t,IM D 0 0=some (t,⟨[]⟩)
 f1 :∃t,IM D 0 1=some (t,⟨[0,1]⟩)
 f2 :∃t,IM D 0 2=some (t,⟨[]⟩)
 f3 :∃t,IM D 0 3=some (t,⟨[3,0,3]⟩)
 arr:JC 1 1 D 0=-1
 fl:F.length<=4
 ik:1<=F.length
 par :∀f∈F,f.params.length<=3
 cl :∀f∈F,(∀x∈f.params,x=0∨x=1∨x=3)∨(f.params=[2,1]/\f.result=1)
section
variable {D : List AL} {F : List AU}
theorem dN (D:List AL)(i:Nat):nc (D.take i)<=nc D:=by have:=Hn D i;omega
theorem CX.eJ (C:CX D F):D.length<=1048576:=by have:=C.dl;omega
theorem CX.nC (C:CX D F):nc D<=1048576:=by have:=C.nP;omega
theorem CX.Ww (C:CX D F){t:Int}{N:Nat}(hN:2000000<=N):G0 N D t=some (CO D t):=Ma C.eJ C.nC hN
theorem RO {D:List AL}{t:Int}:∀x∈CO D t,∃c:Nat,x=(c:Int)/\c<nc D:=by
 intro x hx;unfold CO at hx;split at hx
 .rename_i h;obtain⟨i,hi,rfl⟩:=pS.1 hx;rw[rF]at hi;cases hd:D[(t-1).toNat]? with
  |none=>rw[hd]at hi;simp at hi
  |some d=>
   rw[hd]at hi;simp only[rf]at hi;have h1:=MP hd;have h2:=dN D ((t-1).toNat+1);exact⟨nc (D.take (t-1).toNat)+i,by omega,by omega⟩
 .cases hx
theorem CX.Wt (C:CX D F)(t:Int):(CO D t).length<=3:=by
 unfold CO;split
 .rw[pR,List.length_range];cases hd:D[(t-1).toNat]? with
  |none=>simp
  |some d=>simpa using C.cons d (oz hd)
 .simp
theorem CX.fields (C:CX D F){c:Nat}(hc:c<nc D){N:Nat}(hN:2000000<=N):∃fl:List Int,Bt N D (c:Int)=some fl/\fl.length<=3/\∀x∈fl,x=0∨x=1∨x=3:=by
 obtain⟨t,x,h1,h2⟩:=Iu C.eJ C.nC hc hN;obtain⟨_,_,d,hd,hx⟩:=RW h1;obtain⟨h3,h4⟩:=C.NJ d hd x hx;exact⟨x.fields,h2,h3,h4⟩
theorem dK:∀(D:List AL) (k c:Nat) {r:Nat×D6},IM D k c=some r->c<nc D
 | [],k,c,r,h=>by simp[IM]at h
 |d::D,k,c,r,h=>by
  unfold IM at h;have e:nc (d::D)=d.cons.length+nc D:=by simp[nc]
  cases hx:d.cons[c]? with
  |some y=>have:=(pB.1 hx).1;omega
  |none=>
   rw[hx]at h;have:=dK D _ _ h;omega
theorem CX.Wu (C:CX D F){c t:Nat}{x:D6}(h:IM D 0 c=some (t,x)){N:Nat}(hN:2000000<=N):Bt N D (c:Int)=some x.fields:=by
 obtain⟨t',x',h1,h2⟩:=Iu C.eJ C.nC (dK D 0 c h) hN;rw[h]at h1;cases h1;exact h2
theorem lL {l:List Int}{x:Int}(hl:l.length<=1048576){N i:Nat}(hi:i<=l.length)(hN:l.length-i<N):Ek l x N i=some (if x∈l.drop i then Sum.inl true else Sum.inr ()):=by
 refine BQ l.length (λN i=>Ek l x N i=some (if x∈l.drop i then Sum.inl true else Sum.inr ())) ?_ ?_ hi hN
 .intro n;rw[Ek,pK (by simp[AI])];simp
 .intro n i hi ih;obtain⟨y,hy,_⟩:=Bh hi;rw[Ek,pJ (by simp[AI];omega),Ax hy,drop_cons hy];simp only[ov,pL];rw[BE (by omega) (by omega),show ((i:Int)+1)=((i+1:Nat):Int) by omega];by_cases h:y=x
  .simp[h]
  .have h':¬ x=y:=λe=>h e.symm;rw[pK (by simpa using h),ih];simp[h']
theorem lu {l:List Int}{x:Int}(hl:l.length<=1048576){N:Nat}(hN:2000000<=N):HA N l x=some (decide (x∈l)):=by
 unfold HA;have:=lL (x:=x) hl (pT _) (by omega:l.length-0<N);rw[tl,qK]at this;rw[this];by_cases h:x∈l<;>simp[h,Sh.cont]
def fJ (D:List AL)(F:List AU)(t x:Int):Prop:=∃(f:Nat) (g:AU) (y:Int),x=(f:Int)/\F[f]?=some g/\g.params[g.params.length-1]?=some y/\0<g.params.length/\JC y g.result D 0=t
theorem OE (C:CX D F){t:Int}{M:Nat}(hM:2000000<=M):Ae (Ib M ⟨D,F⟩ t) λl=>l.length<=4/\∀x∈l,fJ D F t x:=by
 have hf:=C.fl;have key:∀{N i:Nat},i<=F.length->F.length-i<N->∀acc:List Int,acc.length<=i->(∀x∈acc,fJ D F t x)->Ae (E7 M ⟨D,F⟩ t N i acc) λl=>l.length<=F.length/\∀x∈l,fJ D F t x:=by
  intro N i hi hN;refine BQ F.length (λN i=>∀acc:List Int,acc.length<=i->(∀x∈acc,fJ D F t x)->Ae (E7 M ⟨D,F⟩ t N i acc) λl=>l.length<=F.length/\∀x∈l,fJ D F t x) ?_ ?_ hi hN
  .intro n acc h1 h2;rw[E7,pK (by simp[AI])];exact Ae.some ⟨h1,h2⟩
  .intro n i hi ih acc h1 h2;obtain⟨g,hg,zN⟩:=Bh hi;have hp:=C.par g zN;rw[E7,pJ (by simp[AI];omega)];refine Ae.bind (R:=λl=>l.length<=i+1/\∀x∈l,fJ D F t x) ?_ λl hl=>?_
   .refine AR (Ax hg) ?_;refine Ae.bind (R:=λb=>b=true->fJ D F t i) ?_ λb hb=>?_
    .refine BB (λh=>?_) λ_=>Ae.some (λh=>by cases h);rw[AI]at h;have vA:0<g.params.length:=by omega
     obtain⟨y,hy,_⟩:=Bh (l:=g.params) (i:=g.params.length-1) (by omega);rw[AI,BE (by omega) (by omega),show ((g.params.length:Int)-1)=((g.params.length-1:Nat):Int) by omega];refine AR (Ax hy) (AR (O5 C.eJ hM) (Ae.some λh=>?_));exact⟨i,g,y,rfl,hg,hy,vA,by simpa using h⟩
    .refine Cn (λh=>?_) λ_=>Ae.some ⟨by omega,h2⟩;refine Ae.app (by simp;omega) (by simp;omega) (Ae.some ⟨by simp;omega,λx hx=>?_⟩);rcases pY.1 hx with h3|h3
     .exact h2 x h3
     .rw[pU]at h3;rw[h3];exact hb h
   .rw[BE (by omega) (by omega),show ((i:Int)+1)=((i+1:Nat):Int) by omega];exact ih l hl.1 hl.2
 unfold Ib;have:=key (pT _) (by omega:F.length-0<M) [] (by simp) (by simp);rw[tl]at this;exact Ae.bind this λl hl=>Ae.some ⟨by omega,hl.2⟩
theorem ND (C:CX D F){vars:List Int}(hv:vars.length<=1000){t:Int}{M:Nat}(hM:2000000<=M):Ae (Ha M ⟨D,F⟩ vars t) λ_=>True:=by
 unfold Ha;refine Ae.bind (R:=λ_=>True) ?_ λb _=>Ae.some pA;refine AR (KK C.eJ) ?_;refine Cn (λ_=>Ae.some pA) λ_=>?_;refine Ae.bind (OE C hM) λl _=>?_;refine BB (λ_=>Ae.some pA) λ_=>?_;exact AR (lu (by omega) hM) (Ae.some pA)
theorem Wg {vars:List Int}(hv:vars.length<=1000){t:Int}{M:Nat}(hM:2000000<=M):Ae (Ij M vars t) λl=>l.length<=1000/\∀x∈l,0<=x/\x<=1000:=by
 have key:∀{N i:Nat},i<=vars.length->vars.length-i<N->∀acc:List Int,acc.length<=i->(∀x∈acc,0<=x/\x<=1000)->Ae (D9 vars t N i acc) λl=>l.length<=vars.length/\∀x∈l,0<=x/\x<=1000:=by
  intro N i hi hN;refine BQ vars.length (λN i=>∀acc:List Int,acc.length<=i->(∀x∈acc,0<=x/\x<=1000)->Ae (D9 vars t N i acc) λl=>l.length<=vars.length/\∀x∈l,0<=x/\x<=1000) ?_ ?_ hi hN
  .intro n acc h1 h2;rw[D9,pK (by simp[AI])];exact Ae.some ⟨h1,h2⟩
  .intro n i hi ih acc h1 h2;obtain⟨y,hy,_⟩:=Bh hi;rw[D9,pJ (by simp[AI];omega)];refine Ae.bind (R:=λl=>l.length<=i+1/\∀x∈l,0<=x/\x<=1000) ?_ λl hl=>?_
   .refine AR (Ax hy) ?_;refine BB (λ_=>?_) λ_=>Ae.some ⟨by omega,h2⟩;refine Ae.app (by simp;omega) (by simp;omega) (Ae.some ⟨by simp;omega,λx hx=>?_⟩);rcases pY.1 hx with h3|h3
    .exact h2 x h3
    .rw[pU]at h3;omega
   .rw[BE (by omega) (by omega),show ((i:Int)+1)=((i+1:Nat):Int) by omega];exact ih l hl.1 hl.2
 unfold Ij;have:=key (pT _) (by omega:vars.length-0<M) [] (by simp) (by simp);rw[tl]at this;exact Ae.bind this λl hl=>Ae.some ⟨by omega,hl.2⟩
structure GE (k P:Nat) (p:Int) (q:AD×Int):Prop where
 size:en q.1<=k
 CT:Ak q.1
 lo:p<=q.2
 hi:q.2<=p+P
theorem GE.up {k k' P P':Nat}{p:Int}{q:AD×Int}(h:GE k P p q)(hk:k<=k')(hP:P<=P'):GE k' P' p q:=⟨by have:=h.size;omega,h.CT,h.lo,by have:=h.hi;omega⟩
theorem Ds {n:Int}(h1:-1000000<=n)(h2:n<=1000000):HB n:=⟨by omega,by omega⟩
theorem KO {o n:Int}{k:List AD}(ho:HB o)(hn:HB n)(hk :∀e∈k,Ak e)(hl:k.length<=1000):Ak ⟨o,n,k⟩:=.mk ho hn (by show k.length<=_;omega) hk
theorem HR (o n:Int)(k:List AD):en ⟨o,n,k⟩=1+CL k:=Fs _
theorem JM:∀(a b:List AD),CL (a++b)=CL a+CL b
 | [],b=>by simp[CL]
 |x::a,b=>by have:=JM a b;simp only[tE,CL];omega
theorem H7 (e:AD):CL [e]=en e:=by simp[CL]
theorem PH {b:List Int}(Bb:Bk b){p:Int}(h0:0<=p)(h1:p<=900000):Ae (JQ b p) λq=>(-1000<=q.1/\q.1<=1000)/\q.2=p+4:=by
 unfold JQ;refine Ae.bind (Ce Bb ⟨by omega,by omega⟩) λa ha=>?_;have a1:=ha.pos;have a2:=ha.nn;have a3:=ha.lt (by omega);refine Ae.bind (Ce Bb ⟨by omega,by omega⟩) λc hc=>?_;have c1:=hc.pos;have c2:=hc.nn;have c3:=hc.lt (by omega);refine Ae.bind (Ce Bb ⟨by omega,by omega⟩) λd hd=>?_;have d1:=hd.pos;have d2:=hd.nn;have d3:=hd.lt (by omega);refine Ae.bind (G5 Bb ⟨by omega,by omega⟩ (by simp) (by simp)) λe he=>Ae.some ⟨?_,by have:=he.pos;show e.2=_;omega⟩;have:=he.mem;simp only[pL,pn,qc]at this;show -1000<=e.1/\e.1<=1000;omega
def fe (b:List Int)(D:List AL)(F:List AU)(rec:List Int->Int->List AU->List AL->Int->Option (AD×Int))(t:Int)(k P:Nat):Prop:=
 ∀p:Int,0<=p->p<=800000->Ae (rec b p F D t) (GE k P p)
theorem Y8 {b:List Int}{rec:List Int->Int->List AU->List AL->Int->Option (AD×Int)}{l:List Int}(hl:l.length<=3){k P:Nat}(hP:P<=1000)(vk :∀t∈l,fe b D F rec t k P){N i:Nat}(hi:i<=l.length)(hN:l.length-i<N):
  ∀(p:Int) (acc:List AD),0<=p->p<=700000+(i*P:Nat)->acc.length=i->(∀e∈acc,Ak e)->CL acc<=i*k->
   Ae (Cz b F D l rec N i p acc) λq=>p<=q.1/\q.1<=p+((l.length-i)*P:Nat)/\q.2.length=l.length/\(∀e∈q.2,Ak e)/\CL q.2<=l.length*k:=by
 refine BQ l.length (λN i=>∀(p:Int) (acc:List AD),0<=p->p<=700000+(i*P:Nat)->acc.length=i->(∀e∈acc,Ak e)->CL acc<=i*k->
   Ae (Cz b F D l rec N i p acc) λq=>p<=q.1/\q.1<=p+((l.length-i)*P:Nat)/\q.2.length=l.length/\(∀e∈q.2,Ak e)/\CL q.2<=l.length*k) ?_ ?_ hi hN
 .intro n p acc h0 h1 h2 h3 h4;rw[Cz,pK (by simp[AI])];exact Ae.some ⟨by show p<=p;omega,by show p<=_;omega,h2,h3,h4⟩
 .intro n i hi ih p acc h0 h1 h2 h3 h4;obtain⟨t,ht,htm⟩:=Bh hi;have hiP:i*P<=3000:=by
   have:i*P<=3*1000:=Nat.mul_le_mul (by omega) hP;omega
  have e1:(l.length-i)*P=P+(l.length-(i+1))*P:=by
   rw[show l.length-i=(l.length-(i+1))+1 by omega,px];omega
  have e2:(i+1)*P=i*P+P:=by rw[px];omega
  have e3:(i+1)*k=i*k+k:=by rw[px];omega
  rw[Cz,pJ (by simp[AI];omega)];refine AR (Ax ht) ?_;refine Ae.bind (vk t htm p h0 (by omega)) λq hq=>?_;have q1:=hq.lo;have q2:=hq.hi;have q3:=hq.size;refine Ae.app (by simp;omega) (by simp;omega) ?_;rw[BE (by omega) (by omega),show ((i:Int)+1)=((i+1:Nat):Int) by omega];refine (ih q.2 (acc++[q.1]) (by omega) (by omega) (by simp;omega) (λe he=>?_) (by rw[JM,H7];omega)).mono λr hr=>⟨by have:=hr.1;omega,by have:=hr.2.1;omega,hr.2.2⟩;rcases pY.1 he with h5|h5
  .exact h3 e h5
  .rw[pU]at h5;rw[h5];exact hq.CT
theorem Y0 {b:List Int}{rec:List Int->Int->List AU->List AL->Int->Option (AD×Int)}{g:AU}{m:Nat}(hm:g.params.length=m+1)(hl:m<=2){k P:Nat}(hP:P<=1000)(vk :∀t∈g.params,fe b D F rec t k P){N i:Nat}(hi:i<=m)(hN:m-i<N):
  ∀(p:Int) (acc:List AD),0<=p->p<=700000+(i*P:Nat)->acc.length=i->(∀e∈acc,Ak e)->CL acc<=i*k->
   Ae (EA g b F D rec N i p acc) λq=>p<=q.1/\q.1<=p+((m-i)*P:Nat)/\q.2.length=m/\(∀e∈q.2,Ak e)/\CL q.2<=(m)*k:=by
 refine BQ m (λN i=>∀(p:Int) (acc:List AD),0<=p->p<=700000+(i*P:Nat)->acc.length=i->(∀e∈acc,Ak e)->CL acc<=i*k->
   Ae (EA g b F D rec N i p acc) λq=>p<=q.1/\q.1<=p+((m-i)*P:Nat)/\q.2.length=m/\(∀e∈q.2,Ak e)/\CL q.2<=(m)*k) ?_ ?_ hi hN
 .intro n p acc h0 h1 h2 h3 h4;rw[EA,BE (by omega) (by omega),pK (by rw[pQ,AI];omega)];exact Ae.some ⟨by show p<=p;omega,by show p<=_;omega,h2,h3,h4⟩
 .intro n i hi ih p acc h0 h1 h2 h3 h4;obtain⟨t,ht,htm⟩:=Bh (l:=g.params) (i:=i) (by omega);have hiP:i*P<=3000:=by
   have:i*P<=3*1000:=Nat.mul_le_mul (by omega) hP;omega
  have e1:(m-i)*P=P+(m-(i+1))*P:=by
   rw[show m-i=(m-(i+1))+1 by omega,px];omega
  have e2:(i+1)*P=i*P+P:=by rw[px];omega
  have e3:(i+1)*k=i*k+k:=by rw[px];omega
  rw[EA,BE (by omega) (by omega),pJ (by rw[pQ,AI];omega)];refine AR (Ax ht) ?_;refine Ae.bind (vk t htm p h0 (by omega)) λq hq=>?_;have q1:=hq.lo;have q2:=hq.hi;have q3:=hq.size;refine Ae.app (by simp;omega) (by simp;omega) ?_;rw[show ((i:Int)+1)=((i+1:Nat):Int) by omega];refine (ih q.2 (acc++[q.1]) (by omega) (by omega) (by simp;omega) (λe he=>?_) (by rw[JM,H7];omega)).mono λr hr=>⟨by have:=hr.1;omega,by have:=hr.2.1;omega,hr.2.2⟩;rcases pY.1 he with h5|h5
  .exact h3 e h5
  .rw[pU]at h5;rw[h5];exact hq.CT
theorem GP {o n:Int}(ho:-1000000<=o/\o<=1000000)(hn:-1000000<=n/\n<=1000000):Ak ⟨o,n,[]⟩:=KO (Ds ho.1 ho.2) (Ds hn.1 hn.2) (by simp) (by simp)
theorem lY (C:CX D F){b:List Int}(Bb:Bk b){M:Nat}(hM:2000000<=M){t:Int}(ht:t=0∨t=1∨t=3)(n:Nat):fe b D F (Dj M (n+1)) t 1 6:=by
 intro p h0 h1;rw[Dj];unfold IQ;refine AR (C.Ww hM) ?_;have data:∀(c:Nat) (fs:List Int),CO D t=[(c:Int),((c+1:Nat):Int)]->c<=10->Bt M D (c:Int)=some []->Bt M D ((c+1:Nat):Int)=some fs->t∈fs->fs.length<=3->
   Ae ((Sh.get (CO D t) 0).bind λc8=>
  (
   Option.bind (
    if decide (1<Sh.len (CO D t))=true then
     (Az b p 4).bind λq47=>
     some (decide (q47.1=0),q47.2)
    else
     some (false,p)
   ) λ(t41,f42)=>
   if t41=true then
    (Sh.get (CO D t) 1).bind λc45=>
    some (c45,f42)
   else
    some (c8,f42)
  ).bind λ(yr,f11)=>
  (
   Option.bind (Bt M D yr) λq37=>
   (HA M q37 t).bind λyU=>
   if yU=true then
    some c8
   else
    some yr
  ).bind λwx=>
  (Bt M D wx).bind λxA=>
  (Cz b F D xA (Dj M n) M 0 f11 []).bind λ(f24,l25)=>
  (Bg 6 wx l25).bind λwz=>
  some (wz,f24)) (GE 1 6 p):=by
  intro c fs xb hc hf0 yL vR yO;rw[xb];refine AR (show Sh.get [(c:Int),((c+1:Nat):Int)] 0=some (c:Int) from rfl) ?_;refine Ae.bind (R:=λq=>(q.1=(c:Int)∨q.1=((c+1:Nat):Int))/\q.2=p+1) ?_ ?_
  .rw[pJ (by simp[AI])];refine Ae.bind (R:=λq:Bool×Int=>q.2=p+1) (Ae.bind (Ce Bb ⟨by omega,by omega⟩) λq hq=>Ae.some hq.pos) ?_;rintro⟨t41,f42⟩ hf;dsimp only at hf⊢;refine Cn (λ_=>?_) λ_=>Ae.some ⟨.inl rfl,hf⟩;exact AR (show Sh.get [(c:Int),((c+1:Nat):Int)] 1=some ((c+1:Nat):Int) from rfl) (Ae.some ⟨.inr rfl,hf⟩)
  .rintro⟨yr,f11⟩ ⟨hc10,hf⟩;dsimp only at hc10 hf⊢;refine Ae.bind (R:=λwx=>wx=(c:Int)) ?_ ?_
   .rcases hc10 with rfl|rfl
    .refine AR hf0 (AR (lu (by simp) hM) ?_);exact Cn (λ_=>Ae.some rfl) λ_=>Ae.some rfl
    .refine AR yL (AR (lu (by omega) hM) ?_);rw[pJ (by simpa using vR)];exact Ae.some rfl
   .rintro wx rfl;refine AR hf0 ?_;obtain⟨M',rfl⟩ :∃m,M=m+1:=⟨M-1,by omega⟩
    rw[Cz,pK (by simp[AI])];refine AR rfl (AR rfl (Ae.some ⟨?_,GP ⟨by omega,by omega⟩ ⟨by omega,by omega⟩,?_,?_⟩))
    .rw[HR];simp[CL]
    .show p<=f11;omega
    .show f11<=_;omega
 rcases ht with rfl|rfl|rfl
 .have e:CO D 0=[]:=by unfold CO;rw[pK (by omega)]
  rw[e,pK (by simp[AI])];refine Ae.bind (OE C hM) λl _=>?_;refine AR (show _=some false from pK (by simp)) ?_;simp only[pF,pV];refine Ae.bind (PH Bb h0 (by omega)) λq hq=>AR rfl (Ae.some ⟨?_,GP ⟨by omega,by omega⟩ ⟨by omega,by omega⟩,?_,?_⟩)
  .rw[HR];simp[CL]
  .show p<=q.2;omega
  .show q.2<=_;omega
 .obtain⟨t0,k0⟩:=C.f0;obtain⟨t1,k1⟩:=C.f1;rw[pJ (by rw[C.c1];simp[AI])];exact data 0 [0,1] C.c1 (by omega) (C.Wu k0 hM) (C.Wu k1 hM) (by simp) (by simp)
 .obtain⟨t0,k0⟩:=C.f2;obtain⟨t1,k1⟩:=C.f3;rw[pJ (by rw[C.c3];simp[AI])];exact data 2 [3,0,3] C.c3 (by omega) (C.Wu k0 hM) (C.Wu k1 hM) (by simp) (by simp)
end
end RC
namespace RC
open Go
section
variable {D : List AL} {F : List AU}
theorem ZE (C:CX D F){b:List Int}(Bb:Bk b){M:Nat}(hM:2000000<=M)(t:Int)(n:Nat){p:Int}(h0:0<=p)(h1:p<=600000):Ae (Dj M (n+2) b p F D t) (GE 4 20 p):=by
 have vk:∀t,(t=0∨t=1∨t=3)->fe b D F (Dj M (n+1)) t 1 6:=λt ht=>lY C Bb hM ht n;rw[Dj];unfold IQ;refine AR (C.Ww hM) ?_;have hc3:=C.Wt t;refine BB (λvA=>?_) λ_=>?_
 .rw[AI]at vA;refine Ae.get (by omega) (by omega) λc8 _ hc8=>?_;refine Ae.bind (R:=λq=>q.1∈CO D t/\p<=q.2/\q.2<=p+1) ?_ ?_
  .refine Ae.bind (R:=λq:Bool×Int=>(q.1=true->1<(CO D t).length)/\p<=q.2/\q.2<=p+1) ?_ ?_
   .refine BB (λh2=>?_) λ_=>Ae.some ⟨(λh=>by cases h),by show p<=p;omega,by show p<=_;omega⟩;rw[AI]at h2;exact Ae.bind (Ce Bb ⟨by omega,by omega⟩) λq hq=>Ae.some ⟨λ_=>by omega,by have:=hq.pos;show p<=q.2;omega,by have:=hq.pos;show q.2<=_;omega⟩
   .rintro⟨t41,f42⟩ ⟨g1,g2,g3⟩;dsimp only at g1 g2 g3⊢;refine Cn (λh=>?_) λ_=>Ae.some ⟨hc8,g2,g3⟩;refine Ae.get (by omega) (by have:=g1 h;omega) λc45 _ hc45=>Ae.some ⟨hc45,g2,g3⟩
  .rintro⟨yr,f11⟩ ⟨hc10,g2,g3⟩;dsimp only at hc10 g2 g3⊢;refine Ae.bind (R:=λwx=>wx∈CO D t) ?_ ?_
   .obtain⟨c,rfl,hc⟩:=RO _ hc10;obtain⟨fl,e1,e2,_⟩:=C.fields hc hM;refine AR e1 (AR (lu (by omega) hM) ?_);exact Cn (λ_=>Ae.some hc8) λ_=>Ae.some hc10
   .intro wx hc14;obtain⟨c,rfl,hc⟩:=RO _ hc14;obtain⟨fl,e1,e2,e3⟩:=C.fields hc hM;have hn:=C.nP;refine AR e1 ?_;have:=Y8 (D:=D) (F:=F) (b:=b) (rec:=Dj M (n+1)) e2 (k:=1) (P:=6) (by omega) (λt ht=>vk t (e3 t ht)) (N:=M) (pT _) (by omega) f11 [] (by omega) (by omega) rfl (by simp) (by simp[CL]);refine Ae.bind this ?_;rintro⟨f24,l25⟩ ⟨a1,a2,a3,a4,a5⟩;dsimp only at a1 a2 a3 a4 a5⊢;refine AR rfl (Ae.some ⟨by rw[HR];omega,KO (Ds (by omega) (by omega)) (Ds (by omega) (by omega)) a4 (by omega),by show p<=f24;omega,by show f24<=_;omega⟩)
 .refine Ae.bind (OE C hM) λl hl=>?_;have hF:=C.fl;refine Ae.bind (R:=λt52=>t52=true->0<t/\0<l.length) ?_ λt52 ht52=>?_
  .refine BB (λh=>Ae.some λh2=>⟨h,by rw[pQ,AI]at h2;omega⟩) λ_=>Ae.some λh=>by cases h
  .refine Cn (λh=>?_) λ_=>?_
   .obtain⟨ht0,hl0⟩:=ht52 h;rw[AI];refine Ae.bind (Ce Bb ⟨by omega,by omega⟩) λq hq=>?_;have q1:=hq.pos;have q2:=hq.nn;have q3:=hq.lt (by omega);refine Ae.get q2 q3 λc57 _ hc57=>?_;obtain⟨f,g,y,rfl,hg,hy,hgp,ha⟩:=hl.2 c57 hc57;have zN:=oz hg;have yO:=(pB.1 hg).1;have hp3:=C.par g zN;refine AR (Ax hg) ?_;have htys:∀x∈g.params,x=0∨x=1∨x=3:=by
     rcases C.cl g zN with h2|⟨h2,h3⟩
     .exact h2
     .exfalso;rw[h2]at hy;have:y=1:=by simpa using hy.symm
      rw[this,h3,C.arr]at ha;omega
    obtain⟨m,hm⟩ :∃m,g.params.length=m+1:=⟨g.params.length-1,by omega⟩
    have:=Y0 (D:=D) (F:=F) (b:=b) (rec:=Dj M (n+1)) hm (by omega) (k:=1) (P:=6) (by omega) (λt ht=>vk t (htys t ht)) (N:=M) (pT _) (by omega) q.2 [] (by omega) (by omega) rfl (by simp) (by simp[CL]);refine Ae.bind this ?_;rintro⟨f66,l67⟩ ⟨a1,a2,a3,a4,a5⟩;dsimp only at a1 a2 a3 a4 a5⊢;refine AR rfl (Ae.some ⟨by rw[HR];omega,KO (Ds (by omega) (by omega)) (Ds (by omega) (by omega)) a4 (by omega),by show p<=f66;omega,by show f66<=_;omega⟩)
   .refine Ae.bind (PH Bb h0 (by omega)) λq hq=>AR rfl (Ae.some ⟨?_,GP ⟨by omega,by omega⟩ ⟨by omega,by omega⟩,?_,?_⟩)
    .rw[HR];simp[CL]
    .show p<=q.2;omega
    .show q.2<=_;omega
theorem NI (C:CX D F){b:List Int}(Bb:Bk b){M:Nat}(hM:2000000<=M){vars:List Int}(hv:vars.length<=1000)(t:Int){p:Int}(h0:0<=p)(h1:p<=500000):Ae (IL M b p F D vars t) (GE 4 22 p):=by
 unfold IL;refine Ae.bind (Wg hv hM) λl hl=>?_;refine Ae.bind (R:=λq:Bool×Int=>(q.1=true->0<l.length)/\p<=q.2/\q.2<=p+1) ?_ ?_
 .refine BB (λh=>?_) λ_=>Ae.some ⟨(λh=>by cases h),by show p<=p;omega,by show p<=_;omega⟩;rw[AI]at h;refine Ae.bind (Ce Bb ⟨by omega,by omega⟩) λq hq=>?_;have q1:=hq.pos;refine BB (λ_=>Ae.some ⟨λ_=>by omega,by show p<=q.2;omega,by show q.2<=_;omega⟩) λ_=>?_;exact Ae.bind (ND C (by simp) hM) λ_ _=>Ae.some ⟨λ_=>by omega,by show p<=q.2;omega,by show q.2<=_;omega⟩
 .rintro⟨t6,f7⟩ ⟨g1,g2,g3⟩;dsimp only at g1 g2 g3⊢;refine Cn (λh=>?_) λ_=>?_
  .have hl0:=g1 h;rw[AI];refine Ae.bind (Ce Bb ⟨by omega,by omega⟩) λq hq=>?_;have q1:=hq.pos;have q2:=hq.nn;have q3:=hq.lt (by omega);refine Ae.get q2 q3 λc _ hc=>?_;have:=hl.2 c hc;refine AR rfl (Ae.some ⟨by rw[HR];simp[CL],GP ⟨by omega,by omega⟩ ⟨by omega,by omega⟩,by show p<=q.2;omega,by show q.2<=_;omega⟩)
  .unfold NW;obtain⟨m,rfl⟩ :∃m,M=m+2:=⟨M-2,by omega⟩
   refine Ae.bind (ZE C Bb hM t m (p:=f7) (by omega) (by omega)) λq hq=>Ae.some ⟨hq.size,hq.CT,by have:=hq.lo;show p<=q.2;omega,by have:=hq.hi;show q.2<=_;omega⟩
theorem aZ (C:CX D F){b:List Int}(Bb:Bk b){M:Nat}(hM:2000000<=M){vars:List Int}(hv:vars.length<=1000){p:Int}(h0:0<=p)(h1:p<=500000):Ae (KU M b p F D vars) λq=>q.2=p+1:=by
 unfold KU;refine Ae.bind (G5 Bb ⟨by omega,by omega⟩ (by simp) (by simp)) λq hq=>?_;refine Ae.bind (R:=λ_=>True) ?_ λt6 _=>Cn (λ_=>Ae.some hq.pos) λ_=>Ae.some hq.pos;refine BB (λ_=>Ae.some pA) λ_=>?_;exact Ae.bind (ND C hv hM) λ_ _=>Ae.some pA
theorem Yg (C:CX D F){t:Int}{M:Nat}(hM:2000000<=M):Ae (J2 M ⟨D,F⟩ t) λl=>l.length<=4/\∀x∈l,0<=x/\x<(F.length:Int):=by
 have hf:=C.fl;have yL:=C.ik;have L2:∀(g:AU),g.params.length<=3->∀{N i:Nat},i<=g.params.length->g.params.length-i<N->∀ok:Bool,Ae (E0 M g ⟨D,F⟩ N ok i) λ_=>True:=by
  intro g hg N i hi hN;refine BQ g.params.length (λN i=>∀ok:Bool,Ae (E0 M g ⟨D,F⟩ N ok i) λ_=>True) ?_ ?_ hi hN
  .intro n ok;rw[E0,pK (by simp[AI])];exact Ae.some pA
  .intro n i hi ih ok;obtain⟨y,hy,_⟩:=Bh hi;rw[E0,pJ (by rw[pQ,AI];omega),BE (by omega) (by omega),show ((i:Int)+1)=((i+1:Nat):Int) by omega];refine Ae.bind (R:=λ_=>True) ?_ λok _=>ih ok;refine Cn (λ_=>?_) λ_=>Ae.some pA;refine AR (Ax hy) (Ae.bind (ND C (by simp) hM) λ_ _=>Ae.some pA)
 have key:∀{N i:Nat},i<=F.length->F.length-i<N->∀acc:List Int,acc.length<=i->(∀x∈acc,0<=x/\x<(F.length:Int))->Ae (E1 M ⟨D,F⟩ t N i acc) λl=>l.length<=F.length/\∀x∈l,0<=x/\x<(F.length:Int):=by
  intro N i hi hN;refine BQ F.length (λN i=>∀acc:List Int,acc.length<=i->(∀x∈acc,0<=x/\x<(F.length:Int))->Ae (E1 M ⟨D,F⟩ t N i acc) λl=>l.length<=F.length/\∀x∈l,0<=x/\x<(F.length:Int)) ?_ ?_ hi hN
  .intro n acc h1 h2;rw[E1,pK (by simp[AI])];exact Ae.some ⟨h1,h2⟩
  .intro n i hi ih acc h1 h2;obtain⟨g,hg,zN⟩:=Bh hi;have hp:=C.par g zN;rw[E1,pJ (by rw[pQ,AI];show (i:Int)<(F.length:Int);omega),BE (by omega) (by omega),show ((i:Int)+1)=((i+1:Nat):Int) by omega];refine Ae.bind (R:=λl=>l.length<=i+1/\∀x∈l,0<=x/\x<(F.length:Int)) ?_ λl hl=>ih l hl.1 hl.2;refine AR (Ax hg) ?_;have:=L2 g hp (N:=M) (pT _) (by omega) (decide (g.result=t));refine Ae.bind this λok _=>?_;refine Cn (λ_=>?_) λ_=>Ae.some ⟨by omega,h2⟩;refine Ae.app (by simp;omega) (by simp;omega) (Ae.some ⟨by simp;omega,λx hx=>?_⟩);rcases pY.1 hx with h3|h3
   .exact h2 x h3
   .rw[pU]at h3;omega
 unfold J2;have:=key (i:=1) yL (by omega:F.length-1<M) [] (by simp) (by simp);rw[show ((1:Nat):Int)=1 from rfl]at this;exact Ae.bind this λl hl=>Ae.some ⟨by omega,hl.2⟩
def G6 (d:Nat):Nat:=if d=0 then 4 else 9*d-5
def Es (d:Nat):Nat:=if d=0 then 35 else 80*d-45
theorem NH {r d n:Nat}(h1:1<=r)(h3:r<=3)(hn:3<=n)(hd:d*r<=n-1):5+r*G6 d<=G6 n/\40+r*Es d<=Es n:=by
 have zT:¬ n=0:=by omega
 unfold G6 Es;rw[pK zT,pK zT];obtain rfl|rfl|rfl:r=1∨r=2∨r=3:=by omega
 all_goals
  by_cases h:d=0
  .rw[pJ h,pJ h];omega
  .rw[pK h,pK h];omega
theorem TL (d:Nat):4<=G6 d:=by unfold G6;split<;>omega
theorem UD (d:Nat):35<=Es d:=by unfold Es;split<;>omega
theorem lF {d:Nat}(h:d<=20):Es d<=1600:=by unfold Es;split<;>omega
abbrev Zi:=List Int->Int->List AU->List AL->List Int->Int->Int->Option (AD×Int)
def RG (b:List Int)(D:List AL)(F:List AU)(rec:Zi)(n:Nat):Prop:=
 ∀(d:Nat) (vars:List Int) (t p:Int),d<n->d<=20->vars.length+3*d<=400->0<=p->p+(Es d:Int)<=400000->Ae (rec b p F D vars t (d:Int)) (GE (G6 d) (Es d) p)
structure GL (m k P:Nat) (p:Int) (q:List AD×Int):Prop where
 len:q.1.length=m
 size:CL q.1<=k
 CT :∀e∈q.1,Ak e
 lo:p<=q.2
 hi:q.2<=p+P
theorem iP (a b:Nat):Int.tdiv (a:Int) (b:Int)=((a / b:Nat):Int):=rfl
theorem cB {a b:Nat}(hb:b≠0)(ha:a<=1000000):Sh.quo (a:Int) (b:Int)=some ((a / b:Nat):Int):=by
 have h:=sL a b;rw[fW (by omega),iP];generalize a / b=c at h⊢;rw[BE (by omega) (by omega)]
theorem V2 {b:List Int}{rec:Zi}{n:Nat}(R:RG b D F rec n){vars types:List Int}(ht:types.length<=3){bud:Nat}(hb:bud<=20){d:Nat}(hd:types.length≠0->bud / types.length=d)(hdn:d<n)(hd20:d<=20)(hv:vars.length+3*d<=400){M:Nat}(hM:2000000<=M){p:Int}(h0:0<=p)(h1:p+(types.length*Es d:Nat)<=400000):
  Ae (GV M rec b p F D vars types (bud:Int)) (GL types.length (types.length*G6 d) (types.length*Es d) p):=by
 have key:∀{N i:Nat},i<=types.length->types.length-i<N->∀(q:Int) (acc:List AD),p<=q->q<=p+(i*Es d:Nat)->acc.length=i->(∀e∈acc,Ak e)->CL acc<=i*G6 d->
   Ae (F6 b F D vars types (bud:Int) rec N i q acc) λr=>p<=r.1/\r.1<=p+(types.length*Es d:Nat)/\r.2.length=types.length/\(∀e∈r.2,Ak e)/\CL r.2<=types.length*G6 d:=by
  intro N i hi hN;refine BQ types.length (λN i=>∀(q:Int) (acc:List AD),p<=q->q<=p+(i*Es d:Nat)->acc.length=i->(∀e∈acc,Ak e)->CL acc<=i*G6 d->
   Ae (F6 b F D vars types (bud:Int) rec N i q acc) λr=>p<=r.1/\r.1<=p+(types.length*Es d:Nat)/\r.2.length=types.length/\(∀e∈r.2,Ak e)/\CL r.2<=types.length*G6 d) ?_ ?_ hi hN
  .intro n q acc g1 g2 g3 g4 g5;rw[F6,pK (by simp[AI])];exact Ae.some ⟨g1,g2,g3,g4,g5⟩
  .intro n i hi ih q acc g1 g2 g3 g4 g5;obtain⟨t,ht',_⟩:=Bh hi;have e2:(i+1)*Es d=i*Es d+Es d:=by rw[px];omega
   have e3:(i+1)*G6 d=i*G6 d+G6 d:=by rw[px];omega
   have e4:(i+1)*Es d<=types.length*Es d:=qC _ hi;rw[F6,pJ (by rw[pQ,AI];omega),BE (n:=(i:Int)+1) (by omega) (by omega),show ((i:Int)+1)=((i+1:Nat):Int) by omega];refine AR (Ax ht') ?_;rw[AI];refine AR (cB (by omega) (by omega)) ?_;rw[hd (by omega)];refine Ae.bind (R d vars t q hdn hd20 hv (by omega) (by omega)) λr hr=>?_;have r1:=hr.lo;have r2:=hr.hi;have r3:=hr.size;refine Ae.app (by simp;omega) (by simp;omega) ?_;refine ih r.2 (acc++[r.1]) (by omega) (by omega) (by simp;omega) (λe he=>?_) (by rw[JM,H7];omega);rcases pY.1 he with h5|h5
   .exact g4 e h5
   .rw[pU]at h5;rw[h5];exact hr.CT
 unfold GV;have:=key (pT _) (by omega:types.length-0<M) p [] (by omega) (by omega) rfl (by simp) (by simp[CL]);rw[tl]at this;refine Ae.bind this ?_;rintro⟨f,l⟩ ⟨a1,a2,a3,a4,a5⟩;exact Ae.some ⟨a3,a5,a4,a1,a2⟩
theorem ZO {r d n P:Nat}{p q0 o m:Int}{l:List AD}{q:Int}(ho:-1000000<=o/\o<=1000000)(hm:-1000000<=m/\m<=1000000)(h3:r<=3)(hn:3<=n)(hd:d*r<=n-1)(hq:p<=q0/\q0<=p+P)(hP:P<=40)(g:GL r (r*G6 d) (r*Es d) q0 (l,q)):GE (G6 n) (Es n) p (⟨o,m,l⟩,q):=by
 have s1:=g.size;have s2:=g.lo;have s3:=g.hi;have s4:=g.len;dsimp only at s1 s2 s3 s4;have hn1:=TL n;have hn2:=UD n;refine⟨?_,KO (Ds ho.1 ho.2) (Ds hm.1 hm.2) g.CT (by omega),by show p<=q;omega,?_⟩
 .rw[HR];rcases rK r with rfl|hr
  .omega
  .have:=(NH (d:=d) hr h3 hn hd).1;omega
 .show q<=_;rcases rK r with rfl|hr
  .have:40<=Es n:=by unfold Es;rw[pK (by omega)];omega
   omega
  .have:=(NH (d:=d) hr h3 hn hd).2;omega
end
end RC
namespace RC
open Go
section
variable {D : List AL} {F : List AU}
theorem Um (C:CX D F){b:List Int}{rec:Zi}{n:Nat}(R:RG b D F rec n){vars:List Int}(hn3:3<=n)(hn:n<=20)(hv:vars.length+3*n<=400){t d0:Int}{r d:Nat}(hr:(CO D d0).length=r)(hd:r≠0->(n-2) / r=d)(hdn:d+1<=n){M:Nat}(hM:2000000<=M){p:Int}(h0:0<=p)(h1:p+(r*Es d:Nat)<=400000){k0:Nat}{e0:AD}(hk0:en e0<=k0)(he0:Ak e0):
  Ae (EO M b F D vars t (n:Int) (CO D d0) rec M 0 p [e0]) λq=>p<=q.1/\q.1<=p+(r*Es d:Nat)/\q.2.length=r+1/\(∀e∈q.2,Ak e)/\CL q.2<=k0+r*G6 d:=by
 have hr3:=C.Wt d0;have key:∀{N i:Nat},i<=(CO D d0).length->(CO D d0).length-i<N->∀(q:Int) (acc:List AD),p<=q->q<=p+(i*Es d:Nat)->acc.length=i+1->(∀e∈acc,Ak e)->CL acc<=k0+i*G6 d->
   Ae (EO M b F D vars t (n:Int) (CO D d0) rec N i q acc) λq=>p<=q.1/\q.1<=p+(r*Es d:Nat)/\q.2.length=r+1/\(∀e∈q.2,Ak e)/\CL q.2<=k0+r*G6 d:=by
  intro N i hi hN;refine BQ (CO D d0).length (λN i=>∀(q:Int) (acc:List AD),p<=q->q<=p+(i*Es d:Nat)->acc.length=i+1->(∀e∈acc,Ak e)->CL acc<=k0+i*G6 d->
   Ae (EO M b F D vars t (n:Int) (CO D d0) rec N i q acc) λq=>p<=q.1/\q.1<=p+(r*Es d:Nat)/\q.2.length=r+1/\(∀e∈q.2,Ak e)/\CL q.2<=k0+r*G6 d) ?_ ?_ hi hN
  .intro m q acc g1 g2 g3 g4 g5;rw[EO,pK (by simp[AI])];subst hr;exact Ae.some ⟨g1,g2,g3,g4,g5⟩
  .intro m i hi ih q acc g1 g2 g3 g4 g5;obtain⟨c,hc,wI⟩:=Bh hi;obtain⟨cn,rfl,hcn⟩:=RO _ wI;obtain⟨fl,e1,e2',_⟩:=C.fields hcn hM;have e2:(i+1)*Es d=i*Es d+Es d:=by rw[px];omega
   have e3:(i+1)*G6 d=i*G6 d+G6 d:=by rw[px];omega
   have e4:(i+1)*Es d<=r*Es d:=qC _ (by omega);rw[EO,pJ (by rw[pQ,AI];omega),BE (n:=(i:Int)+1) (by omega) (by omega),show ((i:Int)+1)=((i+1:Nat):Int) by omega];refine AR (Ax hc) (AR e1 (AR (Jp (by omega) (by omega)) ?_));rw[AI,BE (n:=(n:Int)-2) (by omega) (by omega),show ((n:Int)-2)=((n-2:Nat):Int) by omega];refine AR (cB (by omega) (by omega)) ?_;rw[hr,hd (by omega)];refine Ae.bind (R d (vars++fl) t q (by omega) (by omega) (by rw[pW];omega) (by omega) (by omega)) λs hs=>?_;have r1:=hs.lo;have r2:=hs.hi;have r3:=hs.size;refine Ae.app (by simp;omega) (by simp;omega) ?_;refine ih s.2 (acc++[s.1]) (by omega) (by omega) (by simp;omega) (λe he=>?_) (by rw[JM,H7];omega);rcases pY.1 he with h5|h5
   .exact g4 e h5
   .rw[pU]at h5;rw[h5];exact hs.CT
 have:=key (pT _) (by omega:(CO D d0).length-0<M) p [e0] (by omega) (by omega) rfl (λe he=>by rw[pU]at he;rw[he];exact he0) (by rw[H7];omega);rw[tl]at this;exact this
theorem Pb (a r:Nat):a / r*r<=a:=Nat.div_mul_le_self a r
theorem Yj (C:CX D F){b:List Int}(Bb:Bk b){rec:Zi}{n:Nat}(R:RG b D F rec n){vars:List Int}(hn3:3<=n)(hn:n<=20)(hv:vars.length+3*n<=400){t:Int}{M:Nat}(hM:2000000<=M){p0 p:Int}(h0:0<=p0)(hp:p0<=p/\p<=p0+1)(h1:p0+(Es n:Int)<=400000):
  Ae (Jv M rec b p F D vars t (n:Int)) (GE (G6 n) (Es n) p0):=by
 have hpk:=UD n;unfold Jv;refine Ae.bind (G5 Bb ⟨by omega,by omega⟩ (by simp) (by simp)) λq hq=>?_;have q1:=hq.pos;have q2:=hq.mem;simp only[pL,pn,qc]at q2;refine Ae.bind (R:=λd=>0<=d/\d<=4) ?_ λd0 hd0=>?_
 .refine Ae.bind (R:=λ_=>True) ?_ λt32 _=>Cn (λ_=>Ae.some (by decide)) λ_=>Ae.some (by omega);refine BB (λ_=>Ae.some pA) λ_=>?_;exact AR (KK C.eJ) (Ae.some pA)
 refine AR (C.Ww hM) ?_;refine Ae.bind (NI C Bb hM (by omega) d0 (p:=q.2) (by omega) (by omega)) λlf vT=>?_;have l1:=vT.lo;have l2:=vT.hi;have l3:=vT.size;obtain⟨r,hr⟩ :∃r,(CO D d0).length=r:=⟨_,rfl⟩
 have hr3:=C.Wt d0;obtain⟨d,hd⟩ :∃d,d=(n-2) / r:=⟨_,rfl⟩
 have hdr:d*r<=n-2:=by rw[hd];exact Pb _ _
 have hdn:d<=n-2:=by rw[hd];exact sL _ _
 have hn1:=TL n;have fit:5+r*G6 d<=G6 n/\35+r*Es d<=Es n:=by
  rcases rK r with h|h
  .rw[h];constructor
   .have:5<=G6 n:=by unfold G6;rw[pK (by omega)];omega
    omega
   .omega
  .have:=NH (d:=d) h (by omega) hn3 (by omega);omega
 have:=Um (t:=t) C R hn3 hn hv (r:=r) (d:=d) hr (λ_=>hd.symm) (by omega) hM (p:=lf.2) (by omega) (by omega) (k0:=4) l3 vT.CT;refine Ae.bind this ?_;rintro⟨f16,l17⟩ ⟨a1,a2,a3,a4,a5⟩;dsimp only at a1 a2 a3 a4 a5⊢;exact AR rfl (Ae.some ⟨by rw[HR];omega,KO (Ds (by omega) (by omega)) (Ds (by omega) (by omega)) a4 (by omega),by show p0<=f16;omega,by show f16<=_;omega⟩)
theorem ZJ (C:CX D F){b:List Int}(Bb:Bk b){rec:Zi}{n:Nat}(R:RG b D F rec n){vars:List Int}(hn3:3<=n)(hn:n<=20)(hv:vars.length+3*n<=400){t:Int}{M:Nat}(hM:2000000<=M){p0 p:Int}(h0:0<=p0)(hp:p0<=p/\p<=p0+1)(h1:p0+(Es n:Int)<=400000):
  Ae (J5 M rec b p F D vars t (n:Int)) (GE (G6 n) (Es n) p0):=by
 have hpk:=UD n;have hn1:=TL n;have hdl:=C.dl;have fit1:5+G6 (n-2)<=G6 n/\40+Es (n-2)<=Es n:=by
  have:=NH (r:=1) (d:=n-2) (n:=n) (by omega) (by omega) hn3 (by omega);omega
 unfold J5;refine Ae.cont (R:=GE (G6 n) (Es n) p0) (S:=λf=>p0<=f/\f<=p0+2) ?_ (λr hr=>hr) λf3 hf3=>?_
 .refine Ae.bind (Ce Bb ⟨by omega,by omega⟩) λvy hq=>?_;have q1:=hq.pos;refine BB (λ_=>?_) λ_=>Ae.some (by show p0<=vy.2/\vy.2<=_;omega);have L1:∀{N i:Nat},i<=5->5-i<N->1<=i->Ae (Ez M b F D vars t (n:Int) vy rec N i) λv=>match v with|.inl r=>GE (G6 n) (Es n) p0 r|.inr _=>True:=by
   intro N i hi hN;refine BQ 5 (λN i=>1<=i->Ae (Ez M b F D vars t (n:Int) vy rec N i) λv=>match v with|.inl r=>GE (G6 n) (Es n) p0 r|.inr _=>True) ?_ ?_ hi hN
   .intro m _;rw[Ez,pK (by rw[pQ,AI];omega)];exact Ae.some pA
   .intro m i hi ih h1i;rw[Ez];refine BB (λhle=>?_) λ_=>Ae.some pA;rw[AI]at hle;obtain⟨dd,hdd,_⟩:=Bh (l:=D) (i:=i-1) (by omega);rw[BE (n:=(i:Int)-1) (by omega) (by omega),show ((i:Int)-1)=((i-1:Nat):Int) by omega,BE (n:=(i:Int)+1) (by omega) (by omega),show ((i:Int)+1)=((i+1:Nat):Int) by omega,BE (n:=(n:Int)-2) (by omega) (by omega),show ((n:Int)-2)=((n-2:Nat):Int) by omega];refine Ae.bind (R:=λ_=>True) ?_ λt45 _=>Cn (λ_=>?_) λ_=>ih (by omega)
    .refine AR (KK C.eJ) (Cn (λ_=>?_) λ_=>Ae.some pA);refine AR (Ax hdd) (BB (λ_=>?_) λ_=>Ae.some pA);exact Ae.bind (ND C (by omega) hM) λ_ _=>Ae.some pA
    .refine Ae.bind (NI C Bb hM (by omega) i (p:=vy.2) (by omega) (by omega)) λlf vT=>?_;have l1:=vT.lo;have l2:=vT.hi;have l3:=vT.size;refine AR (Ax hdd) ?_;refine Ae.bind (R (n-2) vars dd.from_ lf.2 (by omega) (by omega) (by omega) (by omega) (by omega)) λs hs=>?_;have r1:=hs.lo;have r2:=hs.hi;have r3:=hs.size;refine AR rfl (Ae.some (show GE (G6 n) (Es n) p0 _ from ⟨?_,KO (Ds (by omega) (by omega)) (Ds (by omega) (by omega)) (λe he=>?_) (by simp),by show p0<=s.2;omega,by show s.2<=_;omega⟩))
     .rw[HR];simp only[CL];omega
     .simp only[pL,pn,qc]at he;rcases he with rfl|rfl
      .exact vT.CT
      .exact hs.CT
  have l1:=L1 (N:=M) (i:=1) (by omega) (by omega) (by omega);rw[show ((1:Nat):Int)=1 from rfl]at l1;refine Ae.cont (R:=GE (G6 n) (Es n) p0) (S:=λ_=>True) ?_ (λr hr=>hr) λ_ _=>Ae.some (by show p0<=vy.2/\vy.2<=_;omega);exact l1.mono λv hv=>by cases v<;>exact hv
 .refine AR (C.Ww hM) ?_;have hc3:=C.Wt t;have ga:∀(types:List Int) (q:Int) (o m:Int),types.length<=3->p0<=q->q<=p0+10->-1000000<=o/\o<=1000000->-1000000<=m/\m<=1000000->
    Ae ((GV M rec b q F D vars types (Sh.w ((n:Int)-1))).bind λvl=>(Bg o m vl.1).bind λwM=>some (wM,vl.2)) (GE (G6 n) (Es n) p0):=by
   intro types q o m ht g1 g2 ho hm;rw[BE (n:=(n:Int)-1) (by omega) (by omega),show ((n:Int)-1)=((n-1:Nat):Int) by omega];obtain⟨d,hd⟩ :∃d,d=(n-1) / types.length:=⟨_,rfl⟩
   have hdr:d*types.length<=n-1:=by rw[hd];exact Pb _ _
   have hdn:d<=n-1:=by rw[hd];exact sL _ _
   have vg:0<types.length->40+types.length*Es d<=Es n:=λh=>(NH (d:=d) h ht hn3 hdr).2;have hle:(types.length*Es d:Nat)<=Es n:=by
    rcases rK types.length with h|h
    .rw[h];omega
    .have:=vg h;omega
   have hle2:q+(types.length*Es d:Nat)<=400000:=by
    rcases rK types.length with h|h
    .rw[h];omega
    .have:=vg h;omega
   refine Ae.bind (V2 R ht (bud:=n-1) (by omega) (d:=d) (λ_=>hd.symm) (by omega) (by omega) (by omega) hM (p:=q) (by omega) hle2) ?_;rintro⟨l,q'⟩ g;exact AR rfl (Ae.some (ZO (P:=10) ho hm ht hn3 hdr ⟨g1,g2⟩ (by omega) g))
  refine BB (λvA=>?_) λ_=>?_
  .rw[AI]at vA⊢;refine Ae.bind (Ce Bb ⟨by omega,by omega⟩) λq hq=>?_;have q1:=hq.pos;have q2:=hq.nn;have q3:=hq.lt (by omega);refine Ae.get q2 q3 λyR _ hc12=>?_;obtain⟨c,rfl,hc⟩:=RO _ hc12;obtain⟨fl,e1,e2,_⟩:=C.fields hc hM;have hnc:=C.nP;exact AR e1 (ga fl q.2 6 c e2 (by omega) (by omega) (by omega) (by omega))
  .refine BB (λ_=>?_) λ_=>?_
   .refine Ae.bind (NI C Bb hM (by omega) t (p:=f3) (by omega) (by omega)) λlf vT=>Ae.some ⟨by have:=vT.size;show en lf.1<=_;omega,vT.CT,by have:=vT.lo;show p0<=lf.2;omega,by have:=vT.hi;show lf.2<=_;omega⟩
   .refine Ae.bind (Ce Bb ⟨by omega,by omega⟩) λq hq=>?_;have q1:=hq.pos;refine BB (λ_=>ga [0] q.2 5 0 (by simp) (by omega) (by omega) (by omega) (by omega)) λ_=>?_;refine Ae.bind (G5 Bb ⟨by omega,by omega⟩ (by simp) (by simp)) λzG hq30=>?_;have o1:=hq30.pos;have o2:=hq30.mem;simp only[pL,pn,qc]at o2;exact ga [0,0] zG.2 zG.1 0 (by simp) (by omega) (by omega) (by omega) (by omega)
theorem dU (C:CX D F){b:List Int}(Bb:Bk b){rec:Zi}{n:Nat}(R:RG b D F rec n){vars:List Int}(hn:n<=20)(hv:vars.length+3*n<=400){t:Int}{M:Nat}(hM:2000000<=M){p:Int}(h0:0<=p)(h1:p+(Es n:Int)<=400000):
  Ae (MI M rec b p F D vars t (n:Int)) (GE (G6 n) (Es n) p):=by
 have hpk:=UD n;have hn1:=TL n;unfold MI;refine BB (λ_=>?_) λhn3'=>?_
 .refine Ae.bind (NI C Bb hM (by omega) t (p:=p) (by omega) (by omega)) λlf vT=>Ae.some ⟨by have:=vT.size;show en lf.1<=_;omega,vT.CT,vT.lo,by have:=vT.hi;show lf.2<=_;omega⟩
 have hn3:3<=n:=by omega
 refine Ae.cont (R:=GE (G6 n) (Es n) p) (S:=λf=>p<=f/\f<=p+1) ?_ (λr hr=>hr) λf8 hf8=>?_
 .refine Ae.bind (Ce Bb ⟨by omega,by omega⟩) λq hq=>?_;have q1:=hq.pos;refine BB (λ_=>?_) λ_=>?_
  .refine Ae.bind (NI C Bb hM (by omega) t (p:=q.2) (by omega) (by omega)) λlf vT=>Ae.some (show GE (G6 n) (Es n) p _ from ⟨by have:=vT.size;show en lf.1<=_;omega,vT.CT,by have:=vT.lo;show p<=lf.2;omega,by have:=vT.hi;show lf.2<=_;omega⟩)
  refine Ae.bind (R:=λ_=>True) ?_ λt19 _=>Cn (λ_=>?_) λ_=>?_
  .exact BB (λ_=>Ae.some pA) λ_=>Ae.some pA
  .have ed:Int.tdiv (n:Int) 2=((n / 2:Nat):Int):=rfl;have fit:2*G6 (n / 2)+1<=G6 n/\2*Es (n / 2)+2<=Es n:=by
    have hd0:¬ n / 2=0:=by omega
    have zT:¬ n=0:=by omega
    unfold G6 Es;rw[pK hd0,pK zT,pK hd0,pK zT];omega
   rw[ed];have hd:=sL n 2;have hd2:n / 2+1<=n:=by omega
   generalize n / 2=d at hd hd2 fit⊢;rw[BE (n:=(d:Int)) (by omega) (by omega)];refine Ae.bind (aZ C Bb hM (by omega) (p:=q.2) (by omega) (by omega)) λwH hq23=>?_;refine Ae.bind (R d vars wH.1 wH.2 (by omega) (by omega) (by omega) (by omega) (by omega)) λs hs=>?_;have r1:=hs.lo;have r2:=hs.hi;have r3:=hs.size;refine AR (Jp (by omega) (by simp)) ?_;refine Ae.bind (R d (vars++[wH.1]) t s.2 (by omega) (by omega) (by simp;omega) (by omega) (by omega)) λu hu=>?_;have u1:=hu.lo;have u2:=hu.hi;have u3:=hu.size;refine AR rfl (Ae.some (show GE (G6 n) (Es n) p _ from ⟨?_,KO (Ds (by omega) (by omega)) (Ds (by omega) (by omega)) (λe he=>?_) (by simp),by show p<=u.2;omega,by show u.2<=_;omega⟩))
   .rw[HR];simp only[CL];omega
   .simp only[pL,pn,qc]at he;rcases he with rfl|rfl
    .exact hs.CT
    .exact hu.CT
  have ga:∀(types:List Int) (q:Int) (o m:Int),types.length<=3->p<=q->q<=p+10->-1000000<=o/\o<=1000000->-1000000<=m/\m<=1000000->
    Ae ((GV M rec b q F D vars types (Sh.w ((n:Int)-1))).bind λvl=>(Bg o m vl.1).bind λwM=>some (Sum.inl (wM,vl.2))) λv:(AD×Int) ⊕ Int=>match v with|.inl r=>GE (G6 n) (Es n) p r|.inr f=>p<=f/\f<=p+1:=by
   intro types q o m ht g1 g2 ho hm;rw[BE (n:=(n:Int)-1) (by omega) (by omega),show ((n:Int)-1)=((n-1:Nat):Int) by omega];obtain⟨d,hd⟩ :∃d,d=(n-1) / types.length:=⟨_,rfl⟩
   have hdr:d*types.length<=n-1:=by rw[hd];exact Pb _ _
   have hdn:d<=n-1:=by rw[hd];exact sL _ _
   have vg:0<types.length->40+types.length*Es d<=Es n:=λh=>(NH (d:=d) h ht hn3 hdr).2;have hle2:q+(types.length*Es d:Nat)<=400000:=by
    rcases rK types.length with h|h
    .rw[h];omega
    .have:=vg h;omega
   refine Ae.bind (V2 R ht (bud:=n-1) (by omega) (d:=d) (λ_=>hd.symm) (by omega) (by omega) (by omega) hM (p:=q) (by omega) hle2) ?_;rintro⟨l,q'⟩ g;exact AR rfl (Ae.some (ZO (P:=10) ho hm ht hn3 hdr ⟨g1,g2⟩ (by omega) g))
  refine BB (λ_=>(ga [0,t,t] q.2 7 0 (by simp) (by omega) (by omega) (by omega) (by omega)).mono λv hv=>by cases v<;>exact hv) λ_=>?_;refine Ae.bind (R:=λ_=>True) ?_ λt35 _=>Cn (λ_=>?_) λ_=>?_
  .exact BB (λ_=>Ae.some pA) λ_=>BB (λ_=>Ae.some pA) λ_=>Ae.some pA
  .exact Ae.bind (Yj C Bb R hn3 hn hv hM h0 (p:=q.2) (by omega) h1) λr hr=>Ae.some (show GE (G6 n) (Es n) p _ from hr)
  refine Ae.bind (R:=λ_=>True) ?_ λt41 _=>Cn (λ_=>?_) λ_=>Ae.some (by show p<=q.2/\q.2<=_;omega)
  .exact BB (λ_=>Ae.some pA) λ_=>Ae.some pA
  refine Ae.bind (Yg C hM) λl hl=>?_;refine BB (λvA=>?_) λ_=>Ae.some (by show p<=q.2/\q.2<=_;omega);rw[AI]at vA⊢;refine Ae.bind (Ce Bb ⟨by omega,by omega⟩) λyp hq49=>?_;have a1:=hq49.pos;have a2:=hq49.nn;have a3:=hq49.lt (by omega);refine Ae.get a2 a3 λzb _ hc50=>?_;obtain⟨b0,b1⟩:=hl.2 zb hc50;refine Ae.get b0 b1 λg _ hg=>?_;have hF:=C.fl;exact (ga g.params yp.2 9 zb (C.par g hg) (by omega) (by omega) (by omega) (by omega)).mono λv hv=>by cases v<;>exact hv
 .exact Ae.bind (ZJ C Bb R hn3 hn hv hM h0 hf8 h1) λr hr=>Ae.some hr
theorem XQ (C:CX D F){b:List Int}(Bb:Bk b){M:Nat}(hM:2000000<=M):∀n:Nat,RG b D F (J4 M n) n
 |0=>λd _ _ _ hd=>absurd hd (by omega)
 |n+1=>λd vars t p hd h20 hv h0 h1=>by
  rw[J4];have R:RG b D F (J4 M n) d:=λd' vars' t' p' hd'=>XQ C Bb hM n d' vars' t' p' (by omega);exact dU C Bb R h20 hv hM h0 h1
theorem J3 (C:CX D F){b:List Int}(Bb:Bk b){M:Nat}(hM:2000000<=M){d:Nat}(hd:d<=20){vars:List Int}(hv:vars.length<=100)(t:Int){p:Int}(h0:0<=p)(h1:p<=300000):Ae (Hc M b p F D vars t (d:Int)) (GE (G6 d) (Es d) p):=by
 have:=lF hd;exact XQ C Bb hM M d vars t p (by omega) hd (by omega) h0 (by omega)
end
end RC
namespace RC
open Go
section
variable {D : List AL} {F : List AU}
structure GQ (k P:Nat) (p:Int) (q:Int×Int×Int×List AD):Prop where
 size:en ⟨q.2.1,q.2.2.1,q.2.2.2⟩<=k
 CT:Ak ⟨q.2.1,q.2.2.1,q.2.2.2⟩
 lo:p<=q.1
 hi:q.1<=p+P
theorem GE.parts {k P:Nat}{p:Int}{q:AD×Int}(h:GE k P p q):GQ k P p (q.2,q.1.op,q.1.num,q.1.kids):=by
 obtain⟨e,f⟩:=q;cases e;exact⟨h.size,h.CT,h.lo,h.hi⟩
theorem Xv (o n:Int)(a b:AD):en ⟨o,n,[a,b]⟩=1+en a+en b:=by rw[HR];simp only[CL];omega
theorem gP (o n:Int)(a b c:AD):en ⟨o,n,[a,b,c]⟩=1+en a+en b+en c:=by rw[HR];simp only[CL];omega
theorem Lv (o n:Int):en ⟨o,n,[]⟩=1:=by rw[HR];simp[CL]
theorem XG {o n:Int}{a b:AD}(ho:-1000000<=o/\o<=1000000)(hn:-1000000<=n/\n<=1000000)(ha:Ak a)(hb:Ak b):Ak ⟨o,n,[a,b]⟩:=
 KO (Ds ho.1 ho.2) (Ds hn.1 hn.2) (λe he=>by simp only[pL,pn,qc]at he;rcases he with rfl|rfl<;>assumption) (by simp)
theorem gv {o n:Int}{a b c:AD}(ho:-1000000<=o/\o<=1000000)(hn:-1000000<=n/\n<=1000000)(ha:Ak a)(hb:Ak b)(hc:Ak c):Ak ⟨o,n,[a,b,c]⟩:=
 KO (Ds ho.1 ho.2) (Ds hn.1 hn.2) (λe he=>by simp only[pL,pn,qc]at he;rcases he with rfl|rfl|rfl<;>assumption) (by simp)
theorem nW {o n:Int}{a:AD}(ho:-1000000<=o/\o<=1000000)(hn:-1000000<=n/\n<=1000000)(ha:Ak a):Ak ⟨o,n,[a]⟩:=
 KO (Ds ho.1 ho.2) (Ds hn.1 hn.2) (λe he=>by rw[pU]at he;rw[he];exact ha) (by simp)
theorem bB {b:List Int}(Bb:Bk b){M:Nat}(hM:2000000<=M)(t:Int){p:Int}(h0:0<=p)(h1:p<=500000):Ae (KW M b p t) (GE 20 20 p):=by
 unfold KW;have li:∀n:Int,0<=n->n<=100->Ak ⟨0,n,[]⟩:=λn a c=>GP ⟨by omega,by omega⟩ ⟨by omega,by omega⟩;refine AR rfl ?_;refine BB (λ_=>?_) λ_=>?_
 .refine AR rfl ?_;refine Ae.bind (Ce Bb ⟨by omega,by omega⟩) λq hq=>?_;have q1:=hq.pos;have q2:=hq.nn;have q3:=hq.lt (by omega);refine AR rfl (AR rfl ?_);refine Ae.bind (Ce Bb ⟨by omega,by omega⟩) λs hs=>?_;have s1:=hs.pos;have s2:=hs.nn;have s3:=hs.lt (by omega);have l6:Ak ⟨6,2,[]⟩:=GP ⟨by omega,by omega⟩ ⟨by omega,by omega⟩;refine AR rfl (AR rfl (Ae.some ⟨?_,?_,by show p<=s.2;omega,by show s.2<=_;omega⟩))
  .rw[gP,gP,Lv,Lv,Lv];omega
  .exact gv ⟨by omega,by omega⟩ ⟨by omega,by omega⟩ (gv ⟨by omega,by omega⟩ ⟨by omega,by omega⟩ l6 (li _ q2 (by omega)) l6) (li _ s2 (by omega)) l6
 .refine Ae.bind (Ce Bb ⟨by omega,by omega⟩) λq hq=>?_;have q1:=hq.pos;have q2:=hq.nn;have q3:=hq.lt (by omega);have key:∀(n:Nat) (N:Nat) (f o m:Int) (k:List AD),n<N->n<=3->p<=f->f+4*n<=p+13->Ak ⟨o,m,k⟩->en ⟨o,m,k⟩+2*n<=7->Ae (GH b N n f o m k) (GQ 20 20 p):=by
   intro n
   induction n with
   |zero=>
    intro N f o m k hN _ g1 g2 g3 g4;obtain⟨N,rfl⟩ :∃m,N=m+1:=⟨N-1,by omega⟩
    rw[GH,pK (by simp)];exact Ae.some ⟨by show en ⟨o,m,k⟩<=20;omega,g3,g1,by show f<=_;omega⟩
   |succ n ih=>
    intro N f o m k hN hn g1 g2 g3 g4;obtain⟨N,rfl⟩ :∃m,N=m+1:=⟨N-1,by omega⟩
    rw[GH,pJ (by rw[pQ];omega)];refine Ae.bind (PH Bb (by omega) (by omega)) λs hs=>?_;refine AR rfl (AR rfl ?_);rw[BE (by omega) (by omega),show (((n+1:Nat):Int)-1)=(n:Int) by omega];refine ih N s.2 6 1 _ (by omega) (by omega) (by omega) (by omega) (XG ⟨by omega,by omega⟩ ⟨by omega,by omega⟩ (GP ⟨by omega,by omega⟩ ⟨by omega,by omega⟩) g3) ?_;show en ⟨6,1,[⟨0,s.1,[]⟩,⟨o,m,k⟩]⟩+2*n<=7;rw[Xv,Lv];omega
  obtain⟨n,hn⟩:=pc q2;have h3:=key (n+1) M q.2 6 0 [] (by omega) (by omega) (by omega) (by omega) (GP ⟨by omega,by omega⟩ ⟨by omega,by omega⟩) (by rw[Lv];omega);rw[BE (by omega) (by omega),hn,show (1+(n:Int))=((n+1:Nat):Int) by omega];refine Ae.bind h3 ?_;rintro⟨f,o,m,k⟩ g;exact Ae.some ⟨g.size,g.CT,g.lo,g.hi⟩
theorem cF:G6 4=31:=rfl
theorem eY:Es 4=275:=rfl
theorem om:G6 3=22:=rfl
theorem ou:Es 3=195:=rfl
theorem mE:G6 16=139:=rfl
theorem np:Es 16=1235:=rfl
theorem ZG (C:CX D F){b:List Int}(Bb:Bk b){M:Nat}(hM:2000000<=M){p:Int}(h0:0<=p)(h1:p<=200000):Ae (Jq M b p F D) (GE 1000 3000 p):=by
 unfold Jq;refine Ae.bind (G5 Bb ⟨by omega,by omega⟩ (by simp) (by simp)) λq hq=>?_;have q1:=hq.pos;refine Ae.bind (J3 C Bb hM (d:=16) (by omega) (vars:=[q.1]) (by simp) 0 (p:=q.2) (by omega) (by omega)) λg hg=>?_;have g1:=hg.size;have g2:=hg.lo;have g3:=hg.hi;rw[mE]at g1;rw[np]at g3;refine Ae.bind (R:=GQ 141 2000 p) ?_ ?_
 .refine Ae.bind (Ce Bb ⟨by omega,by omega⟩) λs hs=>?_;have s1:=hs.pos;refine BB (λ_=>AR rfl (Ae.some ?_)) λ_=>Ae.some ?_
  .refine⟨?_,(nW ⟨by omega,by omega⟩ ⟨by omega,by omega⟩ hg.CT:Ak ⟨5,0,[g.1]⟩),by show p<=s.2;omega,by show s.2<=_;omega⟩;show en ⟨5,0,[g.1]⟩<=_;rw[HR,H7];omega
  .have:=hg.parts;exact⟨by have:=this.size;rw[mE]at this;dsimp only at this⊢;omega,this.CT,by show p<=s.2;omega,by show s.2<=_;omega⟩
 .rintro⟨f,o,m,k⟩ g;have a1:=g.size;have a2:=g.lo;have a3:=g.hi;have a4:=g.CT;dsimp only at a1 a2 a3 a4⊢;refine Ae.bind (bB Bb hM q.1 (p:=f) (by omega) (by omega)) λl hl=>?_;have l1:=hl.size;have l2:=hl.lo;have l3:=hl.hi;refine AR rfl (Ae.some ⟨by rw[Xv];omega,XG ⟨by omega,by omega⟩ ⟨by omega,by omega⟩ hl.CT a4,by show p<=l.2;omega,by show l.2<=_;omega⟩)
theorem Y6 (C:CX D F){b:List Int}(Bb:Bk b){M:Nat}(hM:2000000<=M){f:Nat}(hf:f<F.length){a:Nat}(ha:a<=3){p:Int}(h0:0<=p)(h1:p<=200000):Ae (Jz M b p F D f a) (GE 1000 3000 p):=by
 have yO:=C.fl;obtain⟨g,hg,zN⟩:=Bh hf;have hp3:=C.par g zN;unfold Jz;refine AR (Ax hg) (AR (Jp (by omega) (by simp)) ?_);have key:∀{N i:Nat},i<=g.params.length->g.params.length-i<N->∀(q:Int) (acc:List AD),p<=q->q<=p+i->acc.length=i->(∀e∈acc,Ak e)->CL acc<=3*i->
   Ae (Ev g b a N i q acc) λr=>p<=r.1/\r.1<=p+3/\r.2.length<=3/\(∀e∈r.2,Ak e)/\CL r.2<=9:=by
  intro N i hi hN;refine BQ g.params.length (λN i=>∀(q:Int) (acc:List AD),p<=q->q<=p+i->acc.length=i->(∀e∈acc,Ak e)->CL acc<=3*i->
   Ae (Ev g b a N i q acc) λr=>p<=r.1/\r.1<=p+3/\r.2.length<=3/\(∀e∈r.2,Ak e)/\CL r.2<=9) ?_ ?_ hi hN
  .intro n q acc g1 g2 g3 g4 g5;rw[Ev,pK (by simp[AI])];exact Ae.some ⟨g1,by show q<=_;omega,by show acc.length<=3;omega,g4,by show CL acc<=9;omega⟩
  .intro n i hi ih q acc g1 g2 g3 g4 g5;obtain⟨t,ht,_⟩:=Bh hi;rw[Ev,pJ (by rw[pQ,AI];omega),BE (n:=(i:Int)+1) (by omega) (by omega),show ((i:Int)+1)=((i+1:Nat):Int) by omega,AI];have ap:∀{e:AD} {s:Int},Ak e->en e<=3->p<=s->s<=p+(i+1:Nat)->Ae ((Sh.app acc [e] 40).bind λl68=>some (s,l68)) λr:Int×List AD=>p<=r.1/\r.1<=p+(i+1:Nat)/\r.2.length=i+1/\(∀e∈r.2,Ak e)/\CL r.2<=3*(i+1):=λhe h3 hs1 hs2=>
    Ae.app (by simp;omega) (by simp;omega) (Ae.some ⟨hs1,hs2,by simp;omega,λx hx=>by
     rcases pY.1 hx with h5|h5
     .exact g4 x h5
     .rw[pU]at h5;rw[h5];exact he,by show CL (acc++_)<=_;rw[JM,H7];omega⟩)
   have vi:∀{n:Int},0<=n->n<=100->Ak ⟨12,n,[]⟩:=λa c=>GP ⟨by omega,by omega⟩ ⟨by omega,by omega⟩;refine Ae.bind (R:=λr:Int×List AD=>p<=r.1/\r.1<=p+(i+1:Nat)/\r.2.length=i+1/\(∀e∈r.2,Ak e)/\CL r.2<=3*(i+1)) ?_ λr hr=>ih r.1 r.2 hr.1 hr.2.1 hr.2.2.1 hr.2.2.2.1 hr.2.2.2.2;refine BB (λ_=>?_) λ_=>?_
   .rw[BE (n:=(g.params.length:Int)+1) (by omega) (by omega)];exact AR rfl (ap (vi (by omega) (by omega)) (by rw[Lv];omega) g1 (by omega))
   .refine Ae.bind (R:=λr:Bool×Int=>p<=r.2/\r.2<=p+(i+1:Nat)) ?_ ?_
    .refine AR (Ax ht) (BB (λ_=>?_) λ_=>Ae.some (by show p<=q/\q<=_;omega));exact Ae.bind (Ce Bb ⟨by omega,by omega⟩) λs hs=>Ae.some (by have:=hs.pos;show p<=s.2/\s.2<=_;omega)
    .rintro⟨t70,f71⟩ ⟨a1,a2⟩;dsimp only at a1 a2⊢;refine Cn (λ_=>?_) λ_=>?_
     .exact AR rfl (AR rfl (AR rfl (ap (XG ⟨by omega,by omega⟩ ⟨by omega,by omega⟩ (vi (by omega) (by omega)) (vi (by omega) (by omega))) (by rw[Xv,Lv,Lv];omega) a1 a2)))
     .exact AR rfl (ap (vi (by omega) (by omega)) (by rw[Lv];omega) a1 a2)
 have k:=key (pT _) (by omega:g.params.length-0<M) p [] (by omega) (by omega) rfl (by simp) (by simp[CL]);rw[tl]at k;refine Ae.bind k ?_;rintro⟨f13,vc⟩ ⟨a1,a2,a3,a4,a5⟩;dsimp only at a1 a2 a3 a4 a5⊢;have again:Ak ⟨9,f,vc⟩:=KO (Ds (by omega) (by omega)) (Ds (by omega) (by omega)) a4 (by omega);have ea:en ⟨9,(f:Int),vc⟩<=10:=by rw[HR];omega
 refine AR rfl ?_;have hvl:(g.params++[(0:Int),1]).length<=100:=by simp;omega
 refine Ae.bind (R:=GQ 200 1000 p) ?_ ?_
 .refine Ae.bind (R:=λr:Bool×Int=>p<=r.2/\r.2<=p+4) ?_ ?_
  .refine BB (λ_=>?_) λ_=>Ae.some (by show p<=f13/\f13<=_;omega);exact Ae.bind (Ce Bb ⟨by omega,by omega⟩) λs hs=>Ae.some (by have:=hs.pos;show p<=s.2/\s.2<=_;omega)
  .rintro⟨t30,f31⟩ ⟨b1,b2⟩;dsimp only at b1 b2⊢;refine Cn (λ_=>?_) λ_=>?_
   .refine Ae.bind (J3 C Bb hM (d:=4) (by omega) hvl 0 (p:=f31) (by omega) (by omega)) λyJ hq=>?_;have c1:=hq.size;have c2:=hq.lo;have c3:=hq.hi;rw[cF]at c1;rw[eY]at c3;refine Ae.bind (R:=λr:Int×Int×List AD=>en ⟨r.1,r.2.1,r.2.2⟩<=31/\Ak ⟨r.1,r.2.1,r.2.2⟩) ?_ ?_
    .refine Ae.bind (R:=λ_=>True) ?_ λt43 _=>Cn (λ_=>?_) λ_=>Ae.some ?_
     .refine BB (λh=>?_) λ_=>Ae.some pA;rw[AI]at h;exact Ae.get (by omega) (by omega) λ_ _ _=>Ae.some pA
     .rw[AI];refine AR rfl (AR rfl (AR rfl (Ae.some ⟨?_,?_⟩)))
      .show en ⟨11,0,[⟨12,0,[]⟩,⟨12,(g.params.length:Int),[]⟩]⟩<=31;rw[Xv,Lv,Lv];omega
      .exact (XG ⟨by omega,by omega⟩ ⟨by omega,by omega⟩ (GP ⟨by omega,by omega⟩ ⟨by omega,by omega⟩) (GP ⟨by omega,by omega⟩ ⟨by omega,by omega⟩):Ak ⟨11,0,[⟨12,0,[]⟩,⟨12,(g.params.length:Int),[]⟩]⟩)
     .have:=hq.parts;exact⟨by have:=this.size;dsimp only at this⊢;rw[cF]at this;exact this,this.CT⟩
    .rintro⟨f37,f38,f39⟩ ⟨d1,d2⟩;dsimp only at d1 d2⊢;refine AR rfl (Ae.some ⟨?_,(XG ⟨by omega,by omega⟩ ⟨by omega,by omega⟩ d2 again:Ak ⟨6,1,[⟨f37,f38,f39⟩,⟨9,(f:Int),vc⟩]⟩),by show p<=yJ.2;omega,by show yJ.2<=_;omega⟩);show en ⟨6,1,[⟨f37,f38,f39⟩,⟨9,(f:Int),vc⟩]⟩<=200;rw[Xv];omega
   .refine BB (λ_=>?_) λ_=>Ae.some ⟨by show en ⟨9,(f:Int),vc⟩<=200;omega,again,by show p<=f31;omega,by show f31<=_;omega⟩;refine Ae.bind (G5 Bb ⟨by omega,by omega⟩ (by simp) (by simp)) λq53 hq53=>?_;have o1:=hq53.pos;have o2:=hq53.mem;simp only[pL,pn,qc]at o2;refine Ae.bind (J3 C Bb hM (d:=4) (by omega) hvl 0 (p:=q53.2) (by omega) (by omega)) λq54 hq=>?_;have c1:=hq.size;have c2:=hq.lo;have c3:=hq.hi;rw[cF]at c1;rw[eY]at c3;refine AR rfl (Ae.some ⟨?_,(XG ⟨by omega,by omega⟩ ⟨by omega,by omega⟩ hq.CT again:Ak ⟨q53.1,0,[q54.1,⟨9,(f:Int),vc⟩]⟩),by show p<=q54.2;omega,by show q54.2<=_;omega⟩);show en ⟨q53.1,0,[q54.1,⟨9,(f:Int),vc⟩]⟩<=200;rw[Xv];omega
 .rintro⟨f20,o,m,k⟩ g20;have b1:=g20.size;have b2:=g20.lo;have b3:=g20.hi;have b4:=g20.CT;dsimp only at b1 b2 b3 b4⊢;refine AR rfl ?_;refine Ae.bind (J3 C Bb hM (d:=4) (by omega) (vars:=g.params) (by omega) g.result (p:=f20) (by omega) (by omega)) λq hq=>?_;have c1:=hq.size;have c2:=hq.lo;have c3:=hq.hi;rw[cF]at c1;rw[eY]at c3;refine AR rfl (Ae.some ⟨by rw[gP,Lv];omega,gv ⟨by omega,by omega⟩ ⟨by omega,by omega⟩ (GP ⟨by omega,by omega⟩ ⟨by omega,by omega⟩) hq.CT b4,by show p<=q.2;omega,by show q.2<=_;omega⟩)
end
end RC
namespace RC
open Go
section
variable {D : List AL} {F : List AU}
theorem Yx (C:CX D F){b:List Int}(Bb:Bk b){M:Nat}(hM:2000000<=M){f:Nat}(hf:f<F.length){g:AU}(hg:F[f]?=some g)(hg1:0<g.params.length){p:Int}(h0:0<=p)(h1:p<=200000):Ae (Jr M b p F D f) (GE 1000 3000 p):=by
 have yO:=C.fl;have zN:=oz hg;have hp3:=C.par g zN;unfold Jr;have vi:∀{n:Int},0<=n->n<=100->Ak ⟨12,n,[]⟩:=λa c=>GP ⟨by omega,by omega⟩ ⟨by omega,by omega⟩;refine AR (Ax hg) ?_;rw[AI,BE (n:=(g.params.length:Int)+2) (by omega) (by omega)];refine AR rfl (AR rfl ?_);have key:∀{N i:Nat},i<=g.params.length->g.params.length-i<N->∀(x y:List AD),x.length=i->y.length=i->(∀e∈x,Ak e)->(∀e∈y,Ak e)->CL x<=i->CL y<=i->
   Ae (Ew g N i x y) λr=>r.1.length<=3/\r.2.length<=3/\(∀e∈r.1,Ak e)/\(∀e∈r.2,Ak e)/\CL r.1<=3/\CL r.2<=3:=by
  intro N i hi hN;refine BQ g.params.length (λN i=>∀(x y:List AD),x.length=i->y.length=i->(∀e∈x,Ak e)->(∀e∈y,Ak e)->CL x<=i->CL y<=i->
   Ae (Ew g N i x y) λr=>r.1.length<=3/\r.2.length<=3/\(∀e∈r.1,Ak e)/\(∀e∈r.2,Ak e)/\CL r.1<=3/\CL r.2<=3) ?_ ?_ hi hN
  .intro n x y g1 g2 g3 g4 g5 g6;rw[Ew,pK (by simp[AI])];exact Ae.some ⟨by show x.length<=3;omega,by show y.length<=3;omega,g3,g4,by show CL x<=3;omega,by show CL y<=3;omega⟩
  .intro n i hi ih x y g1 g2 g3 g4 g5 g6;rw[Ew,pJ (by rw[pQ,AI];omega),BE (n:=(i:Int)+1) (by omega) (by omega),show ((i:Int)+1)=((i+1:Nat):Int) by omega];have hm:∀(l:List AD),(∀e∈l,Ak e)->∀e∈l++[AD.mk 12 (i:Int) []],Ak e:=λl hl e he=>by
    rcases pY.1 he with h5|h5
    .exact hl e h5
    .rw[pU]at h5;rw[h5];exact vi (by omega) (by omega)
   refine AR rfl (Ae.app (by simp;omega) (by simp;omega) (AR rfl (Ae.app (by simp;omega) (by simp;omega) ?_)));exact ih _ _ (by simp;omega) (by simp;omega) (hm x g3) (hm y g4) (by rw[JM,H7,Lv];omega) (by rw[JM,H7,Lv];omega)
 have k:=key (i:=1) (by omega) (by omega:g.params.length-1<M) [⟨12,(g.params.length:Int),[]⟩] [⟨12,(g.params.length:Int)+2,[]⟩] rfl rfl
  (λe he=>by rw[pU]at he;rw[he];exact vi (by omega) (by omega)) (λe he=>by rw[pU]at he;rw[he];exact vi (by omega) (by omega)) (by rw[H7,Lv];omega) (by rw[H7,Lv];omega)
 rw[show ((1:Nat):Int)=1 from rfl]at k;refine Ae.bind k ?_;rintro⟨vc,zj⟩ ⟨a1,a2,a3,a4,a5,a6⟩;dsimp only at a1 a2 a3 a4 a5 a6⊢;have i18:Ak ⟨9,f,vc⟩:=KO (Ds (by omega) (by omega)) (Ds (by omega) (by omega)) a3 (by omega);have i20:Ak ⟨9,f,zj⟩:=KO (Ds (by omega) (by omega)) (Ds (by omega) (by omega)) a4 (by omega);have e18:en ⟨9,(f:Int),vc⟩<=4:=by rw[HR];omega
 have e20:en ⟨9,(f:Int),zj⟩<=4:=by rw[HR];omega
 have hvl:(g.params++[(3:Int),0,3]).length<=100:=by simp;omega
 refine AR rfl (AR rfl (AR (Jp (by omega) (by simp)) ?_));refine Ae.bind (J3 C Bb hM (d:=4) (by omega) hvl 0 (p:=p) (by omega) (by omega)) λwH hq=>?_;have c1:=hq.size;have c2:=hq.lo;have c3:=hq.hi;rw[cF]at c1;rw[eY]at c3;refine AR rfl (AR rfl ?_);refine Ae.bind (R:=GQ 200 1000 p) ?_ ?_
 .refine BB (λ_=>?_) λ_=>Ae.some ⟨?_,(XG ⟨by omega,by omega⟩ ⟨by omega,by omega⟩ i18 (XG ⟨by omega,by omega⟩ ⟨by omega,by omega⟩ hq.CT i20):Ak ⟨1,0,[⟨9,(f:Int),vc⟩,⟨1,0,[wH.1,⟨9,(f:Int),zj⟩]⟩]⟩),by show p<=wH.2;omega,by show wH.2<=_;omega⟩
  .refine AR (Jp (by omega) (by simp)) ?_;refine Ae.bind (J3 C Bb hM (d:=4) (by omega) hvl 0 (p:=wH.2) (by omega) (by omega)) λzZ hq2=>?_;have d1:=hq2.size;have d2:=hq2.lo;have d3:=hq2.hi;rw[cF]at d1;rw[eY]at d3;refine AR rfl (AR rfl (Ae.some ⟨?_,(gv ⟨by omega,by omega⟩ ⟨by omega,by omega⟩ i18 hq2.CT (vi (by omega) (by omega)):Ak ⟨6,3,[⟨9,(f:Int),vc⟩,zZ.1,⟨12,(g.params.length:Int)+2,[]⟩]⟩),by show p<=zZ.2;omega,by show zZ.2<=_;omega⟩));show en ⟨6,3,[⟨9,(f:Int),vc⟩,zZ.1,⟨12,(g.params.length:Int)+2,[]⟩]⟩<=200;rw[gP,Lv];omega
  .show en ⟨1,0,[⟨9,(f:Int),vc⟩,⟨1,0,[wH.1,⟨9,(f:Int),zj⟩]⟩]⟩<=200;rw[Xv,Xv];omega
 .rintro⟨f20,o,m,k⟩ g20;have b1:=g20.size;have b2:=g20.lo;have b3:=g20.hi;have b4:=g20.CT;dsimp only at b1 b2 b3 b4⊢;refine AR rfl ?_;refine Ae.bind (J3 C Bb hM (d:=4) (by omega) (vars:=g.params) (by omega) g.result (p:=f20) (by omega) (by omega)) λq hq=>?_;have c1:=hq.size;have c2:=hq.lo;have c3:=hq.hi;rw[cF]at c1;rw[eY]at c3;refine AR rfl (Ae.some ⟨by rw[gP,Lv];omega,gv ⟨by omega,by omega⟩ ⟨by omega,by omega⟩ (vi (by omega) (by omega)) hq.CT b4,by show p<=q.2;omega,by show q.2<=_;omega⟩)
theorem Yo (C:CX D F){b:List Int}(Bb:Bk b){M:Nat}(hM:2000000<=M){f:Nat}(hf:f<F.length){g:AU}(hg:F[f]?=some g)(hg1:0<g.params.length){p:Int}(h0:0<=p)(h1:p<=200000):Ae (J6 M b p F D f) (GE 1000 3000 p):=by
 have yO:=C.fl;have zN:=oz hg;have hp3:=C.par g zN;unfold J6;have vi:∀{n:Int},0<=n->n<=100->Ak ⟨12,n,[]⟩:=λa c=>GP ⟨by omega,by omega⟩ ⟨by omega,by omega⟩;have li:∀{n:Int},0<=n->n<=100->Ak ⟨0,n,[]⟩:=λa c=>GP ⟨by omega,by omega⟩ ⟨by omega,by omega⟩;refine AR (Ax hg) (AR rfl (AR rfl (AR rfl ?_)));have key:∀{N i:Nat},i<=g.params.length->g.params.length-i<N->∀(q:Int) (acc:List AD),p<=q->q<=p+30*i->acc.length=i->(∀e∈acc,Ak e)->CL acc<=4*i->
   Ae (Et M g b F D N i q acc) λr=>p<=r.1/\r.1<=p+90/\r.2.length<=3/\(∀e∈r.2,Ak e)/\CL r.2<=12:=by
  intro N i hi hN;refine BQ g.params.length (λN i=>∀(q:Int) (acc:List AD),p<=q->q<=p+30*i->acc.length=i->(∀e∈acc,Ak e)->CL acc<=4*i->
   Ae (Et M g b F D N i q acc) λr=>p<=r.1/\r.1<=p+90/\r.2.length<=3/\(∀e∈r.2,Ak e)/\CL r.2<=12) ?_ ?_ hi hN
  .intro n q acc g1 g2 g3 g4 g5;rw[Et,pK (by simp[AI])];exact Ae.some ⟨g1,by show q<=_;omega,by show acc.length<=3;omega,g4,by show CL acc<=12;omega⟩
  .intro n i hi ih q acc g1 g2 g3 g4 g5;obtain⟨t,ht,_⟩:=Bh hi;rw[Et,pJ (by rw[pQ,AI];omega),BE (n:=(i:Int)+1) (by omega) (by omega),show ((i:Int)+1)=((i+1:Nat):Int) by omega];refine AR (Ax ht) ?_;refine Ae.bind (NI C Bb hM (by omega) t (p:=q) (by omega) (by omega)) λs hs=>?_;have s1:=hs.size;have s2:=hs.lo;have s3:=hs.hi;refine Ae.app (by simp;omega) (by simp;omega) ?_;refine ih s.2 (acc++[s.1]) (by omega) (by omega) (by simp;omega) (λe he=>?_) (by rw[JM,H7];omega);rcases pY.1 he with h5|h5
   .exact g4 e h5
   .rw[pU]at h5;rw[h5];exact hs.CT
 have k:=key (i:=1) (by omega) (by omega:g.params.length-1<M) p [⟨2,0,[⟨12,0,[]⟩,⟨0,1,[]⟩]⟩] (by omega) (by omega) rfl (λe he=>by rw[pU]at he;rw[he];exact XG ⟨by omega,by omega⟩ ⟨by omega,by omega⟩ (vi (by omega) (by omega)) (li (by omega) (by omega))) (by rw[H7,Xv,Lv,Lv];omega);rw[show ((1:Nat):Int)=1 from rfl]at k;refine Ae.bind k ?_;rintro⟨f13,vc⟩ ⟨a1,a2,a3,a4,a5⟩;dsimp only at a1 a2 a3 a4 a5⊢;have again:Ak ⟨9,f,vc⟩:=KO (Ds (by omega) (by omega)) (Ds (by omega) (by omega)) a4 (by omega);have ea:en ⟨9,(f:Int),vc⟩<=13:=by rw[HR];omega
 refine AR rfl ?_;refine Ae.bind (R:=GQ 200 1000 p) ?_ ?_
 .refine BB (λ_=>?_) λ_=>Ae.some ⟨by show en ⟨9,(f:Int),vc⟩<=200;omega,again,by show p<=f13;omega,by show f13<=_;omega⟩;refine Ae.bind (J3 C Bb hM (d:=3) (by omega) (vars:=g.params) (by omega) 0 (p:=f13) (by omega) (by omega)) λyK hq=>?_;have c1:=hq.size;have c2:=hq.lo;have c3:=hq.hi;rw[om]at c1;rw[ou]at c3;refine AR rfl (Ae.some ⟨?_,(XG ⟨by omega,by omega⟩ ⟨by omega,by omega⟩ hq.CT again:Ak ⟨6,1,[yK.1,⟨9,(f:Int),vc⟩]⟩),by show p<=yK.2;omega,by show yK.2<=_;omega⟩);show en ⟨6,1,[yK.1,⟨9,(f:Int),vc⟩]⟩<=200;rw[Xv];omega
 .rintro⟨f20,o,m,k⟩ g20;have b1:=g20.size;have b2:=g20.lo;have b3:=g20.hi;have b4:=g20.CT;dsimp only at b1 b2 b3 b4⊢;refine AR rfl (AR rfl (AR rfl ?_));refine Ae.bind (J3 C Bb hM (d:=4) (by omega) (vars:=g.params) (by omega) g.result (p:=f20) (by omega) (by omega)) λq hq=>?_;have c1:=hq.size;have c2:=hq.lo;have c3:=hq.hi;rw[cF]at c1;rw[eY]at c3;refine AR rfl (Ae.some ⟨by rw[gP,Xv,Lv,Lv];omega,gv ⟨by omega,by omega⟩ ⟨by omega,by omega⟩ (XG ⟨by omega,by omega⟩ ⟨by omega,by omega⟩ (li (by omega) (by omega)) (vi (by omega) (by omega))) b4 hq.CT,by show p<=q.2;omega,by show q.2<=_;omega⟩)
theorem TW (C:CX D F){b:List Int}(Bb:Bk b){M:Nat}(hM:2000000<=M){vars:List Int}(hv:vars.length<=100)(t:Int){B:Nat}(hB:B<=18){p:Int}(h0:0<=p)(h1:p<=200000):Ae (JO M b p F D vars t (B:Int)) (GE 200 3000 p):=by
 have szle:∀d,d<=18->G6 d<=157:=λd h=>by unfold G6;split<;>omega
 have pkle:∀d,d<=18->Es d<=1395:=λd h=>by unfold Es;split<;>omega
 have key:∀(B N:Nat) (f o m:Int) (k:List AD),B<N->B<=18->p<=f->f+80*B<=p+2900->Ak ⟨o,m,k⟩->en ⟨o,m,k⟩<=200->Ae (Gn M b F D vars t N B f o m k) (GQ 200 3000 p):=by
  intro B
  induction B using Nat.strongRecOn with
  |_ B ih=>
   intro N f o m k hN hB g1 g2 g3 g4;obtain⟨N,rfl⟩ :∃m,N=m+1:=⟨N-1,by omega⟩
   rw[Gn];refine Ae.bind (R:=λc=>c=true->2<B) ?_ λc hc=>Cn (λh=>?_) λ_=>Ae.some ⟨g4,g3,g1,by show f<=_;omega⟩
   .refine AR (Gm (by have:=HR o m k;show CL k<=_;omega) hM) (BB (λ_=>Ae.some λh=>by rw[pQ]at h;omega) λ_=>Ae.some λh=>by cases h)
   .have hB2:=hc h;have ed:Int.tdiv (B:Int) 2=((B / 2:Nat):Int):=rfl;have hd:2*(B / 2)<=B:=by omega
    have hd1:1<=B / 2:=by omega
    have hd3:B / 2<B:=by omega
    rw[ed];generalize B / 2=d at hd hd1 hd3⊢;have hpk:Es d<=80*d:=by unfold Es;rw[pK (by omega)];omega
    rw[BE (n:=(d:Int)) (by omega) (by omega)];refine Ae.bind (J3 C Bb hM (d:=d) (by omega) hv t (p:=f) (by omega) (by omega)) λq hq=>?_;have q1:=hq.lo;have q2:=hq.hi;have q3:=hq.size;have q4:=szle d (by omega);have q5:=hq.parts;exact ih d hd3 N q.2 q.1.op q.1.num q.1.kids (by omega) (by omega) (by omega) (by omega) q5.CT (by have:=q5.size;dsimp only at this;omega)
 unfold JO;refine Ae.bind (J3 C Bb hM (d:=B) (by omega) hv t (p:=p) (by omega) (by omega)) λq hq=>?_;have q1:=hq.lo;have q2:=hq.hi;have q3:=hq.size;have q4:=szle B hB;have q6:=pkle B hB;have q5:=hq.parts;refine Ae.bind (key B M q.2 q.1.op q.1.num q.1.kids (by omega) hB (by omega) (by omega) q5.CT (by have:=q5.size;dsimp only at this;omega)) ?_;rintro⟨f,o,m,k⟩ g;exact Ae.some ⟨g.size,g.CT,g.lo,g.hi⟩
theorem aU {l:List Int}(hl:l.length<=3){x:Int}{M:Nat}(hM:2000000<=M):Ae (KV M l x) λr=>r=-1∨(0<=r/\r<(l.length:Int)):=by
 have key:∀{N i:Nat},i<=l.length->l.length-i<N->Ae (FR l x N i) λv=>match v with|.inl r=>0<=r/\r<(l.length:Int)|.inr _=>True:=by
  intro N i hi hN;refine BQ l.length (λN i=>Ae (FR l x N i) λv=>match v with|.inl r=>0<=r/\r<(l.length:Int)|.inr _=>True) ?_ ?_ hi hN
  .intro n;rw[FR,pK (by simp[AI])];exact Ae.some pA
  .intro n i hi ih;obtain⟨y,hy,_⟩:=Bh hi;rw[FR,pJ (by rw[pQ,AI];omega),BE (n:=(i:Int)+1) (by omega) (by omega),show ((i:Int)+1)=((i+1:Nat):Int) by omega];refine AR (Ax hy) (BB (λ_=>Ae.some (show 0<=(i:Int)/\(i:Int)<_ by omega)) λ_=>ih)
 unfold KV;have k:=key (pT _) (by omega:l.length-0<M);rw[tl]at k;refine Ae.cont (R:=λr=>0<=r/\r<(l.length:Int)) (S:=λ_=>True) (k.mono λv hv=>by cases v<;>exact hv) (λr hr=>.inr hr) λ_ _=>Ae.some (.inl rfl)
theorem dO (C:CX D F){b:List Int}(Bb:Bk b){M:Nat}(hM:2000000<=M){f:Nat}(hf:f<F.length){p:Int}(h0:0<=p)(h1:p<=150000):Ae (LZ M b p F D f) (GE 1000 7000 p):=by
 have yO:=C.fl;obtain⟨g,hg,zN⟩:=Bh hf;have hp3:=C.par g zN;unfold LZ;refine AR (Ax hg) ?_;refine Ae.bind (aU hp3 hM) λa ha=>?_;refine AR rfl ?_;refine Ae.bind (Ce Bb ⟨by omega,by omega⟩) λvU hq=>?_;have q1:=hq.pos;have fin:∀{x:Option (AD×Int)},Ae x (GE 1000 3000 vU.2)->Ae (Option.bind x λwz=>some (wz.2,wz.1.op,wz.1.num,wz.1.kids)) (GQ 1000 3500 p):=λhx=>
  Ae.bind hx λr hr=>Ae.some (by
   have:=hr.parts;exact⟨this.size,this.CT,by have:=this.lo;dsimp only at this⊢;omega,by have:=this.hi;dsimp only at this⊢;omega⟩)
 refine Ae.bind (R:=GQ 1000 3500 p) ?_ ?_
 .refine Ae.bind (R:=λ_=>True) (BB (λ_=>Ae.some pA) λ_=>Ae.some pA) λt25 _=>Cn (λ_=>fin (ZG C Bb hM (by omega) (by omega))) λ_=>?_;refine Ae.bind (R:=λt=>t=true->0<=a) ?_ λt30 ht30=>Cn (λh=>?_) λ_=>?_
  .refine BB (λ_=>BB (λh=>?_) λ_=>Ae.some λh=>by cases h) λ_=>Ae.some λh=>by cases h
   exact BB (λ_=>Ae.some λ_=>h) λ_=>Ae.some λ_=>h
  .have ha0:=ht30 h;obtain⟨an,rfl⟩:=pc ha0;exact fin (Y6 C Bb hM hf (by omega) (by omega) (by omega))
  have pos:∀(z:Int),Ae (if decide (vU.1<3)=true then
      if decide (0<Sh.len g.params)=true then
       (Sh.get g.params 0).bind λc52=>
       if decide (c52=z)=true then
        if decide (g.result=0)=true then
         some true
        else
         some (decide (g.result=(if z=3 then 3 else 1)))
       else
        some false
      else
       some false
     else
      some false) λt=>t=true->0<g.params.length:=by
   intro z;refine BB (λ_=>BB (λh=>?_) λ_=>Ae.some λh=>by cases h) λ_=>Ae.some λh=>by cases h
   rw[AI]at h;refine Ae.get (by omega) (by omega) λc _ _=>?_;refine BB (λ_=>BB (λ_=>Ae.some λ_=>by omega) λ_=>Ae.some λ_=>by omega) λ_=>Ae.some λh=>by cases h
  refine Ae.bind (pos 3) λt35 ht35=>Cn (λh=>fin (Yx C Bb hM hf hg (ht35 h) (by omega) (by omega))) λ_=>?_;refine Ae.bind (pos 0) λt40 ht40=>Cn (λh=>fin (Yo C Bb hM hf hg (ht40 h) (by omega) (by omega))) λ_=>?_;have:=TW C Bb hM (vars:=g.params) (by omega) g.result (B:=18) (by omega) (p:=vU.2) (by omega) (by omega);exact fin (this.mono λr hr=>hr.up (by omega) (by omega))
 .rintro⟨f12,o,m,k⟩ g12;have b1:=g12.size;have b2:=g12.lo;have b3:=g12.hi;have b4:=g12.CT;dsimp only at b1 b2 b3 b4⊢;refine AR (Gm (by have:=HR o m k;show CL k<=_;omega) hM) (BB (λ_=>?_) λ_=>Ae.some ⟨b1,b4,b2,by show f12<=_;omega⟩);have:=TW C Bb hM (vars:=g.params) (by omega) g.result (B:=12) (by omega) (p:=f12) (by omega) (by omega);refine Ae.bind this λr hr=>Ae.some ⟨by have:=hr.size;show en r.1<=_;omega,hr.CT,by have:=hr.lo;show p<=r.2;omega,by have:=hr.hi;show r.2<=_;omega⟩
end
end RC
namespace RC
open Go
theorem mR (n:Int):HB (Sh.w n):=by
 unfold Sh.w HB;rw[IntKind.wrap_i64];omega
def cn (l:List Int):D6:=⟨l⟩
def gD:List AL:=[⟨0,0,[⟨[]⟩,⟨[0,1]⟩]⟩,⟨0,0,[]⟩,⟨0,0,[⟨[]⟩,⟨[3,0,3]⟩]⟩]
def gL:List AL:=[⟨0,0,[⟨[1,3]⟩]⟩,⟨1,0,[]⟩,⟨0,0,[⟨[1,1,0]⟩,⟨[0]⟩,⟨[3]⟩]⟩,⟨0,1,[]⟩]
def GD (D:List AL):Prop:=D=gD∨∃d∈gL,D=gD++[d]
theorem RF {b:List Int}(Bb:Bk b){p:Int}(h0:0<=p)(h1:p<=500000):Ae (Hr b p) λq=>GD q.1/\q.2=p+1:=by
 unfold Hr;refine AR rfl (AR rfl (AR rfl (AR rfl (AR rfl (AR rfl (AR rfl (AR rfl ?_)))))));refine Ae.bind (Ce Bb ⟨by omega,by omega⟩) λq hq=>?_;have q1:=hq.pos;have q2:=hq.nn;have q3:=hq.lt (by omega);refine Ae.bind (R:=GD) ?_ λl hl=>Ae.some ⟨hl,q1⟩;refine BB (λ_=>?_) λ_=>Ae.some (.inl rfl);refine Ae.get q2 (by simp;omega) λc _ hc=>?_;refine Ae.app (by simp) (by simp) (Ae.some (.inr ⟨c,?_,rfl⟩));exact hc
structure oS (F:List AU):Prop where
 fl:F.length<=4
 ik:1<=F.length
 par :∀f∈F,f.params.length<=3
 cl :∀f∈F,(∀x∈f.params,x=0∨x=1∨x=3)∨(f.params=[2,1]/\f.result=1)
theorem CX.of {D:List AL}{F:List AU}(hD:GD D)(S:oS F):CX D F:=by
 have all:∀{D:List AL},D.length<=4->nc D<=7->(∀d∈D,d.cons.length<=3)->(∀d∈D,∀c∈d.cons,c.fields.length<=3/\∀x∈c.fields,x=0∨x=1∨x=3)->CO D 1=[0,1]->CO D 3=[2,3]->
   IM D 0 0=some (1,⟨[]⟩)->IM D 0 1=some (1,⟨[0,1]⟩)->IM D 0 2=some (3,⟨[]⟩)->IM D 0 3=some (3,⟨[3,0,3]⟩)->JC 1 1 D 0=-1->CX D F:=λa b c d e f g h i j k=>
  ⟨a,b,c,d,e,f,⟨_,g⟩,⟨_,h⟩,⟨_,i⟩,⟨_,j⟩,k,S.fl,S.ik,S.par,S.cl⟩
 rcases hD with rfl|⟨d,hd,rfl⟩
 .exact all (by decide) (by decide) (by decide) (by decide) (by decide) (by decide) rfl rfl rfl rfl (by decide)
 .simp only[gL,pL,pn,qc]at hd;rcases hd with rfl|rfl|rfl|rfl;all_goals exact all (by decide) (by decide) (by decide) (by decide) (by decide) (by decide) rfl rfl rfl rfl (by decide)
structure ma (f:AU):Prop where
 CT:Xe f
 par:f.params.length<=4
 size:en f.body<=1001
theorem Xw {l:List Int}(hl:l.length<=4)(h :∀x∈l,-1000000<=x/\x<=1000000):Iz HB l:=⟨λx hx=>Ds (h x hx).1 (h x hx).2,by omega⟩
structure bT (F:List AU):Prop where
 sg:oS F
 ok :∀f∈F,ma f
 sz :∀f∈F,en f.body<=1000
theorem MV {α:Type}{l:List α}{i:Int}{x y:α}(h:y∈Sh.put l i x):y∈l∨y=x:=qV h
theorem bT.put {F:List AU}(P:bT F){i:Int}{g:AU}(hg:g∈F){e:AD}(he:Ak e)(hs:en e<=1000):bT (Sh.put F i ⟨g.params,g.result,e⟩):=by
 have hl:(Sh.put F i ⟨g.params,g.result,e⟩).length=F.length:=by unfold Sh.put;simp
 have G:=P.ok g hg;refine⟨⟨by rw[hl];exact P.sg.fl,by rw[hl];exact P.sg.ik,λf hf=>?_,λf hf=>?_⟩,λf hf=>?_,λf hf=>?_⟩
 .rcases MV hf with h|rfl
  .exact P.sg.par f h
  .exact P.sg.par g hg
 .rcases MV hf with h|rfl
  .exact P.sg.cl f h
  .exact P.sg.cl g hg
 .rcases MV hf with h|rfl
  .exact P.ok f h
  .exact⟨⟨G.CT.params,G.CT.result,he⟩,G.par,by show en e<=_;omega⟩
 .rcases MV hf with h|rfl
  .exact P.sz f h
  .exact hs
theorem Uz {b:List Int}(Bb:Bk b){M:Nat}(hM:2000000<=M){p:Int}(h0:0<=p)(h1:p<=1000):Ae (IB M b p) λq=>GD q.1.decls/\bT q.1.funcs/\0<=q.2/\q.2<=100000:=by
 unfold IB;refine Ae.bind (RF Bb h0 (by omega)) λq3 ⟨hD,hq3⟩=>?_;iterate 17 refine AR rfl ?_
 have sigs:∀(l:List AU),(∀f∈l,f.body=⟨0,0,[]⟩/\f.params.length<=3/\(∀x∈f.params,0<=x/\x<=3)/\(0<=f.result/\f.result<=3)/\((∀x∈f.params,x=0∨x=1∨x=3)∨(f.params=[2,1]/\f.result=1)))->l.length<=4->1<=l.length->bT l:=λl h h4 h5=>
  ⟨⟨h4,h5,λf hf=>(h f hf).2.1,λf hf=>(h f hf).2.2.2.2⟩,λf hf=>by
   obtain⟨b1,b2,b3,b4,_⟩:=h f hf;exact⟨⟨Xw (by omega) λx hx=>by have:=b3 x hx;omega,Ds (by omega) (by omega),by rw[b1];exact GP ⟨by omega,by omega⟩ ⟨by omega,by omega⟩⟩,by omega,by rw[b1,Lv];omega⟩,λf hf=>by rw[(h f hf).1,Lv];omega⟩
 have pg:∀{l:List AU} {f:Int×Int->AU->Option (AJ×Int)} {s:Int} {Q:AJ×Int->Prop},1<=l.length->0<=s->s<=900000->(∀(q:Int×Int) c,q.2=s+1->c∈l->Ae (f q c) Q)->Ae ((Az b s (Sh.len l)).bind λxm=>(Sh.get l xm.1).bind λc26=>f xm c26) Q:=λhl hs0 hs1 k=>by
  rw[AI];refine Ae.bind (Ce Bb ⟨hs0,by omega⟩) λq hq=>?_;exact Ae.get hq.nn (hq.lt (by omega)) λc _ hc=>k q c hq.pos hc
 refine pg (by simp) (by omega) (by omega) λxm c26 hq25 hc26=>?_;refine pg (by simp) (by omega) (by omega) λwy c28 hq27 hc28=>?_;refine pg (by simp) (by omega) (by omega) λyS c30 hq29 hc30=>?_;refine Ae.bind (G5 Bb ⟨by omega,by omega⟩ (by simp) (by simp)) λzF hq32=>?_;have o1:=hq32.pos;have o2:=hq32.mem;simp only[pL,pn,qc]at o2;obtain⟨n,hn⟩:=pc (by omega:0<=zF.1);rw[hn];refine AR (kJ (by simp;omega)) ?_;generalize hl:([AU.mk [] 0 (AD.mk 0 0 []),c26,c28,c30].take n)=l34;have hlen:l34.length=n:=by rw[<- hl];simp;omega
 have vd:∀f∈l34,f.body=⟨0,0,[]⟩/\f.params.length<=3/\(∀x∈f.params,0<=x/\x<=3)/\(0<=f.result/\f.result<=3)/\((∀x∈f.params,x=0∨x=1∨x=3)∨(f.params=[2,1]/\f.result=1)):=by
  intro f hf;rw[<- hl]at hf;have:=qd hf;simp only[pL,pn,qc]at this hc26 hc28 hc30;rcases this with rfl|rfl|rfl|rfl
  .simp
  .rcases hc26 with rfl|rfl|rfl|rfl|rfl|rfl<;>simp
  .rcases hc28 with rfl|rfl|rfl|rfl|rfl|rfl<;>simp
  .rcases hc30 with rfl|rfl|rfl|rfl<;>simp
 have P0:=sigs l34 vd (by omega) (by omega);have key:∀(k N:Nat) (z p':Int) (l:List AU),z=(k:Int)-1->k<N->k<=4->k<=l.length->bT l->0<=p'->p'+7000*k<=50000->Ae (ET M b q3 N z p' l) λr=>bT r.2/\0<=r.1/\r.1<=60000:=by
  intro k
  induction k with
  |zero=>
   intro N z p' l hz hN _ _ hP g0 g1;obtain⟨N,rfl⟩ :∃m,N=m+1:=⟨N-1,by omega⟩
   rw[ET,pK (by rw[pQ];omega)];exact Ae.some ⟨hP,g0,by show p'<=_;omega⟩
  |succ k ih=>
   intro N z p' l hz hN h4 xz hP g0 g1;obtain⟨N,rfl⟩ :∃m,N=m+1:=⟨N-1,by omega⟩
   have hzk:z=(k:Int):=by omega
   subst hzk;rw[ET,pJ (by rw[pQ];omega)];have C:=CX.of hD hP.sg;refine Ae.bind (dO C Bb hM (f:=k) (by omega) (p:=p') g0 (by omega)) λr hr=>?_;have r1:=hr.lo;have r2:=hr.hi;obtain⟨g,hg,zN⟩:=Bh (l:=l) (i:=k) (by omega);refine AR (Ax hg) ?_;refine ih N (Sh.w ((k:Int)-1)) r.2 _ (BE (by omega) (by omega)) (by omega) (by omega) (by unfold Sh.put;simp;omega) (hP.put zN hr.CT hr.size) (by omega) (by omega)
 have k:=key n M (Sh.w ((n:Int)-1)) zF.2 l34 (BE (by omega) (by omega)) (by omega) (by omega) (by omega) P0 (by omega) (by omega);refine Ae.bind k ?_;rintro⟨f40,l41⟩ ⟨a1,a2,a3⟩;exact Ae.some ⟨hD,a1,a2,by show f40<=_;dsimp only at a3;omega⟩
theorem SM {M:Nat}(hM:2000000<=M):∀(n:Nat) (l:List AD),CL l<n->CL l<=100000->DL M n l=some l:=by
 intro n
 induction n with
 |zero=>intro l h;omega
 |succ n ih=>
  intro l hn hs;rw[DL];unfold Hv;have hl:=HL l;have key:∀{N i:Nat},i<=l.length->l.length-i<N->CV l (DL M n) N i (l.take i)=some l:=by
   intro N i hi hN;refine BQ l.length (λN i=>CV l (DL M n) N i (l.take i)=some l) ?_ ?_ hi hN
   .intro m;rw[CV,pK (by simp[AI]),qs]
   .intro m i hi xI;obtain⟨e,he,hem⟩:=Bh hi;have h1:=I9 hem;have h2:=Fs e;rw[CV,pJ (by rw[pQ,AI];omega),Ax he];unfold Jw;simp only[ov];rw[ih e.kids (by omega) (by omega)];simp only[ov];rw[DJ _ _ 40 (by simp;omega) (by simp;omega),BE (by omega) (by omega),show ((i:Int)+1)=((i+1:Nat):Int) by omega];simp only[ov];have:(⟨e.op,e.num,e.kids⟩:AD)=e:=by cases e;rfl
    rw[this,<- EJ he];exact xI
  have:=key (pT _) (by omega:l.length-0<M);rw[qt,tl]at this;rw[this];rfl
theorem cm:∀(l:List AD) (i:Nat) (e x:AD),l[i]?=some e->CL (l.set i x)+en e=CL l+en x
 | [],i,e,x,h=>by simp at h
 |a::l,0,e,x,h=>by
  simp only[pj,pD]at h;subst h;simp only[sO,CL];omega
 |a::l,i+1,e,x,h=>by
  have:=cm l i e x (by simpa using h);simp only[List.set_cons_succ,CL];omega
theorem lO {b:List Int}(Bb:Bk b){M:Nat}(hM:2000000<=M):∀(n:Nat) (e:AD) (p:Int),en e<n->en e<=1001->Ak e->0<=p->p+5*en e<=300000->Ae (KH M n b p e) λq=>en q.1<=en e+1/\Ak q.1/\p<=q.2/\q.2<=p+5*en e:=by
 intro n
 induction n with
 |zero=>intro e p h;have:=Fc e;omega
 |succ n ih=>
  intro e p hn hs vR h0 h1;have hee:=Fs e;have xz:=HL e.kids;rw[KH];unfold Mr;refine Ae.bind (R:=λq:Bool×Int=>(q.1=true->0<e.kids.length)/\p<=q.2/\q.2<=p+1) ?_ ?_
  .refine BB (λh=>?_) λ_=>Ae.some ⟨(λh=>by cases h),by show p<=p;omega,by show p<=_;omega⟩;rw[AI]at h;exact Ae.bind (Ce Bb ⟨by omega,by omega⟩) λq hq=>Ae.some ⟨λ_=>by omega,by have:=hq.pos;show p<=q.2;omega,by have:=hq.pos;show q.2<=_;omega⟩
  .rintro⟨t4,f5⟩ ⟨g1,g2,g3⟩;dsimp only at g1 g2 g3⊢;refine Cn (λh=>?_) λ_=>?_
   .have hk:=g1 h;refine AR (SM hM M e.kids (by omega) (by omega)) ?_;rw[AI];refine Ae.bind (Ce Bb ⟨by omega,by omega⟩) λq hq=>?_;have q1:=hq.pos;have q2:=hq.nn;have q3:=hq.lt (by omega);refine Ae.get q2 q3 λc hc wI=>?_;have xb:=I9 wI;refine Ae.bind (ih c q.2 (by omega) (by omega) (vR.kids c wI) (by omega) (by omega)) λr ⟨r1,r2,r3,r4⟩=>?_;have wJ:=cm e.kids q.1.toNat c r.1 hc;refine AR rfl (Ae.some ⟨?_,?_,by show p<=r.2;omega,by show r.2<=_;omega⟩)
    .show en ⟨e.op,e.num,Sh.put e.kids q.1 r.1⟩<=_;unfold Sh.put;rw[HR];omega
    .show Ak ⟨e.op,e.num,Sh.put e.kids q.1 r.1⟩;refine KO vR.op vR.num (λx hx=>?_) (by unfold Sh.put;simp;omega);rcases MV hx with h3|rfl
     .exact vR.kids x h3
     .exact r2
   .refine Ae.bind (Ce Bb ⟨by omega,by omega⟩) λwF hq19=>?_;have a1:=hq19.pos;have a2:=hq19.nn;have a3:=hq19.lt (by omega);have hp:=Fc e;have same:∀{o m:Int},HB o->HB m->Ak ⟨o,m,e.kids⟩:=λho hm=>KO ho hm vR.kids (by omega);refine BB (λ_=>?_) λ_=>?_
    .refine Ae.bind (Ce Bb ⟨by omega,by omega⟩) λq hq=>?_;have c1:=hq.pos;have c2:=hq.nn;have c3:=hq.lt (by omega);refine AR rfl (Ae.some ⟨?_,same (Ds (by omega) (by omega)) vR.num,by show p<=q.2;omega,by show q.2<=_;omega⟩);show en ⟨q.1,e.num,e.kids⟩<=_;rw[HR];omega
    refine BB (λ_=>?_) λ_=>?_
    .refine Ae.bind (G5 Bb ⟨by omega,by omega⟩ (by simp) (by simp)) λq hq=>?_;have c1:=hq.pos;refine AR rfl (Ae.some ⟨?_,same vR.op (mR _),by show p<=q.2;omega,by show q.2<=_;omega⟩);show en ⟨e.op,Sh.w (e.num+q.1),e.kids⟩<=_;rw[HR];omega
    refine BB (λ_=>?_) λ_=>?_
    .refine AR (SM hM M e.kids (by omega) (by omega)) (AR rfl ?_);refine Ae.app (by simp;omega) (by simp;omega) (AR rfl (Ae.some ⟨?_,?_,by show p<=wF.2;omega,by show wF.2<=_;omega⟩))
     .show en ⟨e.op,e.num,e.kids++[⟨0,1,[]⟩]⟩<=_;rw[HR,JM,H7,Lv];omega
     .show Ak ⟨e.op,e.num,e.kids++[⟨0,1,[]⟩]⟩;refine .mk vR.op vR.num (by show (e.kids++_).length<=_;simp;omega) λx hx=>?_;rcases pY.1 (show x∈e.kids++[⟨0,1,[]⟩] from hx) with h3|h3
      .exact vR.kids x h3
      .rw[pU]at h3;rw[h3];exact GP ⟨by omega,by omega⟩ ⟨by omega,by omega⟩
    refine BB (λ_=>?_) λ_=>?_
    .refine Ae.bind (G5 Bb ⟨by omega,by omega⟩ (by simp) (by simp)) λq hq=>?_;have c1:=hq.pos;have c2:=hq.mem;simp only[pL,pn,qc]at c2;refine AR rfl (Ae.some ⟨?_,GP ⟨by omega,by omega⟩ ⟨by omega,by omega⟩,by show p<=q.2;omega,by show q.2<=_;omega⟩);show en ⟨12,q.1,[]⟩<=_;rw[Lv];omega
    .refine Ae.bind (G5 Bb ⟨by omega,by omega⟩ (by simp) (by simp)) λq hq=>?_;have c1:=hq.pos;have c2:=hq.mem;simp only[pL,pn,qc]at c2;refine AR rfl (Ae.some ⟨?_,GP ⟨by omega,by omega⟩ ⟨by omega,by omega⟩,by show p<=q.2;omega,by show q.2<=_;omega⟩);show en ⟨0,q.1,[]⟩<=_;rw[Lv];omega
structure Yt (D:List AL):Prop where
 len:D.length<=6
 CT :∀d∈D,Nm d
 size :∀d∈D,dz d<=20
theorem lk {f t:Int}{cs:List D6}(hf:-1000000<=f/\f<=1000000)(ht:-1000000<=t/\t<=1000000)(hl:cs.length<=4)(h :∀c∈cs,c.fields.length<=4/\∀x∈c.fields,-1000000<=x/\x<=1000000):Nm ⟨f,t,cs⟩:=
 ⟨Ds hf.1 hf.2,Ds ht.1 ht.2,λc hc=>⟨Xw (h c hc).1 (h c hc).2⟩,by show cs.length<=_;omega⟩
theorem mU {f t:Int}{cs:List D6}(hl:cs.length<=4)(h :∀c∈cs,c.fields.length<=4):dz ⟨f,t,cs⟩<=20:=by
 have :∀l:List D6,(∀c∈l,c.fields.length<=4)->(l.map cz).sum<=4*l.length:=λl=>by
  induction l with
  |nil=>simp
  |cons c l ih=>
   intro h;have h1:=h c (by simp);have h2:=ih λc hc=>h c (by simp[hc]);simp only[pd,rU,pq];have:cz c=c.fields.length:=rfl;omega
 have h2:=this cs h;show cs.length+(cs.map cz).sum<=20;omega
theorem YD {f t:Int}{cs:List D6}(hf:-1000000<=f/\f<=1000000)(ht:-1000000<=t/\t<=1000000)(hl:cs.length<=4)(h :∀c∈cs,c.fields.length<=4/\∀x∈c.fields,-1000000<=x/\x<=1000000):Nm ⟨f,t,cs⟩/\dz ⟨f,t,cs⟩<=20:=
 ⟨lk hf ht hl h,mU hl λc hc=>(h c hc).1⟩
theorem Vy {D:List AL}(h:GD D):Yt D/\3<=D.length/\D.length<=4:=by
 have vd:∀d∈gD++gL,Nm d/\dz d<=20:=by
  intro d hd;simp only[gD,gL,tE,qT,pL,pn,qc]at hd;rcases hd with rfl|rfl|rfl|rfl|rfl|rfl|rfl<;>exact YD (by decide) (by decide) (by decide) (by decide)
 rcases h with rfl|⟨d,hd,rfl⟩
 .exact⟨⟨by decide,λd hd=>(vd d (qO _ hd)).1,λd hd=>(vd d (qO _ hd)).2⟩,by decide,by decide⟩
 .have hm:∀x∈gD++[d],x∈gD++gL:=λx hx=>by
   rcases pY.1 hx with h|h
   .exact qO _ h
   .rw[pU]at h;rw[h];exact qa _ hd
  exact⟨⟨by simp[gD],λx hx=>(vd x (hm x hx)).1,λx hx=>(vd x (hm x hx)).2⟩,by simp[gD],by simp[gD]⟩
theorem Yt.put {D:List AL}(h:Yt D){i:Int}{d:AL}(hd:Nm d/\dz d<=20):Yt (Sh.put D i d):=
 ⟨by unfold Sh.put;simp;exact h.len,λx hx=>(MV hx).elim (λh3=>h.CT x h3) (λe=>by rw[e];exact hd.1),λx hx=>(MV hx).elim (λh3=>h.size x h3) (λe=>by rw[e];exact hd.2)⟩
theorem Yt.app {D E:List AL}(h:Yt D)(hl:D.length+E.length<=6)(hE :∀d∈E,Nm d/\dz d<=20):Yt (D++E):=
 ⟨by simp;omega,λx hx=>(pY.1 hx).elim (λh3=>h.CT x h3) (λh3=>(hE x h3).1),λx hx=>(pY.1 hx).elim (λh3=>h.size x h3) (λh3=>(hE x h3).2)⟩
theorem oZ {α:Type}{l:List α}{i:Nat}(h:i<=l.length):Sh.sl l (i:Int) (Sh.len l)=some (l.drop i):=by
 unfold Sh.sl;rw[AI,pJ (by omega)];simp
theorem Y4 {b:List Int}(Bb:Bk b){p:Int}(h0:0<=p)(h1:p<=300000):Ae (J0 b p) λq=>Yt q.1/\p<=q.2/\q.2<=p+10:=by
 unfold J0;refine Ae.bind (RF Bb h0 (by omega)) λq3 ⟨hD,hq3⟩=>?_;obtain⟨O,l3,l4⟩:=Vy hD;rw[AI];refine Ae.bind (Ce Bb ⟨by omega,by omega⟩) λq5 hq5=>?_;have a1:=hq5.pos;have a2:=hq5.nn;have a3:=hq5.lt (by omega);refine Ae.bind (R:=λr:Int×List AL=>Yt r.2/\p<=r.1/\r.1<=p+10) ?_ λr hr=>Ae.some ⟨hr.1,hr.2⟩;refine Ae.bind (Ce Bb ⟨by omega,by omega⟩) λwE hq12=>?_;have b1:=hq12.pos;refine BB (λ_=>?_) λ_=>?_
 .refine Ae.bind (G5 Bb ⟨by omega,by omega⟩ (by simp) (by simp)) λx hx=>?_;have x1:=hx.pos;have x2:=hx.mem;refine Ae.bind (G5 Bb ⟨by omega,by omega⟩ (by simp) (by simp)) λy hy=>?_;have y1:=hy.pos;have y2:=hy.mem;simp only[pL,pn,qc]at x2 y2;exact Ae.get a2 a3 λc _ _=>Ae.some ⟨O.put (YD (by omega) (by omega) (by decide) (by simp)),by show p<=y.2;omega,by show y.2<=_;omega⟩
 refine BB (λ_=>?_) λ_=>?_
 .refine Ae.bind (G5 Bb ⟨by omega,by omega⟩ (by simp) (by simp)) λx hx=>?_;have x1:=hx.pos;have x2:=hx.mem;simp only[pL,pn,qc]at x2;refine AR rfl (AR rfl (AR rfl ?_));refine Ae.get a2 a3 λc _ _=>Ae.some ⟨O.put (YD (by omega) (by omega) (by simp) ?_),by show p<=x.2;omega,by show x.2<=_;omega⟩;intro c hc;simp only[pL,pn,qc]at hc;rcases hc with rfl|rfl|rfl
  .exact⟨by simp,λz hz=>by rw[pU]at hz;omega⟩
  .exact⟨by simp,by simp⟩
  .exact⟨by simp,by simp⟩
 refine BB (λ_=>?_) λ_=>?_
 .refine AR rfl ?_;rw[BE (n:=q5.1+1) (by omega) (by omega)];refine Ae.get a2 a3 λc _ _=>Ae.some ⟨O.put (YD (by omega) (by omega) (by simp) ?_),by show p<=wE.2;omega,by show wE.2<=_;omega⟩;intro c hc;rw[pU]at hc;rw[hc];exact⟨by simp,λz hz=>by rw[pU]at hz;omega⟩
 refine BB (λ_=>?_) λ_=>?_
 .refine Ae.bind (G5 Bb ⟨by omega,by omega⟩ (by simp) (by simp)) λx hx=>?_;have x1:=hx.pos;have x2:=hx.mem;simp only[pL,pn,qc]at x2;refine Ae.app (by simp;omega) (by simp;omega) (Ae.some ⟨O.app (by simp;omega) λd hd=>?_,by show p<=x.2;omega,by show x.2<=_;omega⟩);rw[pU]at hd;rw[hd];exact YD (by omega) (by omega) (by simp) (by simp)
 refine BB (λ_=>?_) λ_=>?_
 .refine Ae.bind (Ce Bb ⟨by omega,by omega⟩) λx hx=>?_;have x1:=hx.pos;have x2:=hx.nn;have x3:=hx.lt (by omega);refine AR rfl (AR rfl (AR rfl (AR rfl ?_)));refine Ae.bind (Ce Bb ⟨by omega,by omega⟩) λy hy=>?_;have y1:=hy.pos;have y2:=hy.nn;have y3:=hy.lt (by omega);obtain⟨k,hk⟩:=pc y2;rw[hk];refine AR (oZ (by simp;omega)) ?_;refine Ae.get a2 a3 λc _ _=>Ae.some ⟨O.put (YD (by omega) (by omega) (by simp) ?_),by show p<=y.2;omega,by show y.2<=_;omega⟩;intro c hc;have:=rA hc;simp only[pL,pn,qc]at this;rcases this with rfl|rfl|rfl|rfl<;>exact⟨by simp,by simp⟩
 refine BB (λ_=>?_) λ_=>?_
 .refine Ae.app (by simp;omega) (by simp;omega) (Ae.some ⟨O.app (by simp;omega) λd hd=>?_,by show p<=wE.2;omega,by show wE.2<=_;omega⟩);simp only[pL,pn,qc]at hd;rcases hd with rfl|rfl<;>exact YD (by omega) (by omega) (by simp) (by simp)
 .exact Ae.some ⟨O,by show p<=wE.2;omega,by show wE.2<=_;omega⟩
structure PD (p:AJ):Prop where
 decls:Yt p.decls
 JL:p.funcs.length<=5
 mf :∀f∈p.funcs,ma f
theorem QL {α:Type}{f:α->Nat}{a:Nat}:∀(l:List α),(∀x∈l,f x<=a)->(l.map f).sum<=a*l.length
 | [],_=>by simp
 |x::l,h=>by
  have h1:=h x (by simp);have h2:=QL l λy hy=>h y (by simp[hy]);simp only[pd,rU,pq];rw[Nat.mul_add];omega
theorem PD.small {p:AJ}(P:PD p):Du p:=by
 refine⟨⟨⟨P.decls.CT,by have:=P.decls.len;omega⟩,λf hf=>(P.mf f hf).CT,by have:=P.JL;omega⟩,?_⟩;have h1:=QL p.decls P.decls.size;have h2:=QL (f:=aB) (a:=1010) p.funcs λf hf=>by
  have:=(P.mf f hf).par;have:=(P.mf f hf).size;have h3:=Fs f.body;show f.params.length+CL f.body.kids<=_;omega
 have h3:=P.decls.len;have h4:=P.JL;unfold Un;omega
theorem UO {b:List Int}(Bb:Bk b){M:Nat}(hM:2000000<=M){D:List AL}{F:List AU}(hD:GD D)(P:bT F){p:Int}(h0:0<=p)(h1:p<=100000):Ae (He M b p F D) λq=>PD q.1/\0<=q.2/\q.2<=200000:=by
 obtain⟨O,l3,l4⟩:=Vy hD;have hF:=P.sg.fl;have hF1:=P.sg.ik;unfold He;rw[AI];refine Ae.bind (Ce Bb ⟨by omega,by omega⟩) λq3 hq3=>?_;have a1:=hq3.pos;have a2:=hq3.nn;have a3:=hq3.lt (by omega);refine Ae.get a2 a3 λc5 _ hc5=>?_;have G:=P.ok c5 hc5;have P0:PD ⟨D,F⟩:=⟨O,by show F.length<=5;omega,P.ok⟩
 have putF:∀{g:AU},ma g->PD ⟨D,Sh.put F q3.1 g⟩:=λhg=>⟨O,by show (Sh.put F _ _).length<=5;unfold Sh.put;simp;omega,λf hf=>(MV hf).elim (λh=>P.ok f h) (λe=>by rw[e];exact hg)⟩;refine Ae.bind (R:=λr:Int×List AU×List AL=>PD ⟨r.2.2,r.2.1⟩/\0<=r.1/\r.1<=200000) ?_ λr hr=>Ae.some ⟨hr.1,hr.2⟩;refine Ae.bind (Ce Bb ⟨by omega,by omega⟩) λvX hq13=>?_;have b1:=hq13.pos;refine BB (λ_=>?_) λ_=>?_
 .unfold Sk;have hs:=P.sz c5 hc5;exact Ae.bind (lO Bb hM M c5.body vX.2 (by omega) (by omega) G.CT.body (by omega) (by omega)) λr ⟨r1,r2,r3,r4⟩=>Ae.some ⟨putF ⟨⟨G.CT.params,G.CT.result,r2⟩,G.par,by show en r.1<=_;omega⟩,by show 0<=r.2;omega,by show r.2<=_;omega⟩
 refine BB (λ_=>?_) λ_=>?_
 .refine Ae.bind (G5 Bb ⟨by omega,by omega⟩ (by simp) (by simp)) λx hx=>?_;have x1:=hx.pos;have x2:=hx.mem;simp only[pL,pn,qc]at x2;have hp:=P.sg.par c5 hc5;refine AR (Jp (by omega) (by simp)) (Ae.some ⟨putF ⟨⟨⟨λy hy=>?_,by show (c5.params++[x.1]).length<=_;simp;omega⟩,G.CT.result,G.CT.body⟩,by show (c5.params++[x.1]).length<=4;simp;omega,G.size⟩,by show 0<=x.2;omega,by show x.2<=_;omega⟩);rcases pY.1 (show y∈c5.params++[x.1] from hy) with h|h
  .exact G.CT.params.1 y h
  .rw[pU]at h;rw[h];exact Ds (by omega) (by omega)
 refine BB (λ_=>?_) λ_=>?_
 .refine Ae.bind (G5 Bb ⟨by omega,by omega⟩ (by simp) (by simp)) λx hx=>?_;have x1:=hx.pos;have x2:=hx.mem;simp only[pL,pn,qc]at x2;exact Ae.some ⟨putF ⟨⟨G.CT.params,(Ds (by omega) (by omega):HB x.1),G.CT.body⟩,G.par,G.size⟩,by show 0<=x.2;omega,by show x.2<=_;omega⟩
 refine BB (λ_=>?_) λ_=>?_
 .refine Ae.bind (Y4 Bb (p:=vX.2) (by omega) (by omega)) λr ⟨r1,r2,r3⟩=>Ae.some ⟨⟨r1,by show F.length<=5;omega,P.ok⟩,by show 0<=r.2;omega,by show r.2<=_;omega⟩
 refine BB (λ_=>?_) λ_=>Ae.some ⟨P0,by show 0<=vX.2;omega,by show vX.2<=_;omega⟩;refine Ae.app (by simp;omega) (by simp;omega) (Ae.some ⟨⟨O,by show (F++[c5]).length<=5;simp;omega,λf hf=>?_⟩,by show 0<=vX.2;omega,by show vX.2<=_;omega⟩);rcases pY.1 (show f∈F++[c5] from hf) with h|h
 .exact P.ok f h
 .rw[pU]at h;rw[h];exact G
theorem WY {b:List Int}(Bb:Bk b){M:Nat}(hM:2000000<=M){p:Int}(h0:0<=p)(h1:p<=1000):Ae (IT M b p) λq=>PD q.1/\0<=q.2/\q.2<=200000:=by
 unfold IT;refine Ae.bind (Uz Bb hM h0 h1) λq ⟨q1,q2,q3,q4⟩=>?_;refine Ae.bind (UO Bb hM q1 q2 q3 q4) λr hr=>Ae.some hr
theorem SX {code:List Int}(h8 :∀x∈code,U8 x)(hl:code.length<=1048576){M:Nat}(hM:2000000<=M):Ae (HK M code) λq=>PD q.1/\-1<=q.2/\q.2<=4:=by
 unfold HK;refine Ae.bind (X0 h8 hl) λq3 ⟨Bb,hq⟩=>?_;refine Ae.bind (WY Bb hM (by omega) (by omega)) λq5 ⟨P,p0,p1⟩=>?_;refine Ae.bind (R:=λt=>-1<=t/\t<=4) ?_ λt ht=>Ae.some ⟨P,ht⟩;refine Ae.bind (G5 Bb ⟨by omega,by omega⟩ (by simp) (by simp)) λx hx=>Ae.some ?_;have x2:=hx.mem;simp only[pL,pn,qc]at x2;show -1<=x.1/\x.1<=4;omega
end RC
