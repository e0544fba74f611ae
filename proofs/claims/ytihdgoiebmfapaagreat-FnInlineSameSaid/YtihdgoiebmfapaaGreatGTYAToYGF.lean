import Derived.Test.YtihdgoiebmfapaaGreatGFTDefsToKNK
set_option linter.all false
namespace RC
open Go
section
variable {p : AJ} {R1 : AJ -> List Int -> AD -> Option Int} {R2 : List Int -> BO -> AD -> Option Int} {T : List Int -> AD -> Int} {e : AD} {v : List Int} {N : Nat}
theorem X1 (H:LH p (FF p) R1 R2 T (en e))(V:IS p e v)(h:e.op=13){a b:AD}(hk:e.kids=[a,b])(hn:e.num=0)(ha:T v a≠-1):
  Al N R2 v (FF p) e=some (T (v++[T v a]) b)/\DZ p.decls (T v a)=true:=by
 have hv:v.length<=1000:=by have:=V.len;omega
 have vV:a∈e.kids:=by rw[hk];simp
 have yH:b∈e.kids:=by rw[hk];simp
 obtain⟨a1,a2,a3⟩:=H v a (V.CS.kids a vV) (Ca vV) (V.KH vV) V.Jk;have hty:DZ p.decls (T v a)=true:=a3.resolve_left ha;have h0:¬ T v a<0:=by have:=(Lc hty).1;omega
 have g0:Sh.get e.kids 0=some a:=by rw[hk];rfl
 have g1:Sh.get e.kids 1=some b:=by rw[hk];rfl
 obtain⟨b1,b2,b3⟩:=H (v++[T v a]) b (V.CS.kids b yH) (Ca yH) (V.more yH (by simp)) (V.XI (by simp[hty]));refine⟨?_,hty⟩;unfold Al;simp only[h,Int.reduceEq,pW,pa,pD,pq,pV];rw[g0,g1];have hl:((e.kids.length:Int)=2):=by rw[hk];rfl
 simp only[ou,AI,hl,hn,pW,qC,pD,pV];rw[a2];simp only[ou,h0,pa,pD,pV];rw[DH v [T v a] 8 (by simp;omega) (by simp;omega)];simp only[ou,b2]
theorem X0 (H:LH p (FF p) R1 R2 T (en e))(V:IS p e v)(h:e.op=13){t:Int}(hB:Al N R2 v (FF p) e=some t)(ht:t≠-1):
  ∃a b,e.kids=[a,b]/\e.num=0/\T v a≠-1/\DZ p.decls (T v a)=true/\t=T (v++[T v a]) b:=by
 have hB0:=hB;unfold Al at hB;simp only[h,Int.reduceEq,pW,pa,pD,pq,pV]at hB;by_cases hl:e.kids.length=2
 .obtain⟨a,b,hk⟩ :∃a b,e.kids=[a,b]:=by
   match hk:e.kids,hl with
   | [a,b],_=>exact⟨a,b,rfl⟩
  have vV:a∈e.kids:=by rw[hk];simp
  obtain⟨a1,a2,a3⟩:=H v a (V.CS.kids a vV) (Ca vV) (V.KH vV) V.Jk;by_cases hn:e.num=0
  .by_cases ha:T v a=-1
   .exfalso;have g0:Sh.get e.kids 0=some a:=by rw[hk];rfl
    rw[g0]at hB;simp only[ou,AI,hl]at hB;rw[a2]at hB;simp[hn,ha]at hB;exact ht hB.symm
   .obtain⟨q1,q2⟩:=X1 (N:=N) H V h hk hn ha;rw[hB0]at q1;exact⟨a,b,hk,hn,ha,q2,by simpa using q1⟩
  .simp[hn]at hB;exact absurd hB.symm ht
 .have:¬ ((e.kids.length:Int)=2):=by omega
  simp[AI,this]at hB;exact absurd hB.symm ht
theorem fO (H:LH p (FF p) R1 R2 T (en e))(V:IS p e v)(hN:2000000<=N)(h:e.op=7){a b c:AD}(hk:e.kids=[a,b,c])(hn:e.num=0)(ha:T v a=0):
  Al N R2 v (FF p) e=some (MU [T v b,T v c]):=by
 have vV:a∈e.kids:=by rw[hk];simp
 have yH:b∈e.kids:=by rw[hk];simp
 have hmc:c∈e.kids:=by rw[hk];simp
 obtain⟨a1,a2,a3⟩:=H v a (V.CS.kids a vV) (Ca vV) (V.KH vV) V.Jk;have hl:((e.kids.length:Int)=3):=by rw[hk];rfl
 have g0:Sh.get e.kids 0=some a:=by rw[hk];rfl
 have g3:Sh.sl e.kids 1 3=some [b,c]:=by rw[hk];rfl
 have o:=LC (ks:=[b,c]) (ms:=[[],[]]) H V hN (by intro k hk;simp only[pK,pj,qb]at hk;rcases hk with rfl|rfl<;>assumption) (by simp) rfl (by simp);have mk2:Sh.mk ([]:List Int) 2 24=some [[],[]]:=OG [] 2 24 (by omega) (by omega);unfold Al;simp only[h,Int.reduceEq,pW,pa,pD,pq,pV];rw[g0];simp only[ou,AI,hl];rw[a2,g3,mk2];simp only[ou];rw[o];simp[hn,ha]
theorem fe (H:LH p (FF p) R1 R2 T (en e))(V:IS p e v)(hN:2000000<=N)(h:e.op=7){t:Int}(hB:Al N R2 v (FF p) e=some t)(ht:t≠-1):
  ∃a b c,e.kids=[a,b,c]/\e.num=0/\T v a=0/\t=T v b/\t=T v c:=by
 have hB0:=hB;unfold Al at hB;simp only[h,Int.reduceEq,pW,pa,pD,pq,pV]at hB;by_cases hl:e.kids.length=3
 .obtain⟨a,b,c,hk⟩ :∃a b c,e.kids=[a,b,c]:=by
   match hk:e.kids,hl with
   | [a,b,c],_=>exact⟨a,b,c,rfl⟩
  have vV:a∈e.kids:=by rw[hk];simp
  obtain⟨a1,a2,a3⟩:=H v a (V.CS.kids a vV) (Ca vV) (V.KH vV) V.Jk;by_cases hn:e.num=0
  .by_cases ha:T v a=0
   .have q:=fO H V hN h hk hn ha;rw[hB0]at q;have q:t=MU [T v b,T v c]:=by simpa using q
    have hal:=VH (l:=[T v b,T v c]) (by rw[<- q];exact ht);rw[U2]at q;by_cases hcb:T v c=T v b
    .rw[pI hcb]at q;exact⟨a,b,c,hk,hn,ha,q,by rw[hcb];exact q⟩
    .rw[pJ hcb]at q;exact absurd q ht
   .exfalso;have g0:Sh.get e.kids 0=some a:=by rw[hk];rfl
    rw[g0]at hB;simp only[ou,AI,hl]at hB;rw[a2]at hB;simp[hn,ha]at hB;exact ht hB.symm
  .simp[hn]at hB;exact absurd hB.symm ht
 .have:¬ ((e.kids.length:Int)=3):=by omega
  simp[AI,this]at hB;exact absurd hB.symm ht
def bh (D:List AK)(T:List Int->AD->Int)(v C:List Int)(r:List AD):List Int:=List.zipWith (λm k=>T (v++m) k) (C.map (Gf D)) r
theorem YG (H:LH p (FF p) R1 R2 T (en e))(V:IS p e v)(S:FB p.decls p.funcs)(hN:2000000<=N)(h8:e.op=8){a:AD}{r:List AD}(wq:e.kids=a::r)(h0:CO p.decls e.num≠[])(ye:r.length=(CO p.decls e.num).length)(hta:T v a=e.num):
  Al N R2 v (FF p) e=some (MU (bh p.decls T v (CO p.decls e.num) r)):=by
 have xz:=V.KX;have hD:=S.Pr;have hn:=S.nc;have hCl:=NT S.V7 e.num;unfold Al;simp only[h8,Int.reduceEq,pW,pa,pD,pq,pV];rw[show (FF p).decls=p.decls from rfl,JJ (by omega) (by omega) hN];simp only[ou];generalize hCe:CO p.decls e.num=C at *;have hCm:∀c∈C,Bs N p.decls c=some (Gf p.decls c)/\Eg N p.decls c=some (Gf p.decls c)/\(Gf p.decls c).length<=3/\∀x∈Gf p.decls c,DZ p.decls x=true:=λc hc=>RN S (hCe▸hc) hN;have h1:e.kids.length=1+C.length:=by rw[wq];simp;omega
 have xG:((e.kids.length:Int)=1+(C.length:Int)):=by omega
 have vV:a∈e.kids:=by rw[wq];simp
 have hmr:∀k∈r,k∈e.kids:=λk hk=>by rw[wq];simp[hk]
 obtain⟨a1,a2,a3⟩:=H v a (V.CS.kids a vV) (Ca vV) (V.KH vV) V.Jk;have g0:Sh.get e.kids 0=some a:=by rw[wq];rfl
 have g3:Sh.sl e.kids 1 (e.kids.length:Int)=some r:=by
  unfold Sh.sl;rw[pI ⟨by omega,by omega,by omega⟩,wq];simp
 have mkC:Sh.mk ([]:List Int) (C.length:Int) 24=some (List.replicate C.length []):=OG [] C.length 24 (by omega) (by omega);have o:=LC (ks:=r) (ms:=C.map (Gf p.decls)) H V hN hmr (by omega) (by simp[ye]) (by
  intro m hm;obtain⟨c,hc,rfl⟩:=pQ.1 hm;exact (hCm c hc).2.2)
 have FL:=PQ (p:=p) S hN hCl λc hc=>(hCm c hc).2.1;rw[AI C,AI e.kids,BE (n:=1+(C.length:Int)) (by omega) (by omega),g0,g3,mkC];simp only[ou];rw[a2,FL];simp only[ou];rw[o];simp[h0,xG,hta,bh]
theorem Sa (H:LH p (FF p) R1 R2 T (en e))(V:IS p e v)(S:FB p.decls p.funcs)(hN:2000000<=N)(h8:e.op=8){t:Int}(hB:Al N R2 v (FF p) e=some t)(ht:t≠-1):
  ∃a r,e.kids=a::r/\CO p.decls e.num≠[]/\r.length=(CO p.decls e.num).length/\T v a=e.num/\t=MU (bh p.decls T v (CO p.decls e.num) r):=by
 have hB0:=hB;have xz:=V.KX;have hD:=S.Pr;have hn:=S.nc;have hCl:=NT S.V7 e.num;unfold Al at hB;simp only[h8,Int.reduceEq,pW,pa,pD,pq,pV]at hB;rw[show (FF p).decls=p.decls from rfl,JJ (by omega) (by omega) hN]at hB;simp only[ou]at hB;have mv:=λa r=>YG (a:=a) (r:=r) H V S hN h8;rw[AI (CO p.decls e.num),AI e.kids,BE (n:=1+((CO p.decls e.num).length:Int)) (by omega) (by omega)]at hB;by_cases h0:(CO p.decls e.num)=[]
 .simp[h0]at hB;exact absurd hB.symm ht
 .have yk:¬ (((CO p.decls e.num).length:Int)=0):=by
   intro q;exact h0 (qM (by omega))
  by_cases h1:e.kids.length=1+(CO p.decls e.num).length
  .have xG:((e.kids.length:Int)=1+((CO p.decls e.num).length:Int)):=by omega
   obtain⟨a,r,wq⟩ :∃a r,e.kids=a::r:=by
    cases hq:e.kids with
    |nil=>rw[hq]at h1;simp at h1;omega
    |cons a r=>exact⟨a,r,rfl⟩
   have ye:r.length=(CO p.decls e.num).length:=by rw[wq]at h1;simp at h1;omega
   have vV:a∈e.kids:=by rw[wq];simp
   obtain⟨a1,a2,a3⟩:=H v a (V.CS.kids a vV) (Ca vV) (V.KH vV) V.Jk;by_cases hta:T v a=e.num
   .have q:=mv a r wq h0 ye hta;rw[hB0]at q;exact⟨a,r,wq,h0,ye,hta,by simpa using q⟩
   .exfalso;have g0:Sh.get e.kids 0=some a:=by rw[wq];rfl
    rw[g0]at hB;simp only[ou]at hB;rw[a2]at hB;simp[h0,xG,hta]at hB;exact ht hB.symm
  .have xG:¬ ((e.kids.length:Int)=1+((CO p.decls e.num).length:Int)):=by omega
   simp[h0,xG]at hB;exact absurd hB.symm ht
theorem Zm {l:List Int}{t:Int}(h:t=MU l)(ht:t≠-1):∀x∈l,x=t:=by
 cases l with
 |nil=>intro x hx;cases hx
 |cons a r=>
  simp only[MU]at h;by_cases hr:r.all (λx=>decide (x=a))=true
  .rw[pI hr]at h;intro x hx;rcases pK.1 hx with rfl|hx
   .exact h.symm
   .have:=pG.1 hr x hx;simp only[pP]at this;rw[this,h]
  .rw[pJ hr]at h;exact absurd h ht
def HM (D:List AK)(o nu:Int)(i:Nat):Nat:=if o=13/\i=1 then 1 else if o=8/\0<i then (Gf D (((CO D nu)[i-1]?).getD 0)).length else 0
theorem Th {e':AD}{v':List Int}(H:LH p (FF p) R1 R2 T (en e))(H':LH p (FF p) R1 R2 T (en e'))(V:IS p e v)(V':IS p e' v')(S:FB p.decls p.funcs)(hN:2000000<=N){t:Int}(hB:Al N R2 v (FF p) e=some t)(ht:t≠-1)
  (ho:e'.op=e.op) (hn:e'.num=e.num) (vt:e.op≠12) (hl:e'.kids.length=e.kids.length)
  (hf :∀(i:Nat) k k',e.kids[i]?=some k->e'.kids[i]?=some k'->∀m:List Int,m.length=HM p.decls e.op e.num i->m.length<=3->(∀x∈m,DZ p.decls x=true)->T (v++m) k≠-1->T (v'++m) k'=T (v++m) k) :
  Al N R2 v' (FF p) e'=some t:=by
 have hf0:∀(i:Nat) k k',e.kids[i]?=some k->e'.kids[i]?=some k'->HM p.decls e.op e.num i=0->T v k≠-1->T v' k'=T v k:=λi k k' hk wY hx h=>by
  have:=hf i k k' hk wY [] (by rw[hx];rfl) (by simp) (λx hx=>(by cases hx)) (by simpa using h);simpa using this
 by_cases h13:e.op=13
 .obtain⟨a,b,q1,q2,q3,q4,q5⟩:=X0 H V h13 hB ht;obtain⟨a',b',wY⟩ :∃a' b',e'.kids=[a',b']:=by
   match hq:e'.kids,hl with
   | [a',b'],_=>exact⟨a',b',rfl⟩
   | [],hl=>rw[q1]at hl;simp at hl
   | [_],hl=>rw[q1]at hl;simp at hl
   |_::_::_::_,hl=>rw[q1]at hl;simp at hl
  have e1:=hf0 0 a a' (by rw[q1];rfl) (by rw[wY];rfl) (by simp[HM,h13]) q3;have e2:=hf 1 b b' (by rw[q1];rfl) (by rw[wY];rfl) [T v a] (by simp[HM,h13]) (by simp) (by simp[q4]) (by rw[<- q5];exact ht);have:=(X1 (N:=N) H' V' (by rw[ho];exact h13) wY (by rw[hn];exact q2) (by rw[e1];exact q3)).1;rw[this,e1,e2,<- q5]
 by_cases h7:e.op=7
 .obtain⟨a,b,c,q1,q2,q3,q4,q5⟩:=fe H V hN h7 hB ht;obtain⟨a',b',c',wY⟩ :∃a' b' c',e'.kids=[a',b',c']:=by
   match hq:e'.kids,hl with
   | [a',b',c'],_=>exact⟨a',b',c',rfl⟩
   | [],hl=>rw[q1]at hl;simp at hl
   | [_],hl=>rw[q1]at hl;simp at hl
   | [_,_],hl=>rw[q1]at hl;simp at hl
   |_::_::_::_::_,hl=>rw[q1]at hl;simp at hl
  have hx:∀i,HM p.decls e.op e.num i=0:=λi=>by simp[HM,h7]
  have e1:=hf0 0 a a' (by rw[q1];rfl) (by rw[wY];rfl) (hx _) (by rw[q3];omega);have e2:=hf0 1 b b' (by rw[q1];rfl) (by rw[wY];rfl) (hx _) (by rw[<- q4];exact ht);have e3:=hf0 2 c c' (by rw[q1];rfl) (by rw[wY];rfl) (hx _) (by rw[<- q5];exact ht);have:=fO H' V' hN (by rw[ho];exact h7) wY (by rw[hn];exact q2) (by rw[e1];exact q3);rw[this,e2,e3,<- q4,<- q5,U2,pI rfl]
 by_cases h8:e.op=8
 .obtain⟨a,r,q1,q2,q3,q4,q5⟩:=Sa H V S hN h8 hB ht;have yY:e.num≠-1:=λq=>q2 (by rw[q];simp[CO]);obtain⟨a',r',wY⟩ :∃a' r',e'.kids=a'::r':=by
   match hq:e'.kids,hl with
   |a'::r',_=>exact⟨a',r',rfl⟩
   | [],hl=>rw[q1]at hl;simp at hl
  have ye:r'.length=r.length:=by rw[wY,q1]at hl;simpa using hl
  have e1:=hf0 0 a a' (by rw[q1];rfl) (by rw[wY];rfl) (by simp[HM,h8]) (by rw[q4];exact yY);have:=YG H' V' S hN (by rw[ho];exact h8) wY (by rw[hn];exact q2) (by rw[hn,ye];exact q3) (by rw[hn,e1];exact q4);rw[this,hn,q5];have al:=Zm q5 ht;congr 2;unfold bh at al⊢;apply qj;intro i;rw[rD,rD,pB];cases hc:(CO p.decls e.num)[i]? with
  |none=>rfl
  |some c=>
   cases hr:r[i]? with
   |none=>
    have:r'[i]?=none:=by rw[rV]at hr⊢;omega
    rw[this];rfl
   |some k=>
    have vk:=(pA.1 hr).1;have vg:r'[i]?=some r'[i]:=pF (by omega);have wH:=ov hc;have F:=RN S wH hN;have:=al (T (v++Gf p.decls c) k) (pY.2 ⟨i,by rw[rD,pB,hc,hr];rfl⟩);have g:=hf (i+1) k r'[i] (by rw[q1];exact hr) (by rw[wY];exact vg) (Gf p.decls c) (by simp[HM,h8,hc]) F.2.2.1 F.2.2.2 (by rw[this];exact ht);rw[vg];show some (T (v'++Gf p.decls c) r'[i])=some (T (v++Gf p.decls c) k);rw[g]
 have hb:=hB;rw[Fz H V hN vt h13 h7 h8]at hb;rw[Fz H' V' hN (by rw[ho];exact vt) (by rw[ho];exact h13) (by rw[ho];exact h7) (by rw[ho];exact h8),ho,hn];have:e'.kids.map (T v')=e.kids.map (T v):=by
  apply qj;intro i;rw[pB,pB];cases hk:e.kids[i]? with
  |none=>
   have:e'.kids[i]?=none:=by rw[rV]at hk⊢;omega
   rw[this];rfl
  |some k=>
   have vk:=(pA.1 hk).1;have wY:e'.kids[i]?=some e'.kids[i]:=pF (by omega);rw[wY];have:=hf0 i k _ hk wY (by simp[HM,h13,h8]) λq=>by
    rw[pI (rZ.2 ⟨T v k,rC (ov hk),by rw[q];rfl⟩)]at hb;simp at hb;exact ht hb.symm
   show some (T v' e'.kids[i])=some (T v k);rw[this]
 rw[this];exact hb
end
end RC
namespace RC
open Go
structure VX (p:AJ) (e:AD) (v:List Int):Prop where
 len:v.length+3*en e<=900
 Jk :∀x∈v,DZ p.decls x=true
 CS:Aj e
theorem VX.VM {p:AJ}{e:AD}{v:List Int}(V:VX p e v):IS p e v:=⟨by have:=V.len;omega,V.Jk,by have:=V.len;omega,V.CS⟩
def TX (p:AJ)(N:Nat)(T:List Int->AD->Int):Prop:=∀(v:List Int) (e:AD),Aj e->en e<340->v.length+3*en e<=1000->(∀x∈v,DZ p.decls x=true)->
  ∀n1 n2,340<=n1->340<=n2->Cj N n1 p v e=some (T v e)/\Bc N n2 v (FF p) e=some (T v e)/\(T v e=-1∨DZ p.decls (T v e)=true)
section
variable {p : AJ} {N : Nat} {T : List Int -> AD -> Int} {e : AD} {v : List Int}
theorem TX.tok (hT:TX p N T){m:Nat}(hm:m<=340):LH p (FF p) (Cj N 340) (Bc N 340) T m:=λv e a b c d=>hT v e a (by omega) c d 340 340 (pL _) (pL _)
theorem TX.bi (hT:TX p N T)(V:VX p e v):Al N (Bc N 340) v (FF p) e=some (T v e):=by
 have h:=V.len;have:=(hT v e V.CS (by omega) (by omega) V.Jk 341 341 (by omega) (by omega)).2.1;rwa [Bc]at this
theorem TX.bs (hT:TX p N T)(V:VX p e v):Bt N (Cj N 340) p v e=some (T v e):=by
 have h:=V.len;have:=(hT v e V.CS (by omega) (by omega) V.Jk 341 341 (by omega) (by omega)).1;rwa [Cj]at this
theorem TX.ty (hT:TX p N T)(V:VX p e v)(h:T v e≠-1):DZ p.decls (T v e)=true:=by
 have h1:=V.len;exact ((hT v e V.CS (by omega) (by omega) V.Jk 341 341 (by omega) (by omega)).2.2).resolve_left h
theorem TX.H (hT:TX p N T)(V:VX p e v):LH p (FF p) (Cj N 340) (Bc N 340) T (en e):=hT.tok (by have:=V.len;omega)
theorem VX.KH (V:VX p e v){k:AD}(hk:k∈e.kids){m:List Int}(hm:m.length<=3)(ht :∀x∈m,DZ p.decls x=true):VX p k (v++m):=by
 have h:=V.len;have hke:=Ca hk;refine⟨by rw[pU];omega,λx hx=>?_,V.CS.kids k hk⟩;rcases pX.1 hx with hx|hx
 .exact V.Jk x hx
 .exact ht x hx
theorem TX.var (hT:TX p N T)(V:VX p e v)(h:e.op=12):T v e=if e.kids=[]/\0<=e.num/\e.num<(v.length:Int) then (v[e.num.toNat]?).getD (-1) else -1:=by
 have q:=hT.bi V;unfold Al at q;simp only[h,pW,pq]at q;by_cases hk:e.kids=[]
 .rw[hk]at q⊢;by_cases h0:e.num<0
  .have:¬ (0<=e.num):=by omega
   simp[AI,h0]at q;simp[this,<- q]
  .by_cases h1:(v.length:Int)<=e.num
   .have:¬ (e.num<(v.length:Int)):=by omega
    simp[AI,h0,h1]at q;simp[this,<- q]
   .obtain⟨x,hx1,hx2⟩:=OY (l:=v) (j:=e.num) (by omega) (by omega);have a1:0<=e.num:=by omega
    have a2:e.num<(v.length:Int):=by omega
    simp only[AI,qi,h0,h1,pa,pD,pV,ou]at q;rw[hx1]at q;rw[pI ⟨rfl,a1,a2⟩,hx2];simpa using q.symm
 .have:0<Sh.len e.kids:=by rw[AI];have:=sc.2 hk;omega
  simp only[this,pW,pq,ou,pC]at q;simp[hk,<- q]
end
mutual
def sh (n k:Int):AD->AD|.mk o nu ks=>.mk o (if o=12/\n<=nu then nu+k else nu) (shl n k ks)
def shl (n k:Int):List AD->List AD|[]=>[]|e::l=>sh n k e::shl n k l
end
theorem fS {n k:Int}:∀l,shl n k l=l.map (sh n k)
 | []=>by simp[shl]
 |e::l=>by simp[shl,fS l]
theorem Uu {n k:Int}(e:AD):sh n k e=.mk e.op (if e.op=12/\n<=e.num then e.num+k else e.num) (e.kids.map (sh n k)):=by cases e;simp only[sh,fS];rfl
theorem Uv {n k:Int}(e:AD):(sh n k e).op=e.op:=by rw[Uu];rfl
theorem Nv {n k:Int}(e:AD):(sh n k e).num=if e.op=12/\n<=e.num then e.num+k else e.num:=by rw[Uu];rfl
theorem Kd {n k:Int}(e:AD):(sh n k e).kids=e.kids.map (sh n k):=by rw[Uu];rfl
mutual
theorem YI {n k:Int}:∀e,en (sh n k e)=en e
 |.mk o nu ks=>by simp only[sh,en,cT ks]
theorem cT {n k:Int}:∀l,CJ (shl n k l)=CJ l
 | []=>rfl
 |e::l=>by simp only[shl,CJ,YI e,cT l]
end
section
variable {p : AJ} {N : Nat} {T : List Int -> AD -> Int}
theorem kE (S:FB p.decls p.funcs)(hN:2000000<=N)(hT:TX p N T)(v d:List Int)(hd :∀x∈d,DZ p.decls x=true):∀(c:Nat) (e:AD) (w:List Int),en e<=c->VX p e (v++w)->v.length+d.length+w.length+3*en e<=900->T (v++w) e≠-1->
  T (v++d++w) (sh v.length d.length e)=T (v++w) e/\Aj (sh v.length d.length e):=by
 intro c
 induction c with
 |zero=>intro e w h;have:=Fi e;omega
 |succ c ih=>
  intro e w hc V hl ht;have K:∀k∈e.kids,Aj (sh v.length d.length k):=λk hk=>by
   obtain⟨m,m1,m2,m3⟩:=bj (hT.H V) V.VM S hN (hT.bi V) ht k hk;have hke:=Ca hk;have:=ih k (w++m) (by omega) (by rw[<- qe];exact V.KH hk m1 m2) (by simp;omega) (by rw[<- qe];exact m3);exact this.2
  have hI:=V.CS;have Vt:∀x∈v++d++w,DZ p.decls x=true:=λx hx=>by
   rcases pX.1 hx with hx|hx
   .rcases pX.1 hx with hx|hx
    .exact V.Jk x (by simp[hx])
    .exact hd x hx
   .exact V.Jk x (by simp[hx])
  have CS:Aj (sh v.length d.length e):=by
   have hop:=hI.op;have yY:=hI.num;have xz:=hI.KX;refine .mk (by rw[Uv];exact hop) ?_ (by rw[Kd];simpa using xz) (λk hk=>?_)
   .rw[Nv];by_cases vt:e.op=12
    .have q:=hT.var V vt;by_cases hr:e.kids=[]/\0<=e.num/\e.num<((v++w).length:Int)
     .have hlv:=V.len;split
      .have h1:=hr.2.2;have h2:=hr.2.1;unfold HC at *;omega
      .exact yY
     .rw[pJ hr]at q;exact absurd q ht
    .rw[pJ (λh=>vt h.1)];exact yY
   .rw[Kd]at hk;obtain⟨k0,hk0,rfl⟩:=pQ.1 hk;exact K k0 hk0
  have V':VX p (sh v.length d.length e) (v++d++w):=⟨by rw[YI];simp;omega,Vt,CS⟩
  refine⟨?_,CS⟩;by_cases vt:e.op=12
  .have q:=hT.var V vt;have q':=hT.var V' (by rw[Uv];exact vt);by_cases hr:e.kids=[]/\0<=e.num/\e.num<((v++w).length:Int)
   .obtain⟨r1,r2,r3⟩:=hr;rw[pI ⟨r1,r2,r3⟩]at q;rw[q,q'];rw[Kd,Nv,r1,qt];simp only[vt,true_and];simp only[pU]at r3;by_cases hv:(v.length:Int)<=e.num
    .rw[pI hv,pI ⟨by omega,by simp only[pU];omega⟩];have e1:(e.num+(d.length:Int)).toNat=e.num.toNat+d.length:=by omega
     rw[e1,pN (by simp;omega),pN (by omega)];congr 2;simp;omega
    .rw[pJ hv,pI ⟨by omega,by simp only[pU];omega⟩];rw[qe,pM (by omega),pM (by omega)]
   .rw[pJ hr]at q;exact absurd q ht
  .have hB:=Th (e':=sh v.length d.length e) (v':=v++d++w) (hT.H V) (hT.H V') V.VM V'.VM S hN (hT.bi V) ht (Uv e) (by rw[Nv,pJ (λh=>vt h.1)]) vt (by rw[Kd];simp) (λi k k' hk wY m _ hm3 hmt hkt=>by
    rw[Kd,pB,hk]at wY;obtain rfl:sh v.length d.length k=k':=by simpa using wY
    have xU:=ov hk;have hke:=Ca xU;rw[qe v w m]at hkt⊢;rw[qe (v++d) w m];exact (ih k (w++m) (by omega) (by rw[<- qe];exact V.KH xU hm3 hmt) (by simp;omega) hkt).1)
   have:=hT.bi V';rw[hB]at this;exact (qf this).symm
def lt (n:Nat):Nat->List AD->AD->AD
 |_,[],b=>b
 |k,x::r,b=>.mk 13 0 [sh n k x,lt n (k+1) r b]
theorem bH {n:Nat}:∀(xs:List AD) (k:Nat) (b:AD),en (lt n k xs b)=xs.length+CJ xs+en b
 | [],k,b=>by simp[lt,CJ]
 |x::r,k,b=>by
  simp only[lt,en,CJ,YI,bH r,po];omega
theorem ib (S:FB p.decls p.funcs)(hN:2000000<=N)(hT:TX p N T)(v:List Int)(hv :∀x∈v,DZ p.decls x=true):∀(xs:List AD) (d:List Int) (b:AD),(∀x∈d,DZ p.decls x=true)->v.length+d.length+3*(xs.length+CJ xs+en b)<=900->(∀x∈xs,Aj x/\T v x≠-1)->Aj b->
  T (v++d) (lt v.length d.length xs b)=T (v++d++xs.map (T v)) b/\Aj (lt v.length d.length xs b)
 | [],d,b,_,_,_,hb=>by simp[lt,hb]
 |x::r,d,b,hd,hl,hx,hb=>by
  obtain⟨x1,x2⟩:=hx x (by simp);simp only[po,CJ]at hl;have hep:=Fi x;have Vx:VX p x (v++[]):=⟨by simp;omega,by simpa using hv,x1⟩
  have s:=kE S hN hT v d hd (en x) x [] (pL _) Vx (by simp;omega) (by simpa using x2);rw[qR,qR]at s;have htx:DZ p.decls (T v x)=true:=by
   have:=hT.ty Vx (by simpa using x2);simpa using this
  have hd' :∀y∈d++[T v x],DZ p.decls y=true:=λy hy=>by
   rcases pX.1 hy with hy|hy
   .exact hd y hy
   .simp only[pS]at hy;rw[hy];exact htx
  have r1:=ib S hN hT v hv r (d++[T v x]) b hd' (by simp;omega) (λy hy=>hx y (by simp[hy])) hb;rw[pU,rr]at r1;have CS:Aj (lt v.length d.length (x::r) b):=by
   refine .mk (show HC 13 by unfold HC;omega) (show HC 0 by unfold HC;omega) (by simp[lt,AD.kids]) (λk hk=>?_);simp only[lt,AD.kids,pK,pj,qb]at hk;rcases hk with rfl|rfl
   .exact s.2
   .exact r1.2
  have zH:=bH (n:=v.length) (x::r) d.length b;simp only[po,CJ]at zH;have V:VX p (lt v.length d.length (x::r) b) (v++d):=⟨by rw[zH,pU];omega,λy hy=>by
   rcases pX.1 hy with hy|hy
   .exact hv y hy
   .exact hd y hy,CS⟩
  refine⟨?_,CS⟩;have q:=(X1 (N:=N) (hT.H V) V.VM rfl (a:=sh v.length d.length x) (b:=lt v.length (d.length+1) r b) rfl rfl (by rw[s.1];exact x2)).1;rw[hT.bi V]at q;rw[qf q,s.1];have:=r1.1;rw[<- qe]at this;rw[this];simp
end
end RC
namespace RC
open Go
def ci (D:List AK)(t c:Int):Nat:=(c-(nc (D.take (t-1).toNat):Int)).toNat
section
variable {p : AJ} {N : Nat} {T : List Int -> AD -> Int} {e : AD} {v : List Int}
end
end RC
namespace RC
open Go
section
variable {p : AJ} {N : Nat} {T : List Int -> AD -> Int}
theorem QN (S:FB p.decls p.funcs)(hN:2000000<=N)(hT:TX p N T){e:AD}{v:List Int}(V:VX p e v)(ht:T v e≠-1){i:Nat}{k:AD}(hk:e.kids[i]?=some k):
  ∃m:List Int,m.length=HM p.decls e.op e.num i/\m.length<=3/\(∀x∈m,DZ p.decls x=true)/\T (v++m) k≠-1:=by
 have hB:=hT.bi V;have nil:HM p.decls e.op e.num i=0->T v k≠-1->∃m:List Int,m.length=HM p.decls e.op e.num i/\m.length<=3/\(∀x∈m,DZ p.decls x=true)/\T (v++m) k≠-1:=λhx h=>⟨[],by rw[hx];rfl,by simp,λx hx=>(by cases hx),by simpa using h⟩;by_cases vt:e.op=12
 .have q:=hT.var V vt;by_cases hr:e.kids=[]/\0<=e.num/\e.num<(v.length:Int)
  .rw[hr.1]at hk;simp at hk
  .rw[pJ hr]at q;exact absurd q ht
 by_cases h13:e.op=13
 .obtain⟨a,b,q1,q2,q3,q4,q5⟩:=X0 (hT.H V) V.VM h13 hB ht;rw[q1]at hk
  match i,hk with
  |0,hk=>simp at hk;subst hk;exact nil (by simp[HM,h13]) q3
  |1,hk=>simp at hk;subst hk;exact⟨[T v a],by simp[HM,h13],by simp,by simp[q4],by rw[<- q5];exact ht⟩
 by_cases h7:e.op=7
 .obtain⟨a,b,c,q1,q2,q3,q4,q5⟩:=fe (hT.H V) V.VM hN h7 hB ht;have hx:HM p.decls e.op e.num i=0:=by simp[HM,h7]
  rw[q1]at hk
  match i,hk with
  |0,hk=>simp at hk;subst hk;exact nil hx (by rw[q3];omega)
  |1,hk=>simp at hk;subst hk;exact nil hx (by rw[<- q4];exact ht)
  |2,hk=>simp at hk;subst hk;exact nil hx (by rw[<- q5];exact ht)
 by_cases h8:e.op=8
 .obtain⟨a,r,q1,q2,q3,q4,q5⟩:=Sa (hT.H V) V.VM S hN h8 hB ht;have yY:e.num≠-1:=λq=>q2 (by rw[q];simp[CO]);rw[q1]at hk
  match i,hk with
  |0,hk=>simp at hk;subst hk;exact nil (by simp[HM,h8]) (by rw[q4];exact yY)
  |i+1,hk=>
   simp only[py]at hk;have vk:=(pA.1 hk).1;have hc:(CO p.decls e.num)[i]?=some (CO p.decls e.num)[i]:=pF (by omega);have F:=RN S (ov hc) hN;have:=Zm q5 ht (T (v++Gf p.decls (CO p.decls e.num)[i]) k) (pY.2 ⟨i,by unfold bh;rw[rD,pB,hc,hk];rfl⟩);exact⟨_,by simp[HM,h8,hc],F.2.2.1,F.2.2.2,by rw[this];exact ht⟩
 rw[Fz (hT.H V) V.VM hN vt h13 h7 h8]at hB;by_cases h:(e.kids.map (T v)).any (λt=>decide (t<0))=true
 .rw[pI h]at hB;simp at hB;exact absurd hB.symm ht
 .exact nil (by simp[HM,h13,h8]) λhq=>h (rZ.2 ⟨T v k,rC (ov hk),by rw[hq];rfl⟩)
theorem lA {e:AD}(h:Aj e){l:List AD}(hl:l.length=e.kids.length)(hk :∀k∈l,Aj k):Aj (.mk e.op e.num l):=
 .mk (show HC e.op from h.op) (show HC e.num from h.num) (by show l.length<=_;rw[hl];exact h.KX) hk
end
end RC
namespace RC
open Go
section
variable {p : AJ} {N : Nat} {T : List Int -> AD -> Int}
end
theorem Us {N:Nat}(hN:2000000<=N){a b:Int}:∀(n:Nat) (e:AD),en e<=n->en e<=1000->Aj (sh a b e)->HQ N n e a b=some (sh a b e):=by
 intro n
 induction n with
 |zero=>intro e h;have:=Fi e;omega
 |succ n ih=>
  intro e hn hs hI;have hlen:=HF e.kids;have he:=Ft e;have hIn:=hI.num;rw[Nv]at hIn;have hIk:=hI.kids;rw[Kd]at hIk;rw[HQ];unfold MC LJ;have key:∀(M i:Nat),i<=e.kids.length->e.kids.length-i<M->Eu e.kids a b (HQ N n) M i ((e.kids.map (sh a b)).take i)=some (e.kids.map (sh a b)):=by
   intro M i hi hM;refine BS e.kids.length (λM i=>Eu e.kids a b (HQ N n) M i ((e.kids.map (sh a b)).take i)=some (e.kids.map (sh a b))) ?_ ?_ hi hM
   .intro m;rw[Eu,pJ (by simp[AI]),qI (by simp)]
   .intro m i hi xH;obtain⟨c,hc,wH⟩:=Bi hi;have h1:=I3 wH;rw[Eu,pI (by simp[AI];omega),Aw hc];simp only[ou];rw[ih c (by omega) (by omega) (hIk _ (rC wH))];simp only[ou];rw[DH _ _ 40 (by simp;omega) (by simp;omega),BE (by omega) (by omega),show ((i:Int)+1)=((i+1:Nat):Int) by omega];simp only[ou];have hm:(e.kids.map (sh a b))[i]?=some (sh a b c):=by rw[pB,hc];rfl
    rw[<- EM hm];exact xH
  have:=key N 0 (pT _) (by omega);rw[qs,tk]at this;rw[this,Uu];by_cases h:e.op=12
  .by_cases h2:a<=e.num
   .have hc:(if e.op=12/\a<=e.num then e.num+b else e.num)=e.num+b:=pI ⟨h,h2⟩;rw[hc]at hIn⊢;simp only[h,h2,pW,pq,ou];rw[BE (by unfold HC at hIn;omega) (by unfold HC at hIn;omega)]
   .have hc:(if e.op=12/\a<=e.num then e.num+b else e.num)=e.num:=pJ λq=>h2 q.2;rw[hc];simp[h,h2]
  .have hc:(if e.op=12/\a<=e.num then e.num+b else e.num)=e.num:=pJ λq=>h q.1;rw[hc];simp[h]
theorem QZ {N:Nat}(hN:2000000<=N){a b:Int}{e:AD}(hs:en e<=1000)(hI:Aj (sh a b e)):MH N e a b=some (sh a b e):=by
 unfold MH;exact Us hN N e (by omega) hs hI
theorem SU {N:Nat}(hN:2000000<=N){a b:Int}:∀(n:Nat) (e:AD),en e<=n->en e<=1000->Aj (sh a b e)->EG N n e a b=some (sh a b e):=by
 intro n
 induction n with
 |zero=>intro e h;have:=Fi e;omega
 |succ n ih=>
  intro e hn hs hI;have hlen:=HF e.kids;have he:=Ft e;have hIn:=hI.num;rw[Nv]at hIn;have hIk:=hI.kids;rw[Kd]at hIk;rw[EG];unfold JA;have key:∀(M i:Nat),i<=e.kids.length->e.kids.length-i<M->Cn e a b (EG N n) M i ((e.kids.map (sh a b)).take i)=some (e.kids.map (sh a b)):=by
   intro M i hi hM;refine BS e.kids.length (λM i=>Cn e a b (EG N n) M i ((e.kids.map (sh a b)).take i)=some (e.kids.map (sh a b))) ?_ ?_ hi hM
   .intro m;rw[Cn,pJ (by simp[AI]),qI (by simp)]
   .intro m i hi xH;obtain⟨c,hc,wH⟩:=Bi hi;have h1:=I3 wH;rw[Cn,pI (by simp[AI];omega),Aw hc];simp only[ou];rw[ih c (by omega) (by omega) (hIk _ (rC wH))];simp only[ou];rw[DH _ _ 40 (by simp;omega) (by simp;omega),BE (by omega) (by omega),show ((i:Int)+1)=((i+1:Nat):Int) by omega];simp only[ou];have hm:(e.kids.map (sh a b))[i]?=some (sh a b c):=by rw[pB,hc];rfl
    rw[<- EM hm];exact xH
  have:=key N 0 (pT _) (by omega);rw[qs,tk]at this;rw[this,Uu];by_cases h:e.op=12
  .by_cases h2:a<=e.num
   .have hc:(if e.op=12/\a<=e.num then e.num+b else e.num)=e.num+b:=pI ⟨h,h2⟩;rw[hc]at hIn⊢;simp only[h,h2,pW,pq,ou];rw[BE (by unfold HC at hIn;omega) (by unfold HC at hIn;omega)]
   .have hc:(if e.op=12/\a<=e.num then e.num+b else e.num)=e.num:=pJ λq=>h2 q.2;rw[hc];simp[h,h2]
  .have hc:(if e.op=12/\a<=e.num then e.num+b else e.num)=e.num:=pJ λq=>h q.1;rw[hc];simp[h]
theorem OW {N:Nat}(hN:2000000<=N){a b:Int}{e:AD}(hs:en e<=1000)(hI:Aj (sh a b e)):Gs N e a b=some (sh a b e):=by
 unfold Gs;exact SU hN N e (by omega) hs hI
theorem fq {n:Nat}:∀(xs ys:List AD) (k:Nat) (b:AD),lt n k (xs++ys) b=lt n k xs (lt n (k+xs.length) ys b)
 | [],ys,k,b=>by simp[lt]
 |x::xs,ys,k,b=>by
  simp only[tD,lt,fq xs,po];rw[show k+1+xs.length=k+(xs.length+1) by omega]
theorem cM {n:Nat}{l:List AD}{i:Nat}{x:AD}(h:l[i]?=some x)(b:AD):lt n 0 (l.take i) (.mk 13 0 [sh n i x,b])=lt n 0 (l.take (i+1)) b:=by
 have vk:=(pA.1 h).1;rw[EM h,fq,rP,sL (by omega),qO];rfl
theorem Na {N:Nat}(hN:2000000<=N){n:Nat}{l:List AD}(hl :∀(i:Nat) x,l[i]?=some x->en x<=1000/\Aj (sh n i x)):∀(i:Nat) (b:AD),i<=l.length->Gc N l (n:Int) i b=some (lt n 0 (l.take i) b)
 |0,b,_=>by rw[Gc,qs];rfl
 |i+1,b,hi=>by
  obtain⟨x,hx,_⟩:=Bi (l:=l) (i:=i) (by omega);obtain⟨h1,h2⟩:=hl i x hx;rw[Gc,Aw hx];simp only[ou];rw[OW hN h1 h2];simp only[ou];rw[Na hN hl i _ (by omega),cM hx]
theorem WW {N:Nat}(hN:2000000<=N){n:Nat}{l:List AD}{b:AD}(zL:l.length<=1000)(hl :∀(i:Nat) x,l[i]?=some x->en x<=1000/\Aj (sh n i x)):LY N b.kids l b.op b.num (n:Int)=some (lt n 0 l b):=by
 unfold LY;rw[pI (by omega),<- KI,Na hN hl l.length b (pL _),qq]
theorem O1 {N:Nat}(hN:2000000<=N){n:Nat}{l:List AD}(zL:l.length<=1000)(hl :∀(i:Nat) x,l[i]?=some x->en x<=1000/\Aj (sh n i x)):∀(i:Nat) (b:AD) (M:Nat),i<=l.length->i<M->HS N l (n:Int) M ((i:Int)-1) b.op b.num b.kids=some ((lt n 0 (l.take i) b).op,(lt n 0 (l.take i) b).num,(lt n 0 (l.take i) b).kids)
 |0,b,M,_,hM=>by
  obtain⟨M,rfl⟩ :∃m,M=m+1:=⟨M-1,by omega⟩
  rw[HS,pJ (by simp),qs];rfl
 |i+1,b,M,hi,hM=>by
  obtain⟨M,rfl⟩ :∃m,M=m+1:=⟨M-1,by omega⟩
  obtain⟨x,hx,_⟩:=Bi (l:=l) (i:=i) (by omega);obtain⟨h1,h2⟩:=hl i x hx;have e:((i+1:Nat):Int)-1=(i:Int):=by omega
  rw[HS,e,pI (by simp),Aw hx];simp only[ou];rw[QZ hN h1 h2];simp only[ou];rw[<- KI,BE (by omega) (by omega)];have:=O1 hN zL hl i (.mk 13 0 [sh n i x,b]) M (by omega) (by omega);rw[cM hx]at this;exact this
theorem Yr {N:Nat}(hN:2000000<=N){n:Nat}{l:List AD}{b:AD}(zL:l.length<=1000)(hl :∀(i:Nat) x,l[i]?=some x->en x<=1000/\Aj (sh n i x)):Ni N l b (n:Int)=some (lt n 0 l b):=by
 unfold Ni;rw[AI,BE (by omega) (by omega),O1 hN zL hl l.length b N (pL _) (by omega),qq];simp only[ou];rw[<- KI]
end RC
namespace RC
open Go
section
variable {p : AJ} {N : Nat} {T : List Int -> AD -> Int}
theorem Zj (S:FB p.decls p.funcs)(hN:2000000<=N)(hT:TX p N T){e:AD}{v:List Int}(V:VX p e v)(ht:T v e≠-1){i:Nat}(hi:i<e.kids.length):
  Kf N p e i v.length=some ((v.length+HM p.decls e.op e.num i:Nat):Int)/\
  ((if decide (e.op=13)=true then some (decide ((i:Int)=1)) else some false).bind λt23=>if t23=true then some (Sh.w ((v.length:Int)+1)) else (if decide (e.op=8)=true then some (decide (0<(i:Int))) else some false).bind λt27=>if t27=true then (Iw N p.decls e.num).bind λyK=>(Sh.get yK (Sh.w ((i:Int)-1))).bind λc31=>(Eg N p.decls c31).bind λxy=>some (Sh.w ((v.length:Int)+Sh.len xy)) else some (v.length:Int))=some ((v.length+HM p.decls e.op e.num i:Nat):Int):=by
 have hlv:=V.len;have hD:=S.Pr;have hnc:=S.nc;have xz:=HF e.kids;have zH:=Ft e;unfold Kf;by_cases h13:e.op=13
 .obtain⟨a,b,q1,_⟩:=X0 (hT.H V) V.VM h13 (hT.bi V) ht;rw[q1]at hi
  match i,hi with
  |0,_=>simp[h13,HM]
  |1,_=>
   have hw:Sh.w ((v.length:Int)+1)=((v.length+1:Nat):Int):=by rw[BE (by omega) (by omega)];rfl
   simp[h13,HM,hw]
 by_cases h8:e.op=8
 .obtain⟨a,r,q1,q2,q3,q4,q5⟩:=Sa (hT.H V) V.VM S hN h8 (hT.bi V) ht;rw[q1]at hi
  match i,hi with
  |0,_=>simp[h8,HM]
  |i+1,hi=>
   simp only[po]at hi;have xZ:=NT S.V7 e.num;have hc:(CO p.decls e.num)[i]?=some (CO p.decls e.num)[i]:=pF (by omega);have F:=RN S (ov hc) hN;have f3:=F.2.2.1;have hx:HM p.decls e.op e.num (i+1)=(Gf p.decls (CO p.decls e.num)[i]).length:=by simp[HM,h8,hc]
   have e1:Sh.w (((i+1:Nat):Int)-1)=(i:Int):=by rw[BE (by omega) (by omega)];omega
   have e2:Sh.w ((v.length:Int)+((Gf p.decls (CO p.decls e.num)[i]).length:Int))=((v.length+HM p.decls e.op e.num (i+1):Nat):Int):=by rw[BE (by omega) (by omega),hx];omega
   have n0:¬ ((i+1:Nat):Int)=0:=by omega
   have n1:(0:Int)<((i+1:Nat):Int):=by omega
   rw[e1,MX (by omega) (by omega) hN,JJ (by omega) (by omega) hN];simp only[h8,n0,n1,Int.reduceEq,pW,pa,pD,pq,pV,ou];rw[Aw hc];simp only[ou];rw[F.1,F.2.1];simp only[ou,AI];rw[e2,h8];exact⟨rfl,rfl⟩
 .have hx:HM p.decls e.op e.num i=0:=by simp[HM,h13,h8]
  rw[hx];simp[h13,h8]
end
end RC
namespace RC
open Go
def wB (p:AJ)(g:AU->AD):AJ×Bool:=if (p.funcs.all λf=>decide (en (g f)<=30))=true then (.mk p.decls (p.funcs.map λf=>.mk f.params f.result (g f)),true) else (.mk [] [],false)
theorem WA {N:Nat}(hN:2000000<=N){p:AJ}{g:AU->AD}(hd:p.decls.length<=1048576)(hz :∀d∈p.decls,dz d<=1048576)(hf:p.funcs.length<=1048576)(hb :∀f∈p.funcs,f.params.length<=1048576/\en (g f)<=1000):IW N p (p.funcs.map g)=some (wB p g):=by
 unfold IW;rw[ZB hd hz hN];simp only[ou];have key:∀(M i:Nat),i<=p.funcs.length->p.funcs.length-i<M->EF N p (p.funcs.map g) M i ((p.funcs.map λf=>AU.mk f.params f.result (g f)).take i)=some (if ((p.funcs.drop i).all λf=>decide (en (g f)<=30))=true then Sum.inr (p.funcs.map λf=>AU.mk f.params f.result (g f)) else Sum.inl (.mk [] [],false)):=by
  intro M i hi hM;refine BS p.funcs.length (λM i=>EF N p (p.funcs.map g) M i ((p.funcs.map λf=>AU.mk f.params f.result (g f)).take i)=some (if ((p.funcs.drop i).all λf=>decide (en (g f)<=30))=true then Sum.inr (p.funcs.map λf=>AU.mk f.params f.result (g f)) else Sum.inl (.mk [] [],false))) ?_ ?_ hi hM
  .intro m;rw[EF,pJ (by simp[AI]),qI (by simp),qp];rfl
  .intro m i hi ih;obtain⟨f,yM,hfm⟩:=Bi hi;obtain⟨hbp,hs⟩:=hb f hfm;have hze:=Ft (g f);have hm0:(p.funcs.map g)[i]?=some (g f):=by rw[pB,yM];rfl
   have hm:(p.funcs.map λf=>AU.mk f.params f.result (g f))[i]?=some (AU.mk f.params f.result (g f)):=by rw[pB,yM];rfl
   rw[EF,pI (by simp[AI];omega),Aw hm0,drop_cons yM,rQ];simp only[ou];rw[Gk (by omega) hN];simp only[ou];by_cases yI:en (g f)<=30
   .rw[pI yI,pJ (by simp),Aw yM];simp only[ou,yI,pW,sI];have hci:Fv f.params=some f.params:=by
     unfold Fv;rw[DH _ _ _ (by simp;omega) (by simp;omega)];rfl
    rw[hci,ZE hN (by have:=Ft (g f);omega)];simp only[ou];rw[DH _ _ 72 (by simp;omega) (by simp;omega),BE (by omega) (by omega),show ((i:Int)+1)=((i+1:Nat):Int) by omega];simp only[ou];rw[<- EM hm];exact ih
   .rw[pJ yI];simp[yI]
 have:=key N 0 (pT _) (by omega);rw[qs,tk,qJ]at this;rw[this];unfold wB;by_cases h:(p.funcs.all λf=>decide (en (g f)<=30))=true
 .rw[pI h,pI h];rfl
 .rw[pJ h,pJ h];rfl
theorem jF {p:AJ}{g:AU->AD}(hp:U3 p<=1048576)(h4:p.funcs.length<=4)(hz:U3 p<=500000∨∀f∈p.funcs,f.params.length<=3)(hdz:p.decls.length+(p.decls.map dz).sum<=500000):U3 (wB p g).1<=1048576:=by
 unfold wB;split
 .rename_i h;rw[pG]at h;unfold U3 at hp hz⊢;simp only[pR,rF];have:(p.funcs.map (aH∘λf=>AU.mk f.params f.result (g f))).sum<=30*p.funcs.length+1*(p.funcs.map aH).sum:=T3 λf hf=>by
   have:=h f hf;simp only[pP]at this;have h2:=Ft (g f);show f.params.length+CJ (g f).kids<=_;unfold aH;omega
  rcases hz with hz|hz
  .omega
  .have h5:(p.funcs.map (aH∘λf=>AU.mk f.params f.result (g f))).sum<=33*p.funcs.length+0*(p.funcs.map aH).sum:=T3 λf hf=>by
    have:=h f hf;simp only[pP]at this;have h2:=Ft (g f);have h3:=hz f hf;show f.params.length+CJ (g f).kids<=_;omega
   omega
 .simp[U3]
section
variable {p : AJ} {N : Nat}
theorem T5 (S:Ds p)(hN:2000000<=N)(hv:BM N p=some true):FB p.decls p.funcs/\∃T,TX p N T/\∀f∈p.funcs,en f.body<=30/\f.params.length<=3/\(∀x∈f.params,DZ p.decls x=true)/\Aj f.body/\DZ p.decls f.result=true/\T f.params f.body=f.result:=by
 obtain⟨SO,T0,hT0,h⟩:=jW S hN hv;obtain⟨T,hT⟩:=O3 SO hN 340;refine⟨SO,T,hT,λf hf=>?_⟩;obtain⟨he,V,ty,hb⟩:=h f hf;have hp:=(SO.NS f hf).1;refine⟨he,hp,V.Jk,V.CS,ty,?_⟩;have a:=(hT0 f.params f.body V.CS (by omega) (by omega) V.Jk 340 340 (by omega) (by omega)).1;have b:=(hT f.params f.body V.CS (by omega) (by omega) V.Jk 340 340 (pL _) (pL _)).1;rw[a]at b;rw[<- hb];exact (qf b).symm
end
theorem aM {p:AJ}(S:Ds p){N:Nat}(hN:2000000<=N)(hv:BM N p=some true):p.funcs.length<=4/\(∀f∈p.funcs,f.params.length<=3)/\p.decls.length+(p.decls.map dz).sum<=500000:=by
 obtain⟨SO,_⟩:=T5 S hN hv;refine⟨SO.J2,λf hf=>(SO.NS f hf).1,?_⟩;have hD:=SO.Pr;have:(p.decls.map dz).sum<=100*p.decls.length+0*(p.decls.map dz).sum:=T3 λd hd=>by
  have h1:=SO.V7 d hd;have h2:(d.cons.map cz).sum<=30*d.cons.length+0*(d.cons.map cz).sum:=T3 λc hc=>by
   have:=(SO.Nc d hd c hc).1;unfold cz;omega
  unfold dz;omega
 omega
end RC
namespace RC
open Go
mutual
def MB (B:Int):AD->Prop|.mk o n k=>(o=12->0<=n/\n<=B)/\gS B k
def gS (B:Int):List AD->Prop|[]=>True|e::l=>MB B e/\gS B l
end
theorem dD {B:Int}:∀{l:List AD},gS B l->∀e∈l,MB B e
 | [],_,e,h=>by cases h
 |a::l,h,e,he=>by
  unfold gS at h;rcases pK.1 he with rfl|he
  .exact h.1
  .exact dD h.2 e he
theorem gA {B:Int}:∀{l:List AD},(∀e∈l,MB B e)->gS B l
 | [],_=>trivial
 |a::l,h=>by unfold gS;exact⟨h a (by simp),gA λe he=>h e (by simp[he])⟩
theorem mw {B:Int}{e:AD}(h1:e.op=12->0<=e.num/\e.num<=B)(h2 :∀k∈e.kids,MB B k):MB B e:=by cases e;unfold MB;exact⟨h1,gA h2⟩
theorem MB.n {B:Int}{e:AD}(h:MB B e):e.op=12->0<=e.num/\e.num<=B:=by cases e;unfold MB at h;exact h.1
theorem MB.KH {B:Int}{e k:AD}(h:MB B e)(hk:k∈e.kids):MB B k:=by cases e;unfold MB at h;exact dD h.2 k hk
structure QB (B:Int) (e:AD):Prop where
 CS:Aj e
 mb:MB B e
theorem QB.KH {B:Int}{e k:AD}(h:QB B e)(hk:k∈e.kids):QB B k:=⟨h.CS.kids k hk,h.mb.KH hk⟩
theorem QB.of {B:Int}{e:AD}(h0:HC e.op)(h1:HC e.num)(h2:e.kids.length<=9223372036854775807)(h3:e.op=12->0<=e.num/\e.num<=B)(h4 :∀k∈e.kids,QB B k):QB B e:=
 ⟨.mk h0 h1 h2 λk hk=>(h4 k hk).CS,mw h3 λk hk=>(h4 k hk).mb⟩
theorem QB.mono {B C:Int}(hBC:B<=C):∀(n:Nat) (e:AD),en e<=n->QB B e->QB C e:=by
 intro n
 induction n with
 |zero=>intro e h;have:=Fi e;omega
 |succ n ih=>
  intro e hn h;exact .of h.CS.op h.CS.num h.CS.KX (λvt=>by have:=h.mb.n vt;omega) λk hk=>ih k (by have:=Ca hk;omega) (h.KH hk)
theorem QB.up {B C:Int}{e:AD}(h:QB B e)(hBC:B<=C):QB C e:=QB.mono hBC (en e) e (pL _) h
theorem Z2 {B a k:Int}(hk:0<=k)(hB:B+k<=4611686018427387904):∀(n:Nat) (e:AD),en e<=n->QB B e->QB (B+k) (sh a k e):=by
 intro n
 induction n with
 |zero=>intro e h;have:=Fi e;omega
 |succ n ih=>
  intro e hn h;have yY:=h.CS.num;refine .of (by rw[Uv];exact h.CS.op) ?_ (by rw[Kd];simpa using h.CS.KX) (λvt=>?_) λx hx=>?_
  .rw[Nv];by_cases vt:e.op=12
   .have:=h.mb.n vt;split
    .unfold HC;omega
    .exact yY
   .rw[pJ (λq=>vt q.1)];exact yY
  .rw[Uv]at vt;have:=h.mb.n vt;rw[Nv];split<;>omega
  .rw[Kd]at hx;obtain⟨y,hy,rfl⟩:=pQ.1 hx;exact ih y (by have:=Ca hy;omega) (h.KH hy)
theorem kQ {B:Int}{n:Nat}:∀(xs:List AD) (c:Nat) (b:AD),B+c+xs.length<=4611686018427387904->(∀x∈xs,QB B x)->QB (B+c+xs.length) b->QB (B+c+xs.length) (lt n c xs b)
 | [],c,b,_,_,hb=>hb
 |x::r,c,b,hB,hx,hb=>by
  simp only[po]at hB hb⊢;have h1:=Z2 (a:=(n:Int)) (k:=(c:Int)) (by omega) (by omega) (en x) x (pL _) (hx x (by simp));have h2:=kQ (B:=B) (n:=n) r (c+1) b (by omega) (λy hy=>hx y (by simp[hy])) (by
   refine hb.up ?_;omega)
  refine .of (show HC 13 by unfold HC;omega) (show HC 0 by unfold HC;omega) (by simp[lt,AD.kids]) (λvt=>?_) λk hk=>?_
  .have:(13:Int)=12:=vt;omega
  .simp only[lt,AD.kids,pK,pj,qb]at hk;rcases hk with rfl|rfl
   .exact h1.up (by omega)
   .exact h2.up (by omega)
def Qp (fi:Int)(body:AD)(n:Nat)(o nu:Int)(l:List AD):AD:=if o=9/\nu=fi then lt n 0 l (sh 0 n body) else .mk o nu l
mutual
def inl (D:List AK)(fi:Int)(body:AD)(n:Nat):AD->AD
 |.mk o nu k=>Qp fi body n o nu (Gq D fi body n o nu 0 k)
def Gq (D:List AK)(fi:Int)(body:AD)(n:Nat)(o nu:Int):Nat->List AD->List AD
 |_,[]=>[]
 |i,e::l=>inl D fi body (n+HM D o nu i) e::Gq D fi body n o nu (i+1) l
end
theorem Mp {D:List AK}{fi:Int}{body:AD}{n:Nat}(e:AD):inl D fi body n e=Qp fi body n e.op e.num (Gq D fi body n e.op e.num 0 e.kids):=by cases e;rw[inl];rfl
theorem RU {D:List AK}{fi:Int}{body:AD}{n:Nat}{o nu:Int}:∀(l:List AD) (i:Nat),(Gq D fi body n o nu i l).length=l.length
 | [],_=>rfl
 |e::l,i=>by simp[Gq,RU l]
theorem LD {D:List AK}{fi:Int}{body:AD}{n:Nat}{o nu:Int}:∀(l:List AD) (j i:Nat),(Gq D fi body n o nu j l)[i]?=(l[i]?).map (inl D fi body (n+HM D o nu (j+i)))
 | [],j,i=>by simp[Gq]
 |e::l,j,0=>by simp[Gq]
 |e::l,j,i+1=>by
  simp only[Gq,py];rw[LD l (j+1) i,show j+1+i=j+(i+1) by omega]
section
variable {p : AJ} {N : Nat} {T : List Int -> AD -> Int}
theorem ZS (S:FB p.decls p.funcs)(hN:2000000<=N)(hT:TX p N T):∀(c:Nat) (e:AD) (v:List Int),en e<=c->VX p e v->T v e≠-1->QB 1000 e:=by
 intro c
 induction c with
 |zero=>intro e _ h;have:=Fi e;omega
 |succ c ih=>
  intro e v hc V ht;have hl:=V.len;refine .of V.CS.op V.CS.num V.CS.KX (λvt=>?_) λk hk=>?_
  .have q:=hT.var V vt;by_cases hr:e.kids=[]/\0<=e.num/\e.num<(v.length:Int)
   .have h1:=hr.2.1;have h2:=hr.2.2;omega
   .rw[pJ hr]at q;exact absurd q ht
  .obtain⟨i,hi⟩:=pY.1 hk;obtain⟨m,m1,m2,m3,m4⟩:=QN S hN hT V ht hi;exact ih k (v++m) (by have:=Ca hk;omega) (V.KH hk m2 m3) m4
theorem S8 (S:FB p.decls p.funcs)(hN:2000000<=N)(hT:TX p N T){e:AD}{v:List Int}(V:VX p e v)(h:e.op=9)(ht:T v e≠-1):∃f,p.funcs[e.num.toNat]?=some f/\0<=e.num/\e.num<(p.funcs.length:Int)/\e.kids.map (T v)=f.params/\T v e=f.result:=by
 have hF:=S.J2;have q:=hT.bs V;unfold Bt Fm at q;simp only[h,Int.reduceEq,pW,pa,pD,pq,pV,ou]at q;rw[Dx,AI p.funcs,BE (n:=(p.funcs.length:Int)-1) (by omega) (by omega)]at q;rcases ao (p:=p) (n:=e.num) with ⟨f,f0,f1,f2,f3,f4,f5⟩|hr
 .have f1'':e.num<=(p.funcs.length:Int)-1:=by omega
  rw[f4]at q;simp only[h,Int.reduceEq,pW,pa,pD,pq,pV,ou,f0,f1'',sH,qC]at q;rw[RL (hT.H V) V.VM hN]at q;by_cases b:e.kids.map (T v)=f.params
  .simp[b,Sh.cont]at q;exact⟨f,f2,f0,f1,b,q.symm⟩
  .simp[b,Sh.cont]at q;exact absurd q.symm ht
 .have:(decide (0<=e.num)&&decide (e.num<=(p.funcs.length:Int)-1))=false:=by
   rw[rU,qY,qY];omega
  rw[this]at q;simp[Sh.cont]at q;exact absurd q.symm ht
theorem fw (S:FB p.decls p.funcs)(hN:2000000<=N)(hT:TX p N T){fi:Int}{body:AD}(hb:QB 1000 body)(Ip:en body<=30):∀(c:Nat) (e:AD) (v:List Int),en e<=c->en e<=30->VX p e v->v.length+3*en e<=200->T v e≠-1->
  QB (2000*en e) (inl p.decls fi body v.length e)/\en (inl p.decls fi body v.length e)<=33*en e/\(∀k∈Gq p.decls fi body v.length e.op e.num 0 e.kids,QB (2000*CJ e.kids) k)/\CJ (Gq p.decls fi body v.length e.op e.num 0 e.kids)<=33*CJ e.kids:=by
 intro c
 induction c with
 |zero=>intro e _ h;have:=Fi e;omega
 |succ c ih=>
  intro e v hc yI V hlv ht;have he:=Ft e;have K:∀(i:Nat) k,e.kids[i]?=some k->QB (2000*en k) (inl p.decls fi body (v.length+HM p.decls e.op e.num i) k)/\en (inl p.decls fi body (v.length+HM p.decls e.op e.num i) k)<=33*en k:=λi k hk=>by
   obtain⟨m,m1,m2,m3,m4⟩:=QN S hN hT V ht hk;have hke:=Ca (ov hk);have:=ih k (v++m) (by omega) (by omega) (V.KH (ov hk) m2 m3) (by rw[pU];omega) m4;rw[pU,m1]at this;exact⟨this.1,this.2.1⟩
  have ue:∀(l:List AD) (j:Nat),(∀i k,l[i]?=some k->en (inl p.decls fi body (v.length+HM p.decls e.op e.num (j+i)) k)<=33*en k)->CJ (Gq p.decls fi body v.length e.op e.num j l)<=33*CJ l:=by
   intro l
   induction l with
   |nil=>intro j _;simp[Gq,CJ]
   |cons a l ihl=>
    intro j h;have h0:=h 0 a rfl;have h1:=ihl (j+1) (λi k hk=>by have:=h (i+1) k hk;rwa [show j+1+i=j+(i+1) by omega]);simp only[Gq,CJ];rw[qo]at h0;omega
  have sz:=ue e.kids 0 (λi k hk=>by rw[qO];exact (K i k hk).2);have hkk:∀k∈Gq p.decls fi body v.length e.op e.num 0 e.kids,QB (2000*CJ e.kids) k:=λk hk=>by
   obtain⟨i,hi⟩:=pY.1 hk;rw[LD,qO,pH]at hi;obtain⟨k0,hk0,rfl⟩:=hi;have:=I3 (ov hk0);exact (K i k0 hk0).1.up (by omega)
  have zL:=RU (D:=p.decls) (fi:=fi) (body:=body) (n:=v.length) (o:=e.op) (nu:=e.num) e.kids 0;refine⟨?_,?_,hkk,sz⟩
  .rw[Mp];unfold Qp;split
   .rename_i h9;obtain⟨f,f1,f2,f3,f4,f5⟩:=S8 S hN hT V h9.1 ht;have hp:=(S.NS f (ov f1)).1;have hlk:e.kids.length<=3:=by rw[<- f4,pR]at hp;exact hp
    have hbsh:=Z2 (a:=0) (k:=(v.length:Int)) (by omega) (by omega) (en body) body (pL _) hb;have:=kQ (B:=2000*CJ e.kids+1500) (n:=v.length) (Gq p.decls fi body v.length e.op e.num 0 e.kids) 0 (sh 0 v.length body) (by omega) (λx hx=>(hkk x hx).up (by omega)) (hbsh.up (by omega));exact this.up (by omega)
   .exact .of V.CS.op V.CS.num (by show (Gq p.decls fi body v.length e.op e.num 0 e.kids).length<=_;rw[zL];exact V.CS.KX) (λvt=>by
     have q:=ZS S hN hT (en e) e v (pL _) V ht;have h:=q.mb.n vt;show 0<=e.num/\e.num<=_;omega) (λk hk=>(hkk k hk).up (by omega))
  .rw[Mp];unfold Qp;split
   .rename_i h9;obtain⟨f,f1,f2,f3,f4,f5⟩:=S8 S hN hT V h9.1 ht;have hp:=(S.NS f (ov f1)).1;have hlk:e.kids.length<=3:=by rw[<- f4,pR]at hp;exact hp
    rw[bH,YI,zL];omega
   .rw[en];omega
theorem lV {B:Int}{n:Nat}{l:List AD}(hB:B<=1000000)(hl:l.length<=100)(hs:CJ l<=1000)(h :∀x∈l,QB B x):∀(i:Nat) x,l[i]?=some x->en x<=1000/\Aj (sh n i x):=by
 intro i x hx;have vk:=(pA.1 hx).1;have hm:=ov hx;have he:=I3 hm;exact⟨by omega,(Z2 (a:=(n:Int)) (k:=(i:Int)) (by omega) (by omega) (en x) x (pL _) (h x hm)).CS⟩
theorem gz (S:FB p.decls p.funcs)(hN:2000000<=N)(hT:TX p N T){fi:Int}{fb:AU}(hfb:Sh.get p.funcs fi=some fb)(hb:QB 1000 fb.body)(Ip:en fb.body<=30):∀(c:Nat) (e:AD) (v:List Int),en e<=c->en e<=30->VX p e v->v.length+3*en e<=200->T v e≠-1->
  GV N c p fi e v.length=some (inl p.decls fi fb.body v.length e)/\DO N c e.kids fi p.decls p.funcs p.decls e.op e.num v.length=some (inl p.decls fi fb.body v.length e,fi):=by
 intro c
 induction c with
 |zero=>intro e _ h;have:=Fi e;omega
 |succ c ih=>
  intro e v hc yI V hlv ht;obtain⟨i1,i2,i3,i4⟩:=fw S hN hT (fi:=fi) hb Ip (en e) e v (pL _) yI V hlv ht;have hlen:=HF e.kids;have he:=Ft e;have yP:(Gq p.decls fi fb.body v.length e.op e.num 0 e.kids).length=e.kids.length:=RU _ _;have eta:Qp fi fb.body v.length e.op e.num (Gq p.decls fi fb.body v.length e.op e.num 0 e.kids)=inl p.decls fi fb.body v.length e:=(Mp e).symm;have hLi:∀(i:Nat) k,e.kids[i]?=some k->(Gq p.decls fi fb.body v.length e.op e.num 0 e.kids)[i]?=some (inl p.decls fi fb.body (v.length+HM p.decls e.op e.num i) k):=λi k hk=>by
   rw[LD,hk,qO];rfl
  generalize Gq p.decls fi fb.body v.length e.op e.num 0 e.kids=L at *;have K:∀(i:Nat) k,e.kids[i]?=some k->GV N c p fi k ((v.length+HM p.decls e.op e.num i:Nat):Int)=some (inl p.decls fi fb.body (v.length+HM p.decls e.op e.num i) k)/\DO N c k.kids fi p.decls p.funcs p.decls k.op k.num ((v.length+HM p.decls e.op e.num i:Nat):Int)=some (inl p.decls fi fb.body (v.length+HM p.decls e.op e.num i) k,fi):=λi k hk=>by
   obtain⟨m,m1,m2,m3,m4⟩:=QN S hN hT V ht hk;have hke:=Ca (ov hk);have:=ih k (v++m) (by omega) (by omega) (V.KH (ov hk) m2 m3) (by rw[pU];omega) m4;rw[pU,m1]at this;exact this
  have hbsh:=(Z2 (a:=0) (k:=(v.length:Int)) (by omega) (by omega) (en fb.body) fb.body (pL _) hb).CS;have hlsh:=lV (n:=v.length) (l:=L) (B:=2000*CJ e.kids) (by omega) (by omega) (by omega) i3;constructor
  .rw[GV];unfold Lg;have key:∀(M i:Nat),i<=e.kids.length->e.kids.length-i<M->E0 N p fi e v.length (GV N c) M i (L.take i)=some L:=by
    intro M i hi hM;refine BS e.kids.length (λM i=>E0 N p fi e v.length (GV N c) M i (L.take i)=some L) ?_ ?_ hi hM
    .intro m;rw[E0,pJ (by simp[AI]),qI (by omega)]
    .intro m i hi xH;obtain⟨k,hk,xU⟩:=Bi hi;rw[E0,pI (by simp[AI];omega),Aw hk];simp only[ou];rw[(Zj S hN hT V ht hi).1];simp only[ou];rw[(K i k hk).1];simp only[ou];rw[DH _ _ 40 (by simp;omega) (by simp;omega),BE (by omega) (by omega),show ((i:Int)+1)=((i+1:Nat):Int) by omega];simp only[ou];rw[<- EM (hLi i k hk)];exact xH
   have:=key N 0 (pT _) (by omega);rw[qs,tk]at this;rw[this];by_cases h9:e.op=9
   .by_cases hn:e.num=fi
    .have hv:inl p.decls fi fb.body v.length e=lt v.length 0 L (sh 0 v.length fb.body):=by rw[<- eta];unfold Qp;rw[pI ⟨h9,hn⟩]
     rw[hv];simp only[h9,hn,pW,pq,ou];rw[hfb];simp only[ou];rw[QZ hN (by omega) hbsh];simp only[ou];rw[Yr hN (by omega) hlsh];rfl
    .have hv:inl p.decls fi fb.body v.length e=.mk e.op e.num L:=by rw[<- eta];unfold Qp;rw[pJ (λq=>hn q.2)]
     rw[hv];simp[h9,hn]
   .have hv:inl p.decls fi fb.body v.length e=.mk e.op e.num L:=by rw[<- eta];unfold Qp;rw[pJ (λq=>h9 q.1)]
    rw[hv];simp[h9]
  .rw[DO];unfold Hg;have key:∀(M i:Nat),i<=e.kids.length->e.kids.length-i<M->Cs N e.kids p.decls p.funcs p.decls e.op e.num v.length (DO N c) M i (L.take i++e.kids.drop i) fi=some (L,fi):=by
    intro M i hi hM;refine BS e.kids.length (λM i=>Cs N e.kids p.decls p.funcs p.decls e.op e.num v.length (DO N c) M i (L.take i++e.kids.drop i) fi=some (L,fi)) ?_ ?_ hi hM
    .intro m;rw[Cs,pJ (by simp[AI]),qp,qR,qI (by omega)]
    .intro m i hi xH;obtain⟨k,hk,xU⟩:=Bi hi;have hl:(L.take i).length=i:=by simp;omega
     have uD:Sh.get (L.take i++e.kids.drop i) (i:Int)=some k:=by
      rw[QU,pN (by omega),hl,qx,qH,qo,hk]
     have hput:Sh.put (L.take i++e.kids.drop i) (i:Int) (inl p.decls fi fb.body (v.length+HM p.decls e.op e.num i) k)=L.take (i+1)++e.kids.drop (i+1):=by
      rw[Oj,sU _ _ (by omega),hl,qx,drop_cons hk,sN,EM (hLi i k hk),qe];rfl
     rw[Cs,pI (by simp[AI];omega),(Zj S hN hT V ht hi).2];simp only[ou];rw[uD];simp only[ou];rw[(K i k hk).2];simp only[ou];rw[hput,BE (by omega) (by omega),show ((i:Int)+1)=((i+1:Nat):Int) by omega];exact xH
   have:=key N 0 (pT _) (by omega);rw[qs,qS,qJ,tk]at this;rw[this];simp only[ou];unfold Lh;by_cases h9:e.op=9
   .by_cases hn:e.num=fi
    .have hv:inl p.decls fi fb.body v.length e=lt v.length 0 L (sh 0 v.length fb.body):=by rw[<- eta];unfold Qp;rw[pI ⟨h9,hn⟩]
     rw[hv];simp only[h9,hn,pW,qC,pD,pV,ou];rw[hfb];simp only[ou];rw[OW hN (by omega) hbsh];simp only[ou];rw[WW hN (by omega) hlsh];rfl
    .have hv:inl p.decls fi fb.body v.length e=.mk e.op e.num L:=by rw[<- eta];unfold Qp;rw[pJ (λq=>hn q.2)]
     rw[hv];simp[h9,hn]
   .have hv:inl p.decls fi fb.body v.length e=.mk e.op e.num L:=by rw[<- eta];unfold Qp;rw[pJ (λq=>h9 q.1)]
    rw[hv];simp[h9]
end
end RC
namespace RC
open Go
section
variable {p : AJ} {N : Nat}
def inf (p:AJ)(fi:Int)(fb f:AU):AD:=inl p.decls fi fb.body f.params.length f.body
theorem SA (S:Ds p)(hN:2000000<=N)(hd:p.decls.length<=1048576)(hz :∀d∈p.decls,dz d<=1048576){fi:Int}{fb:AU}(hfb:Sh.get p.funcs fi=some fb)(e1:BM N p=some true)(m1:Di N p fi=some true)(m2:Dk N p fi=some true):
  GZ N p fi=some (wB p (inf p fi fb))/\FV N p fi=some (wB p (inf p fi fb))/\∀f∈p.funcs,en (inf p fi fb f)<=990:=by
 unfold GZ FV;rw[e1];simp only[ou];rw[m1,m2];obtain⟨SO,T,hT,hfs⟩:=T5 S hN e1;have yP:=S.J2;have AAA:fb∈p.funcs:=ov (Sh.get_some hfb).2.1;have uq:∀f∈p.funcs,T f.params f.body≠-1:=λf hf=>by
  obtain⟨h1,h2,h3,h4,h5,h6⟩:=hfs f hf;rw[h6];have:=(Lc h5).1;omega
 have hV:∀f∈p.funcs,VX p f.body f.params:=λf hf=>by
  obtain⟨h1,h2,h3,h4,h5,h6⟩:=hfs f hf;exact⟨by omega,h3,h4⟩
 have hb:QB 1000 fb.body:=ZS SO hN hT (en fb.body) fb.body fb.params (pL _) (hV fb AAA) (uq fb AAA);have Ip:=(hfs fb AAA).1;have hF:∀f∈p.funcs,PR N p fi f.body f.params.length=some (inf p fi fb f)/\KU N f.body.kids fi p.decls p.funcs p.decls f.body.op f.body.num f.params.length=some (inf p fi fb f,fi)/\en (inf p fi fb f)<=990:=λf hf=>by
  obtain⟨h1,h2,h3,h4,h5,h6⟩:=hfs f hf;have q:=gz SO hN hT hfb hb Ip N f.body f.params (by omega) h1 (hV f hf) (by omega) (uq f hf);have sz:=(fw SO hN hT (fi:=fi) hb Ip (en f.body) f.body f.params (pL _) h1 (hV f hf) (by omega) (uq f hf)).2.1;exact⟨q.1,q.2,by unfold inf;omega⟩
 refine⟨?_,?_,λf hf=>(hF f hf).2.2⟩
 .simp only[qC,pD,pV,ou];have key:∀(M i:Nat),i<=p.funcs.length->p.funcs.length-i<M->F9 N p fi M i ((p.funcs.map (inf p fi fb)).take i)=some (p.funcs.map (inf p fi fb)):=by
   intro M i hi hM;refine BS p.funcs.length (λM i=>F9 N p fi M i ((p.funcs.map (inf p fi fb)).take i)=some (p.funcs.map (inf p fi fb))) ?_ ?_ hi hM
   .intro m;rw[F9,pJ (by simp[AI]),qI (by simp)]
   .intro m i hi ih;obtain⟨f,yM,hfm⟩:=Bi hi;have hm:(p.funcs.map (inf p fi fb))[i]?=some (inf p fi fb f):=by rw[pB,yM];rfl
    rw[F9,pI (by simp[AI];omega),Aw yM];simp only[ou];rw[AI,(hF f hfm).1];simp only[ou];rw[DH _ _ 40 (by simp;omega) (by simp;omega),BE (by omega) (by omega),show ((i:Int)+1)=((i+1:Nat):Int) by omega];simp only[ou];rw[<- EM hm];exact ih
  have:=key N 0 (pT _) (by omega);rw[qs,tk]at this;rw[this];simp only[ou];rw[WA hN hd hz yP (λf hf=>⟨(S.fz hf).1,by have:=(hF f hf).2.2;omega⟩)];rfl
 .simp only[qC,pD,pV,ou];unfold Jj;rw[Uy hN hd hz yP (λf hf=>⟨(S.fz hf).1,by have:=(hfs f hf).1;omega,(hfs f hf).2.2.2.1⟩)];simp only[ou];have key:∀(M i:Nat),i<=p.funcs.length->p.funcs.length-i<M->Dp N p.decls p.funcs p p M i fi ((p.funcs.map λf=>AU.mk f.params f.result (inf p fi fb f)).take i++p.funcs.drop i)=some (if ((p.funcs.drop i).all λf=>decide (en (inf p fi fb f)<=30))=true then Sum.inr (fi,p.funcs.map λf=>AU.mk f.params f.result (inf p fi fb f)) else Sum.inl (.mk [] [],false,fi)):=by
   intro M i hi hM;refine BS p.funcs.length (λM i=>Dp N p.decls p.funcs p p M i fi ((p.funcs.map λf=>AU.mk f.params f.result (inf p fi fb f)).take i++p.funcs.drop i)=some (if ((p.funcs.drop i).all λf=>decide (en (inf p fi fb f)<=30))=true then Sum.inr (fi,p.funcs.map λf=>AU.mk f.params f.result (inf p fi fb f)) else Sum.inl (.mk [] [],false,fi))) ?_ ?_ hi hM
   .intro m;rw[Dp,pJ (by simp[AI]),qp,qR,qI (by simp)];rfl
   .intro m i hi ih;obtain⟨f,yM,hfm⟩:=Bi hi;obtain⟨q1,q2,q3⟩:=hF f hfm;have hl:((p.funcs.map λf=>AU.mk f.params f.result (inf p fi fb f)).take i).length=i:=by simp;omega
    have hm:(p.funcs.map λf=>AU.mk f.params f.result (inf p fi fb f))[i]?=some (AU.mk f.params f.result (inf p fi fb f)):=by rw[pB,yM];rfl
    have uD:Sh.get ((p.funcs.map λf=>AU.mk f.params f.result (inf p fi fb f)).take i++p.funcs.drop i) (i:Int)=some f:=by
     rw[QU,pN (by omega),hl,qx,qH,qo,yM]
    have hput:Sh.put ((p.funcs.map λf=>AU.mk f.params f.result (inf p fi fb f)).take i++p.funcs.drop i) (i:Int) (AU.mk f.params f.result (inf p fi fb f))=(p.funcs.map λf=>AU.mk f.params f.result (inf p fi fb f)).take (i+1)++p.funcs.drop (i+1):=by
     rw[Oj,sU _ _ (by omega),hl,qx,drop_cons yM,sN,EM hm,qe];rfl
    have hget2:Sh.get ((p.funcs.map λf=>AU.mk f.params f.result (inf p fi fb f)).take (i+1)++p.funcs.drop (i+1)) (i:Int)=some (AU.mk f.params f.result (inf p fi fb f)):=by
     rw[QU,pM (by simp;omega),pn,pI (by omega),hm]
    have hze:=Ft (inf p fi fb f);rw[Dp,pI (by simp[AI];omega),uD,drop_cons yM,rQ];simp only[ou];rw[AI,q2];simp only[ou];rw[<- drop_cons yM,hput,hget2];simp only[ou];rw[Ov (by omega) hN];simp only[ou];by_cases yI:en (inf p fi fb f)<=30
    .rw[pI yI,pJ (by simp),BE (by omega) (by omega),show ((i:Int)+1)=((i+1:Nat):Int) by omega];simp only[yI,pW,sI];exact ih
    .rw[pJ yI];simp[yI]
  have:=key N 0 (pT _) (by omega);rw[qs,qS,qJ,tk]at this;rw[this];unfold wB;by_cases h:(p.funcs.all λf=>decide (en (inf p fi fb f)<=30))=true
  .rw[pI h,pI h];rfl
  .rw[pJ h,pJ h];rfl
theorem XE {fi:Int}(hN:2000000<=N)(yP:p.funcs.length<=1048576)(m1:Di N p fi=some true):∃fb,Sh.get p.funcs fi=some fb/\1<=fi/\fi<(p.funcs.length:Int):=by
 unfold Di at m1;rw[Dx,AI,BE (n:=(p.funcs.length:Int)-1) (by omega) (by omega)]at m1;by_cases h:1<=fi/\fi<=(p.funcs.length:Int)-1
 .obtain⟨fb,h1,_⟩:=OY (l:=p.funcs) (j:=fi) (by omega) (by omega);exact⟨fb,h1,h.1,by omega⟩
 .have:(decide (1<=fi)&&decide (fi<=(p.funcs.length:Int)-1))=false:=by
   rw[rU,qY,qY];omega
  rw[this]at m1;simp at m1
theorem aL (S:Ds p)(hN:2000000<=N)(hd:p.decls.length<=1048576)(hz :∀d∈p.decls,dz d<=1048576)(fi:Int):
  (GZ N p fi=some (.mk [] [],false)/\FV N p fi=some (.mk [] [],false))∨
  ∃fb,Sh.get p.funcs fi=some fb/\1<=fi/\fi<(p.funcs.length:Int)/\BM N p=some true/\CI N p=some true/\Dk N p fi=some true/\GZ N p fi=some (wB p (inf p fi fb))/\FV N p fi=some (wB p (inf p fi fb)):=by
 obtain⟨b,e1,e2,_⟩:=Gj S hN;obtain⟨c,m1,m2⟩:=Wc S (f:=fi) hN;have m1':=m1;unfold Fx at m1';rw[e1]at m1';cases b with
 |false=>
  simp at m1';subst m1';refine .inl ⟨?_,?_⟩
  .unfold GZ;rw[e1];rfl
  .unfold FV;rw[m2];rfl
 |true=>
  simp only[ou,pq]at m1';have m3:Di N p fi=some c:=by
   cases h:Di N p fi with
   |none=>rw[h]at m1';simp at m1'
   |some x=>rw[h]at m1';simpa using m1'
  cases c with
  |false=>
   refine .inl ⟨?_,?_⟩
   .unfold GZ;rw[e1];simp only[ou,qC,pD,pV];rw[m3];rfl
   .unfold FV;rw[m2];rfl
  |true=>
   obtain⟨fb,g1,g2,g3⟩:=XE hN S.J2 m3;obtain⟨w1,w2,_⟩:=SA S hN hd hz g1 e1 m3 m2;exact .inr ⟨fb,g1,g2,g3,e1,e2,m2,w1,w2⟩
end
end RC
namespace RC
open Go
def GY (p:AJ)(g:AU->AD):AJ:=.mk p.decls (p.funcs.map λf=>.mk f.params f.result (g f))
theorem ez {p:AJ}{g:AU->AD}(h :∀f∈p.funcs,en (g f)<=30):wB p g=(GY p g,true):=by
 unfold wB;rw[pI (pG.2 λf hf=>by simpa using h f hf)];rfl
theorem iI {p:AJ}{g:AU->AD}:FF (GY p g)=FF p:=by
 unfold FF GY;simp[AJ.funcs,AJ.decls,rF]
theorem FB.GY {p:AJ}{g:AU->AD}(S:FB p.decls p.funcs):FB (GY p g).decls (GY p g).funcs:=
 ⟨S.Pr,S.V7,S.Nc,S.jS,by show (p.funcs.map _).length<=4;rw[pR];exact S.J2,λf hf=>by
  obtain⟨f0,h0,rfl⟩:=pQ.1 (show f∈p.funcs.map _ from hf);exact S.NS f0 h0⟩
theorem Ds.GY {p:AJ}{g:AU->AD}(S:Ds p)(h4:p.funcs.length<=4)(h3 :∀f∈p.funcs,f.params.length<=3)(hd:p.decls.length+(p.decls.map dz).sum<=500000)(hg :∀f∈p.funcs,en (g f)<=30/\Aj (g f)):Ds (GY p g):=by
 refine⟨⟨S.CS.decls,λf hf=>?_,?_⟩,?_⟩
 .obtain⟨f0,h0,rfl⟩:=pQ.1 (show f∈p.funcs.map _ from hf);have:=S.fin h0;exact⟨this.params,this.result,(hg f0 h0).2⟩
 .show (p.funcs.map _).length<=_;rw[pR];omega
 .have:=jF (g:=g) S.size h4 (.inr h3) hd;rwa [ez λf hf=>(hg f hf).1]at this
theorem cg {p:AJ}(S:Ds p){N:Nat}(hN:2000000<=N)(SO:FB p.decls p.funcs){T:List Int->AD->Int}(hT:TX p N T)(zH :∀f∈p.funcs,en f.body<=30):BM N p=some (Mg p&&p.funcs.all (HK p T)):=by
 have hl:=S.J2;have L1:=EH (l:=p.funcs) (Bl N p) (λ_ f=>HK p T f) (λn=>by rw[Bl,pJ (by simp[AI])]) (λn i f hi=>by
  have vk:=(pA.1 hi).1;have hf:=ov hi;obtain⟨q1,q2,q3⟩:=SO.NS f hf;have he:=zH f hf;have ty:KJ N p f.params f.body=some (T f.params f.body):=(hT f.params f.body (S.fin hf).body (by omega) (by omega) q2 N N (by omega) (by omega)).1;rw[Bl,pI (by simp[AI];omega),Aw hi];simp only[ou];rw[Gk (S.fz hf).2 hN,BE (by omega) (by omega),show ((i:Int)+1)=((i+1:Nat):Int) by omega];simp only[ou];unfold HK;rw[pI he,pJ (by simp),ty];by_cases hr:T f.params f.body=f.result<;>simp[he,hr]) (by omega:p.funcs.length<N)
 rw[GC]at L1;unfold BM;rw[Nf S hN];simp only[ou];cases yj:Mg p with
 |false=>simp
 |true=>
  simp only[qC,pD,pV,sI];rw[L1,EN];cases p.funcs.all (HK p T)<;>rfl
theorem cQ {p:AJ}(S:Ds p){N:Nat}(hN:2000000<=N)(hv:BM N p=some true):Mg p=true:=by
 unfold BM at hv;rw[Nf S hN]at hv;simp only[ou]at hv;cases yj:Mg p with
 |false=>rw[yj]at hv;simp at hv
 |true=>rfl
theorem eD {p:AJ}(S:Ds p){N:Nat}(hN:2000000<=N)(hv:BM N p=some true){T:List Int->AD->Int}(hT:TX p N T){g:AU->AD}(hg :∀f∈p.funcs,en (g f)<=30/\Aj (g f)/\T f.params (g f)=f.result):
  BM N (GY p g)=some true/\CI N (GY p g)=some true/\Ds (GY p g)/\TX (GY p g) N T:=by
 obtain⟨SO,_⟩:=T5 S hN hv;obtain⟨s1,s2,s3⟩:=aM S hN hv;have S':Ds (GY p g):=S.GY s1 s2 s3 λf hf=>⟨(hg f hf).1,(hg f hf).2.1⟩;have SO':=SO.GY (g:=g);obtain⟨T',hT'⟩:=O3 SO' hN 340;have eqT:∀(v:List Int) (e:AD),Aj e->en e<340->v.length+3*en e<=1000->(∀x∈v,DZ p.decls x=true)->T' v e=T v e:=λv e a b c d=>by
  have h1:=(hT' v e a b c d 340 340 (pL _) (pL _)).2.1;have h2:=(hT v e a b c d 340 340 (pL _) (pL _)).2.1;rw[iI,h2]at h1;exact (qf h1).symm
 have hTm:TX (GY p g) N T:=λv e a b c d n1 n2 h1 h2=>by
  have:=hT' v e a b c d n1 n2 h1 h2;rwa [eqT v e a b c d]at this
 have yj:Mg (GY p g)=true:=by
  rw[<- cQ S hN hv];unfold Mg GY;simp[AJ.funcs,AJ.decls,rF];rfl
 have hb:=cg S' hN SO' hTm (λf hf=>by
  obtain⟨f0,h0,rfl⟩:=pQ.1 (show f∈p.funcs.map _ from hf);exact (hg f0 h0).1)
 have vd:(GY p g).funcs.all (HK (GY p g) T)=true:=pG.2 λf hf=>by
  obtain⟨f0,h0,rfl⟩:=pQ.1 (show f∈p.funcs.map _ from hf);obtain⟨g1,g2,g3⟩:=hg f0 h0;unfold HK;simp only[pZ,pP];exact⟨g1,g3⟩
 rw[yj,vd]at hb;obtain⟨b,e1,e2,_⟩:=Gj S' hN;rw[hb]at e1;cases e1;exact⟨hb,e2,S',hTm⟩
end RC
namespace RC
open Go
theorem cY {a k:Int}:∀(c:Nat) (e:AD),en e<=c->HY (sh a k e)=HY e:=by
 intro c
 induction c with
 |zero=>intro e h;have:=Fi e;omega
 |succ c ih=>
  intro e hc;have hl:∀l:List AD,(∀k∈l,en k<=c)->Fl (l.map (sh a k))=Fl l:=by
   intro l
   induction l with
   |nil=>intro _;rfl
   |cons x l ihl=>
    intro h;simp only[pc,Fl];rw[ih x (h x (by simp)),ihl λy hy=>h y (by simp[hy])]
  rw[IA,IA e,Kd,hl e.kids λy hy=>by have:=Ca hy;omega];congr 1;unfold Mi;rw[Uv,Nv];split
  .rw[pJ (by omega)]
  .rfl
theorem Qe {x:Int}{k:AD}:∀{l:List AD},k∈l->x∈HY k->x∈Fl l
 | [],h,_=>by cases h
 |a::r,h,hx=>by
  simp only[Fl,pX];rcases pK.1 h with rfl|h
  .exact .inl hx
  .exact .inr (Qe h hx)
theorem bk {n:Nat}{x:Int}:∀(xs:List AD) (c:Nat) (b:AD),x∈HY (lt n c xs b)->x∈Fl xs∨x∈HY b
 | [],_,b,h=>.inr h
 |y::r,c,b,h=>by
  rw[IA]at h;simp only[lt,AD.kids,Fl,pX]at h;rcases h with h|h|h|h
  .have:x∈Mi (.mk 13 0 [sh n c y,lt n (c+1) r b]):=h;unfold Mi at this;rw[pJ (by show ¬ ((13:Int)=9∨(13:Int)=10);omega)]at this;cases this
  .rw[cY (en y) y (pL _)]at h;exact .inl (by simp only[Fl,pX];exact .inl h)
  .rcases bk r (c+1) b h with h|h
   .exact .inl (by simp only[Fl,pX];exact .inr h)
   .exact .inr h
  .cases h
end RC
namespace RC
open Go
section
variable {p : AJ} {N : Nat} {T : List Int -> AD -> Int} {e : AD} {v : List Int}
end
end RC
namespace RC
open Go
structure Bk (b:List Int):Prop where
 u8 :∀x∈b,U8 x
 len:b.length<=2000
def At (p K:Int):Prop:=0<=p/\p<=K
theorem X4 {code:List Int}(h8 :∀x∈code,U8 x)(hl:code.length<=1048576):Ad (JF code) λq=>Bk q.1/\q.2=0:=by
 unfold JF;refine Ad.bind (R:=λb=>Bk b) (BB (λh=>?_) λh=>?_) λb hb=>Ad.some ⟨hb,rfl⟩
 .rw[AI]at h;have e:Sh.sl code 0 2000=some (code.take 2000):=by
   unfold Sh.sl;rw[pI ⟨by decide,by decide,by omega⟩];rfl
  exact AR e (Ad.some ⟨λx hx=>h8 x (qc hx),by simp;omega⟩)
 .rw[AI]at h;exact Ad.some ⟨h8,by omega⟩
theorem Ra {a n:Int}(ha:0<=a)(hn:1<=n):0<=a.tmod n/\a.tmod n<n/\a.tmod n<=a:=by
 rw[Int.tmod_eq_emod_of_nonneg ha];refine⟨Int.emod_nonneg _ (by omega),Int.emod_lt_of_pos _ (by omega),?_⟩;have:=Int.mul_ediv_add_emod a n;have h2:0<=n*(a / n):=Int.mul_nonneg (by omega) (Int.ediv_nonneg ha (by omega));omega
theorem Zi {a n:Int}(ha:0<=a)(hn:1<=n):0<=a.tdiv n/\a.tdiv n<=a:=by
 rw[Int.tdiv_eq_ediv_of_nonneg ha];exact⟨Int.ediv_nonneg ha (by omega),Int.ediv_le_self _ ha⟩
theorem Wq {a n:Int}(hn:n≠0):Sh.rem a n=some (a.tmod n):=by unfold Sh.rem;rw[pJ hn]
theorem fT {a n:Int}(hn:n≠0):Sh.quo a n=some (Sh.w (a.tdiv n)):=by unfold Sh.quo;rw[pJ hn]
structure Pk (n p:Int) (q:Int×Int):Prop where
 pos:q.2=p+1
 nn:0<=q.1
 lt:1<=n->q.1<n
 zero:n<1->q.1=0
theorem Cd {b:List Int}(B:Bk b){p n:Int}(hp:At p 1000000):Ad (Az b p n) (Pk n p):=by
 obtain⟨p0,p1⟩:=hp;have hlen:=B.len;have ew:Sh.w (p+1)=p+1:=BE (by omega) (by omega);have ew2:Sh.w (p+1-1)=p:=by rw[BE (by omega) (by omega)];omega
 unfold Az;rw[ew,ew2,AI];refine Ad.bind (R:=λt=>t=true↔n<1∨b.length=0) (BB (λh=>Ad.some (by simp[h])) λh=>Ad.some (by simp[h])) λt ht=>?_;refine Co (λh=>?_) λh=>?_
 .refine Ad.some ⟨rfl,by show (0:Int)<=0;decide,λh1=>?_,λ_=>rfl⟩;show (0:Int)<n;omega
 .have hn:¬ (n<1∨b.length=0):=λh1=>by rw[ht.2 h1]at h;cases h
  have hn1:1<=n:=by omega
  have hb1:1<=b.length:=by omega
  refine BB (λh1=>?_) λh1=>?_
  .refine Ad.get p0 h1 λc _ hc=>?_;obtain⟨c0,c1⟩:=B.u8 c hc;rw[dW (by omega) (by omega)];obtain⟨m0,m1,_⟩:=Ra c0 hn1;exact AR (Wq (by omega)) (Ad.some ⟨rfl,m0,λ_=>m1,λh=>absurd h (by omega)⟩)
  .have k1:(1:Int)<=b.length:=by omega
   obtain⟨a0,a1,_⟩:=Ra p0 k1;have e7:Sh.w (p*7)=p*7:=BE (by omega) (by omega);have e73:Sh.w (p*7+3)=p*7+3:=BE (by omega) (by omega);obtain⟨d0,d1,_⟩:=Ra (a:=p*7+3) (by omega) k1;obtain⟨f0,f1⟩:=Zi p0 k1;rw[e7,e73];refine AR (Wq (by omega)) ?_;refine Ad.get a0 a1 λc _ hc=>?_;obtain⟨c0,c1⟩:=B.u8 c hc;refine AR (Wq (by omega)) ?_;refine Ad.get d0 d1 λc' _ yA=>?_;obtain⟨c0',c1'⟩:=B.u8 c' yA;refine AR (fT (by omega)) ?_;rw[dW (n:=c) (by omega) (by omega),dW (n:=c') (by omega) (by omega),BE (n:=p.tdiv b.length) (by omega) (by omega),BE (n:=c*131) (by omega) (by omega),BE (n:=c'*1117) (by omega) (by omega),
    BE (n:=c*131+c'*1117) (by omega) (by omega),BE (n:=p*29) (by omega) (by omega),BE (n:=c*131+c'*1117+p*29) (by omega) (by omega),BE (n:=p.tdiv b.length*53) (by omega) (by omega),
    BE (n:=c*131+c'*1117+p*29+p.tdiv b.length*53) (by omega) (by omega)]
   obtain⟨x,hx⟩ :∃x,x=c*131+c'*1117+p*29+p.tdiv b.length*53:=⟨_,rfl⟩
   rw[<- hx];have x0:0<=x:=by omega
   have x1:x<=1000000000000:=by omega
   obtain⟨y0,y1⟩:=Zi x0 (by decide:(1:Int)<=64);rw[BE (n:=x.tdiv 64) (by omega) (by omega)];obtain⟨z0,z1⟩:=kb x0 (by omega) y0 (by omega);obtain⟨m0,m1,_⟩:=Ra z0 hn1;exact AR (Wq (by omega)) (Ad.some ⟨rfl,m0,λ_=>m1,λh=>absurd h (by omega)⟩)
structure On (l:List Int) (p:Int) (q:Int×Int):Prop where
 pos:q.2=p+1
 mem:q.1∈l
theorem G1 {b:List Int}(B:Bk b){p:Int}{l:List Int}(hp:At p 1000000)(hl:1<=l.length)(hl2:l.length<=1000):Ad (Bw b p l) (On l p):=by
 unfold Bw;rw[AI];refine Ad.bind (Cd B hp) λq ⟨h1,h2,h3,_⟩=>?_;exact Ad.get h2 (h3 (by omega)) λx _ hx=>Ad.some ⟨h1,hx⟩
end RC
namespace RC
open Go
structure CX (D:List AK) (F:List AU):Prop where
 dl:D.length<=4
 nI:nc D<=7
 cons :∀d∈D,d.cons.length<=3
 Nc :∀d∈D,∀c∈d.cons,c.fields.length<=3/\∀x∈c.fields,x=0∨x=1∨x=3
 c1:CO D 1=[0,1]
 c3:CO D 3=[2,3]
 f0 :∃t,IL D 0 0=some (t,⟨[]⟩)
 f1 :∃t,IL D 0 1=some (t,⟨[0,1]⟩)
 f2 :∃t,IL D 0 2=some (t,⟨[]⟩)
 f3 :∃t,IL D 0 3=some (t,⟨[3,0,3]⟩)
 arr:JD 1 1 D 0=-1
 fl:F.length<=4
 jZ:1<=F.length
 par :∀f∈F,f.params.length<=3
 cl :∀f∈F,(∀x∈f.params,x=0∨x=1∨x=3)∨(f.params=[2,1]/\f.result=1)
section
variable {D : List AK} {F : List AU}
theorem cF (D:List AK)(i:Nat):nc (D.take i)<=nc D:=by have:=Hs D i;omega
theorem CX.eG (C:CX D F):D.length<=1048576:=by have:=C.dl;omega
theorem CX.nK (C:CX D F):nc D<=1048576:=by have:=C.nI;omega
theorem CX.Wn (C:CX D F){t:Int}{N:Nat}(hN:2000000<=N):Gw N D t=some (CO D t):=MX C.eG C.nK hN
theorem RP {D:List AK}{t:Int}:∀x∈CO D t,∃c:Nat,x=(c:Int)/\c<nc D:=by
 intro x hx;unfold CO at hx;split at hx
 .rename_i h;obtain⟨i,hi,rfl⟩:=pQ.1 hx;rw[rE]at hi;cases hd:D[(t-1).toNat]? with
  |none=>rw[hd]at hi;simp at hi
  |some d=>
   rw[hd]at hi;simp only[re]at hi;have h1:=MG hd;have h2:=cF D ((t-1).toNat+1);exact⟨nc (D.take (t-1).toNat)+i,by omega,by omega⟩
 .cases hx
theorem CX.Ws (C:CX D F)(t:Int):(CO D t).length<=3:=by
 unfold CO;split
 .rw[pR,List.length_range];cases hd:D[(t-1).toNat]? with
  |none=>simp
  |some d=>simpa using C.cons d (ov hd)
 .simp
theorem CX.fields (C:CX D F){c:Nat}(hc:c<nc D){N:Nat}(hN:2000000<=N):∃fl:List Int,Bs N D (c:Int)=some fl/\fl.length<=3/\∀x∈fl,x=0∨x=1∨x=3:=by
 obtain⟨t,x,h1,h2⟩:=Iy C.eG C.nK hc hN;obtain⟨_,_,d,hd,hx⟩:=RZ h1;obtain⟨h3,h4⟩:=C.Nc d hd x hx;exact⟨x.fields,h2,h3,h4⟩
theorem cW:∀(D:List AK) (k c:Nat) {r:Nat×D7},IL D k c=some r->c<nc D
 | [],k,c,r,h=>by simp[IL]at h
 |d::D,k,c,r,h=>by
  unfold IL at h;have e:nc (d::D)=d.cons.length+nc D:=by simp[nc]
  cases hx:d.cons[c]? with
  |some y=>have:=(pA.1 hx).1;omega
  |none=>
   rw[hx]at h;have:=cW D _ _ h;omega
theorem CX.W7 (C:CX D F){c t:Nat}{x:D7}(h:IL D 0 c=some (t,x)){N:Nat}(hN:2000000<=N):Bs N D (c:Int)=some x.fields:=by
 obtain⟨t',x',h1,h2⟩:=Iy C.eG C.nK (cW D 0 c h) hN;rw[h]at h1;cases h1;exact h2
theorem lE {l:List Int}{x:Int}(hl:l.length<=1048576){N i:Nat}(hi:i<=l.length)(hN:l.length-i<N):Ej l x N i=some (if x∈l.drop i then Sum.inl true else Sum.inr ()):=by
 refine BS l.length (λN i=>Ej l x N i=some (if x∈l.drop i then Sum.inl true else Sum.inr ())) ?_ ?_ hi hN
 .intro n;rw[Ej,pJ (by simp[AI])];simp
 .intro n i hi ih;obtain⟨y,hy,_⟩:=Bi hi;rw[Ej,pI (by simp[AI];omega),Aw hy,drop_cons hy];simp only[ou,pK];rw[BE (by omega) (by omega),show ((i:Int)+1)=((i+1:Nat):Int) by omega];by_cases h:y=x
  .simp[h]
  .have h':¬ x=y:=λe=>h e.symm;rw[pJ (by simpa using h),ih];simp[h']
theorem lG {l:List Int}{x:Int}(hl:l.length<=1048576){N:Nat}(hN:2000000<=N):HB N l x=some (decide (x∈l)):=by
 unfold HB;have:=lE (x:=x) hl (pT _) (by omega:l.length-0<N);rw[tk,qJ]at this;rw[this];by_cases h:x∈l<;>simp[h,Sh.cont]
def ep (D:List AK)(F:List AU)(t x:Int):Prop:=∃(f:Nat) (g:AU) (y:Int),x=(f:Int)/\F[f]?=some g/\g.params[g.params.length-1]?=some y/\0<g.params.length/\JD y g.result D 0=t
theorem OH (C:CX D F){t:Int}{M:Nat}(hM:2000000<=M):Ad (Ii M ⟨D,F⟩ t) λl=>l.length<=4/\∀x∈l,ep D F t x:=by
 have hf:=C.fl;have key:∀{N i:Nat},i<=F.length->F.length-i<N->∀acc:List Int,acc.length<=i->(∀x∈acc,ep D F t x)->Ad (Et M ⟨D,F⟩ t N i acc) λl=>l.length<=F.length/\∀x∈l,ep D F t x:=by
  intro N i hi hN;refine BS F.length (λN i=>∀acc:List Int,acc.length<=i->(∀x∈acc,ep D F t x)->Ad (Et M ⟨D,F⟩ t N i acc) λl=>l.length<=F.length/\∀x∈l,ep D F t x) ?_ ?_ hi hN
  .intro n acc h1 h2;rw[Et,pJ (by simp[AI])];exact Ad.some ⟨h1,h2⟩
  .intro n i hi ih acc h1 h2;obtain⟨g,hg,zM⟩:=Bi hi;have hp:=C.par g zM;rw[Et,pI (by simp[AI];omega)];refine Ad.bind (R:=λl=>l.length<=i+1/\∀x∈l,ep D F t x) ?_ λl hl=>?_
   .refine AR (Aw hg) ?_;refine Ad.bind (R:=λb=>b=true->ep D F t i) ?_ λb hb=>?_
    .refine BB (λh=>?_) λ_=>Ad.some (λh=>by cases h);rw[AI]at h;have uz:0<g.params.length:=by omega
     obtain⟨y,hy,_⟩:=Bi (l:=g.params) (i:=g.params.length-1) (by omega);rw[AI,BE (by omega) (by omega),show ((g.params.length:Int)-1)=((g.params.length-1:Nat):Int) by omega];refine AR (Aw hy) (AR (O6 C.eG hM) (Ad.some λh=>?_));exact⟨i,g,y,rfl,hg,hy,uz,by simpa using h⟩
    .refine Co (λh=>?_) λ_=>Ad.some ⟨by omega,h2⟩;refine Ad.app (by simp;omega) (by simp;omega) (Ad.some ⟨by simp;omega,λx hx=>?_⟩);rcases pX.1 hx with h3|h3
     .exact h2 x h3
     .rw[pS]at h3;rw[h3];exact hb h
   .rw[BE (by omega) (by omega),show ((i:Int)+1)=((i+1:Nat):Int) by omega];exact ih l hl.1 hl.2
 unfold Ii;have:=key (pT _) (by omega:F.length-0<M) [] (by simp) (by simp);rw[tk]at this;exact Ad.bind this λl hl=>Ad.some ⟨by omega,hl.2⟩
theorem Mx (C:CX D F){vars:List Int}(hv:vars.length<=1000){t:Int}{M:Nat}(hM:2000000<=M):Ad (HX M ⟨D,F⟩ vars t) λ_=>True:=by
 unfold HX;refine Ad.bind (R:=λ_=>True) ?_ λb _=>Ad.some oz;refine AR (KM C.eG) ?_;refine Co (λ_=>Ad.some oz) λ_=>?_;refine Ad.bind (OH C hM) λl _=>?_;refine BB (λ_=>Ad.some oz) λ_=>?_;exact AR (lG (by omega) hM) (Ad.some oz)
theorem WU {vars:List Int}(hv:vars.length<=1000){t:Int}{M:Nat}(hM:2000000<=M):Ad (Ie M vars t) λl=>l.length<=1000/\∀x∈l,0<=x/\x<=1000:=by
 have key:∀{N i:Nat},i<=vars.length->vars.length-i<N->∀acc:List Int,acc.length<=i->(∀x∈acc,0<=x/\x<=1000)->Ad (ED vars t N i acc) λl=>l.length<=vars.length/\∀x∈l,0<=x/\x<=1000:=by
  intro N i hi hN;refine BS vars.length (λN i=>∀acc:List Int,acc.length<=i->(∀x∈acc,0<=x/\x<=1000)->Ad (ED vars t N i acc) λl=>l.length<=vars.length/\∀x∈l,0<=x/\x<=1000) ?_ ?_ hi hN
  .intro n acc h1 h2;rw[ED,pJ (by simp[AI])];exact Ad.some ⟨h1,h2⟩
  .intro n i hi ih acc h1 h2;obtain⟨y,hy,_⟩:=Bi hi;rw[ED,pI (by simp[AI];omega)];refine Ad.bind (R:=λl=>l.length<=i+1/\∀x∈l,0<=x/\x<=1000) ?_ λl hl=>?_
   .refine AR (Aw hy) ?_;refine BB (λ_=>?_) λ_=>Ad.some ⟨by omega,h2⟩;refine Ad.app (by simp;omega) (by simp;omega) (Ad.some ⟨by simp;omega,λx hx=>?_⟩);rcases pX.1 hx with h3|h3
    .exact h2 x h3
    .rw[pS]at h3;omega
   .rw[BE (by omega) (by omega),show ((i:Int)+1)=((i+1:Nat):Int) by omega];exact ih l hl.1 hl.2
 unfold Ie;have:=key (pT _) (by omega:vars.length-0<M) [] (by simp) (by simp);rw[tk]at this;exact Ad.bind this λl hl=>Ad.some ⟨by omega,hl.2⟩
structure GE (k P:Nat) (p:Int) (q:AD×Int):Prop where
 size:en q.1<=k
 CS:Aj q.1
 lo:p<=q.2
 hi:q.2<=p+P
theorem GE.up {k k' P P':Nat}{p:Int}{q:AD×Int}(h:GE k P p q)(hk:k<=k')(hP:P<=P'):GE k' P' p q:=⟨by have:=h.size;omega,h.CS,h.lo,by have:=h.hi;omega⟩
theorem Dm {n:Int}(h1:-1000000<=n)(h2:n<=1000000):HC n:=⟨by omega,by omega⟩
theorem KV {o n:Int}{k:List AD}(ho:HC o)(hn:HC n)(hk :∀e∈k,Aj e)(hl:k.length<=1000):Aj ⟨o,n,k⟩:=.mk ho hn (by show k.length<=_;omega) hk
theorem HO (o n:Int)(k:List AD):en ⟨o,n,k⟩=1+CJ k:=Ft _
theorem JQ:∀(a b:List AD),CJ (a++b)=CJ a+CJ b
 | [],b=>by simp[CJ]
 |x::a,b=>by have:=JQ a b;simp only[tD,CJ];omega
theorem IC (e:AD):CJ [e]=en e:=by simp[CJ]
theorem Pe {b:List Int}(Bb:Bk b){p:Int}(h0:0<=p)(h1:p<=900000):Ad (JT b p) λq=>(-1000<=q.1/\q.1<=1000)/\q.2=p+4:=by
 unfold JT;refine Ad.bind (Cd Bb ⟨by omega,by omega⟩) λa ha=>?_;have a1:=ha.pos;have a2:=ha.nn;have a3:=ha.lt (by omega);refine Ad.bind (Cd Bb ⟨by omega,by omega⟩) λc hc=>?_;have c1:=hc.pos;have c2:=hc.nn;have c3:=hc.lt (by omega);refine Ad.bind (Cd Bb ⟨by omega,by omega⟩) λd hd=>?_;have d1:=hd.pos;have d2:=hd.nn;have d3:=hd.lt (by omega);refine Ad.bind (G1 Bb ⟨by omega,by omega⟩ (by simp) (by simp)) λe he=>Ad.some ⟨?_,by have:=he.pos;show e.2=_;omega⟩;have:=he.mem;simp only[pK,pj,qb]at this;show -1000<=e.1/\e.1<=1000;omega
def fY (b:List Int)(D:List AK)(F:List AU)(rec:List Int->Int->List AU->List AK->Int->Option (AD×Int))(t:Int)(k P:Nat):Prop:=
 ∀p:Int,0<=p->p<=800000->Ad (rec b p F D t) (GE k P p)
theorem ZH {b:List Int}{rec:List Int->Int->List AU->List AK->Int->Option (AD×Int)}{l:List Int}(hl:l.length<=3){k P:Nat}(hP:P<=1000)(vl :∀t∈l,fY b D F rec t k P){N i:Nat}(hi:i<=l.length)(hN:l.length-i<N):
  ∀(p:Int) (acc:List AD),0<=p->p<=700000+(i*P:Nat)->acc.length=i->(∀e∈acc,Aj e)->CJ acc<=i*k->
   Ad (Cz b F D l rec N i p acc) λq=>p<=q.1/\q.1<=p+((l.length-i)*P:Nat)/\q.2.length=l.length/\(∀e∈q.2,Aj e)/\CJ q.2<=l.length*k:=by
 refine BS l.length (λN i=>∀(p:Int) (acc:List AD),0<=p->p<=700000+(i*P:Nat)->acc.length=i->(∀e∈acc,Aj e)->CJ acc<=i*k->
   Ad (Cz b F D l rec N i p acc) λq=>p<=q.1/\q.1<=p+((l.length-i)*P:Nat)/\q.2.length=l.length/\(∀e∈q.2,Aj e)/\CJ q.2<=l.length*k) ?_ ?_ hi hN
 .intro n p acc h0 h1 h2 h3 h4;rw[Cz,pJ (by simp[AI])];exact Ad.some ⟨by show p<=p;omega,by show p<=_;omega,h2,h3,h4⟩
 .intro n i hi ih p acc h0 h1 h2 h3 h4;obtain⟨t,ht,htm⟩:=Bi hi;have hiP:i*P<=3000:=by
   have:i*P<=3*1000:=Nat.mul_le_mul (by omega) hP;omega
  have e1:(l.length-i)*P=P+(l.length-(i+1))*P:=by
   rw[show l.length-i=(l.length-(i+1))+1 by omega,pt];omega
  have e2:(i+1)*P=i*P+P:=by rw[pt];omega
  have e3:(i+1)*k=i*k+k:=by rw[pt];omega
  rw[Cz,pI (by simp[AI];omega)];refine AR (Aw ht) ?_;refine Ad.bind (vl t htm p h0 (by omega)) λq hq=>?_;have q1:=hq.lo;have q2:=hq.hi;have q3:=hq.size;refine Ad.app (by simp;omega) (by simp;omega) ?_;rw[BE (by omega) (by omega),show ((i:Int)+1)=((i+1:Nat):Int) by omega];refine (ih q.2 (acc++[q.1]) (by omega) (by omega) (by simp;omega) (λe he=>?_) (by rw[JQ,IC];omega)).mono λr hr=>⟨by have:=hr.1;omega,by have:=hr.2.1;omega,hr.2.2⟩;rcases pX.1 he with h5|h5
  .exact h3 e h5
  .rw[pS]at h5;rw[h5];exact hq.CS
theorem Ys {b:List Int}{rec:List Int->Int->List AU->List AK->Int->Option (AD×Int)}{g:AU}{m:Nat}(hm:g.params.length=m+1)(hl:m<=2){k P:Nat}(hP:P<=1000)(vl :∀t∈g.params,fY b D F rec t k P){N i:Nat}(hi:i<=m)(hN:m-i<N):
  ∀(p:Int) (acc:List AD),0<=p->p<=700000+(i*P:Nat)->acc.length=i->(∀e∈acc,Aj e)->CJ acc<=i*k->
   Ad (D9 g b F D rec N i p acc) λq=>p<=q.1/\q.1<=p+((m-i)*P:Nat)/\q.2.length=m/\(∀e∈q.2,Aj e)/\CJ q.2<=(m)*k:=by
 refine BS m (λN i=>∀(p:Int) (acc:List AD),0<=p->p<=700000+(i*P:Nat)->acc.length=i->(∀e∈acc,Aj e)->CJ acc<=i*k->
   Ad (D9 g b F D rec N i p acc) λq=>p<=q.1/\q.1<=p+((m-i)*P:Nat)/\q.2.length=m/\(∀e∈q.2,Aj e)/\CJ q.2<=(m)*k) ?_ ?_ hi hN
 .intro n p acc h0 h1 h2 h3 h4;rw[D9,BE (by omega) (by omega),pJ (by rw[pP,AI];omega)];exact Ad.some ⟨by show p<=p;omega,by show p<=_;omega,h2,h3,h4⟩
 .intro n i hi ih p acc h0 h1 h2 h3 h4;obtain⟨t,ht,htm⟩:=Bi (l:=g.params) (i:=i) (by omega);have hiP:i*P<=3000:=by
   have:i*P<=3*1000:=Nat.mul_le_mul (by omega) hP;omega
  have e1:(m-i)*P=P+(m-(i+1))*P:=by
   rw[show m-i=(m-(i+1))+1 by omega,pt];omega
  have e2:(i+1)*P=i*P+P:=by rw[pt];omega
  have e3:(i+1)*k=i*k+k:=by rw[pt];omega
  rw[D9,BE (by omega) (by omega),pI (by rw[pP,AI];omega)];refine AR (Aw ht) ?_;refine Ad.bind (vl t htm p h0 (by omega)) λq hq=>?_;have q1:=hq.lo;have q2:=hq.hi;have q3:=hq.size;refine Ad.app (by simp;omega) (by simp;omega) ?_;rw[show ((i:Int)+1)=((i+1:Nat):Int) by omega];refine (ih q.2 (acc++[q.1]) (by omega) (by omega) (by simp;omega) (λe he=>?_) (by rw[JQ,IC];omega)).mono λr hr=>⟨by have:=hr.1;omega,by have:=hr.2.1;omega,hr.2.2⟩;rcases pX.1 he with h5|h5
  .exact h3 e h5
  .rw[pS]at h5;rw[h5];exact hq.CS
theorem GS {o n:Int}(ho:-1000000<=o/\o<=1000000)(hn:-1000000<=n/\n<=1000000):Aj ⟨o,n,[]⟩:=KV (Dm ho.1 ho.2) (Dm hn.1 hn.2) (by simp) (by simp)
theorem lu (C:CX D F){b:List Int}(Bb:Bk b){M:Nat}(hM:2000000<=M){t:Int}(ht:t=0∨t=1∨t=3)(n:Nat):fY b D F (Dh M (n+1)) t 1 6:=by
 intro p h0 h1;rw[Dh];unfold IZ;refine AR (C.Wn hM) ?_;have data:∀(c:Nat) (fs:List Int),CO D t=[(c:Int),((c+1:Nat):Int)]->c<=10->Bs M D (c:Int)=some []->Bs M D ((c+1:Nat):Int)=some fs->t∈fs->fs.length<=3->
   Ad ((Sh.get (CO D t) 0).bind λc8=>
  (
   Option.bind (
    if decide (1<Sh.len (CO D t))=true then
     (Az b p 4).bind λq47=>
     some (decide (q47.1=0),q47.2)
    else
     some (false,p)
   ) λ(t41,f42)=>
   if t41=true then
    (Sh.get (CO D t) 1).bind λc45=>
    some (c45,f42)
   else
    some (c8,f42)
  ).bind λ(yr,f11)=>
  (
   Option.bind (Bs M D yr) λq37=>
   (HB M q37 t).bind λyU=>
   if yU=true then
    some c8
   else
    some yr
  ).bind λwx=>
  (Bs M D wx).bind λwz=>
  (Cz b F D wz (Dh M n) M 0 f11 []).bind λ(f24,l25)=>
  (Bg 6 wx l25).bind λwW=>
  some (wW,f24)) (GE 1 6 p):=by
  intro c fs xZ hc hf0 yM vQ yP;rw[xZ];refine AR (show Sh.get [(c:Int),((c+1:Nat):Int)] 0=some (c:Int) from rfl) ?_;refine Ad.bind (R:=λq=>(q.1=(c:Int)∨q.1=((c+1:Nat):Int))/\q.2=p+1) ?_ ?_
  .rw[pI (by simp[AI])];refine Ad.bind (R:=λq:Bool×Int=>q.2=p+1) (Ad.bind (Cd Bb ⟨by omega,by omega⟩) λq hq=>Ad.some hq.pos) ?_;rintro⟨t41,f42⟩ hf;dsimp only at hf⊢;refine Co (λ_=>?_) λ_=>Ad.some ⟨.inl rfl,hf⟩;exact AR (show Sh.get [(c:Int),((c+1:Nat):Int)] 1=some ((c+1:Nat):Int) from rfl) (Ad.some ⟨.inr rfl,hf⟩)
  .rintro⟨yr,f11⟩ ⟨hc10,hf⟩;dsimp only at hc10 hf⊢;refine Ad.bind (R:=λwx=>wx=(c:Int)) ?_ ?_
   .rcases hc10 with rfl|rfl
    .refine AR hf0 (AR (lG (by simp) hM) ?_);exact Co (λ_=>Ad.some rfl) λ_=>Ad.some rfl
    .refine AR yM (AR (lG (by omega) hM) ?_);rw[pI (by simpa using vQ)];exact Ad.some rfl
   .rintro wx rfl;refine AR hf0 ?_;obtain⟨M',rfl⟩ :∃m,M=m+1:=⟨M-1,by omega⟩
    rw[Cz,pJ (by simp[AI])];refine AR rfl (AR rfl (Ad.some ⟨?_,GS ⟨by omega,by omega⟩ ⟨by omega,by omega⟩,?_,?_⟩))
    .rw[HO];simp[CJ]
    .show p<=f11;omega
    .show f11<=_;omega
 rcases ht with rfl|rfl|rfl
 .have e:CO D 0=[]:=by unfold CO;rw[pJ (by omega)]
  rw[e,pJ (by simp[AI])];refine Ad.bind (OH C hM) λl _=>?_;refine AR (show _=some false from pJ (by simp)) ?_;simp only[pD,pV];refine Ad.bind (Pe Bb h0 (by omega)) λq hq=>AR rfl (Ad.some ⟨?_,GS ⟨by omega,by omega⟩ ⟨by omega,by omega⟩,?_,?_⟩)
  .rw[HO];simp[CJ]
  .show p<=q.2;omega
  .show q.2<=_;omega
 .obtain⟨t0,k0⟩:=C.f0;obtain⟨t1,k1⟩:=C.f1;rw[pI (by rw[C.c1];simp[AI])];exact data 0 [0,1] C.c1 (by omega) (C.W7 k0 hM) (C.W7 k1 hM) (by simp) (by simp)
 .obtain⟨t0,k0⟩:=C.f2;obtain⟨t1,k1⟩:=C.f3;rw[pI (by rw[C.c3];simp[AI])];exact data 2 [3,0,3] C.c3 (by omega) (C.W7 k0 hM) (C.W7 k1 hM) (by simp) (by simp)
end
end RC
namespace RC
open Go
section
variable {D : List AK} {F : List AU}
theorem Yy (C:CX D F){b:List Int}(Bb:Bk b){M:Nat}(hM:2000000<=M)(t:Int)(n:Nat){p:Int}(h0:0<=p)(h1:p<=600000):Ad (Dh M (n+2) b p F D t) (GE 4 20 p):=by
 have vl:∀t,(t=0∨t=1∨t=3)->fY b D F (Dh M (n+1)) t 1 6:=λt ht=>lu C Bb hM ht n;rw[Dh];unfold IZ;refine AR (C.Wn hM) ?_;have hc3:=C.Ws t;refine BB (λuz=>?_) λ_=>?_
 .rw[AI]at uz;refine Ad.get (by omega) (by omega) λc8 _ hc8=>?_;refine Ad.bind (R:=λq=>q.1∈CO D t/\p<=q.2/\q.2<=p+1) ?_ ?_
  .refine Ad.bind (R:=λq:Bool×Int=>(q.1=true->1<(CO D t).length)/\p<=q.2/\q.2<=p+1) ?_ ?_
   .refine BB (λh2=>?_) λ_=>Ad.some ⟨(λh=>by cases h),by show p<=p;omega,by show p<=_;omega⟩;rw[AI]at h2;exact Ad.bind (Cd Bb ⟨by omega,by omega⟩) λq hq=>Ad.some ⟨λ_=>by omega,by have:=hq.pos;show p<=q.2;omega,by have:=hq.pos;show q.2<=_;omega⟩
   .rintro⟨t41,f42⟩ ⟨g1,g2,g3⟩;dsimp only at g1 g2 g3⊢;refine Co (λh=>?_) λ_=>Ad.some ⟨hc8,g2,g3⟩;refine Ad.get (by omega) (by have:=g1 h;omega) λc45 _ hc45=>Ad.some ⟨hc45,g2,g3⟩
  .rintro⟨yr,f11⟩ ⟨hc10,g2,g3⟩;dsimp only at hc10 g2 g3⊢;refine Ad.bind (R:=λwx=>wx∈CO D t) ?_ ?_
   .obtain⟨c,rfl,hc⟩:=RP _ hc10;obtain⟨fl,e1,e2,_⟩:=C.fields hc hM;refine AR e1 (AR (lG (by omega) hM) ?_);exact Co (λ_=>Ad.some hc8) λ_=>Ad.some hc10
   .intro wx hc14;obtain⟨c,rfl,hc⟩:=RP _ hc14;obtain⟨fl,e1,e2,e3⟩:=C.fields hc hM;have hn:=C.nI;refine AR e1 ?_;have:=ZH (D:=D) (F:=F) (b:=b) (rec:=Dh M (n+1)) e2 (k:=1) (P:=6) (by omega) (λt ht=>vl t (e3 t ht)) (N:=M) (pT _) (by omega) f11 [] (by omega) (by omega) rfl (by simp) (by simp[CJ]);refine Ad.bind this ?_;rintro⟨f24,l25⟩ ⟨a1,a2,a3,a4,a5⟩;dsimp only at a1 a2 a3 a4 a5⊢;refine AR rfl (Ad.some ⟨by rw[HO];omega,KV (Dm (by omega) (by omega)) (Dm (by omega) (by omega)) a4 (by omega),by show p<=f24;omega,by show f24<=_;omega⟩)
 .refine Ad.bind (OH C hM) λl hl=>?_;have hF:=C.fl;refine Ad.bind (R:=λt52=>t52=true->0<t/\0<l.length) ?_ λt52 ht52=>?_
  .refine BB (λh=>Ad.some λh2=>⟨h,by rw[pP,AI]at h2;omega⟩) λ_=>Ad.some λh=>by cases h
  .refine Co (λh=>?_) λ_=>?_
   .obtain⟨ht0,hl0⟩:=ht52 h;rw[AI];refine Ad.bind (Cd Bb ⟨by omega,by omega⟩) λq hq=>?_;have q1:=hq.pos;have q2:=hq.nn;have q3:=hq.lt (by omega);refine Ad.get q2 q3 λc57 _ hc57=>?_;obtain⟨f,g,y,rfl,hg,hy,hgp,ha⟩:=hl.2 c57 hc57;have zM:=ov hg;have yP:=(pA.1 hg).1;have hp3:=C.par g zM;refine AR (Aw hg) ?_;have htys:∀x∈g.params,x=0∨x=1∨x=3:=by
     rcases C.cl g zM with h2|⟨h2,h3⟩
     .exact h2
     .exfalso;rw[h2]at hy;have:y=1:=by simpa using hy.symm
      rw[this,h3,C.arr]at ha;omega
    obtain⟨m,hm⟩ :∃m,g.params.length=m+1:=⟨g.params.length-1,by omega⟩
    have:=Ys (D:=D) (F:=F) (b:=b) (rec:=Dh M (n+1)) hm (by omega) (k:=1) (P:=6) (by omega) (λt ht=>vl t (htys t ht)) (N:=M) (pT _) (by omega) q.2 [] (by omega) (by omega) rfl (by simp) (by simp[CJ]);refine Ad.bind this ?_;rintro⟨f66,l67⟩ ⟨a1,a2,a3,a4,a5⟩;dsimp only at a1 a2 a3 a4 a5⊢;refine AR rfl (Ad.some ⟨by rw[HO];omega,KV (Dm (by omega) (by omega)) (Dm (by omega) (by omega)) a4 (by omega),by show p<=f66;omega,by show f66<=_;omega⟩)
   .refine Ad.bind (Pe Bb h0 (by omega)) λq hq=>AR rfl (Ad.some ⟨?_,GS ⟨by omega,by omega⟩ ⟨by omega,by omega⟩,?_,?_⟩)
    .rw[HO];simp[CJ]
    .show p<=q.2;omega
    .show q.2<=_;omega
theorem NH (C:CX D F){b:List Int}(Bb:Bk b){M:Nat}(hM:2000000<=M){vars:List Int}(hv:vars.length<=1000)(t:Int){p:Int}(h0:0<=p)(h1:p<=500000):Ad (IG M b p F D vars t) (GE 4 22 p):=by
 unfold IG;refine Ad.bind (WU hv hM) λl hl=>?_;refine Ad.bind (R:=λq:Bool×Int=>(q.1=true->0<l.length)/\p<=q.2/\q.2<=p+1) ?_ ?_
 .refine BB (λh=>?_) λ_=>Ad.some ⟨(λh=>by cases h),by show p<=p;omega,by show p<=_;omega⟩;rw[AI]at h;refine Ad.bind (Cd Bb ⟨by omega,by omega⟩) λq hq=>?_;have q1:=hq.pos;refine BB (λ_=>Ad.some ⟨λ_=>by omega,by show p<=q.2;omega,by show q.2<=_;omega⟩) λ_=>?_;exact Ad.bind (Mx C (by simp) hM) λ_ _=>Ad.some ⟨λ_=>by omega,by show p<=q.2;omega,by show q.2<=_;omega⟩
 .rintro⟨t6,f7⟩ ⟨g1,g2,g3⟩;dsimp only at g1 g2 g3⊢;refine Co (λh=>?_) λ_=>?_
  .have hl0:=g1 h;rw[AI];refine Ad.bind (Cd Bb ⟨by omega,by omega⟩) λq hq=>?_;have q1:=hq.pos;have q2:=hq.nn;have q3:=hq.lt (by omega);refine Ad.get q2 q3 λc _ hc=>?_;have:=hl.2 c hc;refine AR rfl (Ad.some ⟨by rw[HO];simp[CJ],GS ⟨by omega,by omega⟩ ⟨by omega,by omega⟩,by show p<=q.2;omega,by show q.2<=_;omega⟩)
  .unfold Nl;obtain⟨m,rfl⟩ :∃m,M=m+2:=⟨M-2,by omega⟩
   refine Ad.bind (Yy C Bb hM t m (p:=f7) (by omega) (by omega)) λq hq=>Ad.some ⟨hq.size,hq.CS,by have:=hq.lo;show p<=q.2;omega,by have:=hq.hi;show q.2<=_;omega⟩
theorem Z1 (C:CX D F){b:List Int}(Bb:Bk b){M:Nat}(hM:2000000<=M){vars:List Int}(hv:vars.length<=1000){p:Int}(h0:0<=p)(h1:p<=500000):Ad (KY M b p F D vars) λq=>q.2=p+1:=by
 unfold KY;refine Ad.bind (G1 Bb ⟨by omega,by omega⟩ (by simp) (by simp)) λq hq=>?_;refine Ad.bind (R:=λ_=>True) ?_ λt6 _=>Co (λ_=>Ad.some hq.pos) λ_=>Ad.some hq.pos;refine BB (λ_=>Ad.some oz) λ_=>?_;exact Ad.bind (Mx C hv hM) λ_ _=>Ad.some oz
theorem Y5 (C:CX D F){t:Int}{M:Nat}(hM:2000000<=M):Ad (J8 M ⟨D,F⟩ t) λl=>l.length<=4/\∀x∈l,0<=x/\x<(F.length:Int):=by
 have hf:=C.fl;have yM:=C.jZ;have L2:∀(g:AU),g.params.length<=3->∀{N i:Nat},i<=g.params.length->g.params.length-i<N->∀ok:Bool,Ad (Ew M g ⟨D,F⟩ N ok i) λ_=>True:=by
  intro g hg N i hi hN;refine BS g.params.length (λN i=>∀ok:Bool,Ad (Ew M g ⟨D,F⟩ N ok i) λ_=>True) ?_ ?_ hi hN
  .intro n ok;rw[Ew,pJ (by simp[AI])];exact Ad.some oz
  .intro n i hi ih ok;obtain⟨y,hy,_⟩:=Bi hi;rw[Ew,pI (by rw[pP,AI];omega),BE (by omega) (by omega),show ((i:Int)+1)=((i+1:Nat):Int) by omega];refine Ad.bind (R:=λ_=>True) ?_ λok _=>ih ok;refine Co (λ_=>?_) λ_=>Ad.some oz;refine AR (Aw hy) (Ad.bind (Mx C (by simp) hM) λ_ _=>Ad.some oz)
 have key:∀{N i:Nat},i<=F.length->F.length-i<N->∀acc:List Int,acc.length<=i->(∀x∈acc,0<=x/\x<(F.length:Int))->Ad (E4 M ⟨D,F⟩ t N i acc) λl=>l.length<=F.length/\∀x∈l,0<=x/\x<(F.length:Int):=by
  intro N i hi hN;refine BS F.length (λN i=>∀acc:List Int,acc.length<=i->(∀x∈acc,0<=x/\x<(F.length:Int))->Ad (E4 M ⟨D,F⟩ t N i acc) λl=>l.length<=F.length/\∀x∈l,0<=x/\x<(F.length:Int)) ?_ ?_ hi hN
  .intro n acc h1 h2;rw[E4,pJ (by simp[AI])];exact Ad.some ⟨h1,h2⟩
  .intro n i hi ih acc h1 h2;obtain⟨g,hg,zM⟩:=Bi hi;have hp:=C.par g zM;rw[E4,pI (by rw[pP,AI];show (i:Int)<(F.length:Int);omega),BE (by omega) (by omega),show ((i:Int)+1)=((i+1:Nat):Int) by omega];refine Ad.bind (R:=λl=>l.length<=i+1/\∀x∈l,0<=x/\x<(F.length:Int)) ?_ λl hl=>ih l hl.1 hl.2;refine AR (Aw hg) ?_;have:=L2 g hp (N:=M) (pT _) (by omega) (decide (g.result=t));refine Ad.bind this λok _=>?_;refine Co (λ_=>?_) λ_=>Ad.some ⟨by omega,h2⟩;refine Ad.app (by simp;omega) (by simp;omega) (Ad.some ⟨by simp;omega,λx hx=>?_⟩);rcases pX.1 hx with h3|h3
   .exact h2 x h3
   .rw[pS]at h3;omega
 unfold J8;have:=key (i:=1) yM (by omega:F.length-1<M) [] (by simp) (by simp);rw[show ((1:Nat):Int)=1 from rfl]at this;exact Ad.bind this λl hl=>Ad.some ⟨by omega,hl.2⟩
def G2 (d:Nat):Nat:=if d=0 then 4 else 9*d-5
def Es (d:Nat):Nat:=if d=0 then 35 else 80*d-45
theorem NG {r d n:Nat}(h1:1<=r)(h3:r<=3)(hn:3<=n)(hd:d*r<=n-1):5+r*G2 d<=G2 n/\40+r*Es d<=Es n:=by
 have zS:¬ n=0:=by omega
 unfold G2 Es;rw[pJ zS,pJ zS];obtain rfl|rfl|rfl:r=1∨r=2∨r=3:=by omega
 all_goals
  by_cases h:d=0
  .rw[pI h,pI h];omega
  .rw[pJ h,pJ h];omega
theorem TH (d:Nat):4<=G2 d:=by unfold G2;split<;>omega
theorem TQ (d:Nat):35<=Es d:=by unfold Es;split<;>omega
theorem kW {d:Nat}(h:d<=20):Es d<=1600:=by unfold Es;split<;>omega
abbrev Zb:=List Int->Int->List AU->List AK->List Int->Int->Int->Option (AD×Int)
def RG (b:List Int)(D:List AK)(F:List AU)(rec:Zb)(n:Nat):Prop:=
 ∀(d:Nat) (vars:List Int) (t p:Int),d<n->d<=20->vars.length+3*d<=400->0<=p->p+(Es d:Int)<=400000->Ad (rec b p F D vars t (d:Int)) (GE (G2 d) (Es d) p)
structure GL (m k P:Nat) (p:Int) (q:List AD×Int):Prop where
 len:q.1.length=m
 size:CJ q.1<=k
 CS :∀e∈q.1,Aj e
 lo:p<=q.2
 hi:q.2<=p+P
theorem iC (a b:Nat):Int.tdiv (a:Int) (b:Int)=((a / b:Nat):Int):=rfl
theorem cA {a b:Nat}(hb:b≠0)(ha:a<=1000000):Sh.quo (a:Int) (b:Int)=some ((a / b:Nat):Int):=by
 have h:=sK a b;rw[fT (by omega),iC];generalize a / b=c at h⊢;rw[BE (by omega) (by omega)]
theorem Vp {b:List Int}{rec:Zb}{n:Nat}(R:RG b D F rec n){vars types:List Int}(ht:types.length<=3){bud:Nat}(hb:bud<=20){d:Nat}(hd:types.length≠0->bud / types.length=d)(hdn:d<n)(hd20:d<=20)(hv:vars.length+3*d<=400){M:Nat}(hM:2000000<=M){p:Int}(h0:0<=p)(h1:p+(types.length*Es d:Nat)<=400000):
  Ad (GW M rec b p F D vars types (bud:Int)) (GL types.length (types.length*G2 d) (types.length*Es d) p):=by
 have key:∀{N i:Nat},i<=types.length->types.length-i<N->∀(q:Int) (acc:List AD),p<=q->q<=p+(i*Es d:Nat)->acc.length=i->(∀e∈acc,Aj e)->CJ acc<=i*G2 d->
   Ad (Fw b F D vars types (bud:Int) rec N i q acc) λr=>p<=r.1/\r.1<=p+(types.length*Es d:Nat)/\r.2.length=types.length/\(∀e∈r.2,Aj e)/\CJ r.2<=types.length*G2 d:=by
  intro N i hi hN;refine BS types.length (λN i=>∀(q:Int) (acc:List AD),p<=q->q<=p+(i*Es d:Nat)->acc.length=i->(∀e∈acc,Aj e)->CJ acc<=i*G2 d->
   Ad (Fw b F D vars types (bud:Int) rec N i q acc) λr=>p<=r.1/\r.1<=p+(types.length*Es d:Nat)/\r.2.length=types.length/\(∀e∈r.2,Aj e)/\CJ r.2<=types.length*G2 d) ?_ ?_ hi hN
  .intro n q acc g1 g2 g3 g4 g5;rw[Fw,pJ (by simp[AI])];exact Ad.some ⟨g1,g2,g3,g4,g5⟩
  .intro n i hi ih q acc g1 g2 g3 g4 g5;obtain⟨t,ht',_⟩:=Bi hi;have e2:(i+1)*Es d=i*Es d+Es d:=by rw[pt];omega
   have e3:(i+1)*G2 d=i*G2 d+G2 d:=by rw[pt];omega
   have e4:(i+1)*Es d<=types.length*Es d:=qB _ hi;rw[Fw,pI (by rw[pP,AI];omega),BE (n:=(i:Int)+1) (by omega) (by omega),show ((i:Int)+1)=((i+1:Nat):Int) by omega];refine AR (Aw ht') ?_;rw[AI];refine AR (cA (by omega) (by omega)) ?_;rw[hd (by omega)];refine Ad.bind (R d vars t q hdn hd20 hv (by omega) (by omega)) λr hr=>?_;have r1:=hr.lo;have r2:=hr.hi;have r3:=hr.size;refine Ad.app (by simp;omega) (by simp;omega) ?_;refine ih r.2 (acc++[r.1]) (by omega) (by omega) (by simp;omega) (λe he=>?_) (by rw[JQ,IC];omega);rcases pX.1 he with h5|h5
   .exact g4 e h5
   .rw[pS]at h5;rw[h5];exact hr.CS
 unfold GW;have:=key (pT _) (by omega:types.length-0<M) p [] (by omega) (by omega) rfl (by simp) (by simp[CJ]);rw[tk]at this;refine Ad.bind this ?_;rintro⟨f,l⟩ ⟨a1,a2,a3,a4,a5⟩;exact Ad.some ⟨a3,a5,a4,a1,a2⟩
theorem Zw {r d n P:Nat}{p q0 o m:Int}{l:List AD}{q:Int}(ho:-1000000<=o/\o<=1000000)(hm:-1000000<=m/\m<=1000000)(h3:r<=3)(hn:3<=n)(hd:d*r<=n-1)(hq:p<=q0/\q0<=p+P)(hP:P<=40)(g:GL r (r*G2 d) (r*Es d) q0 (l,q)):GE (G2 n) (Es n) p (⟨o,m,l⟩,q):=by
 have s1:=g.size;have s2:=g.lo;have s3:=g.hi;have s4:=g.len;dsimp only at s1 s2 s3 s4;have hn1:=TH n;have hn2:=TQ n;refine⟨?_,KV (Dm ho.1 ho.2) (Dm hm.1 hm.2) g.CS (by omega),by show p<=q;omega,?_⟩
 .rw[HO];rcases rJ r with rfl|hr
  .omega
  .have:=(NG (d:=d) hr h3 hn hd).1;omega
 .show q<=_;rcases rJ r with rfl|hr
  .have:40<=Es n:=by unfold Es;rw[pJ (by omega)];omega
   omega
  .have:=(NG (d:=d) hr h3 hn hd).2;omega
end
end RC
namespace RC
open Go
section
variable {D : List AK} {F : List AU}
theorem U4 (C:CX D F){b:List Int}{rec:Zb}{n:Nat}(R:RG b D F rec n){vars:List Int}(hn3:3<=n)(hn:n<=20)(hv:vars.length+3*n<=400){t d0:Int}{r d:Nat}(hr:(CO D d0).length=r)(hd:r≠0->(n-2) / r=d)(hdn:d+1<=n){M:Nat}(hM:2000000<=M){p:Int}(h0:0<=p)(h1:p+(r*Es d:Nat)<=400000){k0:Nat}{e0:AD}(hk0:en e0<=k0)(he0:Aj e0):
  Ad (EO M b F D vars t (n:Int) (CO D d0) rec M 0 p [e0]) λq=>p<=q.1/\q.1<=p+(r*Es d:Nat)/\q.2.length=r+1/\(∀e∈q.2,Aj e)/\CJ q.2<=k0+r*G2 d:=by
 have hr3:=C.Ws d0;have key:∀{N i:Nat},i<=(CO D d0).length->(CO D d0).length-i<N->∀(q:Int) (acc:List AD),p<=q->q<=p+(i*Es d:Nat)->acc.length=i+1->(∀e∈acc,Aj e)->CJ acc<=k0+i*G2 d->
   Ad (EO M b F D vars t (n:Int) (CO D d0) rec N i q acc) λq=>p<=q.1/\q.1<=p+(r*Es d:Nat)/\q.2.length=r+1/\(∀e∈q.2,Aj e)/\CJ q.2<=k0+r*G2 d:=by
  intro N i hi hN;refine BS (CO D d0).length (λN i=>∀(q:Int) (acc:List AD),p<=q->q<=p+(i*Es d:Nat)->acc.length=i+1->(∀e∈acc,Aj e)->CJ acc<=k0+i*G2 d->
   Ad (EO M b F D vars t (n:Int) (CO D d0) rec N i q acc) λq=>p<=q.1/\q.1<=p+(r*Es d:Nat)/\q.2.length=r+1/\(∀e∈q.2,Aj e)/\CJ q.2<=k0+r*G2 d) ?_ ?_ hi hN
  .intro m q acc g1 g2 g3 g4 g5;rw[EO,pJ (by simp[AI])];subst hr;exact Ad.some ⟨g1,g2,g3,g4,g5⟩
  .intro m i hi ih q acc g1 g2 g3 g4 g5;obtain⟨c,hc,wH⟩:=Bi hi;obtain⟨cn,rfl,hcn⟩:=RP _ wH;obtain⟨fl,e1,e2',_⟩:=C.fields hcn hM;have e2:(i+1)*Es d=i*Es d+Es d:=by rw[pt];omega
   have e3:(i+1)*G2 d=i*G2 d+G2 d:=by rw[pt];omega
   have e4:(i+1)*Es d<=r*Es d:=qB _ (by omega);rw[EO,pI (by rw[pP,AI];omega),BE (n:=(i:Int)+1) (by omega) (by omega),show ((i:Int)+1)=((i+1:Nat):Int) by omega];refine AR (Aw hc) (AR e1 (AR (Jt (by omega) (by omega)) ?_));rw[AI,BE (n:=(n:Int)-2) (by omega) (by omega),show ((n:Int)-2)=((n-2:Nat):Int) by omega];refine AR (cA (by omega) (by omega)) ?_;rw[hr,hd (by omega)];refine Ad.bind (R d (vars++fl) t q (by omega) (by omega) (by rw[pU];omega) (by omega) (by omega)) λs hs=>?_;have r1:=hs.lo;have r2:=hs.hi;have r3:=hs.size;refine Ad.app (by simp;omega) (by simp;omega) ?_;refine ih s.2 (acc++[s.1]) (by omega) (by omega) (by simp;omega) (λe he=>?_) (by rw[JQ,IC];omega);rcases pX.1 he with h5|h5
   .exact g4 e h5
   .rw[pS]at h5;rw[h5];exact hs.CS
 have:=key (pT _) (by omega:(CO D d0).length-0<M) p [e0] (by omega) (by omega) rfl (λe he=>by rw[pS]at he;rw[he];exact he0) (by rw[IC];omega);rw[tk]at this;exact this
theorem PW (a r:Nat):a / r*r<=a:=Nat.div_mul_le_self a r
theorem Yx (C:CX D F){b:List Int}(Bb:Bk b){rec:Zb}{n:Nat}(R:RG b D F rec n){vars:List Int}(hn3:3<=n)(hn:n<=20)(hv:vars.length+3*n<=400){t:Int}{M:Nat}(hM:2000000<=M){p0 p:Int}(h0:0<=p0)(hp:p0<=p/\p<=p0+1)(h1:p0+(Es n:Int)<=400000):
  Ad (Jw M rec b p F D vars t (n:Int)) (GE (G2 n) (Es n) p0):=by
 have hpk:=TQ n;unfold Jw;refine Ad.bind (G1 Bb ⟨by omega,by omega⟩ (by simp) (by simp)) λq hq=>?_;have q1:=hq.pos;have q2:=hq.mem;simp only[pK,pj,qb]at q2;refine Ad.bind (R:=λd=>0<=d/\d<=4) ?_ λd0 hd0=>?_
 .refine Ad.bind (R:=λ_=>True) ?_ λt32 _=>Co (λ_=>Ad.some (by decide)) λ_=>Ad.some (by omega);refine BB (λ_=>Ad.some oz) λ_=>?_;exact AR (KM C.eG) (Ad.some oz)
 refine AR (C.Wn hM) ?_;refine Ad.bind (NH C Bb hM (by omega) d0 (p:=q.2) (by omega) (by omega)) λlf vS=>?_;have l1:=vS.lo;have l2:=vS.hi;have l3:=vS.size;obtain⟨r,hr⟩ :∃r,(CO D d0).length=r:=⟨_,rfl⟩
 have hr3:=C.Ws d0;obtain⟨d,hd⟩ :∃d,d=(n-2) / r:=⟨_,rfl⟩
 have hdr:d*r<=n-2:=by rw[hd];exact PW _ _
 have hdn:d<=n-2:=by rw[hd];exact sK _ _
 have hn1:=TH n;have fit:5+r*G2 d<=G2 n/\35+r*Es d<=Es n:=by
  rcases rJ r with h|h
  .rw[h];constructor
   .have:5<=G2 n:=by unfold G2;rw[pJ (by omega)];omega
    omega
   .omega
  .have:=NG (d:=d) h (by omega) hn3 (by omega);omega
 have:=U4 (t:=t) C R hn3 hn hv (r:=r) (d:=d) hr (λ_=>hd.symm) (by omega) hM (p:=lf.2) (by omega) (by omega) (k0:=4) l3 vS.CS;refine Ad.bind this ?_;rintro⟨f16,l17⟩ ⟨a1,a2,a3,a4,a5⟩;dsimp only at a1 a2 a3 a4 a5⊢;exact AR rfl (Ad.some ⟨by rw[HO];omega,KV (Dm (by omega) (by omega)) (Dm (by omega) (by omega)) a4 (by omega),by show p0<=f16;omega,by show f16<=_;omega⟩)
theorem Yk (C:CX D F){b:List Int}(Bb:Bk b){rec:Zb}{n:Nat}(R:RG b D F rec n){vars:List Int}(hn3:3<=n)(hn:n<=20)(hv:vars.length+3*n<=400){t:Int}{M:Nat}(hM:2000000<=M){p0 p:Int}(h0:0<=p0)(hp:p0<=p/\p<=p0+1)(h1:p0+(Es n:Int)<=400000):
  Ad (Ju M rec b p F D vars t (n:Int)) (GE (G2 n) (Es n) p0):=by
 have hpk:=TQ n;have hn1:=TH n;have hdl:=C.dl;have fit1:5+G2 (n-2)<=G2 n/\40+Es (n-2)<=Es n:=by
  have:=NG (r:=1) (d:=n-2) (n:=n) (by omega) (by omega) hn3 (by omega);omega
 unfold Ju;refine Ad.cont (R:=GE (G2 n) (Es n) p0) (S:=λf=>p0<=f/\f<=p0+2) ?_ (λr hr=>hr) λf3 hf3=>?_
 .refine Ad.bind (Cd Bb ⟨by omega,by omega⟩) λwA hq=>?_;have q1:=hq.pos;refine BB (λ_=>?_) λ_=>Ad.some (by show p0<=wA.2/\wA.2<=_;omega);have L1:∀{N i:Nat},i<=5->5-i<N->1<=i->Ad (Ex M b F D vars t (n:Int) wA rec N i) λv=>match v with|.inl r=>GE (G2 n) (Es n) p0 r|.inr _=>True:=by
   intro N i hi hN;refine BS 5 (λN i=>1<=i->Ad (Ex M b F D vars t (n:Int) wA rec N i) λv=>match v with|.inl r=>GE (G2 n) (Es n) p0 r|.inr _=>True) ?_ ?_ hi hN
   .intro m _;rw[Ex,pJ (by rw[pP,AI];omega)];exact Ad.some oz
   .intro m i hi ih h1i;rw[Ex];refine BB (λhle=>?_) λ_=>Ad.some oz;rw[AI]at hle;obtain⟨dd,hdd,_⟩:=Bi (l:=D) (i:=i-1) (by omega);rw[BE (n:=(i:Int)-1) (by omega) (by omega),show ((i:Int)-1)=((i-1:Nat):Int) by omega,BE (n:=(i:Int)+1) (by omega) (by omega),show ((i:Int)+1)=((i+1:Nat):Int) by omega,BE (n:=(n:Int)-2) (by omega) (by omega),show ((n:Int)-2)=((n-2:Nat):Int) by omega];refine Ad.bind (R:=λ_=>True) ?_ λt45 _=>Co (λ_=>?_) λ_=>ih (by omega)
    .refine AR (KM C.eG) (Co (λ_=>?_) λ_=>Ad.some oz);refine AR (Aw hdd) (BB (λ_=>?_) λ_=>Ad.some oz);exact Ad.bind (Mx C (by omega) hM) λ_ _=>Ad.some oz
    .refine Ad.bind (NH C Bb hM (by omega) i (p:=wA.2) (by omega) (by omega)) λlf vS=>?_;have l1:=vS.lo;have l2:=vS.hi;have l3:=vS.size;refine AR (Aw hdd) ?_;refine Ad.bind (R (n-2) vars dd.from_ lf.2 (by omega) (by omega) (by omega) (by omega) (by omega)) λs hs=>?_;have r1:=hs.lo;have r2:=hs.hi;have r3:=hs.size;refine AR rfl (Ad.some (show GE (G2 n) (Es n) p0 _ from ⟨?_,KV (Dm (by omega) (by omega)) (Dm (by omega) (by omega)) (λe he=>?_) (by simp),by show p0<=s.2;omega,by show s.2<=_;omega⟩))
     .rw[HO];simp only[CJ];omega
     .simp only[pK,pj,qb]at he;rcases he with rfl|rfl
      .exact vS.CS
      .exact hs.CS
  have l1:=L1 (N:=M) (i:=1) (by omega) (by omega) (by omega);rw[show ((1:Nat):Int)=1 from rfl]at l1;refine Ad.cont (R:=GE (G2 n) (Es n) p0) (S:=λ_=>True) ?_ (λr hr=>hr) λ_ _=>Ad.some (by show p0<=wA.2/\wA.2<=_;omega);exact l1.mono λv hv=>by cases v<;>exact hv
 .refine AR (C.Wn hM) ?_;have hc3:=C.Ws t;have ga:∀(types:List Int) (q:Int) (o m:Int),types.length<=3->p0<=q->q<=p0+10->-1000000<=o/\o<=1000000->-1000000<=m/\m<=1000000->
    Ad ((GW M rec b q F D vars types (Sh.w ((n:Int)-1))).bind λvm=>(Bg o m vm.1).bind λwL=>some (wL,vm.2)) (GE (G2 n) (Es n) p0):=by
   intro types q o m ht g1 g2 ho hm;rw[BE (n:=(n:Int)-1) (by omega) (by omega),show ((n:Int)-1)=((n-1:Nat):Int) by omega];obtain⟨d,hd⟩ :∃d,d=(n-1) / types.length:=⟨_,rfl⟩
   have hdr:d*types.length<=n-1:=by rw[hd];exact PW _ _
   have hdn:d<=n-1:=by rw[hd];exact sK _ _
   have vh:0<types.length->40+types.length*Es d<=Es n:=λh=>(NG (d:=d) h ht hn3 hdr).2;have hle:(types.length*Es d:Nat)<=Es n:=by
    rcases rJ types.length with h|h
    .rw[h];omega
    .have:=vh h;omega
   have hle2:q+(types.length*Es d:Nat)<=400000:=by
    rcases rJ types.length with h|h
    .rw[h];omega
    .have:=vh h;omega
   refine Ad.bind (Vp R ht (bud:=n-1) (by omega) (d:=d) (λ_=>hd.symm) (by omega) (by omega) (by omega) hM (p:=q) (by omega) hle2) ?_;rintro⟨l,q'⟩ g;exact AR rfl (Ad.some (Zw (P:=10) ho hm ht hn3 hdr ⟨g1,g2⟩ (by omega) g))
  refine BB (λuz=>?_) λ_=>?_
  .rw[AI]at uz⊢;refine Ad.bind (Cd Bb ⟨by omega,by omega⟩) λq hq=>?_;have q1:=hq.pos;have q2:=hq.nn;have q3:=hq.lt (by omega);refine Ad.get q2 q3 λyS _ hc12=>?_;obtain⟨c,rfl,hc⟩:=RP _ hc12;obtain⟨fl,e1,e2,_⟩:=C.fields hc hM;have hnc:=C.nI;exact AR e1 (ga fl q.2 6 c e2 (by omega) (by omega) (by omega) (by omega))
  .refine BB (λ_=>?_) λ_=>?_
   .refine Ad.bind (NH C Bb hM (by omega) t (p:=f3) (by omega) (by omega)) λlf vS=>Ad.some ⟨by have:=vS.size;show en lf.1<=_;omega,vS.CS,by have:=vS.lo;show p0<=lf.2;omega,by have:=vS.hi;show lf.2<=_;omega⟩
   .refine Ad.bind (Cd Bb ⟨by omega,by omega⟩) λq hq=>?_;have q1:=hq.pos;refine BB (λ_=>ga [0] q.2 5 0 (by simp) (by omega) (by omega) (by omega) (by omega)) λ_=>?_;refine Ad.bind (G1 Bb ⟨by omega,by omega⟩ (by simp) (by simp)) λyK hq30=>?_;have o1:=hq30.pos;have o2:=hq30.mem;simp only[pK,pj,qb]at o2;exact ga [0,0] yK.2 yK.1 0 (by simp) (by omega) (by omega) (by omega) (by omega)
theorem de (C:CX D F){b:List Int}(Bb:Bk b){rec:Zb}{n:Nat}(R:RG b D F rec n){vars:List Int}(hn:n<=20)(hv:vars.length+3*n<=400){t:Int}{M:Nat}(hM:2000000<=M){p:Int}(h0:0<=p)(h1:p+(Es n:Int)<=400000):
  Ad (MF M rec b p F D vars t (n:Int)) (GE (G2 n) (Es n) p):=by
 have hpk:=TQ n;have hn1:=TH n;unfold MF;refine BB (λ_=>?_) λhn3'=>?_
 .refine Ad.bind (NH C Bb hM (by omega) t (p:=p) (by omega) (by omega)) λlf vS=>Ad.some ⟨by have:=vS.size;show en lf.1<=_;omega,vS.CS,vS.lo,by have:=vS.hi;show lf.2<=_;omega⟩
 have hn3:3<=n:=by omega
 refine Ad.cont (R:=GE (G2 n) (Es n) p) (S:=λf=>p<=f/\f<=p+1) ?_ (λr hr=>hr) λf8 hf8=>?_
 .refine Ad.bind (Cd Bb ⟨by omega,by omega⟩) λq hq=>?_;have q1:=hq.pos;refine BB (λ_=>?_) λ_=>?_
  .refine Ad.bind (NH C Bb hM (by omega) t (p:=q.2) (by omega) (by omega)) λlf vS=>Ad.some (show GE (G2 n) (Es n) p _ from ⟨by have:=vS.size;show en lf.1<=_;omega,vS.CS,by have:=vS.lo;show p<=lf.2;omega,by have:=vS.hi;show lf.2<=_;omega⟩)
  refine Ad.bind (R:=λ_=>True) ?_ λt19 _=>Co (λ_=>?_) λ_=>?_
  .exact BB (λ_=>Ad.some oz) λ_=>Ad.some oz
  .have ed:Int.tdiv (n:Int) 2=((n / 2:Nat):Int):=rfl;have fit:2*G2 (n / 2)+1<=G2 n/\2*Es (n / 2)+2<=Es n:=by
    have hd0:¬ n / 2=0:=by omega
    have zS:¬ n=0:=by omega
    unfold G2 Es;rw[pJ hd0,pJ zS,pJ hd0,pJ zS];omega
   rw[ed];have hd:=sK n 2;have hd2:n / 2+1<=n:=by omega
   generalize n / 2=d at hd hd2 fit⊢;rw[BE (n:=(d:Int)) (by omega) (by omega)];refine Ad.bind (Z1 C Bb hM (by omega) (p:=q.2) (by omega) (by omega)) λvf hq23=>?_;refine Ad.bind (R d vars vf.1 vf.2 (by omega) (by omega) (by omega) (by omega) (by omega)) λs hs=>?_;have r1:=hs.lo;have r2:=hs.hi;have r3:=hs.size;refine AR (Jt (by omega) (by simp)) ?_;refine Ad.bind (R d (vars++[vf.1]) t s.2 (by omega) (by omega) (by simp;omega) (by omega) (by omega)) λu hu=>?_;have u1:=hu.lo;have u2:=hu.hi;have u3:=hu.size;refine AR rfl (Ad.some (show GE (G2 n) (Es n) p _ from ⟨?_,KV (Dm (by omega) (by omega)) (Dm (by omega) (by omega)) (λe he=>?_) (by simp),by show p<=u.2;omega,by show u.2<=_;omega⟩))
   .rw[HO];simp only[CJ];omega
   .simp only[pK,pj,qb]at he;rcases he with rfl|rfl
    .exact hs.CS
    .exact hu.CS
  have ga:∀(types:List Int) (q:Int) (o m:Int),types.length<=3->p<=q->q<=p+10->-1000000<=o/\o<=1000000->-1000000<=m/\m<=1000000->
    Ad ((GW M rec b q F D vars types (Sh.w ((n:Int)-1))).bind λvm=>(Bg o m vm.1).bind λwL=>some (Sum.inl (wL,vm.2))) λv:(AD×Int) ⊕ Int=>match v with|.inl r=>GE (G2 n) (Es n) p r|.inr f=>p<=f/\f<=p+1:=by
   intro types q o m ht g1 g2 ho hm;rw[BE (n:=(n:Int)-1) (by omega) (by omega),show ((n:Int)-1)=((n-1:Nat):Int) by omega];obtain⟨d,hd⟩ :∃d,d=(n-1) / types.length:=⟨_,rfl⟩
   have hdr:d*types.length<=n-1:=by rw[hd];exact PW _ _
   have hdn:d<=n-1:=by rw[hd];exact sK _ _
   have vh:0<types.length->40+types.length*Es d<=Es n:=λh=>(NG (d:=d) h ht hn3 hdr).2;have hle2:q+(types.length*Es d:Nat)<=400000:=by
    rcases rJ types.length with h|h
    .rw[h];omega
    .have:=vh h;omega
   refine Ad.bind (Vp R ht (bud:=n-1) (by omega) (d:=d) (λ_=>hd.symm) (by omega) (by omega) (by omega) hM (p:=q) (by omega) hle2) ?_;rintro⟨l,q'⟩ g;exact AR rfl (Ad.some (Zw (P:=10) ho hm ht hn3 hdr ⟨g1,g2⟩ (by omega) g))
  refine BB (λ_=>(ga [0,t,t] q.2 7 0 (by simp) (by omega) (by omega) (by omega) (by omega)).mono λv hv=>by cases v<;>exact hv) λ_=>?_;refine Ad.bind (R:=λ_=>True) ?_ λt35 _=>Co (λ_=>?_) λ_=>?_
  .exact BB (λ_=>Ad.some oz) λ_=>BB (λ_=>Ad.some oz) λ_=>Ad.some oz
  .exact Ad.bind (Yx C Bb R hn3 hn hv hM h0 (p:=q.2) (by omega) h1) λr hr=>Ad.some (show GE (G2 n) (Es n) p _ from hr)
  refine Ad.bind (R:=λ_=>True) ?_ λt41 _=>Co (λ_=>?_) λ_=>Ad.some (by show p<=q.2/\q.2<=_;omega)
  .exact BB (λ_=>Ad.some oz) λ_=>Ad.some oz
  refine Ad.bind (Y5 C hM) λl hl=>?_;refine BB (λuz=>?_) λ_=>Ad.some (by show p<=q.2/\q.2<=_;omega);rw[AI]at uz⊢;refine Ad.bind (Cd Bb ⟨by omega,by omega⟩) λyp hq49=>?_;have a1:=hq49.pos;have a2:=hq49.nn;have a3:=hq49.lt (by omega);refine Ad.get a2 a3 λza _ hc50=>?_;obtain⟨b0,b1⟩:=hl.2 za hc50;refine Ad.get b0 b1 λg _ hg=>?_;have hF:=C.fl;exact (ga g.params yp.2 9 za (C.par g hg) (by omega) (by omega) (by omega) (by omega)).mono λv hv=>by cases v<;>exact hv
 .exact Ad.bind (Yk C Bb R hn3 hn hv hM h0 hf8 h1) λr hr=>Ad.some hr
theorem Xp (C:CX D F){b:List Int}(Bb:Bk b){M:Nat}(hM:2000000<=M):∀n:Nat,RG b D F (J7 M n) n
 |0=>λd _ _ _ hd=>absurd hd (by omega)
 |n+1=>λd vars t p hd h20 hv h0 h1=>by
  rw[J7];have R:RG b D F (J7 M n) d:=λd' vars' t' p' hd'=>Xp C Bb hM n d' vars' t' p' (by omega);exact de C Bb R h20 hv hM h0 h1
theorem Jx (C:CX D F){b:List Int}(Bb:Bk b){M:Nat}(hM:2000000<=M){d:Nat}(hd:d<=20){vars:List Int}(hv:vars.length<=100)(t:Int){p:Int}(h0:0<=p)(h1:p<=300000):Ad (HZ M b p F D vars t (d:Int)) (GE (G2 d) (Es d) p):=by
 have:=kW hd;exact Xp C Bb hM M d vars t p (by omega) hd (by omega) h0 (by omega)
end
end RC
namespace RC
open Go
section
variable {D : List AK} {F : List AU}
structure GQ (k P:Nat) (p:Int) (q:Int×Int×Int×List AD):Prop where
 size:en ⟨q.2.1,q.2.2.1,q.2.2.2⟩<=k
 CS:Aj ⟨q.2.1,q.2.2.1,q.2.2.2⟩
 lo:p<=q.1
 hi:q.1<=p+P
theorem GE.parts {k P:Nat}{p:Int}{q:AD×Int}(h:GE k P p q):GQ k P p (q.2,q.1.op,q.1.num,q.1.kids):=by
 obtain⟨e,f⟩:=q;cases e;exact⟨h.size,h.CS,h.lo,h.hi⟩
theorem Xd (o n:Int)(a b:AD):en ⟨o,n,[a,b]⟩=1+en a+en b:=by rw[HO];simp only[CJ];omega
theorem gJ (o n:Int)(a b c:AD):en ⟨o,n,[a,b,c]⟩=1+en a+en b+en c:=by rw[HO];simp only[CJ];omega
theorem Lv (o n:Int):en ⟨o,n,[]⟩=1:=by rw[HO];simp[CJ]
theorem Xe {o n:Int}{a b:AD}(ho:-1000000<=o/\o<=1000000)(hn:-1000000<=n/\n<=1000000)(ha:Aj a)(hb:Aj b):Aj ⟨o,n,[a,b]⟩:=
 KV (Dm ho.1 ho.2) (Dm hn.1 hn.2) (λe he=>by simp only[pK,pj,qb]at he;rcases he with rfl|rfl<;>assumption) (by simp)
theorem iJ {o n:Int}{a b c:AD}(ho:-1000000<=o/\o<=1000000)(hn:-1000000<=n/\n<=1000000)(ha:Aj a)(hb:Aj b)(hc:Aj c):Aj ⟨o,n,[a,b,c]⟩:=
 KV (Dm ho.1 ho.2) (Dm hn.1 hn.2) (λe he=>by simp only[pK,pj,qb]at he;rcases he with rfl|rfl|rfl<;>assumption) (by simp)
theorem nt {o n:Int}{a:AD}(ho:-1000000<=o/\o<=1000000)(hn:-1000000<=n/\n<=1000000)(ha:Aj a):Aj ⟨o,n,[a]⟩:=
 KV (Dm ho.1 ho.2) (Dm hn.1 hn.2) (λe he=>by rw[pS]at he;rw[he];exact ha) (by simp)
theorem aJ {b:List Int}(Bb:Bk b){M:Nat}(hM:2000000<=M)(t:Int){p:Int}(h0:0<=p)(h1:p<=500000):Ad (Ka M b p t) (GE 20 20 p):=by
 unfold Ka;have li:∀n:Int,0<=n->n<=100->Aj ⟨0,n,[]⟩:=λn a c=>GS ⟨by omega,by omega⟩ ⟨by omega,by omega⟩;refine AR rfl ?_;refine BB (λ_=>?_) λ_=>?_
 .refine AR rfl ?_;refine Ad.bind (Cd Bb ⟨by omega,by omega⟩) λq hq=>?_;have q1:=hq.pos;have q2:=hq.nn;have q3:=hq.lt (by omega);refine AR rfl (AR rfl ?_);refine Ad.bind (Cd Bb ⟨by omega,by omega⟩) λs hs=>?_;have s1:=hs.pos;have s2:=hs.nn;have s3:=hs.lt (by omega);have l6:Aj ⟨6,2,[]⟩:=GS ⟨by omega,by omega⟩ ⟨by omega,by omega⟩;refine AR rfl (AR rfl (Ad.some ⟨?_,?_,by show p<=s.2;omega,by show s.2<=_;omega⟩))
  .rw[gJ,gJ,Lv,Lv,Lv];omega
  .exact iJ ⟨by omega,by omega⟩ ⟨by omega,by omega⟩ (iJ ⟨by omega,by omega⟩ ⟨by omega,by omega⟩ l6 (li _ q2 (by omega)) l6) (li _ s2 (by omega)) l6
 .refine Ad.bind (Cd Bb ⟨by omega,by omega⟩) λq hq=>?_;have q1:=hq.pos;have q2:=hq.nn;have q3:=hq.lt (by omega);have key:∀(n:Nat) (N:Nat) (f o m:Int) (k:List AD),n<N->n<=3->p<=f->f+4*n<=p+13->Aj ⟨o,m,k⟩->en ⟨o,m,k⟩+2*n<=7->Ad (GJ b N n f o m k) (GQ 20 20 p):=by
   intro n
   induction n with
   |zero=>
    intro N f o m k hN _ g1 g2 g3 g4;obtain⟨N,rfl⟩ :∃m,N=m+1:=⟨N-1,by omega⟩
    rw[GJ,pJ (by simp)];exact Ad.some ⟨by show en ⟨o,m,k⟩<=20;omega,g3,g1,by show f<=_;omega⟩
   |succ n ih=>
    intro N f o m k hN hn g1 g2 g3 g4;obtain⟨N,rfl⟩ :∃m,N=m+1:=⟨N-1,by omega⟩
    rw[GJ,pI (by rw[pP];omega)];refine Ad.bind (Pe Bb (by omega) (by omega)) λs hs=>?_;refine AR rfl (AR rfl ?_);rw[BE (by omega) (by omega),show (((n+1:Nat):Int)-1)=(n:Int) by omega];refine ih N s.2 6 1 _ (by omega) (by omega) (by omega) (by omega) (Xe ⟨by omega,by omega⟩ ⟨by omega,by omega⟩ (GS ⟨by omega,by omega⟩ ⟨by omega,by omega⟩) g3) ?_;show en ⟨6,1,[⟨0,s.1,[]⟩,⟨o,m,k⟩]⟩+2*n<=7;rw[Xd,Lv];omega
  obtain⟨n,hn⟩:=pb q2;have h3:=key (n+1) M q.2 6 0 [] (by omega) (by omega) (by omega) (by omega) (GS ⟨by omega,by omega⟩ ⟨by omega,by omega⟩) (by rw[Lv];omega);rw[BE (by omega) (by omega),hn,show (1+(n:Int))=((n+1:Nat):Int) by omega];refine Ad.bind h3 ?_;rintro⟨f,o,m,k⟩ g;exact Ad.some ⟨g.size,g.CS,g.lo,g.hi⟩
theorem dK:G2 4=31:=rfl
theorem dZ:Es 4=275:=rfl
theorem oX:G2 3=22:=rfl
theorem oV:Es 3=195:=rfl
theorem mI:G2 16=139:=rfl
theorem oM:Es 16=1235:=rfl
theorem Yd (C:CX D F){b:List Int}(Bb:Bk b){M:Nat}(hM:2000000<=M){p:Int}(h0:0<=p)(h1:p<=200000):Ad (Jr M b p F D) (GE 1000 3000 p):=by
 unfold Jr;refine Ad.bind (G1 Bb ⟨by omega,by omega⟩ (by simp) (by simp)) λq hq=>?_;have q1:=hq.pos;refine Ad.bind (Jx C Bb hM (d:=16) (by omega) (vars:=[q.1]) (by simp) 0 (p:=q.2) (by omega) (by omega)) λg hg=>?_;have g1:=hg.size;have g2:=hg.lo;have g3:=hg.hi;rw[mI]at g1;rw[oM]at g3;refine Ad.bind (R:=GQ 141 2000 p) ?_ ?_
 .refine Ad.bind (Cd Bb ⟨by omega,by omega⟩) λs hs=>?_;have s1:=hs.pos;refine BB (λ_=>AR rfl (Ad.some ?_)) λ_=>Ad.some ?_
  .refine⟨?_,(nt ⟨by omega,by omega⟩ ⟨by omega,by omega⟩ hg.CS:Aj ⟨5,0,[g.1]⟩),by show p<=s.2;omega,by show s.2<=_;omega⟩;show en ⟨5,0,[g.1]⟩<=_;rw[HO,IC];omega
  .have:=hg.parts;exact⟨by have:=this.size;rw[mI]at this;dsimp only at this⊢;omega,this.CS,by show p<=s.2;omega,by show s.2<=_;omega⟩
 .rintro⟨f,o,m,k⟩ g;have a1:=g.size;have a2:=g.lo;have a3:=g.hi;have a4:=g.CS;dsimp only at a1 a2 a3 a4⊢;refine Ad.bind (aJ Bb hM q.1 (p:=f) (by omega) (by omega)) λl hl=>?_;have l1:=hl.size;have l2:=hl.lo;have l3:=hl.hi;refine AR rfl (Ad.some ⟨by rw[Xd];omega,Xe ⟨by omega,by omega⟩ ⟨by omega,by omega⟩ hl.CS a4,by show p<=l.2;omega,by show l.2<=_;omega⟩)
theorem ZG (C:CX D F){b:List Int}(Bb:Bk b){M:Nat}(hM:2000000<=M){f:Nat}(hf:f<F.length){a:Nat}(ha:a<=3){p:Int}(h0:0<=p)(h1:p<=200000):Ad (Jy M b p F D f a) (GE 1000 3000 p):=by
 have yP:=C.fl;obtain⟨g,hg,zM⟩:=Bi hf;have hp3:=C.par g zM;unfold Jy;refine AR (Aw hg) (AR (Jt (by omega) (by simp)) ?_);have key:∀{N i:Nat},i<=g.params.length->g.params.length-i<N->∀(q:Int) (acc:List AD),p<=q->q<=p+i->acc.length=i->(∀e∈acc,Aj e)->CJ acc<=3*i->
   Ad (Ez g b a N i q acc) λr=>p<=r.1/\r.1<=p+3/\r.2.length<=3/\(∀e∈r.2,Aj e)/\CJ r.2<=9:=by
  intro N i hi hN;refine BS g.params.length (λN i=>∀(q:Int) (acc:List AD),p<=q->q<=p+i->acc.length=i->(∀e∈acc,Aj e)->CJ acc<=3*i->
   Ad (Ez g b a N i q acc) λr=>p<=r.1/\r.1<=p+3/\r.2.length<=3/\(∀e∈r.2,Aj e)/\CJ r.2<=9) ?_ ?_ hi hN
  .intro n q acc g1 g2 g3 g4 g5;rw[Ez,pJ (by simp[AI])];exact Ad.some ⟨g1,by show q<=_;omega,by show acc.length<=3;omega,g4,by show CJ acc<=9;omega⟩
  .intro n i hi ih q acc g1 g2 g3 g4 g5;obtain⟨t,ht,_⟩:=Bi hi;rw[Ez,pI (by rw[pP,AI];omega),BE (n:=(i:Int)+1) (by omega) (by omega),show ((i:Int)+1)=((i+1:Nat):Int) by omega,AI];have ap:∀{e:AD} {s:Int},Aj e->en e<=3->p<=s->s<=p+(i+1:Nat)->Ad ((Sh.app acc [e] 40).bind λl68=>some (s,l68)) λr:Int×List AD=>p<=r.1/\r.1<=p+(i+1:Nat)/\r.2.length=i+1/\(∀e∈r.2,Aj e)/\CJ r.2<=3*(i+1):=λhe h3 hs1 hs2=>
    Ad.app (by simp;omega) (by simp;omega) (Ad.some ⟨hs1,hs2,by simp;omega,λx hx=>by
     rcases pX.1 hx with h5|h5
     .exact g4 x h5
     .rw[pS]at h5;rw[h5];exact he,by show CJ (acc++_)<=_;rw[JQ,IC];omega⟩)
   have vi:∀{n:Int},0<=n->n<=100->Aj ⟨12,n,[]⟩:=λa c=>GS ⟨by omega,by omega⟩ ⟨by omega,by omega⟩;refine Ad.bind (R:=λr:Int×List AD=>p<=r.1/\r.1<=p+(i+1:Nat)/\r.2.length=i+1/\(∀e∈r.2,Aj e)/\CJ r.2<=3*(i+1)) ?_ λr hr=>ih r.1 r.2 hr.1 hr.2.1 hr.2.2.1 hr.2.2.2.1 hr.2.2.2.2;refine BB (λ_=>?_) λ_=>?_
   .rw[BE (n:=(g.params.length:Int)+1) (by omega) (by omega)];exact AR rfl (ap (vi (by omega) (by omega)) (by rw[Lv];omega) g1 (by omega))
   .refine Ad.bind (R:=λr:Bool×Int=>p<=r.2/\r.2<=p+(i+1:Nat)) ?_ ?_
    .refine AR (Aw ht) (BB (λ_=>?_) λ_=>Ad.some (by show p<=q/\q<=_;omega));exact Ad.bind (Cd Bb ⟨by omega,by omega⟩) λs hs=>Ad.some (by have:=hs.pos;show p<=s.2/\s.2<=_;omega)
    .rintro⟨t70,f71⟩ ⟨a1,a2⟩;dsimp only at a1 a2⊢;refine Co (λ_=>?_) λ_=>?_
     .exact AR rfl (AR rfl (AR rfl (ap (Xe ⟨by omega,by omega⟩ ⟨by omega,by omega⟩ (vi (by omega) (by omega)) (vi (by omega) (by omega))) (by rw[Xd,Lv,Lv];omega) a1 a2)))
     .exact AR rfl (ap (vi (by omega) (by omega)) (by rw[Lv];omega) a1 a2)
 have k:=key (pT _) (by omega:g.params.length-0<M) p [] (by omega) (by omega) rfl (by simp) (by simp[CJ]);rw[tk]at k;refine Ad.bind k ?_;rintro⟨f13,vc⟩ ⟨a1,a2,a3,a4,a5⟩;dsimp only at a1 a2 a3 a4 a5⊢;have again:Aj ⟨9,f,vc⟩:=KV (Dm (by omega) (by omega)) (Dm (by omega) (by omega)) a4 (by omega);have ea:en ⟨9,(f:Int),vc⟩<=10:=by rw[HO];omega
 refine AR rfl ?_;have hvl:(g.params++[(0:Int),1]).length<=100:=by simp;omega
 refine Ad.bind (R:=GQ 200 1000 p) ?_ ?_
 .refine Ad.bind (R:=λr:Bool×Int=>p<=r.2/\r.2<=p+4) ?_ ?_
  .refine BB (λ_=>?_) λ_=>Ad.some (by show p<=f13/\f13<=_;omega);exact Ad.bind (Cd Bb ⟨by omega,by omega⟩) λs hs=>Ad.some (by have:=hs.pos;show p<=s.2/\s.2<=_;omega)
  .rintro⟨t30,f31⟩ ⟨b1,b2⟩;dsimp only at b1 b2⊢;refine Co (λ_=>?_) λ_=>?_
   .refine Ad.bind (Jx C Bb hM (d:=4) (by omega) hvl 0 (p:=f31) (by omega) (by omega)) λyL hq=>?_;have c1:=hq.size;have c2:=hq.lo;have c3:=hq.hi;rw[dK]at c1;rw[dZ]at c3;refine Ad.bind (R:=λr:Int×Int×List AD=>en ⟨r.1,r.2.1,r.2.2⟩<=31/\Aj ⟨r.1,r.2.1,r.2.2⟩) ?_ ?_
    .refine Ad.bind (R:=λ_=>True) ?_ λt43 _=>Co (λ_=>?_) λ_=>Ad.some ?_
     .refine BB (λh=>?_) λ_=>Ad.some oz;rw[AI]at h;exact Ad.get (by omega) (by omega) λ_ _ _=>Ad.some oz
     .rw[AI];refine AR rfl (AR rfl (AR rfl (Ad.some ⟨?_,?_⟩)))
      .show en ⟨11,0,[⟨12,0,[]⟩,⟨12,(g.params.length:Int),[]⟩]⟩<=31;rw[Xd,Lv,Lv];omega
      .exact (Xe ⟨by omega,by omega⟩ ⟨by omega,by omega⟩ (GS ⟨by omega,by omega⟩ ⟨by omega,by omega⟩) (GS ⟨by omega,by omega⟩ ⟨by omega,by omega⟩):Aj ⟨11,0,[⟨12,0,[]⟩,⟨12,(g.params.length:Int),[]⟩]⟩)
     .have:=hq.parts;exact⟨by have:=this.size;dsimp only at this⊢;rw[dK]at this;exact this,this.CS⟩
    .rintro⟨f37,f38,f39⟩ ⟨d1,d2⟩;dsimp only at d1 d2⊢;refine AR rfl (Ad.some ⟨?_,(Xe ⟨by omega,by omega⟩ ⟨by omega,by omega⟩ d2 again:Aj ⟨6,1,[⟨f37,f38,f39⟩,⟨9,(f:Int),vc⟩]⟩),by show p<=yL.2;omega,by show yL.2<=_;omega⟩);show en ⟨6,1,[⟨f37,f38,f39⟩,⟨9,(f:Int),vc⟩]⟩<=200;rw[Xd];omega
   .refine BB (λ_=>?_) λ_=>Ad.some ⟨by show en ⟨9,(f:Int),vc⟩<=200;omega,again,by show p<=f31;omega,by show f31<=_;omega⟩;refine Ad.bind (G1 Bb ⟨by omega,by omega⟩ (by simp) (by simp)) λq53 hq53=>?_;have o1:=hq53.pos;have o2:=hq53.mem;simp only[pK,pj,qb]at o2;refine Ad.bind (Jx C Bb hM (d:=4) (by omega) hvl 0 (p:=q53.2) (by omega) (by omega)) λq54 hq=>?_;have c1:=hq.size;have c2:=hq.lo;have c3:=hq.hi;rw[dK]at c1;rw[dZ]at c3;refine AR rfl (Ad.some ⟨?_,(Xe ⟨by omega,by omega⟩ ⟨by omega,by omega⟩ hq.CS again:Aj ⟨q53.1,0,[q54.1,⟨9,(f:Int),vc⟩]⟩),by show p<=q54.2;omega,by show q54.2<=_;omega⟩);show en ⟨q53.1,0,[q54.1,⟨9,(f:Int),vc⟩]⟩<=200;rw[Xd];omega
 .rintro⟨f20,o,m,k⟩ g20;have b1:=g20.size;have b2:=g20.lo;have b3:=g20.hi;have b4:=g20.CS;dsimp only at b1 b2 b3 b4⊢;refine AR rfl ?_;refine Ad.bind (Jx C Bb hM (d:=4) (by omega) (vars:=g.params) (by omega) g.result (p:=f20) (by omega) (by omega)) λq hq=>?_;have c1:=hq.size;have c2:=hq.lo;have c3:=hq.hi;rw[dK]at c1;rw[dZ]at c3;refine AR rfl (Ad.some ⟨by rw[gJ,Lv];omega,iJ ⟨by omega,by omega⟩ ⟨by omega,by omega⟩ (GS ⟨by omega,by omega⟩ ⟨by omega,by omega⟩) hq.CS b4,by show p<=q.2;omega,by show q.2<=_;omega⟩)
end
end RC
namespace RC
open Go
section
variable {D : List AK} {F : List AU}
theorem Yj (C:CX D F){b:List Int}(Bb:Bk b){M:Nat}(hM:2000000<=M){f:Nat}(hf:f<F.length){g:AU}(hg:F[f]?=some g)(hg1:0<g.params.length){p:Int}(h0:0<=p)(h1:p<=200000):Ad (J6 M b p F D f) (GE 1000 3000 p):=by
 have yP:=C.fl;have zM:=ov hg;have hp3:=C.par g zM;unfold J6;have vi:∀{n:Int},0<=n->n<=100->Aj ⟨12,n,[]⟩:=λa c=>GS ⟨by omega,by omega⟩ ⟨by omega,by omega⟩;refine AR (Aw hg) ?_;rw[AI,BE (n:=(g.params.length:Int)+2) (by omega) (by omega)];refine AR rfl (AR rfl ?_);have key:∀{N i:Nat},i<=g.params.length->g.params.length-i<N->∀(x y:List AD),x.length=i->y.length=i->(∀e∈x,Aj e)->(∀e∈y,Aj e)->CJ x<=i->CJ y<=i->
   Ad (E1 g N i x y) λr=>r.1.length<=3/\r.2.length<=3/\(∀e∈r.1,Aj e)/\(∀e∈r.2,Aj e)/\CJ r.1<=3/\CJ r.2<=3:=by
  intro N i hi hN;refine BS g.params.length (λN i=>∀(x y:List AD),x.length=i->y.length=i->(∀e∈x,Aj e)->(∀e∈y,Aj e)->CJ x<=i->CJ y<=i->
   Ad (E1 g N i x y) λr=>r.1.length<=3/\r.2.length<=3/\(∀e∈r.1,Aj e)/\(∀e∈r.2,Aj e)/\CJ r.1<=3/\CJ r.2<=3) ?_ ?_ hi hN
  .intro n x y g1 g2 g3 g4 g5 g6;rw[E1,pJ (by simp[AI])];exact Ad.some ⟨by show x.length<=3;omega,by show y.length<=3;omega,g3,g4,by show CJ x<=3;omega,by show CJ y<=3;omega⟩
  .intro n i hi ih x y g1 g2 g3 g4 g5 g6;rw[E1,pI (by rw[pP,AI];omega),BE (n:=(i:Int)+1) (by omega) (by omega),show ((i:Int)+1)=((i+1:Nat):Int) by omega];have hm:∀(l:List AD),(∀e∈l,Aj e)->∀e∈l++[AD.mk 12 (i:Int) []],Aj e:=λl hl e he=>by
    rcases pX.1 he with h5|h5
    .exact hl e h5
    .rw[pS]at h5;rw[h5];exact vi (by omega) (by omega)
   refine AR rfl (Ad.app (by simp;omega) (by simp;omega) (AR rfl (Ad.app (by simp;omega) (by simp;omega) ?_)));exact ih _ _ (by simp;omega) (by simp;omega) (hm x g3) (hm y g4) (by rw[JQ,IC,Lv];omega) (by rw[JQ,IC,Lv];omega)
 have k:=key (i:=1) (by omega) (by omega:g.params.length-1<M) [⟨12,(g.params.length:Int),[]⟩] [⟨12,(g.params.length:Int)+2,[]⟩] rfl rfl
  (λe he=>by rw[pS]at he;rw[he];exact vi (by omega) (by omega)) (λe he=>by rw[pS]at he;rw[he];exact vi (by omega) (by omega)) (by rw[IC,Lv];omega) (by rw[IC,Lv];omega)
 rw[show ((1:Nat):Int)=1 from rfl]at k;refine Ad.bind k ?_;rintro⟨vc,zi⟩ ⟨a1,a2,a3,a4,a5,a6⟩;dsimp only at a1 a2 a3 a4 a5 a6⊢;have i18:Aj ⟨9,f,vc⟩:=KV (Dm (by omega) (by omega)) (Dm (by omega) (by omega)) a3 (by omega);have i20:Aj ⟨9,f,zi⟩:=KV (Dm (by omega) (by omega)) (Dm (by omega) (by omega)) a4 (by omega);have e18:en ⟨9,(f:Int),vc⟩<=4:=by rw[HO];omega
 have e20:en ⟨9,(f:Int),zi⟩<=4:=by rw[HO];omega
 have hvl:(g.params++[(3:Int),0,3]).length<=100:=by simp;omega
 refine AR rfl (AR rfl (AR (Jt (by omega) (by simp)) ?_));refine Ad.bind (Jx C Bb hM (d:=4) (by omega) hvl 0 (p:=p) (by omega) (by omega)) λvf hq=>?_;have c1:=hq.size;have c2:=hq.lo;have c3:=hq.hi;rw[dK]at c1;rw[dZ]at c3;refine AR rfl (AR rfl ?_);refine Ad.bind (R:=GQ 200 1000 p) ?_ ?_
 .refine BB (λ_=>?_) λ_=>Ad.some ⟨?_,(Xe ⟨by omega,by omega⟩ ⟨by omega,by omega⟩ i18 (Xe ⟨by omega,by omega⟩ ⟨by omega,by omega⟩ hq.CS i20):Aj ⟨1,0,[⟨9,(f:Int),vc⟩,⟨1,0,[vf.1,⟨9,(f:Int),zi⟩]⟩]⟩),by show p<=vf.2;omega,by show vf.2<=_;omega⟩
  .refine AR (Jt (by omega) (by simp)) ?_;refine Ad.bind (Jx C Bb hM (d:=4) (by omega) hvl 0 (p:=vf.2) (by omega) (by omega)) λzY hq2=>?_;have d1:=hq2.size;have d2:=hq2.lo;have d3:=hq2.hi;rw[dK]at d1;rw[dZ]at d3;refine AR rfl (AR rfl (Ad.some ⟨?_,(iJ ⟨by omega,by omega⟩ ⟨by omega,by omega⟩ i18 hq2.CS (vi (by omega) (by omega)):Aj ⟨6,3,[⟨9,(f:Int),vc⟩,zY.1,⟨12,(g.params.length:Int)+2,[]⟩]⟩),by show p<=zY.2;omega,by show zY.2<=_;omega⟩));show en ⟨6,3,[⟨9,(f:Int),vc⟩,zY.1,⟨12,(g.params.length:Int)+2,[]⟩]⟩<=200;rw[gJ,Lv];omega
  .show en ⟨1,0,[⟨9,(f:Int),vc⟩,⟨1,0,[vf.1,⟨9,(f:Int),zi⟩]⟩]⟩<=200;rw[Xd,Xd];omega
 .rintro⟨f20,o,m,k⟩ g20;have b1:=g20.size;have b2:=g20.lo;have b3:=g20.hi;have b4:=g20.CS;dsimp only at b1 b2 b3 b4⊢;refine AR rfl ?_;refine Ad.bind (Jx C Bb hM (d:=4) (by omega) (vars:=g.params) (by omega) g.result (p:=f20) (by omega) (by omega)) λq hq=>?_;have c1:=hq.size;have c2:=hq.lo;have c3:=hq.hi;rw[dK]at c1;rw[dZ]at c3;refine AR rfl (Ad.some ⟨by rw[gJ,Lv];omega,iJ ⟨by omega,by omega⟩ ⟨by omega,by omega⟩ (vi (by omega) (by omega)) hq.CS b4,by show p<=q.2;omega,by show q.2<=_;omega⟩)
theorem Y6 (C:CX D F){b:List Int}(Bb:Bk b){M:Nat}(hM:2000000<=M){f:Nat}(hf:f<F.length){g:AU}(hg:F[f]?=some g)(hg1:0<g.params.length){p:Int}(h0:0<=p)(h1:p<=200000):Ad (J4 M b p F D f) (GE 1000 3000 p):=by
 have yP:=C.fl;have zM:=ov hg;have hp3:=C.par g zM;unfold J4;have vi:∀{n:Int},0<=n->n<=100->Aj ⟨12,n,[]⟩:=λa c=>GS ⟨by omega,by omega⟩ ⟨by omega,by omega⟩;have li:∀{n:Int},0<=n->n<=100->Aj ⟨0,n,[]⟩:=λa c=>GS ⟨by omega,by omega⟩ ⟨by omega,by omega⟩;refine AR (Aw hg) (AR rfl (AR rfl (AR rfl ?_)));have key:∀{N i:Nat},i<=g.params.length->g.params.length-i<N->∀(q:Int) (acc:List AD),p<=q->q<=p+30*i->acc.length=i->(∀e∈acc,Aj e)->CJ acc<=4*i->
   Ad (Ey M g b F D N i q acc) λr=>p<=r.1/\r.1<=p+90/\r.2.length<=3/\(∀e∈r.2,Aj e)/\CJ r.2<=12:=by
  intro N i hi hN;refine BS g.params.length (λN i=>∀(q:Int) (acc:List AD),p<=q->q<=p+30*i->acc.length=i->(∀e∈acc,Aj e)->CJ acc<=4*i->
   Ad (Ey M g b F D N i q acc) λr=>p<=r.1/\r.1<=p+90/\r.2.length<=3/\(∀e∈r.2,Aj e)/\CJ r.2<=12) ?_ ?_ hi hN
  .intro n q acc g1 g2 g3 g4 g5;rw[Ey,pJ (by simp[AI])];exact Ad.some ⟨g1,by show q<=_;omega,by show acc.length<=3;omega,g4,by show CJ acc<=12;omega⟩
  .intro n i hi ih q acc g1 g2 g3 g4 g5;obtain⟨t,ht,_⟩:=Bi hi;rw[Ey,pI (by rw[pP,AI];omega),BE (n:=(i:Int)+1) (by omega) (by omega),show ((i:Int)+1)=((i+1:Nat):Int) by omega];refine AR (Aw ht) ?_;refine Ad.bind (NH C Bb hM (by omega) t (p:=q) (by omega) (by omega)) λs hs=>?_;have s1:=hs.size;have s2:=hs.lo;have s3:=hs.hi;refine Ad.app (by simp;omega) (by simp;omega) ?_;refine ih s.2 (acc++[s.1]) (by omega) (by omega) (by simp;omega) (λe he=>?_) (by rw[JQ,IC];omega);rcases pX.1 he with h5|h5
   .exact g4 e h5
   .rw[pS]at h5;rw[h5];exact hs.CS
 have k:=key (i:=1) (by omega) (by omega:g.params.length-1<M) p [⟨2,0,[⟨12,0,[]⟩,⟨0,1,[]⟩]⟩] (by omega) (by omega) rfl (λe he=>by rw[pS]at he;rw[he];exact Xe ⟨by omega,by omega⟩ ⟨by omega,by omega⟩ (vi (by omega) (by omega)) (li (by omega) (by omega))) (by rw[IC,Xd,Lv,Lv];omega);rw[show ((1:Nat):Int)=1 from rfl]at k;refine Ad.bind k ?_;rintro⟨f13,vc⟩ ⟨a1,a2,a3,a4,a5⟩;dsimp only at a1 a2 a3 a4 a5⊢;have again:Aj ⟨9,f,vc⟩:=KV (Dm (by omega) (by omega)) (Dm (by omega) (by omega)) a4 (by omega);have ea:en ⟨9,(f:Int),vc⟩<=13:=by rw[HO];omega
 refine AR rfl ?_;refine Ad.bind (R:=GQ 200 1000 p) ?_ ?_
 .refine BB (λ_=>?_) λ_=>Ad.some ⟨by show en ⟨9,(f:Int),vc⟩<=200;omega,again,by show p<=f13;omega,by show f13<=_;omega⟩;refine Ad.bind (Jx C Bb hM (d:=3) (by omega) (vars:=g.params) (by omega) 0 (p:=f13) (by omega) (by omega)) λyG hq=>?_;have c1:=hq.size;have c2:=hq.lo;have c3:=hq.hi;rw[oX]at c1;rw[oV]at c3;refine AR rfl (Ad.some ⟨?_,(Xe ⟨by omega,by omega⟩ ⟨by omega,by omega⟩ hq.CS again:Aj ⟨6,1,[yG.1,⟨9,(f:Int),vc⟩]⟩),by show p<=yG.2;omega,by show yG.2<=_;omega⟩);show en ⟨6,1,[yG.1,⟨9,(f:Int),vc⟩]⟩<=200;rw[Xd];omega
 .rintro⟨f20,o,m,k⟩ g20;have b1:=g20.size;have b2:=g20.lo;have b3:=g20.hi;have b4:=g20.CS;dsimp only at b1 b2 b3 b4⊢;refine AR rfl (AR rfl (AR rfl ?_));refine Ad.bind (Jx C Bb hM (d:=4) (by omega) (vars:=g.params) (by omega) g.result (p:=f20) (by omega) (by omega)) λq hq=>?_;have c1:=hq.size;have c2:=hq.lo;have c3:=hq.hi;rw[dK]at c1;rw[dZ]at c3;refine AR rfl (Ad.some ⟨by rw[gJ,Xd,Lv,Lv];omega,iJ ⟨by omega,by omega⟩ ⟨by omega,by omega⟩ (Xe ⟨by omega,by omega⟩ ⟨by omega,by omega⟩ (li (by omega) (by omega)) (vi (by omega) (by omega))) b4 hq.CS,by show p<=q.2;omega,by show q.2<=_;omega⟩)
theorem Ta (C:CX D F){b:List Int}(Bb:Bk b){M:Nat}(hM:2000000<=M){vars:List Int}(hv:vars.length<=100)(t:Int){B:Nat}(hB:B<=18){p:Int}(h0:0<=p)(h1:p<=200000):Ad (JS M b p F D vars t (B:Int)) (GE 200 3000 p):=by
 have szle:∀d,d<=18->G2 d<=157:=λd h=>by unfold G2;split<;>omega
 have pkle:∀d,d<=18->Es d<=1395:=λd h=>by unfold Es;split<;>omega
 have key:∀(B N:Nat) (f o m:Int) (k:List AD),B<N->B<=18->p<=f->f+80*B<=p+2900->Aj ⟨o,m,k⟩->en ⟨o,m,k⟩<=200->Ad (Gp M b F D vars t N B f o m k) (GQ 200 3000 p):=by
  intro B
  induction B using Nat.strongRecOn with
  |_ B ih=>
   intro N f o m k hN hB g1 g2 g3 g4;obtain⟨N,rfl⟩ :∃m,N=m+1:=⟨N-1,by omega⟩
   rw[Gp];refine Ad.bind (R:=λc=>c=true->2<B) ?_ λc hc=>Co (λh=>?_) λ_=>Ad.some ⟨g4,g3,g1,by show f<=_;omega⟩
   .refine AR (Gk (by have:=HO o m k;show CJ k<=_;omega) hM) (BB (λ_=>Ad.some λh=>by rw[pP]at h;omega) λ_=>Ad.some λh=>by cases h)
   .have hB2:=hc h;have ed:Int.tdiv (B:Int) 2=((B / 2:Nat):Int):=rfl;have hd:2*(B / 2)<=B:=by omega
    have hd1:1<=B / 2:=by omega
    have hd3:B / 2<B:=by omega
    rw[ed];generalize B / 2=d at hd hd1 hd3⊢;have hpk:Es d<=80*d:=by unfold Es;rw[pJ (by omega)];omega
    rw[BE (n:=(d:Int)) (by omega) (by omega)];refine Ad.bind (Jx C Bb hM (d:=d) (by omega) hv t (p:=f) (by omega) (by omega)) λq hq=>?_;have q1:=hq.lo;have q2:=hq.hi;have q3:=hq.size;have q4:=szle d (by omega);have q5:=hq.parts;exact ih d hd3 N q.2 q.1.op q.1.num q.1.kids (by omega) (by omega) (by omega) (by omega) q5.CS (by have:=q5.size;dsimp only at this;omega)
 unfold JS;refine Ad.bind (Jx C Bb hM (d:=B) (by omega) hv t (p:=p) (by omega) (by omega)) λq hq=>?_;have q1:=hq.lo;have q2:=hq.hi;have q3:=hq.size;have q4:=szle B hB;have q6:=pkle B hB;have q5:=hq.parts;refine Ad.bind (key B M q.2 q.1.op q.1.num q.1.kids (by omega) hB (by omega) (by omega) q5.CS (by have:=q5.size;dsimp only at this;omega)) ?_;rintro⟨f,o,m,k⟩ g;exact Ad.some ⟨g.size,g.CS,g.lo,g.hi⟩
theorem Zx {l:List Int}(hl:l.length<=3){x:Int}{M:Nat}(hM:2000000<=M):Ad (Ke M l x) λr=>r=-1∨(0<=r/\r<(l.length:Int)):=by
 have key:∀{N i:Nat},i<=l.length->l.length-i<N->Ad (FW l x N i) λv=>match v with|.inl r=>0<=r/\r<(l.length:Int)|.inr _=>True:=by
  intro N i hi hN;refine BS l.length (λN i=>Ad (FW l x N i) λv=>match v with|.inl r=>0<=r/\r<(l.length:Int)|.inr _=>True) ?_ ?_ hi hN
  .intro n;rw[FW,pJ (by simp[AI])];exact Ad.some oz
  .intro n i hi ih;obtain⟨y,hy,_⟩:=Bi hi;rw[FW,pI (by rw[pP,AI];omega),BE (n:=(i:Int)+1) (by omega) (by omega),show ((i:Int)+1)=((i+1:Nat):Int) by omega];refine AR (Aw hy) (BB (λ_=>Ad.some (show 0<=(i:Int)/\(i:Int)<_ by omega)) λ_=>ih)
 unfold Ke;have k:=key (pT _) (by omega:l.length-0<M);rw[tk]at k;refine Ad.cont (R:=λr=>0<=r/\r<(l.length:Int)) (S:=λ_=>True) (k.mono λv hv=>by cases v<;>exact hv) (λr hr=>.inr hr) λ_ _=>Ad.some (.inl rfl)
theorem cZ (C:CX D F){b:List Int}(Bb:Bk b){M:Nat}(hM:2000000<=M){f:Nat}(hf:f<F.length){p:Int}(h0:0<=p)(h1:p<=150000):Ad (LV M b p F D f) (GE 1000 7000 p):=by
 have yP:=C.fl;obtain⟨g,hg,zM⟩:=Bi hf;have hp3:=C.par g zM;unfold LV;refine AR (Aw hg) ?_;refine Ad.bind (Zx hp3 hM) λa ha=>?_;refine AR rfl ?_;refine Ad.bind (Cd Bb ⟨by omega,by omega⟩) λvT hq=>?_;have q1:=hq.pos;have fin:∀{x:Option (AD×Int)},Ad x (GE 1000 3000 vT.2)->Ad (Option.bind x λwW=>some (wW.2,wW.1.op,wW.1.num,wW.1.kids)) (GQ 1000 3500 p):=λhx=>
  Ad.bind hx λr hr=>Ad.some (by
   have:=hr.parts;exact⟨this.size,this.CS,by have:=this.lo;dsimp only at this⊢;omega,by have:=this.hi;dsimp only at this⊢;omega⟩)
 refine Ad.bind (R:=GQ 1000 3500 p) ?_ ?_
 .refine Ad.bind (R:=λ_=>True) (BB (λ_=>Ad.some oz) λ_=>Ad.some oz) λt25 _=>Co (λ_=>fin (Yd C Bb hM (by omega) (by omega))) λ_=>?_;refine Ad.bind (R:=λt=>t=true->0<=a) ?_ λt30 ht30=>Co (λh=>?_) λ_=>?_
  .refine BB (λ_=>BB (λh=>?_) λ_=>Ad.some λh=>by cases h) λ_=>Ad.some λh=>by cases h
   exact BB (λ_=>Ad.some λ_=>h) λ_=>Ad.some λ_=>h
  .have ha0:=ht30 h;obtain⟨an,rfl⟩:=pb ha0;exact fin (ZG C Bb hM hf (by omega) (by omega) (by omega))
  have pos:∀(z:Int),Ad (if decide (vT.1<3)=true then
      if decide (0<Sh.len g.params)=true then
       (Sh.get g.params 0).bind λc52=>
       if decide (c52=z)=true then
        if decide (g.result=0)=true then
         some true
        else
         some (decide (g.result=(if z=3 then 3 else 1)))
       else
        some false
      else
       some false
     else
      some false) λt=>t=true->0<g.params.length:=by
   intro z;refine BB (λ_=>BB (λh=>?_) λ_=>Ad.some λh=>by cases h) λ_=>Ad.some λh=>by cases h
   rw[AI]at h;refine Ad.get (by omega) (by omega) λc _ _=>?_;refine BB (λ_=>BB (λ_=>Ad.some λ_=>by omega) λ_=>Ad.some λ_=>by omega) λ_=>Ad.some λh=>by cases h
  refine Ad.bind (pos 3) λt35 ht35=>Co (λh=>fin (Yj C Bb hM hf hg (ht35 h) (by omega) (by omega))) λ_=>?_;refine Ad.bind (pos 0) λt40 ht40=>Co (λh=>fin (Y6 C Bb hM hf hg (ht40 h) (by omega) (by omega))) λ_=>?_;have:=Ta C Bb hM (vars:=g.params) (by omega) g.result (B:=18) (by omega) (p:=vT.2) (by omega) (by omega);exact fin (this.mono λr hr=>hr.up (by omega) (by omega))
 .rintro⟨f12,o,m,k⟩ g12;have b1:=g12.size;have b2:=g12.lo;have b3:=g12.hi;have b4:=g12.CS;dsimp only at b1 b2 b3 b4⊢;refine AR (Gk (by have:=HO o m k;show CJ k<=_;omega) hM) (BB (λ_=>?_) λ_=>Ad.some ⟨b1,b4,b2,by show f12<=_;omega⟩);have:=Ta C Bb hM (vars:=g.params) (by omega) g.result (B:=12) (by omega) (p:=f12) (by omega) (by omega);refine Ad.bind this λr hr=>Ad.some ⟨by have:=hr.size;show en r.1<=_;omega,hr.CS,by have:=hr.lo;show p<=r.2;omega,by have:=hr.hi;show r.2<=_;omega⟩
end
end RC
namespace RC
open Go
theorem mS (n:Int):HC (Sh.w n):=by
 unfold Sh.w HC;rw[IntKind.wrap_i64];omega
def cn (l:List Int):D7:=⟨l⟩
def gD:List AK:=[⟨0,0,[⟨[]⟩,⟨[0,1]⟩]⟩,⟨0,0,[]⟩,⟨0,0,[⟨[]⟩,⟨[3,0,3]⟩]⟩]
def gL:List AK:=[⟨0,0,[⟨[1,3]⟩]⟩,⟨1,0,[]⟩,⟨0,0,[⟨[1,1,0]⟩,⟨[0]⟩,⟨[3]⟩]⟩,⟨0,1,[]⟩]
def GD (D:List AK):Prop:=D=gD∨∃d∈gL,D=gD++[d]
theorem RD {b:List Int}(Bb:Bk b){p:Int}(h0:0<=p)(h1:p<=500000):Ad (Hu b p) λq=>GD q.1/\q.2=p+1:=by
 unfold Hu;refine AR rfl (AR rfl (AR rfl (AR rfl (AR rfl (AR rfl (AR rfl (AR rfl ?_)))))));refine Ad.bind (Cd Bb ⟨by omega,by omega⟩) λq hq=>?_;have q1:=hq.pos;have q2:=hq.nn;have q3:=hq.lt (by omega);refine Ad.bind (R:=GD) ?_ λl hl=>Ad.some ⟨hl,q1⟩;refine BB (λ_=>?_) λ_=>Ad.some (.inl rfl);refine Ad.get q2 (by simp;omega) λc _ hc=>?_;refine Ad.app (by simp) (by simp) (Ad.some (.inr ⟨c,?_,rfl⟩));exact hc
structure oH (F:List AU):Prop where
 fl:F.length<=4
 jZ:1<=F.length
 par :∀f∈F,f.params.length<=3
 cl :∀f∈F,(∀x∈f.params,x=0∨x=1∨x=3)∨(f.params=[2,1]/\f.result=1)
theorem CX.of {D:List AK}{F:List AU}(hD:GD D)(S:oH F):CX D F:=by
 have all:∀{D:List AK},D.length<=4->nc D<=7->(∀d∈D,d.cons.length<=3)->(∀d∈D,∀c∈d.cons,c.fields.length<=3/\∀x∈c.fields,x=0∨x=1∨x=3)->CO D 1=[0,1]->CO D 3=[2,3]->
   IL D 0 0=some (1,⟨[]⟩)->IL D 0 1=some (1,⟨[0,1]⟩)->IL D 0 2=some (3,⟨[]⟩)->IL D 0 3=some (3,⟨[3,0,3]⟩)->JD 1 1 D 0=-1->CX D F:=λa b c d e f g h i j k=>
  ⟨a,b,c,d,e,f,⟨_,g⟩,⟨_,h⟩,⟨_,i⟩,⟨_,j⟩,k,S.fl,S.jZ,S.par,S.cl⟩
 rcases hD with rfl|⟨d,hd,rfl⟩
 .exact all (by decide) (by decide) (by decide) (by decide) (by decide) (by decide) rfl rfl rfl rfl (by decide)
 .simp only[gL,pK,pj,qb]at hd;rcases hd with rfl|rfl|rfl|rfl;all_goals exact all (by decide) (by decide) (by decide) (by decide) (by decide) (by decide) rfl rfl rfl rfl (by decide)
structure mf (f:AU):Prop where
 CS:YH f
 par:f.params.length<=4
 size:en f.body<=1001
theorem YZ {l:List Int}(hl:l.length<=4)(h :∀x∈l,-1000000<=x/\x<=1000000):I2 HC l:=⟨λx hx=>Dm (h x hx).1 (h x hx).2,by omega⟩
structure cj (F:List AU):Prop where
 sg:oH F
 ok :∀f∈F,mf f
 sz :∀f∈F,en f.body<=1000
theorem MO {α:Type}{l:List α}{i:Int}{x y:α}(h:y∈Sh.put l i x):y∈l∨y=x:=qU h
theorem cj.put {F:List AU}(P:cj F){i:Int}{g:AU}(hg:g∈F){e:AD}(he:Aj e)(hs:en e<=1000):cj (Sh.put F i ⟨g.params,g.result,e⟩):=by
 have hl:(Sh.put F i ⟨g.params,g.result,e⟩).length=F.length:=by unfold Sh.put;simp
 have G:=P.ok g hg;refine⟨⟨by rw[hl];exact P.sg.fl,by rw[hl];exact P.sg.jZ,λf hf=>?_,λf hf=>?_⟩,λf hf=>?_,λf hf=>?_⟩
 .rcases MO hf with h|rfl
  .exact P.sg.par f h
  .exact P.sg.par g hg
 .rcases MO hf with h|rfl
  .exact P.sg.cl f h
  .exact P.sg.cl g hg
 .rcases MO hf with h|rfl
  .exact P.ok f h
  .exact⟨⟨G.CS.params,G.CS.result,he⟩,G.par,by show en e<=_;omega⟩
 .rcases MO hf with h|rfl
  .exact P.sz f h
  .exact hs
theorem Uh {b:List Int}(Bb:Bk b){M:Nat}(hM:2000000<=M){p:Int}(h0:0<=p)(h1:p<=1000):Ad (IE M b p) λq=>GD q.1.decls/\cj q.1.funcs/\0<=q.2/\q.2<=100000:=by
 unfold IE;refine Ad.bind (RD Bb h0 (by omega)) λq3 ⟨hD,hq3⟩=>?_;iterate 17 refine AR rfl ?_
 have sigs:∀(l:List AU),(∀f∈l,f.body=⟨0,0,[]⟩/\f.params.length<=3/\(∀x∈f.params,0<=x/\x<=3)/\(0<=f.result/\f.result<=3)/\((∀x∈f.params,x=0∨x=1∨x=3)∨(f.params=[2,1]/\f.result=1)))->l.length<=4->1<=l.length->cj l:=λl h h4 h5=>
  ⟨⟨h4,h5,λf hf=>(h f hf).2.1,λf hf=>(h f hf).2.2.2.2⟩,λf hf=>by
   obtain⟨b1,b2,b3,b4,_⟩:=h f hf;exact⟨⟨YZ (by omega) λx hx=>by have:=b3 x hx;omega,Dm (by omega) (by omega),by rw[b1];exact GS ⟨by omega,by omega⟩ ⟨by omega,by omega⟩⟩,by omega,by rw[b1,Lv];omega⟩,λf hf=>by rw[(h f hf).1,Lv];omega⟩
 have pg:∀{l:List AU} {f:Int×Int->AU->Option (AJ×Int)} {s:Int} {Q:AJ×Int->Prop},1<=l.length->0<=s->s<=900000->(∀(q:Int×Int) c,q.2=s+1->c∈l->Ad (f q c) Q)->Ad ((Az b s (Sh.len l)).bind λxl=>(Sh.get l xl.1).bind λc26=>f xl c26) Q:=λhl hs0 hs1 k=>by
  rw[AI];refine Ad.bind (Cd Bb ⟨hs0,by omega⟩) λq hq=>?_;exact Ad.get hq.nn (hq.lt (by omega)) λc _ hc=>k q c hq.pos hc
 refine pg (by simp) (by omega) (by omega) λxl c26 hq25 hc26=>?_;refine pg (by simp) (by omega) (by omega) λwy c28 hq27 hc28=>?_;refine pg (by simp) (by omega) (by omega) λzF c30 hq29 hc30=>?_;refine Ad.bind (G1 Bb ⟨by omega,by omega⟩ (by simp) (by simp)) λxy hq32=>?_;have o1:=hq32.pos;have o2:=hq32.mem;simp only[pK,pj,qb]at o2;obtain⟨n,hn⟩:=pb (by omega:0<=xy.1);rw[hn];refine AR (ig (by simp;omega)) ?_;generalize hl:([AU.mk [] 0 (AD.mk 0 0 []),c26,c28,c30].take n)=l34;have hlen:l34.length=n:=by rw[<- hl];simp;omega
 have vd:∀f∈l34,f.body=⟨0,0,[]⟩/\f.params.length<=3/\(∀x∈f.params,0<=x/\x<=3)/\(0<=f.result/\f.result<=3)/\((∀x∈f.params,x=0∨x=1∨x=3)∨(f.params=[2,1]/\f.result=1)):=by
  intro f hf;rw[<- hl]at hf;have:=qc hf;simp only[pK,pj,qb]at this hc26 hc28 hc30;rcases this with rfl|rfl|rfl|rfl
  .simp
  .rcases hc26 with rfl|rfl|rfl|rfl|rfl|rfl<;>simp
  .rcases hc28 with rfl|rfl|rfl|rfl|rfl|rfl<;>simp
  .rcases hc30 with rfl|rfl|rfl|rfl<;>simp
 have P0:=sigs l34 vd (by omega) (by omega);have key:∀(k N:Nat) (z p':Int) (l:List AU),z=(k:Int)-1->k<N->k<=4->k<=l.length->cj l->0<=p'->p'+7000*k<=50000->Ad (ER M b q3 N z p' l) λr=>cj r.2/\0<=r.1/\r.1<=60000:=by
  intro k
  induction k with
  |zero=>
   intro N z p' l hz hN _ _ hP g0 g1;obtain⟨N,rfl⟩ :∃m,N=m+1:=⟨N-1,by omega⟩
   rw[ER,pJ (by rw[pP];omega)];exact Ad.some ⟨hP,g0,by show p'<=_;omega⟩
  |succ k ih=>
   intro N z p' l hz hN h4 xz hP g0 g1;obtain⟨N,rfl⟩ :∃m,N=m+1:=⟨N-1,by omega⟩
   have hzk:z=(k:Int):=by omega
   subst hzk;rw[ER,pI (by rw[pP];omega)];have C:=CX.of hD hP.sg;refine Ad.bind (cZ C Bb hM (f:=k) (by omega) (p:=p') g0 (by omega)) λr hr=>?_;have r1:=hr.lo;have r2:=hr.hi;obtain⟨g,hg,zM⟩:=Bi (l:=l) (i:=k) (by omega);refine AR (Aw hg) ?_;refine ih N (Sh.w ((k:Int)-1)) r.2 _ (BE (by omega) (by omega)) (by omega) (by omega) (by unfold Sh.put;simp;omega) (hP.put zM hr.CS hr.size) (by omega) (by omega)
 have k:=key n M (Sh.w ((n:Int)-1)) xy.2 l34 (BE (by omega) (by omega)) (by omega) (by omega) (by omega) P0 (by omega) (by omega);refine Ad.bind k ?_;rintro⟨f40,l41⟩ ⟨a1,a2,a3⟩;exact Ad.some ⟨hD,a1,a2,by show f40<=_;dsimp only at a3;omega⟩
theorem R8 {M:Nat}(hM:2000000<=M):∀(n:Nat) (l:List AD),CJ l<n->CJ l<=100000->DJ M n l=some l:=by
 intro n
 induction n with
 |zero=>intro l h;omega
 |succ n ih=>
  intro l hn hs;rw[DJ];unfold Hx;have hl:=HF l;have key:∀{N i:Nat},i<=l.length->l.length-i<N->CT l (DJ M n) N i (l.take i)=some l:=by
   intro N i hi hN;refine BS l.length (λN i=>CT l (DJ M n) N i (l.take i)=some l) ?_ ?_ hi hN
   .intro m;rw[CT,pJ (by simp[AI]),qq]
   .intro m i hi xH;obtain⟨e,he,hem⟩:=Bi hi;have h1:=I3 hem;have h2:=Ft e;rw[CT,pI (by rw[pP,AI];omega),Aw he];unfold Jq;simp only[ou];rw[ih e.kids (by omega) (by omega)];simp only[ou];rw[DH _ _ 40 (by simp;omega) (by simp;omega),BE (by omega) (by omega),show ((i:Int)+1)=((i+1:Nat):Int) by omega];simp only[ou];have:(⟨e.op,e.num,e.kids⟩:AD)=e:=by cases e;rfl
    rw[this,<- EM he];exact xH
  have:=key (pT _) (by omega:l.length-0<M);rw[qs,tk]at this;rw[this];rfl
theorem cX:∀(l:List AD) (i:Nat) (e x:AD),l[i]?=some e->CJ (l.set i x)+en e=CJ l+en x
 | [],i,e,x,h=>by simp at h
 |a::l,0,e,x,h=>by
  simp only[ph,pC]at h;subst h;simp only[sN,CJ];omega
 |a::l,i+1,e,x,h=>by
  have:=cX l i e x (by simpa using h);simp only[List.set_cons_succ,CJ];omega
theorem lD {b:List Int}(Bb:Bk b){M:Nat}(hM:2000000<=M):∀(n:Nat) (e:AD) (p:Int),en e<n->en e<=1001->Aj e->0<=p->p+5*en e<=300000->Ad (KK M n b p e) λq=>en q.1<=en e+1/\Aj q.1/\p<=q.2/\q.2<=p+5*en e:=by
 intro n
 induction n with
 |zero=>intro e p h;have:=Fi e;omega
 |succ n ih=>
  intro e p hn hs vQ h0 h1;have hee:=Ft e;have xz:=HF e.kids;rw[KK];unfold Mq;refine Ad.bind (R:=λq:Bool×Int=>(q.1=true->0<e.kids.length)/\p<=q.2/\q.2<=p+1) ?_ ?_
  .refine BB (λh=>?_) λ_=>Ad.some ⟨(λh=>by cases h),by show p<=p;omega,by show p<=_;omega⟩;rw[AI]at h;exact Ad.bind (Cd Bb ⟨by omega,by omega⟩) λq hq=>Ad.some ⟨λ_=>by omega,by have:=hq.pos;show p<=q.2;omega,by have:=hq.pos;show q.2<=_;omega⟩
  .rintro⟨t4,f5⟩ ⟨g1,g2,g3⟩;dsimp only at g1 g2 g3⊢;refine Co (λh=>?_) λ_=>?_
   .have hk:=g1 h;refine AR (R8 hM M e.kids (by omega) (by omega)) ?_;rw[AI];refine Ad.bind (Cd Bb ⟨by omega,by omega⟩) λq hq=>?_;have q1:=hq.pos;have q2:=hq.nn;have q3:=hq.lt (by omega);refine Ad.get q2 q3 λc hc wH=>?_;have xZ:=I3 wH;refine Ad.bind (ih c q.2 (by omega) (by omega) (vQ.kids c wH) (by omega) (by omega)) λr ⟨r1,r2,r3,r4⟩=>?_;have wI:=cX e.kids q.1.toNat c r.1 hc;refine AR rfl (Ad.some ⟨?_,?_,by show p<=r.2;omega,by show r.2<=_;omega⟩)
    .show en ⟨e.op,e.num,Sh.put e.kids q.1 r.1⟩<=_;unfold Sh.put;rw[HO];omega
    .show Aj ⟨e.op,e.num,Sh.put e.kids q.1 r.1⟩;refine KV vQ.op vQ.num (λx hx=>?_) (by unfold Sh.put;simp;omega);rcases MO hx with h3|rfl
     .exact vQ.kids x h3
     .exact r2
   .refine Ad.bind (Cd Bb ⟨by omega,by omega⟩) λwF hq19=>?_;have a1:=hq19.pos;have a2:=hq19.nn;have a3:=hq19.lt (by omega);have hp:=Fi e;have same:∀{o m:Int},HC o->HC m->Aj ⟨o,m,e.kids⟩:=λho hm=>KV ho hm vQ.kids (by omega);refine BB (λ_=>?_) λ_=>?_
    .refine Ad.bind (Cd Bb ⟨by omega,by omega⟩) λq hq=>?_;have c1:=hq.pos;have c2:=hq.nn;have c3:=hq.lt (by omega);refine AR rfl (Ad.some ⟨?_,same (Dm (by omega) (by omega)) vQ.num,by show p<=q.2;omega,by show q.2<=_;omega⟩);show en ⟨q.1,e.num,e.kids⟩<=_;rw[HO];omega
    refine BB (λ_=>?_) λ_=>?_
    .refine Ad.bind (G1 Bb ⟨by omega,by omega⟩ (by simp) (by simp)) λq hq=>?_;have c1:=hq.pos;refine AR rfl (Ad.some ⟨?_,same vQ.op (mS _),by show p<=q.2;omega,by show q.2<=_;omega⟩);show en ⟨e.op,Sh.w (e.num+q.1),e.kids⟩<=_;rw[HO];omega
    refine BB (λ_=>?_) λ_=>?_
    .refine AR (R8 hM M e.kids (by omega) (by omega)) (AR rfl ?_);refine Ad.app (by simp;omega) (by simp;omega) (AR rfl (Ad.some ⟨?_,?_,by show p<=wF.2;omega,by show wF.2<=_;omega⟩))
     .show en ⟨e.op,e.num,e.kids++[⟨0,1,[]⟩]⟩<=_;rw[HO,JQ,IC,Lv];omega
     .show Aj ⟨e.op,e.num,e.kids++[⟨0,1,[]⟩]⟩;refine .mk vQ.op vQ.num (by show (e.kids++_).length<=_;simp;omega) λx hx=>?_;rcases pX.1 (show x∈e.kids++[⟨0,1,[]⟩] from hx) with h3|h3
      .exact vQ.kids x h3
      .rw[pS]at h3;rw[h3];exact GS ⟨by omega,by omega⟩ ⟨by omega,by omega⟩
    refine BB (λ_=>?_) λ_=>?_
    .refine Ad.bind (G1 Bb ⟨by omega,by omega⟩ (by simp) (by simp)) λq hq=>?_;have c1:=hq.pos;have c2:=hq.mem;simp only[pK,pj,qb]at c2;refine AR rfl (Ad.some ⟨?_,GS ⟨by omega,by omega⟩ ⟨by omega,by omega⟩,by show p<=q.2;omega,by show q.2<=_;omega⟩);show en ⟨12,q.1,[]⟩<=_;rw[Lv];omega
    .refine Ad.bind (G1 Bb ⟨by omega,by omega⟩ (by simp) (by simp)) λq hq=>?_;have c1:=hq.pos;have c2:=hq.mem;simp only[pK,pj,qb]at c2;refine AR rfl (Ad.some ⟨?_,GS ⟨by omega,by omega⟩ ⟨by omega,by omega⟩,by show p<=q.2;omega,by show q.2<=_;omega⟩);show en ⟨0,q.1,[]⟩<=_;rw[Lv];omega
structure Y7 (D:List AK):Prop where
 len:D.length<=6
 CS :∀d∈D,Ng d
 size :∀d∈D,dz d<=20
theorem lM {f t:Int}{cs:List D7}(hf:-1000000<=f/\f<=1000000)(ht:-1000000<=t/\t<=1000000)(hl:cs.length<=4)(h :∀c∈cs,c.fields.length<=4/\∀x∈c.fields,-1000000<=x/\x<=1000000):Ng ⟨f,t,cs⟩:=
 ⟨Dm hf.1 hf.2,Dm ht.1 ht.2,λc hc=>⟨YZ (h c hc).1 (h c hc).2⟩,by show cs.length<=_;omega⟩
theorem mR {f t:Int}{cs:List D7}(hl:cs.length<=4)(h :∀c∈cs,c.fields.length<=4):dz ⟨f,t,cs⟩<=20:=by
 have :∀l:List D7,(∀c∈l,c.fields.length<=4)->(l.map cz).sum<=4*l.length:=λl=>by
  induction l with
  |nil=>simp
  |cons c l ih=>
   intro h;have h1:=h c (by simp);have h2:=ih λc hc=>h c (by simp[hc]);simp only[pc,rT,po];have:cz c=c.fields.length:=rfl;omega
 have h2:=this cs h;show cs.length+(cs.map cz).sum<=20;omega
theorem YB {f t:Int}{cs:List D7}(hf:-1000000<=f/\f<=1000000)(ht:-1000000<=t/\t<=1000000)(hl:cs.length<=4)(h :∀c∈cs,c.fields.length<=4/\∀x∈c.fields,-1000000<=x/\x<=1000000):Ng ⟨f,t,cs⟩/\dz ⟨f,t,cs⟩<=20:=
 ⟨lM hf ht hl h,mR hl λc hc=>(h c hc).1⟩
theorem Vz {D:List AK}(h:GD D):Y7 D/\3<=D.length/\D.length<=4:=by
 have vd:∀d∈gD++gL,Ng d/\dz d<=20:=by
  intro d hd;simp only[gD,gL,tD,qS,pK,pj,qb]at hd;rcases hd with rfl|rfl|rfl|rfl|rfl|rfl|rfl<;>exact YB (by decide) (by decide) (by decide) (by decide)
 rcases h with rfl|⟨d,hd,rfl⟩
 .exact⟨⟨by decide,λd hd=>(vd d (qN _ hd)).1,λd hd=>(vd d (qN _ hd)).2⟩,by decide,by decide⟩
 .have hm:∀x∈gD++[d],x∈gD++gL:=λx hx=>by
   rcases pX.1 hx with h|h
   .exact qN _ h
   .rw[pS]at h;rw[h];exact qZ _ hd
  exact⟨⟨by simp[gD],λx hx=>(vd x (hm x hx)).1,λx hx=>(vd x (hm x hx)).2⟩,by simp[gD],by simp[gD]⟩
theorem Y7.put {D:List AK}(h:Y7 D){i:Int}{d:AK}(hd:Ng d/\dz d<=20):Y7 (Sh.put D i d):=
 ⟨by unfold Sh.put;simp;exact h.len,λx hx=>(MO hx).elim (λh3=>h.CS x h3) (λe=>by rw[e];exact hd.1),λx hx=>(MO hx).elim (λh3=>h.size x h3) (λe=>by rw[e];exact hd.2)⟩
theorem Y7.app {D E:List AK}(h:Y7 D)(hl:D.length+E.length<=6)(hE :∀d∈E,Ng d/\dz d<=20):Y7 (D++E):=
 ⟨by simp;omega,λx hx=>(pX.1 hx).elim (λh3=>h.CS x h3) (λh3=>(hE x h3).1),λx hx=>(pX.1 hx).elim (λh3=>h.size x h3) (λh3=>(hE x h3).2)⟩
theorem oZ {α:Type}{l:List α}{i:Nat}(h:i<=l.length):Sh.sl l (i:Int) (Sh.len l)=some (l.drop i):=by
 unfold Sh.sl;rw[AI,pI (by omega)];simp
theorem Yb {b:List Int}(Bb:Bk b){p:Int}(h0:0<=p)(h1:p<=300000):Ad (Jz b p) λq=>Y7 q.1/\p<=q.2/\q.2<=p+10:=by
 unfold Jz;refine Ad.bind (RD Bb h0 (by omega)) λq3 ⟨hD,hq3⟩=>?_;obtain⟨O,l3,l4⟩:=Vz hD;rw[AI];refine Ad.bind (Cd Bb ⟨by omega,by omega⟩) λq5 hq5=>?_;have a1:=hq5.pos;have a2:=hq5.nn;have a3:=hq5.lt (by omega);refine Ad.bind (R:=λr:Int×List AK=>Y7 r.2/\p<=r.1/\r.1<=p+10) ?_ λr hr=>Ad.some ⟨hr.1,hr.2⟩;refine Ad.bind (Cd Bb ⟨by omega,by omega⟩) λwE hq12=>?_;have b1:=hq12.pos;refine BB (λ_=>?_) λ_=>?_
 .refine Ad.bind (G1 Bb ⟨by omega,by omega⟩ (by simp) (by simp)) λx hx=>?_;have x1:=hx.pos;have x2:=hx.mem;refine Ad.bind (G1 Bb ⟨by omega,by omega⟩ (by simp) (by simp)) λy hy=>?_;have y1:=hy.pos;have y2:=hy.mem;simp only[pK,pj,qb]at x2 y2;exact Ad.get a2 a3 λc _ _=>Ad.some ⟨O.put (YB (by omega) (by omega) (by decide) (by simp)),by show p<=y.2;omega,by show y.2<=_;omega⟩
 refine BB (λ_=>?_) λ_=>?_
 .refine Ad.bind (G1 Bb ⟨by omega,by omega⟩ (by simp) (by simp)) λx hx=>?_;have x1:=hx.pos;have x2:=hx.mem;simp only[pK,pj,qb]at x2;refine AR rfl (AR rfl (AR rfl ?_));refine Ad.get a2 a3 λc _ _=>Ad.some ⟨O.put (YB (by omega) (by omega) (by simp) ?_),by show p<=x.2;omega,by show x.2<=_;omega⟩;intro c hc;simp only[pK,pj,qb]at hc;rcases hc with rfl|rfl|rfl
  .exact⟨by simp,λz hz=>by rw[pS]at hz;omega⟩
  .exact⟨by simp,by simp⟩
  .exact⟨by simp,by simp⟩
 refine BB (λ_=>?_) λ_=>?_
 .refine AR rfl ?_;rw[BE (n:=q5.1+1) (by omega) (by omega)];refine Ad.get a2 a3 λc _ _=>Ad.some ⟨O.put (YB (by omega) (by omega) (by simp) ?_),by show p<=wE.2;omega,by show wE.2<=_;omega⟩;intro c hc;rw[pS]at hc;rw[hc];exact⟨by simp,λz hz=>by rw[pS]at hz;omega⟩
 refine BB (λ_=>?_) λ_=>?_
 .refine Ad.bind (G1 Bb ⟨by omega,by omega⟩ (by simp) (by simp)) λx hx=>?_;have x1:=hx.pos;have x2:=hx.mem;simp only[pK,pj,qb]at x2;refine Ad.app (by simp;omega) (by simp;omega) (Ad.some ⟨O.app (by simp;omega) λd hd=>?_,by show p<=x.2;omega,by show x.2<=_;omega⟩);rw[pS]at hd;rw[hd];exact YB (by omega) (by omega) (by simp) (by simp)
 refine BB (λ_=>?_) λ_=>?_
 .refine Ad.bind (Cd Bb ⟨by omega,by omega⟩) λx hx=>?_;have x1:=hx.pos;have x2:=hx.nn;have x3:=hx.lt (by omega);refine AR rfl (AR rfl (AR rfl (AR rfl ?_)));refine Ad.bind (Cd Bb ⟨by omega,by omega⟩) λy hy=>?_;have y1:=hy.pos;have y2:=hy.nn;have y3:=hy.lt (by omega);obtain⟨k,hk⟩:=pb y2;rw[hk];refine AR (oZ (by simp;omega)) ?_;refine Ad.get a2 a3 λc _ _=>Ad.some ⟨O.put (YB (by omega) (by omega) (by simp) ?_),by show p<=y.2;omega,by show y.2<=_;omega⟩;intro c hc;have:=qz hc;simp only[pK,pj,qb]at this;rcases this with rfl|rfl|rfl|rfl<;>exact⟨by simp,by simp⟩
 refine BB (λ_=>?_) λ_=>?_
 .refine Ad.app (by simp;omega) (by simp;omega) (Ad.some ⟨O.app (by simp;omega) λd hd=>?_,by show p<=wE.2;omega,by show wE.2<=_;omega⟩);simp only[pK,pj,qb]at hd;rcases hd with rfl|rfl<;>exact YB (by omega) (by omega) (by simp) (by simp)
 .exact Ad.some ⟨O,by show p<=wE.2;omega,by show wE.2<=_;omega⟩
structure PD (p:AJ):Prop where
 decls:Y7 p.decls
 J2:p.funcs.length<=5
 ml :∀f∈p.funcs,mf f
theorem QV {α:Type}{f:α->Nat}{a:Nat}:∀(l:List α),(∀x∈l,f x<=a)->(l.map f).sum<=a*l.length
 | [],_=>by simp
 |x::l,h=>by
  have h1:=h x (by simp);have h2:=QV l λy hy=>h y (by simp[hy]);simp only[pc,rT,po];rw[Nat.mul_add];omega
theorem PD.small {p:AJ}(P:PD p):Ds p:=by
 refine⟨⟨⟨P.decls.CS,by have:=P.decls.len;omega⟩,λf hf=>(P.ml f hf).CS,by have:=P.J2;omega⟩,?_⟩;have h1:=QV p.decls P.decls.size;have h2:=QV (f:=aH) (a:=1010) p.funcs λf hf=>by
  have:=(P.ml f hf).par;have:=(P.ml f hf).size;have h3:=Ft f.body;show f.params.length+CJ f.body.kids<=_;omega
 have h3:=P.decls.len;have h4:=P.J2;unfold U3;omega
theorem To {b:List Int}(Bb:Bk b){M:Nat}(hM:2000000<=M){D:List AK}{F:List AU}(hD:GD D)(P:cj F){p:Int}(h0:0<=p)(h1:p<=100000):Ad (Hb M b p F D) λq=>PD q.1/\0<=q.2/\q.2<=200000:=by
 obtain⟨O,l3,l4⟩:=Vz hD;have hF:=P.sg.fl;have hF1:=P.sg.jZ;unfold Hb;rw[AI];refine Ad.bind (Cd Bb ⟨by omega,by omega⟩) λq3 hq3=>?_;have a1:=hq3.pos;have a2:=hq3.nn;have a3:=hq3.lt (by omega);refine Ad.get a2 a3 λc5 _ hc5=>?_;have G:=P.ok c5 hc5;have P0:PD ⟨D,F⟩:=⟨O,by show F.length<=5;omega,P.ok⟩
 have putF:∀{g:AU},mf g->PD ⟨D,Sh.put F q3.1 g⟩:=λhg=>⟨O,by show (Sh.put F _ _).length<=5;unfold Sh.put;simp;omega,λf hf=>(MO hf).elim (λh=>P.ok f h) (λe=>by rw[e];exact hg)⟩;refine Ad.bind (R:=λr:Int×List AU×List AK=>PD ⟨r.2.2,r.2.1⟩/\0<=r.1/\r.1<=200000) ?_ λr hr=>Ad.some ⟨hr.1,hr.2⟩;refine Ad.bind (Cd Bb ⟨by omega,by omega⟩) λvW hq13=>?_;have b1:=hq13.pos;refine BB (λ_=>?_) λ_=>?_
 .unfold Sd;have hs:=P.sz c5 hc5;exact Ad.bind (lD Bb hM M c5.body vW.2 (by omega) (by omega) G.CS.body (by omega) (by omega)) λr ⟨r1,r2,r3,r4⟩=>Ad.some ⟨putF ⟨⟨G.CS.params,G.CS.result,r2⟩,G.par,by show en r.1<=_;omega⟩,by show 0<=r.2;omega,by show r.2<=_;omega⟩
 refine BB (λ_=>?_) λ_=>?_
 .refine Ad.bind (G1 Bb ⟨by omega,by omega⟩ (by simp) (by simp)) λx hx=>?_;have x1:=hx.pos;have x2:=hx.mem;simp only[pK,pj,qb]at x2;have hp:=P.sg.par c5 hc5;refine AR (Jt (by omega) (by simp)) (Ad.some ⟨putF ⟨⟨⟨λy hy=>?_,by show (c5.params++[x.1]).length<=_;simp;omega⟩,G.CS.result,G.CS.body⟩,by show (c5.params++[x.1]).length<=4;simp;omega,G.size⟩,by show 0<=x.2;omega,by show x.2<=_;omega⟩);rcases pX.1 (show y∈c5.params++[x.1] from hy) with h|h
  .exact G.CS.params.1 y h
  .rw[pS]at h;rw[h];exact Dm (by omega) (by omega)
 refine BB (λ_=>?_) λ_=>?_
 .refine Ad.bind (G1 Bb ⟨by omega,by omega⟩ (by simp) (by simp)) λx hx=>?_;have x1:=hx.pos;have x2:=hx.mem;simp only[pK,pj,qb]at x2;exact Ad.some ⟨putF ⟨⟨G.CS.params,(Dm (by omega) (by omega):HC x.1),G.CS.body⟩,G.par,G.size⟩,by show 0<=x.2;omega,by show x.2<=_;omega⟩
 refine BB (λ_=>?_) λ_=>?_
 .refine Ad.bind (Yb Bb (p:=vW.2) (by omega) (by omega)) λr ⟨r1,r2,r3⟩=>Ad.some ⟨⟨r1,by show F.length<=5;omega,P.ok⟩,by show 0<=r.2;omega,by show r.2<=_;omega⟩
 refine BB (λ_=>?_) λ_=>Ad.some ⟨P0,by show 0<=vW.2;omega,by show vW.2<=_;omega⟩;refine Ad.app (by simp;omega) (by simp;omega) (Ad.some ⟨⟨O,by show (F++[c5]).length<=5;simp;omega,λf hf=>?_⟩,by show 0<=vW.2;omega,by show vW.2<=_;omega⟩);rcases pX.1 (show f∈F++[c5] from hf) with h|h
 .exact P.ok f h
 .rw[pS]at h;rw[h];exact G
theorem We {b:List Int}(Bb:Bk b){M:Nat}(hM:2000000<=M){p:Int}(h0:0<=p)(h1:p<=1000):Ad (IP M b p) λq=>PD q.1/\0<=q.2/\q.2<=200000:=by
 unfold IP;refine Ad.bind (Uh Bb hM h0 h1) λq ⟨q1,q2,q3,q4⟩=>?_;refine Ad.bind (To Bb hM q1 q2 q3 q4) λr hr=>Ad.some hr
theorem Sm {code:List Int}(h8 :∀x∈code,U8 x)(hl:code.length<=1048576){M:Nat}(hM:2000000<=M):Ad (HJ M code) λq=>PD q.1/\-1<=q.2/\q.2<=4:=by
 unfold HJ;refine Ad.bind (X4 h8 hl) λq3 ⟨Bb,hq⟩=>?_;refine Ad.bind (We Bb hM (by omega) (by omega)) λq5 ⟨P,p0,p1⟩=>?_;refine Ad.bind (R:=λt=>-1<=t/\t<=4) ?_ λt ht=>Ad.some ⟨P,ht⟩;refine Ad.bind (G1 Bb ⟨by omega,by omega⟩ (by simp) (by simp)) λx hx=>Ad.some ?_;have x2:=hx.mem;simp only[pK,pj,qb]at x2;show -1<=x.1/\x.1<=4;omega
end RC
