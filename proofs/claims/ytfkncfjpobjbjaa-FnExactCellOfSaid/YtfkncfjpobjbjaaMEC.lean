import Derived.Test.YtfkncfjpobjbjaaMEB
set_option linter.all false
namespace RC
def C9:List Nat->Int->Option Nat
 | [],_=>none
 | b::A,x=>if (b:Int)=x then some 0 else (C9 A x).map (·+1)
theorem D5:∀{A:List Nat} {x:Int} {i:Nat},C9 A x=some i->∃b,A[i]?=some b/\(b:Int)=x
 | [],_,_,h=>by simp[C9]at h
 | b::A,x,i,h=>by
  rw[C9]at h;split at h
  ·cases h;exact⟨b,rfl,by assumption⟩
  ·obtain⟨j,hj,rfl⟩:=Rv.1 h;obtain⟨c,h1,h2⟩:=D5 hj;exact⟨c,by simpa using h1,h2⟩
theorem HF:∀{A:List Nat} {x:Int},C9 A x=none->∀b∈A,(b:Int)≠x
 | [],_,_=>by simp
 | b::A,x,h=>by
  rw[C9]at h;split at h
  ·cases h
  ·rename_i hb;intro c hc;rcases SE.1 hc with rfl|hc
   ·exact hb
   ·exact HF (by simpa using h) c hc
theorem Nn:∀(A:List Nat) (s:Nat) (x:Int),Sh.BK (A.mapIdx λ(i b:Nat)=>((b:Int),((s+i:Nat):Int))) x=(C9 A x).map λi=>((s+i:Nat):Int)
 | [],_,_=>rfl
 | a::A,s,x=>by
  rw[List.mapIdx_cons,Sh.BK,C9];by_cases h:(a:Int)=x
  ·rw[R1 h.symm,R1 h];rfl
  ·rw[R0 (λe=>h e.symm),R0 h];have:=Nn A (s+1) x;have e:(A.mapIdx λ(i b:Nat)=>((b:Int),((s+(i+1):Nat):Int)))=A.mapIdx λ(i b:Nat)=>((b:Int),((s+1+i:Nat):Int)):=by
    congr 1;funext i b;congr 2;omega
   show Sh.BK (A.mapIdx λ(i b:Nat)=>((b:Int),((s+(i+1):Nat):Int))) x=_;rw[e,this];cases C9 A x with
   | none=>rfl
   | some i=>simp;omega
theorem Kd (A:List Nat)(x:Int):Sh.BK (EG A) x=(C9 A x).map λi=>((i:Nat):Int):=by
 have:=Nn A 0 x;simpa [EG] using this
theorem GY {A:List Nat}(hA:A.length<=1048576)(x:Int):∀(n i:Nat),i<=A.length->A.length-i<n->Bv (A.map Int.ofNat) x n (i:Int)=some (match C9 (A.drop i) x with|some j=>Sum.inl ((i+j:Nat):Int)|none=>Sum.inr ())
 | 0,_,_,h=>by omega
 | n+1,i,hi,hn=>by
  rw[Bv];by_cases h:i<A.length
  ·obtain⟨b,hb,_⟩:=BL h;rw[R1 (show decide ((i:Int)<Sh.len (A.map Int.ofNat))=true by simpa [AT] using h),As (show (A.map Int.ofNat)[i]?=some (b:Int) by rw[Rs,hb];rfl),Rp,drop_cons hb,C9];by_cases hx:(b:Int)=x
   ·rw[R1 (by simpa using hx),R1 hx];simp
   ·rw[R0 (by simpa using hx),R0 hx,Ao (by omega) (by omega),show ((i:Int)+1)=((i+1:Nat):Int) by omega,GY hA x n (i+1) (by omega) (by omega)];cases C9 (A.drop (i+1)) x with
    | none=>rfl
    | some j=>simp;omega
  ·rw[R0 (show ¬ decide ((i:Int)<Sh.len (A.map Int.ofNat))=true by simpa [AT] using h),Sk (by omega)];rfl
theorem Ie {A:List Nat}(hA:A.length<=1048576)(x:Int){N:Nat}(hN:2000000<=N):C5 N (A.map Int.ofNat) x=some (match C9 A x with|some j=>(j:Int)|none=>-1):=by
 unfold C5;have:=GY hA x N 0 (by omega) (by omega);rw[UI,SL]at this;rw[this];cases C9 A x<;>simp[Sh.cont]
theorem Ib {l:List Int}(hl:l.length<=1048576)(x:Int):∀(n i:Nat),i<=l.length->l.length-i<n->CV l x n (i:Int)=some (if x∈l.drop i then Sum.inl true else Sum.inr ())
 | 0,_,_,h=>by omega
 | n+1,i,hi,hn=>by
  rw[CV];by_cases h:i<l.length
  ·obtain⟨b,hb,_⟩:=BL h;rw[R1 (show decide ((i:Int)<Sh.len l)=true by simpa [AT] using h),As hb,Rp,drop_cons hb];by_cases hx:b=x
   ·rw[R1 (by simpa using hx),R1 (by simp[hx])]
   ·rw[R0 (by simpa using hx),Ao (by omega) (by omega),show ((i:Int)+1)=((i+1:Nat):Int) by omega,Ib hl x n (i+1) (by omega) (by omega)];simp only[SE,show ¬ x=b from λe=>hx e.symm,false_or]
  ·rw[R0 (show ¬ decide ((i:Int)<Sh.len l)=true by simpa [AT] using h),Sk (by omega)];simp
theorem JS {l:List Int}(hl:l.length<=1048576)(x:Int){N:Nat}(hN:2000000<=N):Dh N l x=some (decide (x∈l)):=by
 unfold Dh;have:=Ib hl x N 0 (by omega) (by omega);rw[UI,SL]at this;rw[this];by_cases h:x∈l<;>simp[h,Sh.cont]
def Ln (A:List Nat)(ct:Nat->Int)(w:Int):Option Nat:=if 1000<=w then (match C9 A (w-1000) with|some i=>if ct i=0 then none else some i|none=>none) else none
theorem G9 {A:List Nat}{C:List Cell}{ct:Nat->Int}(hb :∀b∈A,b<=1048576)(hC :∀i,i<A.length->∃c,C[i]?=some c/\c.count=ct i){w:Int}(hw:Bh w):
  Aw ⟨C,EG A⟩ w=some (match Ln A ct w with|some i=>((i:Int),true)|none=>(0,false)):=by
 unfold Aw Ln;have h1:=hw.1;have h2:=hw.2;simp only[Kd];by_cases h:1000<=w
 ·rw[R1 h,Ao (n:=w-1000) (by omega) (by omega)];cases hp:C9 A (w-1000) with
  | none=>simp
  | some i=>
   obtain⟨b,hb1,_⟩:=D5 hp;obtain⟨c,aL,hc2⟩:=hC i (Rq.1 hb1).1;rw[R0 (by simp),R0 (by simp;omega)];simp only[SG,Sv];rw[As aL,Rp,Rp,hc2];by_cases h0:ct i=0<;>simp[h0]
 ·rw[R0 h];cases hp:C9 A (Sh.w (w-1000)) with
  | none=>simp
  | some i=>simp[show w<1000 by omega]
def Ki (A:List Nat)(ct:Nat->Int)(w:Int):Option Int:=if Eb w=true then some w else (Ln A ct w).map λ(i:Nat)=>1000+(i:Int)
def FP (A:List Nat)(ct:Nat->Int):List Int->Option (List Int)
 | []=>some []
 | w::r=>(Ki A ct w).bind λv=>(FP A ct r).map (v::·)
def fixC (A:List Nat)(ct:Nat->Int)(c:Cell):Option Cell:=(FP A ct c.fields).map λfs=>⟨c.count,c.tag,fs⟩
def Ey (A:List Nat)(ct:Nat->Int):List Cell->Option (List Cell)
 | []=>some []
 | c::r=>(fixC A ct c).bind λv=>(Ey A ct r).map (v::·)
theorem Mg {α:Type}(p:List α)(x y:α)(r:List α):Sh.put (p++x::r) (p.length:Int) y=p++y::r:=by
 rw[Eu,List.set_append_right _ _ (R3 _),Sy];rfl
theorem L9 {α:Type}(p:List α)(x:α)(r:List α):Sh.get (p++x::r) (p.length:Int)=some x:=by
 rw[Jx,Rz (R3 _),Sy];rfl
theorem JO {A:List Nat}{ct:Nat->Int}(hA:A.length<=1048576)(hb :∀b∈A,b<=1048576){c:Cell}(V3:c.fields.length<=1048576){l:List Cell}{k:Nat}(hk:l[k]?=some c)(hC :∀i,i<A.length->∃c,l[i]?=some c/\c.count=ct i):
  ∀(n:Nat) (p r:List Int),p.length+r.length=c.fields.length->(∀x∈r,Bh x)->r.length<n->
  match FP A ct r with
  | some q=>A6 c (EG A) l (k:Int) n (p.length:Int) (p++r)=some (Sum.inr (p++q))
  | none=>∃o,A6 c (EG A) l (k:Int) n (p.length:Int) (p++r)=some (Sum.inl (o,false))
 | 0,_,_,_,_,h=>by omega
 | n+1,p,[],Vy,_,_=>by
  rw[FP,A6,R0 (show ¬ decide ((p.length:Int)<Sh.len c.fields)=true by simp[AT]at Vy⊢;omega)]
 | n+1,p,w::r,Vy,hI,hn=>by
  simp only[Sm]at Vy hn;rw[A6,R1 (show decide ((p.length:Int)<Sh.len c.fields)=true by simp[AT];omega),L9,Rp,Ku,Rp,FP,Ki];have hw:=hI w (by simp);have e1:(p.length:Int)+1=((p++[w]).length:Int):=by simp
  by_cases hi:Eb w=true
  ·rw[R1 hi,R1 hi];simp only[Sh.cont,Rp];rw[Ao (n:=(p.length:Int)+1) (by omega) (by omega),e1,show p++w::r=(p++[w])++r by simp];have ih:=JO hA hb V3 hk hC n (p++[w]) r (by simp;omega) (λx hx=>hI x (by simp[hx])) (by omega);cases hq:FP A ct r with
   | none=>rw[hq]at ih;exact ih
   | some q=>rw[hq]at ih;simpa using ih
  ·rw[R0 hi,R0 hi];have hlen:=(Rq.1 hk).1;have jO :∀i,i<A.length->∃c',(Sh.put l (k:Int) (Cell.mk c.count c.tag (p++w::r)))[i]?=some c'/\c'.count=ct i:=λi hi=>by
    obtain⟨c',h1,h2⟩:=hC i hi;rw[Eu];by_cases e:k=i
    ·subst e;rw[hk]at h1;cases h1;exact⟨_,Rw hlen,h2⟩
    ·exact⟨c',by rw[R2 e];exact h1,h2⟩
   rw[G9 hb jO hw,Rp];cases hl:Ln A ct w with
   | none=>exact⟨_,rfl⟩
   | some i=>
    have kR:i<A.length:=by
     unfold Ln at hl;split at hl
     ·split at hl
      ·rename_i j hj;split at hl
       ·cases hl
       ·cases hl;obtain⟨b,hb1,_⟩:=D5 hj;exact (Rq.1 hb1).1
      ·cases hl
     ·cases hl
    simp only[Sw,R4,Sa,Sh.cont,Rp,SG];rw[Mg,Ao (n:=1000+(i:Int)) (by omega) (by omega),Ao (n:=(p.length:Int)+1) (by omega) (by omega)];have e2:(p.length:Int)+1=((p++[1000+(i:Int)]).length:Int):=by simp
    rw[e2,show p++(1000+(i:Int))::r=(p++[1000+(i:Int)])++r by simp];have ih:=JO hA hb V3 hk hC n (p++[1000+(i:Int)]) r (by simp;omega) (λx hx=>hI x (by simp[hx])) (by omega);cases hq:FP A ct r with
    | none=>rw[hq]at ih;exact ih
    | some q=>rw[hq]at ih;simpa using ih
theorem MT {A:List Nat}{ct:Nat->Int}(hA:A.length<=1048576)(hb :∀b∈A,b<=1048576){C:List Cell}(jP:C.length=A.length)(gZ :∀c∈C,c.fields.length<=1048576/\∀x∈c.fields,Bh x){N:Nat}(hN:2000000<=N):
  ∀(n:Nat) (p r:List Cell),p.length+r.length=C.length->(∀c∈r,c∈C)->(∀i,i<A.length->∃c,(p++r)[i]?=some c/\c.count=ct i)->r.length<n->
  match Ey A ct r with
  | some q=>A5 N C (EG A) n (p.length:Int) (p++r)=some (Sum.inr (p++q))
  | none=>∃o,A5 N C (EG A) n (p.length:Int) (p++r)=some (Sum.inl (o,false))
 | 0,_,_,_,_,_,h=>by omega
 | n+1,p,[],Vy,_,_,_=>by
  rw[Ey,A5,R0 (show ¬ decide ((p.length:Int)<Sh.len C)=true by simp[AT]at Vy⊢;omega)]
 | n+1,p,c::r,Vy,hr,aM,hn=>by
  simp only[Sm]at Vy hn;obtain⟨jQ,hf2⟩:=gZ c (hr c (by simp));rw[A5,R1 (show decide ((p.length:Int)<Sh.len C)=true by simp[AT];omega),L9,Rp,Ey,fixC];have hk:(p++c::r)[p.length]?=some c:=by rw[Rz (R3 _),Sy];rfl
  have h3:=JO (ct:=ct) hA hb jQ hk aM N [] c.fields (by simp) hf2 (by omega);rw[S4]at h3;simp only[S3]at h3;rw[UI]at h3;cases hq:FP A ct c.fields with
  | none=>
   rw[hq]at h3;obtain⟨o,h3⟩:=h3;rw[h3];exact⟨_,rfl⟩
  | some fs=>
   rw[hq]at h3;simp only at h3;rw[h3];simp only[Sh.cont,Rp,SG,S4];rw[Mg,Ao (n:=(p.length:Int)+1) (by omega) (by omega)];have e2:(p.length:Int)+1=((p++[Cell.mk c.count c.tag fs]).length:Int):=by simp
   rw[e2,show p++(Cell.mk c.count c.tag fs)::r=(p++[Cell.mk c.count c.tag fs])++r by simp];have ih:=MT hA hb jP gZ hN n (p++[Cell.mk c.count c.tag fs]) r (by simp;omega) (λx hx=>hr x (by simp[hx])) (λi hi=>by
    obtain⟨c',h1,h2⟩:=aM i hi;rcases Sb i p.length with h|h|h
    ·rw[Rx h]at h1;exact⟨c',by rw[TJ,Rx h];exact h1,h2⟩
    ·subst h;rw[hk]at h1;cases h1;exact⟨Cell.mk c.count c.tag fs,by rw[TJ,Rz (R3 _),Sy];rfl,h2⟩
    ·rw[Rz (by omega)]at h1;obtain⟨d,hd⟩ :∃d,i-p.length=d+1:=⟨i-p.length-1,by omega⟩
     rw[hd]at h1;exact⟨c',by rw[TJ,Rz (by omega),hd];exact h1,h2⟩) (by omega)
   cases hq2:Ey A ct r with
   | none=>rw[hq2]at ih;exact ih
   | some q=>rw[hq2]at ih;simpa using ih
end RC
