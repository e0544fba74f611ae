import Derived.Test.YtfkncfjpobjbjaaMEB
set_option linter.all false
namespace RC
def DD:List Nat->Int->Option Nat
 | [],_=>none
 | b::A,x=>if (b:Int)=x then some 0 else (DD A x).map (·+1)
theorem Em:∀{A:List Nat} {x:Int} {i:Nat},DD A x=some i->∃b,A[i]?=some b/\(b:Int)=x
 | [],_,_,h=>by simp[DD]at h
 | b::A,x,i,h=>by
  rw[DD]at h;split at h
  ·cases h;exact⟨b,rfl,by assumption⟩
  ·obtain⟨j,hj,rfl⟩:=Rr.1 h;obtain⟨c,h1,h2⟩:=Em hj;exact⟨c,by simpa using h1,h2⟩
theorem JT:∀{A:List Nat} {x:Int},DD A x=none->∀b∈A,(b:Int)≠x
 | [],_,_=>by simp
 | b::A,x,h=>by
  rw[DD]at h;split at h
  ·cases h
  ·rename_i hb;intro c hc;rcases SA.1 hc with rfl|hc
   ·exact hb
   ·exact JT (by simpa using h) c hc
theorem Nd:∀(A:List Nat) (s:Nat) (x:Int),Sh.BJ (A.mapIdx λ(i b:Nat)=>((b:Int),((s+i:Nat):Int))) x=(DD A x).map λi=>((s+i:Nat):Int)
 | [],_,_=>rfl
 | a::A,s,x=>by
  rw[List.mapIdx_cons,Sh.BJ,DD];by_cases h:(a:Int)=x
  ·rw[Ry h.symm,Ry h];rfl
  ·rw[Rx (λe=>h e.symm),Rx h];have:=Nd A (s+1) x;have e:(A.mapIdx λ(i b:Nat)=>((b:Int),((s+(i+1):Nat):Int)))=A.mapIdx λ(i b:Nat)=>((b:Int),((s+1+i:Nat):Int)):=by
    congr 1;funext i b;congr 2;omega
   show Sh.BJ (A.mapIdx λ(i b:Nat)=>((b:Int),((s+(i+1):Nat):Int))) x=_;rw[e,this];cases DD A x with
   | none=>rfl
   | some i=>simp;omega
theorem Kp (A:List Nat)(x:Int):Sh.BJ (EH A) x=(DD A x).map λi=>((i:Nat):Int):=by
 have:=Nd A 0 x;simpa [EH] using this
theorem GN {A:List Nat}(hA:A.length<=1048576)(x:Int):∀(n i:Nat),i<=A.length->A.length-i<n->Bx (A.map Int.ofNat) x n (i:Int)=some (match DD (A.drop i) x with|some j=>Sum.inl ((i+j:Nat):Int)|none=>Sum.inr ())
 | 0,_,_,h=>by omega
 | n+1,i,hi,hn=>by
  rw[Bx];by_cases h:i<A.length
  ·obtain⟨b,hb,_⟩:=BN h;rw[Ry (show decide ((i:Int)<Sh.len (A.map Int.ofNat))=true by simpa [AT] using h),As (show (A.map Int.ofNat)[i]?=some (b:Int) by rw[Ro,hb];rfl),Rl,drop_cons hb,DD];by_cases hx:(b:Int)=x
   ·rw[Ry (by simpa using hx),Ry hx];simp
   ·rw[Rx (by simpa using hx),Rx hx,Ao (by omega) (by omega),show ((i:Int)+1)=((i+1:Nat):Int) by omega,GN hA x n (i+1) (by omega) (by omega)];cases DD (A.drop (i+1)) x with
    | none=>rfl
    | some j=>simp;omega
  ·rw[Rx (show ¬ decide ((i:Int)<Sh.len (A.map Int.ofNat))=true by simpa [AT] using h),Sf (by omega)];rfl
theorem L7 {A:List Nat}(hA:A.length<=1048576)(x:Int){N:Nat}(hN:2000000<=N):DY N (A.map Int.ofNat) x=some (match DD A x with|some j=>(j:Int)|none=>-1):=by
 unfold DY;have:=GN hA x N 0 (by omega) (by omega);rw[UI,SH]at this;rw[this];cases DD A x<;>simp[Sh.cont]
theorem Ia {l:List Int}(hl:l.length<=1048576)(x:Int):∀(n i:Nat),i<=l.length->l.length-i<n->CX l x n (i:Int)=some (if x∈l.drop i then Sum.inl true else Sum.inr ())
 | 0,_,_,h=>by omega
 | n+1,i,hi,hn=>by
  rw[CX];by_cases h:i<l.length
  ·obtain⟨b,hb,_⟩:=BN h;rw[Ry (show decide ((i:Int)<Sh.len l)=true by simpa [AT] using h),As hb,Rl,drop_cons hb];by_cases hx:b=x
   ·rw[Ry (by simpa using hx),Ry (by simp[hx])]
   ·rw[Rx (by simpa using hx),Ao (by omega) (by omega),show ((i:Int)+1)=((i+1:Nat):Int) by omega,Ia hl x n (i+1) (by omega) (by omega)];simp only[SA,show ¬ x=b from λe=>hx e.symm,false_or]
  ·rw[Rx (show ¬ decide ((i:Int)<Sh.len l)=true by simpa [AT] using h),Sf (by omega)];simp
theorem MX {l:List Int}(hl:l.length<=1048576)(x:Int){N:Nat}(hN:2000000<=N):D7 N l x=some (decide (x∈l)):=by
 unfold D7;have:=Ia hl x N 0 (by omega) (by omega);rw[UI,SH]at this;rw[this];by_cases h:x∈l<;>simp[h,Sh.cont]
def NS (A:List Nat)(ct:Nat->Int)(w:Int):Option Nat:=if 1000<=w then (match DD A (w-1000) with|some i=>if ct i=0 then none else some i|none=>none) else none
theorem KA {A:List Nat}{C:List Cell}{ct:Nat->Int}(hb :∀b∈A,b<=1048576)(hC :∀i,i<A.length->∃c,C[i]?=some c/\c.count=ct i){w:Int}(hw:Bl w):
  BI ⟨C,EH A⟩ w=some (match NS A ct w with|some i=>((i:Int),true)|none=>(0,false)):=by
 unfold BI NS;have h1:=hw.1;have h2:=hw.2;simp only[Kp];by_cases h:1000<=w
 ·rw[Ry h,Ao (n:=w-1000) (by omega) (by omega)];cases hp:DD A (w-1000) with
  | none=>simp
  | some i=>
   obtain⟨b,hb1,_⟩:=Em hp;obtain⟨c,aD,hc2⟩:=hC i (Rm.1 hb1).1;rw[Rx (by simp),Rx (by simp;omega)];simp only[SC,Sp];rw[As aD,Rl,Rl,hc2];by_cases h0:ct i=0<;>simp[h0]
 ·rw[Rx h];cases hp:DD A (Sh.w (w-1000)) with
  | none=>simp
  | some i=>simp[show w<1000 by omega]
def Kr (A:List Nat)(ct:Nat->Int)(w:Int):Option Int:=if EX w=true then some w else (NS A ct w).map λ(i:Nat)=>1000+(i:Int)
def FU (A:List Nat)(ct:Nat->Int):List Int->Option (List Int)
 | []=>some []
 | w::r=>(Kr A ct w).bind λv=>(FU A ct r).map (v::·)
def fixC (A:List Nat)(ct:Nat->Int)(c:Cell):Option Cell:=(FU A ct c.fields).map λfs=>⟨c.count,c.tag,fs⟩
def Ep (A:List Nat)(ct:Nat->Int):List Cell->Option (List Cell)
 | []=>some []
 | c::r=>(fixC A ct c).bind λv=>(Ep A ct r).map (v::·)
theorem MA {α:Type}(p:List α)(x y:α)(r:List α):Sh.put (p++x::r) (p.length:Int) y=p++y::r:=by
 rw[En,List.set_append_right _ _ (Rz _),Sr];rfl
theorem MT {α:Type}(p:List α)(x:α)(r:List α):Sh.get (p++x::r) (p.length:Int)=some x:=by
 rw[I6,Rv (Rz _),Sr];rfl
theorem JG {A:List Nat}{ct:Nat->Int}(hA:A.length<=1048576)(hb :∀b∈A,b<=1048576){c:Cell}(Vz:c.fields.length<=1048576){l:List Cell}{k:Nat}(hk:l[k]?=some c)(hC :∀i,i<A.length->∃c,l[i]?=some c/\c.count=ct i):
  ∀(n:Nat) (p r:List Int),p.length+r.length=c.fields.length->(∀x∈r,Bl x)->r.length<n->
  match FU A ct r with
  | some q=>A4 c (EH A) l (k:Int) n (p.length:Int) (p++r)=some (Sum.inr (p++q))
  | none=>∃o,A4 c (EH A) l (k:Int) n (p.length:Int) (p++r)=some (Sum.inl (o,false))
 | 0,_,_,_,_,h=>by omega
 | n+1,p,[],Vu,_,_=>by
  rw[FU,A4,Rx (show ¬ decide ((p.length:Int)<Sh.len c.fields)=true by simp[AT]at Vu⊢;omega)]
 | n+1,p,w::r,Vu,hI,hn=>by
  simp only[Si]at Vu hn;rw[A4,Ry (show decide ((p.length:Int)<Sh.len c.fields)=true by simp[AT];omega),MT,Rl,KQ,Rl,FU,Kr];have hw:=hI w (by simp);have e1:(p.length:Int)+1=((p++[w]).length:Int):=by simp
  by_cases hi:EX w=true
  ·rw[Ry hi,Ry hi];simp only[Sh.cont,Rl];rw[Ao (n:=(p.length:Int)+1) (by omega) (by omega),e1,show p++w::r=(p++[w])++r by simp];have ih:=JG hA hb Vz hk hC n (p++[w]) r (by simp;omega) (λx hx=>hI x (by simp[hx])) (by omega);cases hq:FU A ct r with
   | none=>rw[hq]at ih;exact ih
   | some q=>rw[hq]at ih;simpa using ih
  ·rw[Rx hi,Rx hi];have hlen:=(Rm.1 hk).1;have jF :∀i,i<A.length->∃c',(Sh.put l (k:Int) (Cell.mk c.count c.tag (p++w::r)))[i]?=some c'/\c'.count=ct i:=λi hi=>by
    obtain⟨c',h1,h2⟩:=hC i hi;rw[En];by_cases e:k=i
    ·subst e;rw[hk]at h1;cases h1;exact⟨_,Rs hlen,h2⟩
    ·exact⟨c',by rw[Rw e];exact h1,h2⟩
   rw[KA hb jF hw,Rl];cases hl:NS A ct w with
   | none=>exact⟨_,rfl⟩
   | some i=>
    have kG:i<A.length:=by
     unfold NS at hl;split at hl
     ·split at hl
      ·rename_i j hj;split at hl
       ·cases hl
       ·cases hl;obtain⟨b,hb1,_⟩:=Em hj;exact (Rm.1 hb1).1
      ·cases hl
     ·cases hl
    simp only[S0,R1,SX,Sh.cont,Rl,SC];rw[MA,Ao (n:=1000+(i:Int)) (by omega) (by omega),Ao (n:=(p.length:Int)+1) (by omega) (by omega)];have e2:(p.length:Int)+1=((p++[1000+(i:Int)]).length:Int):=by simp
    rw[e2,show p++(1000+(i:Int))::r=(p++[1000+(i:Int)])++r by simp];have ih:=JG hA hb Vz hk hC n (p++[1000+(i:Int)]) r (by simp;omega) (λx hx=>hI x (by simp[hx])) (by omega);cases hq:FU A ct r with
    | none=>rw[hq]at ih;exact ih
    | some q=>rw[hq]at ih;simpa using ih
theorem Me {A:List Nat}{ct:Nat->Int}(hA:A.length<=1048576)(hb :∀b∈A,b<=1048576){C:List Cell}(jG:C.length=A.length)(gP :∀c∈C,c.fields.length<=1048576/\∀x∈c.fields,Bl x){N:Nat}(hN:2000000<=N):
  ∀(n:Nat) (p r:List Cell),p.length+r.length=C.length->(∀c∈r,c∈C)->(∀i,i<A.length->∃c,(p++r)[i]?=some c/\c.count=ct i)->r.length<n->
  match Ep A ct r with
  | some q=>A3 N C (EH A) n (p.length:Int) (p++r)=some (Sum.inr (p++q))
  | none=>∃o,A3 N C (EH A) n (p.length:Int) (p++r)=some (Sum.inl (o,false))
 | 0,_,_,_,_,_,h=>by omega
 | n+1,p,[],Vu,_,_,_=>by
  rw[Ep,A3,Rx (show ¬ decide ((p.length:Int)<Sh.len C)=true by simp[AT]at Vu⊢;omega)]
 | n+1,p,c::r,Vu,hr,bd,hn=>by
  simp only[Si]at Vu hn;obtain⟨jH,hf2⟩:=gP c (hr c (by simp));rw[A3,Ry (show decide ((p.length:Int)<Sh.len C)=true by simp[AT];omega),MT,Rl,Ep,fixC];have hk:(p++c::r)[p.length]?=some c:=by rw[Rv (Rz _),Sr];rfl
  have h3:=JG (ct:=ct) hA hb jH hk bd N [] c.fields (by simp) hf2 (by omega);rw[Sx]at h3;simp only[Sw]at h3;rw[UI]at h3;cases hq:FU A ct c.fields with
  | none=>
   rw[hq]at h3;obtain⟨o,h3⟩:=h3;rw[h3];exact⟨_,rfl⟩
  | some fs=>
   rw[hq]at h3;simp only at h3;rw[h3];simp only[Sh.cont,Rl,SC,Sx];rw[MA,Ao (n:=(p.length:Int)+1) (by omega) (by omega)];have e2:(p.length:Int)+1=((p++[Cell.mk c.count c.tag fs]).length:Int):=by simp
   rw[e2,show p++(Cell.mk c.count c.tag fs)::r=(p++[Cell.mk c.count c.tag fs])++r by simp];have ih:=Me hA hb jG gP hN n (p++[Cell.mk c.count c.tag fs]) r (by simp;omega) (λx hx=>hr x (by simp[hx])) (λi hi=>by
    obtain⟨c',h1,h2⟩:=bd i hi;rcases SW i p.length with h|h|h
    ·rw[Rt h]at h1;exact⟨c',by rw[TF,Rt h];exact h1,h2⟩
    ·subst h;rw[hk]at h1;cases h1;exact⟨Cell.mk c.count c.tag fs,by rw[TF,Rv (Rz _),Sr];rfl,h2⟩
    ·rw[Rv (by omega)]at h1;obtain⟨d,hd⟩ :∃d,i-p.length=d+1:=⟨i-p.length-1,by omega⟩
     rw[hd]at h1;exact⟨c',by rw[TF,Rv (by omega),hd];exact h1,h2⟩) (by omega)
   cases hq2:Ep A ct r with
   | none=>rw[hq2]at ih;exact ih
   | some q=>rw[hq2]at ih;simpa using ih
end RC
