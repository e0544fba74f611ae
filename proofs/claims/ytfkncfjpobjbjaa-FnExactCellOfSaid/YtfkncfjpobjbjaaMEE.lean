import Derived.Test.YtfkncfjpobjbjaaMED
set_option linter.all false
namespace RC
theorem A3 {α β:Type}{f:α->β}{x:Option α}{b:β}:x.map f=some b↔∃a,x=some a/\f a=b:=Rv
theorem HS {W:List Int}{A:List Nat}{a:Nat}:∀{l q:List Int},Cu W A a l=some q->q.length=l.length
 | [],q,h=>by cases h;rfl
 | w::r,q,h=>by
  rw[Cu]at h;obtain⟨v,_,h⟩:=R7.1 h;obtain⟨q',h1,rfl⟩:=A3.1 h;simp[HS h1]
theorem O8 {A:List Nat}{ct:Nat->Int}{w v:Int}(h:Ki A ct w=some v):GA A w=some v:=by
 unfold Ki at h;split at h
 ·rename_i hi;cases h;simp only[Eb,SP,SJ]at hi;unfold GA;rw[R0 (by omega)]
 ·obtain⟨i,h1,rfl⟩:=A3.1 h;unfold Ln at h1;unfold GA;split at h1
  ·rename_i hw;rw[R1 hw];split at h1
   ·rename_i j hj;split at h1
    ·cases h1
    ·cases h1;rw[hj];rfl
   ·cases h1
  ·cases h1
theorem Ko {W:List Int}{A:List Nat}{ct:Nat->Int}{a:Nat}(ha:wd W a≠0):∀{l q:List Int},FP A ct l=some q->Cu W A a l=some q
 | [],q,h=>by cases h;rfl
 | w::r,q,h=>by
  rw[FP]at h;obtain⟨v,hv,h⟩:=R7.1 h;obtain⟨q',h1,rfl⟩:=A3.1 h;rw[Cu,gW,O8 hv,Ko ha h1];simp[ha]
theorem Kp {W:List Int}{A:List Nat}{ct:Nat->Int}{a:Nat}{ok:Int->Prop}(T6 :∀i:Nat,ok (1000+(i:Int))->ct i≠0)(Ut :∀w:Int,ok w->w<1000->Eb w=true):∀{l q:List Int},Cu W A a l=some q->(∀v∈q,ok v)->FP A ct l=some q
 | [],q,h,_=>by cases h;rfl
 | w::r,q,h,hq=>by
  rw[Cu]at h;obtain⟨v,hv,h⟩:=R7.1 h;obtain⟨q',h1,rfl⟩:=A3.1 h;have ih:=Kp T6 Ut h1 λv hv=>hq v (by simp[hv]);have cV:=hq v (by simp);have hm:GA A w=some v:=by
   unfold gW at hv;split at hv
   ·rename_i v' ZW;split at hv
    ·cases hv
    ·rw[ZW];exact hv
   ·cases hv
  have:Ki A ct w=some v:=by
   unfold GA at hm;unfold Ki;split at hm
   ·rename_i hw;obtain⟨i,h2,rfl⟩:=A3.1 hm;rw[R0 (by simp[Eb];omega),Ln,R1 hw,h2];simp[T6 i cV]
   ·rename_i hw;cases hm;rw[R1 (Ut w cV (by omega))]
  rw[FP,this,ih];rfl
theorem HK {W:List Int}{A:List Nat}{a:Nat}(ha:wd W a=0):∀{l:List Int},(B4 l=true->∃q,Cu W A a l=some q)/\(B4 l=false->Cu W A a l=none)
 | []=>⟨λ_=>⟨[],rfl⟩,λh=>by simp[B4]at h⟩
 | w::r=>by
  obtain⟨h1,h2⟩:=HK (A:=A) ha (l:=r);have hz:B4 (w::r)=(decide (w=0)&&B4 r):=rfl;have jR:gW W A a 0=some 0:=by unfold gW GA;rw[R0 (by omega)];simp
  have jS:w≠0->gW W A a w=none:=λh0=>by
   unfold gW GA;by_cases hw:1000<=w
   ·rw[R1 hw];cases C9 A (w-1000) with
    | none=>rfl
    | some i=>simp only[SG];rw[R1 ⟨ha,by omega⟩]
   ·rw[R0 hw];simp only;rw[R1 ⟨ha,h0⟩]
  rw[Cu,hz];by_cases hw:w=0
  ·subst hw;rw[jR];refine⟨λh=>?_,λh=>?_⟩
   ·obtain⟨q,hq⟩:=h1 (by simpa using h);exact⟨0::q,by rw[hq];rfl⟩
   ·rw[h2 (by simpa using h)];rfl
  ·rw[jS hw];exact⟨λh=>by simp[hw]at h,λ_=>rfl⟩
def Ix (W:List Int)(A:List Nat)(i:Nat):Int:=match A[i]? with|some a=>wd W a|none=>0
theorem Ep {W:List Int}{A:List Nat}{ct:Nat->Int}:∀{r:List Nat},(∀a∈r,EZ W a)->r.all (fz W)=true->∀{C:List Cell},Ey A ct (r.map (raw W))=some C->B5 W A r=some C
 | [],_,_,C,h=>by cases h;rfl
 | a::r,hg,hz,C,h=>by
  simp only[Ts,SP]at hz;rw[SD,Ey]at h;obtain⟨c,hc,h⟩:=R7.1 h;obtain⟨C',h1,rfl⟩:=A3.1 h;have ih:=Ep (λb hb=>hg b (by simp[hb])) hz.2 h1;obtain⟨fs,hf,rfl⟩:=A3.1 hc;have G:=hg a (by simp);have:IY W A a=some ⟨(raw W a).count,(raw W a).tag,fs⟩:=by
   unfold IY;by_cases hp:0<wd W a
   ·have e:raw W a=⟨wd W a,Int.tdiv (wd W (a+1)) 4,CJ W a⟩:=by unfold raw;rw[R1 hp]
    rw[e]at hf⊢;rw[Ko (by omega) hf];simp;omega
   ·have h0:wd W a=0:=by have:=G.c0;omega
    have e:raw W a=⟨0,0,[]⟩:=by unfold raw;rw[R0 hp,h0]
    rw[e]at hf⊢;simp only[FP,Rr]at hf;subst hf;have fB:B4 (CJ W a)=true:=by have:=hz.1;simpa [fz,hp] using this
    obtain⟨q,hq⟩:=(HK (A:=A) h0).1 fB;rw[hq];simp[h0]
  rw[B5,this,ih];rfl
theorem KW {W:List Int}{A:List Nat}:∀{r:List Nat},(∀a∈r,EZ W a)->r.all (fz W)=false->B5 W A r=none
 | [],_,h=>by simp at h
 | a::r,hg,h=>by
  rw[B5];by_cases hz:fz W a=true
  ·have ih:=KW (A:=A) (λb hb=>hg b (by simp[hb])) (r:=r) (by simpa [hz] using h);rw[ih];cases IY W A a<;>rfl
  ·have G:=hg a (by simp);have hp:¬ 0<wd W a:=λhp=>hz (by simp[fz,hp]);have fB:B4 (CJ W a)=false:=by simpa [fz,hp] using hz
   have:=(HK (A:=A) (show wd W a=0 by have:=G.c0;omega)).2 fB;rw[IY,this];rfl
theorem Jv {W:List Int}{A:List Nat}{ct:Nat->Int}{ok:Int->Prop}(T6 :∀i:Nat,ok (1000+(i:Int))->ct i≠0)(Ut :∀w:Int,ok w->w<1000->Eb w=true):∀{r:List Nat},(∀a∈r,EZ W a)->∀{C:List Cell},B5 W A r=some C->(∀c∈C,c.count≠0->∀v∈c.fields,ok v)->Ey A ct (r.map (raw W))=some C
 | [],_,C,h,_=>by cases h;rfl
 | a::r,hg,C,h,hC=>by
  rw[B5]at h;obtain⟨c,hc,h⟩:=R7.1 h;obtain⟨C',h1,rfl⟩:=A3.1 h;have ih:=Jv T6 Ut (λb hb=>hg b (by simp[hb])) h1 λc hc=>hC c (by simp[hc]);obtain⟨fs,hf,rfl⟩:=A3.1 hc;have G:=hg a (by simp);rw[SD,Ey,fixC,ih];by_cases hp:0<wd W a
  ·have e:raw W a=⟨wd W a,Int.tdiv (wd W (a+1)) 4,CJ W a⟩:=by unfold raw;rw[R1 hp]
   have h0:wd W a≠0:=by omega
   have hv:=hC _ (Ss ..);rw[R0 h0]at hv⊢;rw[e,Kp T6 Ut hf (hv h0)];rfl
  ·have h0:wd W a=0:=by have:=G.c0;omega
   have e:raw W a=⟨0,0,[]⟩:=by unfold raw;rw[R0 hp,h0]
   rw[R1 h0,e];rfl
theorem ES {W:List Int}{A:List Nat}:∀{r:List Nat} {C:List Cell},B5 W A r=some C->C.length=r.length/\∀(i a:Nat),r[i]?=some a->∃c:Cell,C[i]?=some c/\c.count=wd W a/\c.fields.length<=(CJ W a).length/\(wd W a=0->c=⟨0,0,[]⟩)
 | [],C,h=>by cases h;exact⟨rfl,by simp⟩
 | a::r,C,h=>by
  rw[B5]at h;obtain⟨c,hc,h⟩:=R7.1 h;obtain⟨C',h1,rfl⟩:=A3.1 h;obtain⟨g1,g2⟩:=ES h1;obtain⟨fs,hf,rfl⟩:=A3.1 hc;refine⟨by simp[g1],λi b hb=>?_⟩;cases i with
  | zero=>
   simp only[R6,Rr]at hb;subst hb;refine⟨_,rfl,?_⟩;have:=HS hf;by_cases h0:wd W a=0
   ·rw[R1 h0];exact⟨h0.symm,by simp,λ_=>rfl⟩
   ·rw[R0 h0];exact⟨rfl,by simp[this],λh=>absurd h h0⟩
  | succ i=>simpa using g2 i b (by simpa using hb)
end RC
