import Derived.Test.YtfkncfjpobjbjaaMED
set_option linter.all false
namespace RC
theorem A1 {α β:Type}{f:α->β}{x:Option α}{b:β}:x.map f=some b↔∃a,x=some a/\f a=b:=Rr
theorem HM {W:List Int}{A:List Nat}{a:Nat}:∀{l q:List Int},Cq W A a l=some q->q.length=l.length
 | [],q,h=>by cases h;rfl
 | w::r,q,h=>by
  rw[Cq]at h;obtain⟨v,_,h⟩:=R3.1 h;obtain⟨q',h1,rfl⟩:=A1.1 h;simp[HM h1]
theorem PL {A:List Nat}{ct:Nat->Int}{w v:Int}(h:Kr A ct w=some v):F7 A w=some v:=by
 unfold Kr at h;split at h
 ·rename_i hi;cases h;simp only[EX,SL,SF]at hi;unfold F7;rw[Rx (by omega)]
 ·obtain⟨i,h1,rfl⟩:=A1.1 h;unfold NS at h1;unfold F7;split at h1
  ·rename_i hw;rw[Ry hw];split at h1
   ·rename_i j hj;split at h1
    ·cases h1
    ·cases h1;rw[hj];rfl
   ·cases h1
  ·cases h1
theorem KU {W:List Int}{A:List Nat}{ct:Nat->Int}{a:Nat}(ha:wd W a≠0):∀{l q:List Int},FU A ct l=some q->Cq W A a l=some q
 | [],q,h=>by cases h;rfl
 | w::r,q,h=>by
  rw[FU]at h;obtain⟨v,hv,h⟩:=R3.1 h;obtain⟨q',h1,rfl⟩:=A1.1 h;rw[Cq,gW,PL hv,KU ha h1];simp[ha]
theorem KZ {W:List Int}{A:List Nat}{ct:Nat->Int}{a:Nat}{ok:Int->Prop}(T2 :∀i:Nat,ok (1000+(i:Int))->ct i≠0)(Up :∀w:Int,ok w->w<1000->EX w=true):∀{l q:List Int},Cq W A a l=some q->(∀v∈q,ok v)->FU A ct l=some q
 | [],q,h,_=>by cases h;rfl
 | w::r,q,h,hq=>by
  rw[Cq]at h;obtain⟨v,hv,h⟩:=R3.1 h;obtain⟨q',h1,rfl⟩:=A1.1 h;have ih:=KZ T2 Up h1 λv hv=>hq v (by simp[hv]);have cO:=hq v (by simp);have hm:F7 A w=some v:=by
   unfold gW at hv;split at hv
   ·rename_i v' ZT;split at hv
    ·cases hv
    ·rw[ZT];exact hv
   ·cases hv
  have:Kr A ct w=some v:=by
   unfold F7 at hm;unfold Kr;split at hm
   ·rename_i hw;obtain⟨i,h2,rfl⟩:=A1.1 hm;rw[Rx (by simp[EX];omega),NS,Ry hw,h2];simp[T2 i cO]
   ·rename_i hw;cases hm;rw[Ry (Up w cO (by omega))]
  rw[FU,this,ih];rfl
theorem HT {W:List Int}{A:List Nat}{a:Nat}(ha:wd W a=0):∀{l:List Int},(B3 l=true->∃q,Cq W A a l=some q)/\(B3 l=false->Cq W A a l=none)
 | []=>⟨λ_=>⟨[],rfl⟩,λh=>by simp[B3]at h⟩
 | w::r=>by
  obtain⟨h1,h2⟩:=HT (A:=A) ha (l:=r);have hz:B3 (w::r)=(decide (w=0)&&B3 r):=rfl;have jI:gW W A a 0=some 0:=by unfold gW F7;rw[Rx (by omega)];simp
  have jJ:w≠0->gW W A a w=none:=λh0=>by
   unfold gW F7;by_cases hw:1000<=w
   ·rw[Ry hw];cases DD A (w-1000) with
    | none=>rfl
    | some i=>simp only[SC];rw[Ry ⟨ha,by omega⟩]
   ·rw[Rx hw];simp only;rw[Ry ⟨ha,h0⟩]
  rw[Cq,hz];by_cases hw:w=0
  ·subst hw;rw[jI];refine⟨λh=>?_,λh=>?_⟩
   ·obtain⟨q,hq⟩:=h1 (by simpa using h);exact⟨0::q,by rw[hq];rfl⟩
   ·rw[h2 (by simpa using h)];rfl
  ·rw[jJ hw];exact⟨λh=>by simp[hw]at h,λ_=>rfl⟩
def Lw (W:List Int)(A:List Nat)(i:Nat):Int:=match A[i]? with|some a=>wd W a|none=>0
theorem Fp {W:List Int}{A:List Nat}{ct:Nat->Int}:∀{r:List Nat},(∀a∈r,EO W a)->r.all (fz W)=true->∀{C:List Cell},Ep A ct (r.map (raw W))=some C->B4 W A r=some C
 | [],_,_,C,h=>by cases h;rfl
 | a::r,hg,hz,C,h=>by
  simp only[To,SL]at hz;rw[R9,Ep]at h;obtain⟨c,hc,h⟩:=R3.1 h;obtain⟨C',h1,rfl⟩:=A1.1 h;have ih:=Fp (λb hb=>hg b (by simp[hb])) hz.2 h1;obtain⟨fs,hf,rfl⟩:=A1.1 hc;have G:=hg a (by simp);have:IN W A a=some ⟨(raw W a).count,(raw W a).tag,fs⟩:=by
   unfold IN;by_cases hp:0<wd W a
   ·have e:raw W a=⟨wd W a,Int.tdiv (wd W (a+1)) 4,CH W a⟩:=by unfold raw;rw[Ry hp]
    rw[e]at hf⊢;rw[KU (by omega) hf];simp;omega
   ·have h0:wd W a=0:=by have:=G.c0;omega
    have e:raw W a=⟨0,0,[]⟩:=by unfold raw;rw[Rx hp,h0]
    rw[e]at hf⊢;simp only[FU,Rn]at hf;subst hf;have eu:B3 (CH W a)=true:=by have:=hz.1;simpa [fz,hp] using this
    obtain⟨q,hq⟩:=(HT (A:=A) h0).1 eu;rw[hq];simp[h0]
  rw[B4,this,ih];rfl
theorem Kq {W:List Int}{A:List Nat}:∀{r:List Nat},(∀a∈r,EO W a)->r.all (fz W)=false->B4 W A r=none
 | [],_,h=>by simp at h
 | a::r,hg,h=>by
  rw[B4];by_cases hz:fz W a=true
  ·have ih:=Kq (A:=A) (λb hb=>hg b (by simp[hb])) (r:=r) (by simpa [hz] using h);rw[ih];cases IN W A a<;>rfl
  ·have G:=hg a (by simp);have hp:¬ 0<wd W a:=λhp=>hz (by simp[fz,hp]);have eu:B3 (CH W a)=false:=by simpa [fz,hp] using hz
   have:=(HT (A:=A) (show wd W a=0 by have:=G.c0;omega)).2 eu;rw[IN,this];rfl
theorem JO {W:List Int}{A:List Nat}{ct:Nat->Int}{ok:Int->Prop}(T2 :∀i:Nat,ok (1000+(i:Int))->ct i≠0)(Up :∀w:Int,ok w->w<1000->EX w=true):∀{r:List Nat},(∀a∈r,EO W a)->∀{C:List Cell},B4 W A r=some C->(∀c∈C,c.count≠0->∀v∈c.fields,ok v)->Ep A ct (r.map (raw W))=some C
 | [],_,C,h,_=>by cases h;rfl
 | a::r,hg,C,h,hC=>by
  rw[B4]at h;obtain⟨c,hc,h⟩:=R3.1 h;obtain⟨C',h1,rfl⟩:=A1.1 h;have ih:=JO T2 Up (λb hb=>hg b (by simp[hb])) h1 λc hc=>hC c (by simp[hc]);obtain⟨fs,hf,rfl⟩:=A1.1 hc;have G:=hg a (by simp);rw[R9,Ep,fixC,ih];by_cases hp:0<wd W a
  ·have e:raw W a=⟨wd W a,Int.tdiv (wd W (a+1)) 4,CH W a⟩:=by unfold raw;rw[Ry hp]
   have h0:wd W a≠0:=by omega
   have hv:=hC _ (Sn ..);rw[Rx h0]at hv⊢;rw[e,KZ T2 Up hf (hv h0)];rfl
  ·have h0:wd W a=0:=by have:=G.c0;omega
   have e:raw W a=⟨0,0,[]⟩:=by unfold raw;rw[Rx hp,h0]
   rw[Ry h0,e];rfl
theorem E5 {W:List Int}{A:List Nat}:∀{r:List Nat} {C:List Cell},B4 W A r=some C->C.length=r.length/\∀(i a:Nat),r[i]?=some a->∃c:Cell,C[i]?=some c/\c.count=wd W a/\c.fields.length<=(CH W a).length/\(wd W a=0->c=⟨0,0,[]⟩)
 | [],C,h=>by cases h;exact⟨rfl,by simp⟩
 | a::r,C,h=>by
  rw[B4]at h;obtain⟨c,hc,h⟩:=R3.1 h;obtain⟨C',h1,rfl⟩:=A1.1 h;obtain⟨g1,g2⟩:=E5 h1;obtain⟨fs,hf,rfl⟩:=A1.1 hc;refine⟨by simp[g1],λi b hb=>?_⟩;cases i with
  | zero=>
   simp only[R2,Rn]at hb;subst hb;refine⟨_,rfl,?_⟩;have:=HM hf;by_cases h0:wd W a=0
   ·rw[Ry h0];exact⟨h0.symm,by simp,λ_=>rfl⟩
   ·rw[Rx h0];exact⟨rfl,by simp[this],λh=>absurd h h0⟩
  | succ i=>simpa using g2 i b (by simpa using hb)
end RC
