import Derived.Test.YtfkncfjpobjbjaaGAbsZQToAbsZW
set_option linter.all false
namespace RC
open Go
theorem Ao {n:Int}(h1:-9223372036854775808<=n)(h2:n<=9223372036854775807):Sh.w n=n:=Abs.wrap_i64 h1 h2
theorem AT {α:Type}(l:List α):Sh.len l=(l.length:Int):=rfl
theorem I6 {α:Type}(l:List α)(i:Nat):Sh.get l (i:Int)=l[i]?:=by
 unfold Sh.get;rw[Ry (Int.natCast_nonneg i)];simp
theorem As {α:Type}{l:List α}{i:Nat}{x:α}(h:l[i]?=some x):Sh.get l (i:Int)=some x:=by rw[I6,h]
theorem MB {α:Type}{l:List α}{j:Int}(h0:0<=j)(h1:j<l.length):∃x,Sh.get l j=some x/\l[j.toNat]?=some x:=by
 have h:l[j.toNat]?=some (l[j.toNat]'(by omega)):=Rp (by omega);exact⟨_,by unfold Sh.get;rw[Ry h0,h],h⟩
theorem OT {α:Type}{l:List α}{j:Int}(h0:0<=j):Sh.get l j=l[j.toNat]?:=by unfold Sh.get;rw[Ry h0]
theorem En {α:Type}(l:List α)(i:Nat)(x:α):Sh.put l (i:Int) x=l.set i x:=by simp[Sh.put]
theorem Lk {α:Type}(x:α)(n b:Nat)(h:n*b<=281474976710656)(h2:n<=9223372036854775807):Sh.mk x (n:Int) b=some (List.replicate n x):=by
 unfold Sh.mk;rw[Ry ⟨by omega,by rw[<- Int.natCast_mul];omega,by omega⟩];simp
theorem De {α:Type}(l m:List α)(b:Nat)(h:(l.length+m.length)*b<=140737488355328)(h2:l.length+m.length<=9223372036854775807):Sh.app l m b=some (l++m):=by
 unfold Sh.app;rw[Ry ⟨h,h2⟩]
theorem QU {α:Type}{l:List α}{j:Nat}(h:j<=l.length):Sh.hi l (j:Int)=some (l.take j):=by
 unfold Sh.hi;rw[Ry ⟨by omega,by omega⟩];simp
theorem Bv (len:Nat)(P:Nat->Nat->Prop)(h0 :∀n,P (n+1) len)(hs :∀n i,i<len->P n (i+1)->P (n+1) i):∀{N i:Nat},i<=len->len-i<N->P N i:=by
 intro N i hi hN;obtain⟨k,hk⟩ :∃k,len-i=k:=⟨_,rfl⟩
 induction k generalizing N i with
 | zero=>
  obtain⟨n,rfl⟩ :∃n,N=n+1:=⟨N-1,by omega⟩
  have:i=len:=by omega
  subst this;exact h0 n
 | succ k ih=>
  obtain⟨n,rfl⟩ :∃n,N=n+1:=⟨N-1,by omega⟩
  exact hs n i (by omega) (ih (by omega) (by omega) (by omega))
theorem BN {α:Type}{l:List α}{i:Nat}(h:i<l.length):∃x,l[i]?=some x/\x∈l:=⟨l[i],Rp h,S3 h⟩
theorem Fg {α:Type}{l:List α}{j:Nat}{x:α}(h:l[j]?=some x):l.take (j+1)=l.take j++[x]:=by rw[List.take_add_one,h];rfl
theorem drop_cons {α:Type}{l:List α}{j:Nat}{x:α}(h:l[j]?=some x):l.drop j=x::l.drop (j+1):=by
 obtain⟨hj,rfl⟩:=Rm.1 h;exact List.drop_eq_getElem_cons hj
def Dk (h:List Cell):Nat:=(h.map λc=>c.fields.length).sum
def Bq (h:List Cell):Nat:=h.length+Dk h
structure Hp (h:List Cell):Prop where
 size:Bq h<=1048576
 cells :∀c∈h,FY c
theorem OA {h:List Cell}{c:Cell}(hc:c∈h):c.fields.length<=Dk h:=by
 induction h with
 | nil=>cases hc
 | cons d h ih=>
  simp only[Dk,R9,Tp]at ih⊢;rcases SA.1 hc with rfl|hc
  ·omega
  ·have:=ih hc;omega
theorem Hp.len {h:List Cell}(H:Hp h):h.length<=1048576:=by have:=H.size;unfold Bq at this;omega
theorem Hp.GR {h:List Cell}(H:Hp h){c:Cell}(hc:c∈h):c.fields.length<=1048576:=by have:=H.size;have:=OA hc;unfold Bq at *;omega
theorem Fh (a b:List Cell):Dk (a++b)=Dk a+Dk b:=by simp[Dk]
theorem J8 (h:List Cell)(i:Nat):Dk (h.take i)<=Dk h:=by
 have:=Fh (h.take i) (h.drop i);rw[List.take_append_drop]at this;omega
theorem Gx (h:List Cell)(i:Nat):Dk (h.drop i)<=Dk h:=by
 have:=Fh (h.take i) (h.drop i);rw[List.take_append_drop]at this;omega
end RC
namespace RC
open Go
theorem JH {l:List Int}{left:Int}(h0:0<=left)(h1:left<=1048576)(hl:l.length<=9223372036854775807):DI l left=some (if left-l.length<0 then -1 else left-l.length):=by
 unfold DI;rw[AT,Ao (by omega) (by omega)];by_cases h:left-l.length<0<;>simp[h]
theorem Jx {l:List Int}(hl:l.length<=1048576){N i:Nat}(hi:i<=l.length)(hN:l.length-i<N):∀m:List Int,m.length=l.length->m.take i=l.take i->Bc l N i m=some l:=by
 refine Bv l.length (λN i=>∀m:List Int,m.length=l.length->m.take i=l.take i->Bc l N i m=some l) ?_ ?_ hi hN
 ·intro n m hm ht;rw[Bc,Rx (by simp[AT])];rw[List.take_of_length_le (by omega),TB]at ht;rw[ht]
 ·intro n i hi ih m hm ht;obtain⟨x,hx,_⟩:=BN hi;obtain⟨y,hy,_⟩:=BN (l:=m) (i:=i) (by omega);rw[Bc,Ry (by simp[AT];omega),As hx];simp only[Rl];rw[As hy];simp only[Rl];rw[Ao (by omega) (by omega),En,show ((i:Int)+1)=((i+1:Nat):Int) by omega];refine ih _ (by simp[hm]) ?_;rw[Fg hx,Fg (x:=x) (by rw[Tk];simp;omega),List.take_set_of_le (Rz _),ht]
theorem JU {l:List Int}(hl:l.length<=1048576){N:Nat}(hN:2000000<=N):DJ N l=some l:=by
 unfold DJ;rw[AT,Lk 0 l.length 8 (by omega) (by omega)];simp only[Rl];have:=Jx hl (R5 _) (by omega:l.length-0<N) (List.replicate l.length 0) (by simp) (by simp);rw[UI]at this;rw[this];rfl
theorem Jy {l:List Int}(hl:l.length<=1048576){N i:Nat}(hi:i<=l.length)(hN:l.length-i<N):Bf l l N i=some (Sum.inr ()):=by
 refine Bv l.length (λN i=>Bf l l N i=some (Sum.inr ())) ?_ ?_ hi hN
 ·intro n;rw[Bf,Rx (by simp[AT])]
 ·intro n i hi ih;obtain⟨x,hx,_⟩:=BN hi;rw[Bf,Ry (by simp[AT];omega),As hx];simp only[Rl];rw[Ao (by omega) (by omega),show ((i:Int)+1)=((i+1:Nat):Int) by omega];simpa using ih
theorem Jd {l:List Int}(hl:l.length<=1048576){N:Nat}(hN:2000000<=N):DL N l l=some true:=by
 unfold DL;have:=Jy hl (R5 _) (by omega:l.length-0<N);rw[UI]at this;simp[this]
end RC
namespace RC
open Go
def Ca (h:List Cell)(w:Int):Bool:=decide (1000<=w)&&(match h[(w-1000).toNat]? with|some c=>decide (0<c.count)|none=>false)
def EX (w:Int):Bool:=decide (-999<=w)&&decide (w<=999)
def CW (h:List Cell)(w:Int):Bool:=Ca h w || EX w
theorem Ji {h:List Cell}{w:Int}{c:Cell}(h1:1000<=w)(hc:h[(w-1000).toNat]?=some c):Ca h w=decide (0<c.count):=by simp[Ca,h1,hc]
theorem Jh {h:List Cell}{w:Int}(h2:¬ w-1000<h.length):Ca h w=false:=by
 unfold Ca;rw[SE (by omega)];simp
theorem HG {h:List Cell}{w:Int}(h1:¬ 1000<=w):Ca h w=false:=by simp[Ca,h1]
theorem Ck {h:List Cell}{w:Int}(hl:Ca h w=true):∃(i:Nat) (c:Cell),w=1000+(i:Int)/\(w-1000).toNat=i/\i<h.length/\h[i]?=some c/\0<c.count:=by
 unfold Ca at hl;simp only[SL,SF]at hl;obtain⟨h1,h2⟩:=hl;split at h2
 ·rename_i c hc;exact⟨(w-1000).toNat,c,by omega,rfl,(Rm.1 hc).1,hc,by simpa using h2⟩
 ·cases h2
theorem F9 (a b c:Int):CC a b c=some (decide (b<=a)&&decide (a<=c)):=by
 unfold CC;by_cases h:b<=a<;>simp[h]
theorem JZ {h:List Cell}{w:Int}(hl:h.length<=1048576)(hw:Bl w):DO h w=some (Ca h w):=by
 obtain⟨w1,w2⟩:=hw;unfold DO Bo;rw[F9,AT,Ao (n:=(h.length:Int)-1) (by omega) (by omega)];by_cases h1:-9223372036854775808<=w-1000
 ·rw[Ao h1 (by omega)];by_cases h2:1000<=w
  ·by_cases h3:w-1000<h.length
   ·obtain⟨c,hc,hc2⟩:=MB (l:=h) (j:=w-1000) (by omega) h3;have e:(decide (0<=w-1000)&&decide (w-1000<=(h.length:Int)-1))=true:=by
     simp;omega
    simp only[Rl,e,h2,hc,T1,Sm,Ji h2 hc2]
   ·have e:(decide (0<=w-1000)&&decide (w-1000<=(h.length:Int)-1))=false:=by
     simp;omega
    simp only[Rl,e,Jh h3];simp
  ·have e:(decide (0<=w-1000)&&decide (w-1000<=(h.length:Int)-1))=false:=by
    simp;omega
   simp only[Rl,e,HG h2];simp
 ·have e0:Sh.w (w-1000)=w-1000+18446744073709551616:=Abs.Ko (by omega) (by omega);have e:(decide (0<=Sh.w (w-1000))&&decide (Sh.w (w-1000)<=(h.length:Int)-1))=false:=by
   rw[e0];simp;omega
  simp only[Rl,e,HG (h:=h) (w:=w) (by omega)];simp
theorem NJ {h:List Cell}{w:Int}(hl:h.length<=1048576)(hw:Bl w):Dz h w=some (CW h w):=by
 unfold Dz;rw[F9,JZ hl hw];unfold CW EX;by_cases h1:-999<=w<;>by_cases h2:w<=999<;>simp[h1,h2]
theorem HU {h:List Cell}{w:Int}(hl:h.length<=1048576)(hw:Bl w):Cp h w=some (Sh.w (w-1000),Ca h w):=by
 obtain⟨w1,w2⟩:=hw;unfold Cp;by_cases h2:1000<=w
 ·rw[Ao (n:=w-1000) (by omega) (by omega),AT];by_cases h3:w-1000<h.length
  ·obtain⟨c,hc,hc2⟩:=MB (l:=h) (j:=w-1000) (by omega) h3;simp[h2,h3,hc,Ji h2 hc2]
  ·simp[h2,h3,Jh h3]
 ·simp[h2,HG h2]
theorem KQ (w:Int):Di w=some (EX w):=by
 unfold Di EX;by_cases h:-999<=w<;>simp[h]
theorem J1 {h:List Cell}{w:Int}(hl:h.length<=1048576)(hw:Bl w):Cv h w=some (CW h w):=by
 unfold Cv CW;rw[HU hl hw,KQ];cases h1:Ca h w<;>simp[h1]
def B3 (l:List Int):Bool:=l.all λw=>decide (w=0)
def Ei (h:List Cell)(c:Cell):Bool:=
 !(decide (c.count < -1) || decide (c.tag<0) || decide (99<c.tag) || decide (3<(c.fields.length:Int))) &&
 !((decide (c.count<1)&&!decide (c.tag=0)) || (decide (c.count=0)&&decide (0<(c.fields.length:Int)))) &&
 c.fields.all λw=>CW h w&&!(decide (c.count<0)&&!decide (w=0))
def El (h:List Cell)(c:Cell):Bool:=
 !(decide (3<(c.fields.length:Int)) || !(decide (-1<=c.count)&&decide (c.count<=999999))) &&
 if c.count<1 then decide (c.tag=0)&&B3 c.fields&&(decide (c.count<0) || decide ((c.fields.length:Int)=0)) else (c.fields.all λw=>CW h w)&&(decide (0<=c.tag)&&decide (c.tag<=99))
theorem Ec {α:Type}{p:α->Bool}{l:List α}{i:Nat}{x:α}(h:l[i]?=some x):(l.drop i).all p=(p x&&(l.drop (i+1)).all p):=by rw[drop_cons h];rfl
theorem Jl {l:List Int}(hl:l.length<=1048576){N i:Nat}(hi:i<=l.length)(hN:l.length-i<N):BX l N i=some (if B3 (l.drop i) then Sum.inr () else Sum.inl false):=by
 refine Bv l.length (λN i=>BX l N i=some (if B3 (l.drop i) then Sum.inr () else Sum.inl false)) ?_ ?_ hi hN
 ·intro n;rw[BX,Rx (by simp[AT])];simp[B3]
 ·intro n i hi ih;obtain⟨x,hx,_⟩:=BN hi;rw[BX,Ry (by simp[AT];omega),As hx];simp only[Rl];rw[Ao (by omega) (by omega),show ((i:Int)+1)=((i+1:Nat):Int) from rfl,ih];unfold B3;rw[Ec hx];by_cases h:x=0<;>simp[h]
theorem L9 {l:List Int}(hl:l.length<=1048576){N:Nat}(hN:2000000<=N):DT N l=some (B3 l):=by
 unfold DT;have:=Jl hl (R5 _) (by omega:l.length-0<N);rw[UI,SH]at this;rw[this];cases B3 l<;>simp
theorem H7 {h:List Cell}{c:Cell}(hl:h.length<=1048576)(hf:c.fields.length<=1048576)(hF :∀x∈c.fields,Bl x){N i:Nat}(hi:i<=c.fields.length)(hN:c.fields.length-i<N):
  A8 h c N i=some (if (c.fields.drop i).all (λw=>CW h w) then Sum.inr () else Sum.inl false):=by
 refine Bv c.fields.length (λN i=>A8 h c N i=some (if (c.fields.drop i).all (λw=>CW h w) then Sum.inr () else Sum.inl false)) ?_ ?_ hi hN
 ·intro n;rw[A8,Rx (by simp[AT])];simp
 ·intro n i hi ih;obtain⟨x,hx,WT⟩:=BN hi;rw[A8,Ry (by simp[AT];omega),As hx];simp only[Rl];rw[NJ hl (hF x WT)];simp only[Rl];rw[Ao (by omega) (by omega),show ((i:Int)+1)=((i+1:Nat):Int) from rfl,ih,Ec hx];cases CW h x<;>simp
theorem J0 {h:List Cell}{c:Cell}(hl:h.length<=1048576)(hf:c.fields.length<=1048576)(hF :∀x∈c.fields,Bl x){N:Nat}(hN:2000000<=N):Cy N h c=some (El h c):=by
 unfold Cy El;simp only[F9,AT,L9 hf hN];by_cases h1:3<(c.fields.length:Int)
 ·simp[h1]
 ·by_cases h2:-1<=c.count
  ·by_cases h3:c.count<=999999
   ·by_cases h4:c.count<1
    ·by_cases h5:c.tag=0
     ·cases h6:B3 c.fields
      ·simp[h1,h2,h3,h4,h5]
      ·by_cases h7:c.count<0<;>simp[h1,h2,h3,h4,h5,h7]
     ·simp[h1,h2,h3,h4,h5]
    ·have:=H7 hl hf hF (R5 _) (by omega:c.fields.length-0<N);rw[UI,SH]at this;simp only[h1,h2,h3,h4,this];cases c.fields.all (λw=>CW h w)<;>simp
   ·simp[h1,h2,h3]
  ·simp[h1,h2]
def Lc (h:List Cell)(c:Cell)(w:Int):Bool:=CW h w&&!(decide (c.count<0)&&!decide (w=0))
theorem H0 {h:List Cell}{c:Cell}(hl:h.length<=1048576)(hf:c.fields.length<=1048576)(hF :∀x∈c.fields,Bl x){N i:Nat}(hi:i<=c.fields.length)(hN:c.fields.length-i<N):
  BD h c N i=some (if (c.fields.drop i).all (Lc h c) then Sum.inr () else Sum.inl false):=by
 refine Bv c.fields.length (λN i=>BD h c N i=some (if (c.fields.drop i).all (Lc h c) then Sum.inr () else Sum.inl false)) ?_ ?_ hi hN
 ·intro n;rw[BD,Rx (by simp[AT])];simp
 ·intro n i hi ih;obtain⟨x,hx,WT⟩:=BN hi;rw[BD,Ry (by simp[AT];omega),As hx];simp only[Rl];rw[J1 hl (hF x WT)];simp only[Rl];rw[Ao (by omega) (by omega),show ((i:Int)+1)=((i+1:Nat):Int) from rfl,ih,Ec hx];unfold Lc;cases CW h x
  ·simp
  ·by_cases h1:c.count<0<;>by_cases h2:x=0<;>simp[h1,h2]
theorem KD {h:List Cell}{c:Cell}(hl:h.length<=1048576)(hf:c.fields.length<=1048576)(hF :∀x∈c.fields,Bl x){N:Nat}(hN:2000000<=N):Cz N h c=some (Ei h c):=by
 have hc:Ei h c=(!(decide (c.count < -1) || decide (c.tag<0) || decide (99<c.tag) || decide (3<(c.fields.length:Int))) &&
   !((decide (c.count<1)&&!decide (c.tag=0)) || (decide (c.count=0)&&decide (0<(c.fields.length:Int))))&&c.fields.all (Lc h c)):=rfl
 rw[hc];unfold Cz;have:=H0 hl hf hF (R5 _) (by omega:c.fields.length-0<N);rw[UI,SH]at this;simp only[AT,this];have key:∀b:Bool,Sh.cont (some (if b=true then (Sum.inr ():Bool ⊕ Unit) else Sum.inl false)) id (λ_=>some true)=some b:=λb=>by cases b<;>rfl
 by_cases h1:c.count < -1
 ·simp[h1]
 ·by_cases h2:c.tag<0
  ·simp[h1,h2]
  ·by_cases h3:99<c.tag
   ·simp[h1,h2,h3]
   ·by_cases h4:3<(c.fields.length:Int)
    ·simp[h1,h2,h3,h4]
    ·by_cases h5:c.count<1
     ·by_cases h6:c.tag=0
      ·by_cases h7:c.count=0
       ·by_cases h8:0<(c.fields.length:Int)
        ·have bZ:0<c.fields.length:=by omega
         simp[h2,h3,h4,h5,h6,h7,bZ]
        ·simp only[h1,h2,h3,h4,h5,h6,h7,h8,key];simp
       ·simp only[h1,h2,h3,h4,h5,h6,h7,key];simp
      ·simp[h1,h2,h3,h4,h5,h6]
     ·have h7:¬ c.count=0:=by omega
      simp only[h1,h2,h3,h4,h5,h7,key];simp
theorem Km (h:List Cell)(c:Cell):El h c=(Ei h c&&decide (c.count<=999999)):=by
 unfold El Ei;by_cases h4:3<(c.fields.length:Int)
 ·simp[h4]
 ·by_cases hm:c.count<=999999
  ·by_cases XW:-1<=c.count
   ·have YS:¬ c.count < -1:=by omega
    by_cases h5:c.count<1
    ·by_cases h6:c.tag=0
     ·by_cases h7:c.count=0
      ·by_cases h8:0<(c.fields.length:Int)
       ·have h9:¬ (c.fields.length:Int)=0:=by omega
        have bZ:0<c.fields.length:=by omega
        have ec:¬ c.fields=[]:=λe=>by rw[e]at bZ;simp at bZ
        simp[h4,h6,h7,bZ,ec]
       ·have h9:c.fields=[]:=SK (by omega);simp[hm,h7,h6,h9,B3]
      ·have h8:c.count<0:=by omega
       simp only[h4,hm,XW,YS,h5,h6,h7,h8,B3];simp only[T1,decide_false,Bool.not_false,Bool.and_true,TO,Bool.or_false,Bool.or_true,Bool.and_self,S0,Sm,Bool.false_and,Bool.or_self,Bool.true_or];have e:∀l:List Int,(l.all λw=>decide (w=0))=l.all λw=>CW h w&&!(!decide (w=0)):=λl=>by
        congr 1;funext w;by_cases h0:w=0
        ·subst h0;have:CW h 0=true:=by simp[CW,EX]
         simp[this]
        ·simp[h0]
       rw[e];simp
     ·have ir:decide (c.tag=0)=false:=by simpa using h6
      simp[h4,hm,XW,YS,h5,ir]
    ·have h7:¬ c.count=0:=by omega
     have h8:¬ c.count<0:=by omega
     by_cases h9:c.tag<0
     ·have:¬ 0<=c.tag:=by omega
      simp[h4,hm,XW,YS,h5,h7,h8,h9,this]
     ·have ec:0<=c.tag:=by omega
      by_cases h10:99<c.tag
      ·have:¬ c.tag<=99:=by omega
       simp[h4,hm,XW,YS,h5,h7,h8,h9,h10,this]
      ·have:c.tag<=99:=by omega
       simp[h4,hm,XW,YS,h5,h7,h8,h9,ec,h10,this]
   ·have:c.count < -1:=by omega
    simp[h4,XW,this]
  ·simp[hm]
end RC
namespace RC
open Go
def rowOf {α:Type}(n:Nat)(f:Nat->α):List α:=(List.range n).map f
theorem D6 {α:Type}{n:Nat}{f:Nat->α}:(rowOf n f).length=n:=by simp[rowOf]
theorem CF {α:Type}{n:Nat}{f:Nat->α}{j:Nat}(h:j<n):(rowOf n f)[j]?=some (f j):=by simp[rowOf,h]
theorem Bj {α:Type}{n:Nat}{f g:Nat->α}(h :∀j,j<n->f j=g j):rowOf n f=rowOf n g:=R4 λj hj=>h j (TX.1 hj)
theorem Fc {α:Type}{n:Nat}{f:Nat->α}{j:Nat}{v:α}:(rowOf n f).set j v=rowOf n (λk=>if k=j then v else f k):=by
 apply TV;intro k;rw[Tk];by_cases hk:k<n
 ·rw[CF hk,CF hk,D6];by_cases e:j=k
  ·subst e;simp[hk]
  ·have e':¬ k=j:=λh=>e h.symm;simp[e,e']
 ·rw[SE (by rw[D6];omega),SE (by rw[D6];omega),D6];by_cases e:j=k
  ·subst e;simp[hk]
  ·simp[e]
theorem Fk {α:Type}(n:Nat)(x:α):List.replicate n x=rowOf n (λ_=>x):=by
 apply TV;intro k;by_cases hk:k<n
 ·rw[CF hk];simp[hk]
 ·rw[SE (by simp;omega),SE (by rw[D6];omega)]
def G1 (h:List Cell)(j:Nat)(w:Int):Bool:=Ca h w&&decide ((w-1000).toNat=j)
def CZ (h:List Cell)(ws:List Int)(j:Nat):Nat:=ws.countP (G1 h j)
def CY (h l:List Cell)(j:Nat):Nat:=(l.map λc=>CZ h c.fields j).sum
theorem Hh (h:List Cell)(j:Nat):CZ h [] j=0:=rfl
theorem OS (h:List Cell)(x:Int)(ws:List Int)(j:Nat):CZ h (x::ws) j=(if G1 h j x then 1 else 0)+CZ h ws j:=by
 unfold CZ;rw[List.countP_cons];omega
theorem Dh {h:List Cell}{ws:List Int}{i:Nat}{x:Int}(hx:ws[i]?=some x)(j:Nat):CZ h (ws.drop i) j=(if G1 h j x then 1 else 0)+CZ h (ws.drop (i+1)) j:=by rw[drop_cons hx,OS]
theorem Li (h:List Cell)(ws:List Int)(j:Nat):CZ h ws j<=ws.length:=List.countP_le_length
theorem Gj {h l:List Cell}{i:Nat}{c:Cell}(hc:l[i]?=some c)(j:Nat):CY h (l.drop i) j=CZ h c.fields j+CY h (l.drop (i+1)) j:=by rw[drop_cons hc];simp[CY]
theorem Nj (h l:List Cell)(j:Nat):CY h l j<=Dk l:=by
 induction l with
 | nil=>simp[CY]
 | cons c l ih=>
  have:=Li h c.fields j;simp only[CY,Dk,R9,Tp]at ih⊢;omega
theorem NX {h:List Cell}{j:Nat}{x:Int}(hh:G1 h j x=true):Ca h x=true/\(x-1000).toNat=j:=by
 unfold G1 at hh;simpa using hh
theorem Gv {h:List Cell}{j:Nat}{x:Int}(hl:Ca h x=false):G1 h j x=false:=by simp[G1,hl]
theorem He {h:List Cell}{j:Nat}{x:Int}(hl:Ca h x=true):G1 h j x=decide ((x-1000).toNat=j):=by simp[G1,hl]
theorem L0 {h:List Cell}{c:Cell}{i:Nat}(hc:h[i]?=some c)(hl:h.length<=1048576)(hf:c.fields.length<=1048576)(hF :∀x∈c.fields,Bl x){N k:Nat}(hk:k<=c.fields.length)(hN:c.fields.length-k<N):
  ∀f:Nat->Int,(∀j,0<=f j/\f j<=1048576+k)->Ba i h N k (rowOf h.length f)=some (rowOf h.length λj=>f j+CZ h (c.fields.drop k) j):=by
 refine Bv c.fields.length (λN k=>∀f:Nat->Int,(∀j,0<=f j/\f j<=1048576+k)->Ba i h N k (rowOf h.length f)=some (rowOf h.length λj=>f j+CZ h (c.fields.drop k) j)) ?_ ?_ hk hN
 ·intro n f _;rw[Ba,As hc];simp only[Rl];rw[Rx (by simp[AT])];simp[Hh]
 ·intro n k hk ih f hb;obtain⟨x,hx,WT⟩:=BN hk;rw[Ba,As hc];simp only[Rl];rw[Ry (by simp[AT];omega),As hx];simp only[Rl];rw[JZ hl (hF x WT)];simp only[Rl];rw[Ao (n:=(k:Int)+1) (by omega) (by omega),show ((k:Int)+1)=((k+1:Nat):Int) from rfl];cases hlv:Ca h x
  ·simp only[R1,SX,Rl];rw[ih f (λj=>⟨(hb j).1,by have:=(hb j).2;omega⟩)];congr 1;refine Bj λj _=>?_;rw[Dh hx,Gv hlv];simp
  ·obtain⟨q,c',h1,h2,h3,_⟩:=Ck hlv;have e1:x-1000=(q:Int):=by omega
   simp only[Sm];rw[Ao (n:=x-1000) (by omega) (by omega),e1,As (CF h3)];simp only[Rl];have iu:=hb q;rw[Ao (by omega) (by omega),En,Fc];rw[ih _ (λj=>by
    by_cases e:j=q
    ·simp only[e,Sm];omega
    ·simp only[e,SX];have:=hb j;omega)]
   congr 1;refine Bj λj _=>?_;rw[Dh hx,He hlv,h2];by_cases e:j=q
   ·subst e;simp;omega
   ·have e':¬ q=j:=λh=>e h.symm;simp[e,e']
theorem L6 {h:List Cell}(H:Hp h){M:Nat}(hM:2000000<=M){N i:Nat}(hi:i<=h.length)(hN:h.length-i<N):
  ∀f:Nat->Int,(∀j,0<=f j/\f j+CY h (h.drop i) j<=1048576)->Bb M h N i (rowOf h.length f)=some (rowOf h.length λj=>f j+CY h (h.drop i) j):=by
 have hl:=H.len;refine Bv h.length (λN i=>∀f:Nat->Int,(∀j,0<=f j/\f j+CY h (h.drop i) j<=1048576)->Bb M h N i (rowOf h.length f)=some (rowOf h.length λj=>f j+CY h (h.drop i) j)) ?_ ?_ hi hN
 ·intro n f _;rw[Bb,Rx (by simp[AT])];simp[CY]
 ·intro n i hi ih f hb;obtain⟨c,hc,U2⟩:=BN hi;have Vz:=H.GR U2;have:=L0 hc hl Vz (H.cells c U2).fields (R5 _) (by omega:c.fields.length-0<M) f (λj=>⟨(hb j).1,by have:=(hb j).2;omega⟩);rw[UI,SH]at this;rw[Bb,Ry (by simp[AT];omega),this];simp only[Rl];rw[Ao (by omega) (by omega),show ((i:Int)+1)=((i+1:Nat):Int) from rfl,ih]
  ·congr 1;refine Bj λj _=>?_;rw[Gj hc];omega
  ·intro j;have:=hb j;rw[Gj hc]at this;omega
def refs (h:List Cell):List Int:=rowOf h.length λj=>(CY h h j:Int)
theorem Mm {h:List Cell}(H:Hp h){N:Nat}(hN:2000000<=N):Du N h=some (refs h):=by
 have hl:=H.len;unfold Du;rw[AT,Lk _ h.length 8 (by omega) (by omega),Fk];simp only[Rl];have:=L6 H hN (R5 _) (by omega:h.length-0<N) (λ_=>0) (λj=>⟨by omega,by
  have h1:=Nj h (h.drop 0) j;have h2:=Gx h 0;have h3:=H.size;unfold Bq at h3;omega⟩)
 rw[UI,SH]at this;rw[this];simp[refs]
theorem ND {h:List Cell}{c:Cell}(hl:h.length<=1048576)(hf:c.fields.length<=1048576)(hF :∀x∈c.fields,Bl x){N k:Nat}(hk:k<=c.fields.length)(hN:c.fields.length-k<N):
  ∀f:Nat->Int,(∀j,0<=f j/\f j<=1048576+k)->Az c h N k (rowOf h.length f)=some (rowOf h.length λj=>f j+CZ h (c.fields.drop k) j):=by
 refine Bv c.fields.length (λN k=>∀f:Nat->Int,(∀j,0<=f j/\f j<=1048576+k)->Az c h N k (rowOf h.length f)=some (rowOf h.length λj=>f j+CZ h (c.fields.drop k) j)) ?_ ?_ hk hN
 ·intro n f _;rw[Az,Rx (by simp[AT])];simp[Hh]
 ·intro n k hk ih f hb;obtain⟨x,hx,WT⟩:=BN hk;rw[Az,Ry (by simp[AT];omega),As hx];simp only[Rl];rw[HU hl (hF x WT)];simp only[Rl];rw[Ao (n:=(k:Int)+1) (by omega) (by omega),show ((k:Int)+1)=((k+1:Nat):Int) from rfl];cases hlv:Ca h x
  ·simp only[R1,SX,Rl];rw[ih f (λj=>⟨(hb j).1,by have:=(hb j).2;omega⟩)];congr 1;refine Bj λj _=>?_;rw[Dh hx,Gv hlv];simp
  ·obtain⟨q,c',h1,h2,h3,_⟩:=Ck hlv;have e1:x-1000=(q:Int):=by omega
   simp only[Sm];rw[Ao (n:=x-1000) (by omega) (by omega),e1,As (CF h3)];simp only[Rl];have iu:=hb q;rw[Ao (by omega) (by omega),En,Fc];rw[ih _ (λj=>by
    by_cases e:j=q
    ·simp only[e,Sm];omega
    ·simp only[e,SX];have:=hb j;omega)]
   congr 1;refine Bj λj _=>?_;rw[Dh hx,He hlv,h2];by_cases e:j=q
   ·subst e;simp;omega
   ·have e':¬ q=j:=λh=>e h.symm;simp[e,e']
theorem NN {h:List Cell}(H:Hp h){M:Nat}(hM:2000000<=M){N i:Nat}(hi:i<=h.length)(hN:h.length-i<N):
  ∀f:Nat->Int,(∀j,0<=f j/\f j+CY h (h.drop i) j<=1048576)->A0 M h N i (rowOf h.length f)=some (if (h.drop i).all (Ei h) then Sum.inr (rowOf h.length λj=>f j+CY h (h.drop i) j) else Sum.inl ([],false)):=by
 have hl:=H.len;refine Bv h.length (λN i=>∀f:Nat->Int,(∀j,0<=f j/\f j+CY h (h.drop i) j<=1048576)->A0 M h N i (rowOf h.length f)=some (if (h.drop i).all (Ei h) then Sum.inr (rowOf h.length λj=>f j+CY h (h.drop i) j) else Sum.inl ([],false))) ?_ ?_ hi hN
 ·intro n f _;rw[A0,Rx (by simp[AT])];simp[CY]
 ·intro n i hi ih f hb;obtain⟨c,hc,U2⟩:=BN hi;have Vz:=H.GR U2;rw[A0,Ry (by simp[AT];omega),As hc];simp only[Rl];rw[KD hl Vz (H.cells c U2).fields hM,Ec hc];simp only[Rl];cases hv:Ei h c
  ·simp
  ·simp only[S0,R1,SX,TO];have:=ND hl Vz (H.cells c U2).fields (R5 _) (by omega:c.fields.length-0<M) f (λj=>⟨(hb j).1,by have:=(hb j).2;omega⟩);rw[UI,SH]at this;rw[this];simp only[Rl];rw[Ao (by omega) (by omega),show ((i:Int)+1)=((i+1:Nat):Int) from rfl,ih]
   ·have e:(rowOf h.length λj=>f j+(CZ h c.fields j:Int)+(CY h (h.drop (i+1)) j:Int))=rowOf h.length λj=>f j+(CY h (h.drop i) j:Int):=Bj λj _=>by rw[Gj hc];omega
    rw[e]
   ·intro j;have:=hb j;rw[Gj hc]at this;omega
def JC (p:Nat->Bool):Nat->Nat->Bool
 | 0,_=>true
 | k+1,i=>p i&&JC p k (i+1)
def F6 (p:Nat->Bool)(n i:Nat):Bool:=JC p (n-i) i
theorem H9 (p:Nat->Bool)(n:Nat):F6 p n n=true:=by simp[F6,JC]
theorem HQ {p:Nat->Bool}{n i:Nat}(h:i<n):F6 p n i=(p i&&F6 p n (i+1)):=by
 unfold F6;obtain⟨k,hk⟩ :∃k,n-i=k+1:=⟨n-i-1,by omega⟩
 rw[hk,show n-(i+1)=k by omega];rfl
theorem Gt {p:Nat->Bool}{n i:Nat}(h:i<=n):F6 p n i=true↔∀j,i<=j->j<n->p j=true:=by
 obtain⟨k,hk⟩ :∃k,n-i=k:=⟨_,rfl⟩
 induction k generalizing i with
 | zero=>
  have:i=n:=by omega
  subst this;rw[H9];simp;intro j h1 h2;omega
 | succ k ih=>
  rw[HQ (by omega),SL,ih (by omega) (by omega)];constructor
  ·rintro⟨h1,h2⟩ j h3 h4;rcases Ti h3 with rfl|h5
   ·exact h1
   ·exact h2 j h5 h4
  ·intro h1;exact⟨h1 i (Rz _) (by omega),λj h2 h3=>h1 j (by omega) h3⟩
def LH (h:List Cell)(j:Nat):Bool:=match h[j]? with|some c=>!(decide (0<c.count)&&decide (c.count<CY h h j))|none=>true
def LS (h:List Cell)(j:Nat):Bool:=match h[j]? with|some c=>!(decide (0<c.count)&&(decide (c.count<CY h h j) || decide (999999<c.count)))|none=>true
theorem Lj {h:List Cell}(hl:h.length<=1048576){N i:Nat}(hi:i<=h.length)(hN:h.length-i<N):BE h (refs h) N i=some (if F6 (LH h) h.length i then Sum.inr () else Sum.inl false):=by
 refine Bv h.length (λN i=>BE h (refs h) N i=some (if F6 (LH h) h.length i then Sum.inr () else Sum.inl false)) ?_ ?_ hi hN
 ·intro n;rw[BE,Rx (by simp[AT]),H9];rfl
 ·intro n i hi ih;obtain⟨c,hc,_⟩:=BN hi;rw[BE,Ry (by simp[AT];omega),As hc];simp only[Rl];rw[As (l:=refs h) (CF hi),Ao (by omega) (by omega),show ((i:Int)+1)=((i+1:Nat):Int) from rfl,ih,HQ hi];unfold LH;rw[hc];by_cases h1:0<c.count<;>by_cases h2:c.count<CY h h i<;>simp[h1,h2]
def CK (l:List Nat):List Int:=List.map (λn:Nat=>(n:Int)) l
def FA (h:List Cell)(i:Nat):List Nat:=(List.range' i (h.length-i)).filter λj=>decide (CY h h j=0)
theorem Mh (h:List Cell):FA h h.length=[]:=by simp[FA]
theorem MY {h:List Cell}{i:Nat}(hi:i<h.length):FA h i=(if CY h h i=0 then [i] else [])++FA h (i+1):=by
 unfold FA;obtain⟨k,hk⟩ :∃k,h.length-i=k+1:=⟨h.length-i-1,by omega⟩
 rw[hk,show h.length-(i+1)=k by omega,List.range'_succ,Ts];by_cases h1:CY h h i=0<;>simp[h1]
theorem NA {h:List Cell}(hl:h.length<=1048576){N i:Nat}(hi:i<=h.length)(hN:h.length-i<N):∀ws:List Nat,ws.length<=i->
  Aw (refs h) h N i (CK ws)=some (if F6 (LS h) h.length i then Sum.inr (CK (ws++FA h i)) else Sum.inl ([],false)):=by
 refine Bv h.length (λN i=>∀ws:List Nat,ws.length<=i->Aw (refs h) h N i (CK ws)=some (if F6 (LS h) h.length i then Sum.inr (CK (ws++FA h i)) else Sum.inl ([],false))) ?_ ?_ hi hN
 ·intro n ws _;rw[Aw,Rx (by simp[AT]),H9,Mh];simp
 ·intro n i hi ih ws hw;obtain⟨c,hc,_⟩:=BN hi;rw[Aw,Ry (by simp[AT];omega),As hc];simp only[Rl];rw[As (l:=refs h) (CF hi),Ao (by omega) (by omega),show ((i:Int)+1)=((i+1:Nat):Int) from rfl,HQ hi,MY hi];simp only[Rl];have T2:LS h i=!(decide (0<c.count)&&(decide (c.count<CY h h i) || decide (999999<c.count))):=by unfold LS;rw[hc]
  rw[T2];by_cases hbad:0<c.count/\(c.count<CY h h i∨999999<c.count)
  ·obtain⟨h1,h2⟩:=hbad;by_cases h3:c.count<CY h h i
   ·simp[h1,h3]
   ·have h4:999999<c.count:=by rcases h2 with h|h;exact absurd h h3;exact h
    simp[h1,h3,h4]
  ·have ba:(decide (0<c.count)&&(decide (c.count<CY h h i) || decide (999999<c.count)))=false:=by
    by_cases h1:0<c.count
    ·have h2:¬ c.count<CY h h i:=λh=>hbad ⟨h1,.inl h⟩;have h3:¬ 999999<c.count:=λh=>hbad ⟨h1,.inr h⟩;simp[h2,h3]
    ·simp[h1]
   rw[ba];have e1:(if decide (0<c.count)=true then (if decide (c.count<(CY h h i:Int))=true then some true else some (decide (999999<c.count))) else some false)=some false:=by
    by_cases h1:0<c.count
    ·have h2:¬ c.count<CY h h i:=λh=>hbad ⟨h1,.inl h⟩;have h3:¬ 999999<c.count:=λh=>hbad ⟨h1,.inr h⟩;simp[h1,h2,h3]
    ·simp[h1]
   rw[e1];simp only[Rl,R1,SX,Bool.not_false,TO];by_cases hz:CY h h i=0
   ·have e2:decide ((CY h h i:Int)=0)=true:=by simpa using hz
    rw[Ry e2,De _ _ _ (by simp[CK];omega) (by simp[CK];omega)];simp only[Rl,Sh.Ee];have:=ih (ws++[i]) (by simp;omega);simp only[CK,Se,R9,S7]at this⊢;rw[this,Ry hz];simp
   ·have e2:decide ((CY h h i:Int)=0)=false:=by simp;omega
    rw[Rx (by rw[e2];simp)];simp only[Sh.Ee];rw[ih ws (by omega),Rx hz];simp
end RC
namespace RC
open Go
def WF (h:List Cell):Prop:=∀c∈h,∀w∈c.fields,CW h w=true
def ch (h:List Cell)(i j:Nat):Prop:=∃c w,h[i]?=some c/\w∈c.fields/\Ca h w=true/\(w-1000).toNat=j
def Ix (h:List Cell):Prop:=∃rk:Nat->Nat,∀i j,ch h i j->rk j<rk i
theorem HD {h:List Cell}{i j:Nat}(hc:ch h i j):i<h.length/\j<h.length:=by
 obtain⟨c,w,h1,_,h3,h4⟩:=hc;obtain⟨q,_,_,h5,h6,_⟩:=Ck h3;exact⟨(Rm.1 h1).1,by omega⟩
theorem Jm {h:List Cell}{i j:Nat}{c:Cell}(hc:h[i]?=some c):0<CZ h c.fields j↔ch h i j:=by
 unfold CZ;rw[List.countP_pos_iff];constructor
 ·rintro⟨w,h1,h2⟩;obtain⟨h3,h4⟩:=NX h2;exact⟨c,w,hc,h1,h3,h4⟩
 ·rintro⟨c',w,h1,h2,h3,h4⟩;rw[hc]at h1;cases h1;exact⟨w,h2,by simp[G1,h3,h4]⟩
def E0 (m:Nat->Bool)(n:Nat):Nat:=(List.range n).countP m
theorem FM (m:Nat->Bool)(n:Nat):E0 m n<=n:=by have:=List.countP_le_length (p:=m) (l:=List.range n);simpa [E0] using this
theorem DB (m:Nat->Bool)(n:Nat):E0 m (n+1)=E0 m n+if m n then 1 else 0:=by
 unfold E0;rw[List.range_succ,List.countP_append];simp[List.countP_cons]
theorem Md {m m':Nat->Bool}{n:Nat}(h :∀j,j<n->m j=m' j):E0 m n=E0 m' n:=by
 induction n with
 | zero=>rfl
 | succ n ih=>rw[DB,DB,ih (λj hj=>h j (by omega)),h n (by omega)]
theorem Kc {m:Nat->Bool}{n i:Nat}(hi:i<n)(hm:m i=false):E0 (λk=>if k=i then true else m k) n=E0 m n+1:=by
 induction n with
 | zero=>omega
 | succ n ih=>
  rw[DB,DB];by_cases e:i=n
  ·subst e;rw[Md (m':=m) (λj hj=>by simp;omega)];simp[hm]
  ·rw[ih (by omega)];have:¬ n=i:=λh=>e h.symm;simp[this];omega
theorem Eu {m:Nat->Bool}{n:Nat}:E0 m n=n↔∀j,j<n->m j=true:=by
 constructor
 ·intro h
  induction n with
  | zero=>intro j hj;omega
  | succ n ih=>
   rw[DB]at h;have hle:=FM m n;have h1:m n=true:=by cases hm:m n<;>simp[hm]at h⊢;omega
   simp[h1]at h;intro j hj;rcases TQ.1 hj with h2|rfl
   ·exact ih h j h2
   ·exact h1
 ·intro h
  induction n with
  | zero=>rfl
  | succ n ih=>rw[DB,ih (λj hj=>h j (by omega)),h n (by omega)];rfl
def LF (m:Nat->Bool)(w:Int):Bool:=!(decide (1000<=w)) || m (w-1000).toNat
theorem IB {n:Nat}{m:Nat->Bool}{l:List Int}(hn:n<=1048576)(hl:l.length<=1048576)(hw :∀w∈l,1000<=w->w-1000<n){N i:Nat}(hi:i<=l.length)(hN:l.length-i<N):
  BF (rowOf n m) l N i=some (if (l.drop i).all (LF m) then Sum.inr () else Sum.inl false):=by
 refine Bv l.length (λN i=>BF (rowOf n m) l N i=some (if (l.drop i).all (LF m) then Sum.inr () else Sum.inl false)) ?_ ?_ hi hN
 ·intro n';rw[BF,Rx (by simp[AT])];simp
 ·intro n' i hi ih;obtain⟨x,hx,WT⟩:=BN hi;rw[BF,Ry (by simp[AT];omega),As hx];simp only[Rl];rw[Ao (n:=(i:Int)+1) (by omega) (by omega),show ((i:Int)+1)=((i+1:Nat):Int) from rfl,ih,Ec hx];unfold Bo LF;simp only[Rl];by_cases h1:1000<=x
  ·have h2:=hw x WT h1;have e1:x-1000=(((x-1000).toNat:Nat):Int):=by omega
   rw[Ao (n:=x-1000) (by omega) (by omega)];have e2:Sh.get (rowOf n m) (x-1000)=some (m (x-1000).toNat):=by rw[OT (by omega),CF (by omega)]
   rw[e2];cases m (x-1000).toNat<;>simp[h1]
  ·simp[h1]
theorem Jz {n:Nat}{m:Nat->Bool}{l:List Int}(hn:n<=1048576)(hl:l.length<=1048576)(hw :∀w∈l,1000<=w->w-1000<n){N:Nat}(hN:2000000<=N):Cw N (rowOf n m) l=some (l.all (LF m)):=by
 unfold Cw;have:=IB (m:=m) hn hl hw (R5 _) (by omega:l.length-0<N);rw[UI,SH]at this;rw[this];cases l.all (LF m)<;>rfl
def J (h:List Cell)(m:Nat->Bool)(many:Nat):Prop:=
 (∃rk:Nat->Nat,(∀j,j<h.length->m j=true->rk j<many)/\∀i j,m i=true->ch h i j->m j=true/\rk j<rk i)/\E0 m h.length=many
theorem J.mark {h:List Cell}{m:Nat->Bool}{many i:Nat}(hJ:J h m many)(hi:i<h.length)(hm:m i=false)(VD :∀j,ch h i j->m j=true):J h (λk=>if k=i then true else m k) (many+1):=by
 obtain⟨⟨rk,h1,h2⟩,h3⟩:=hJ;refine⟨⟨λk=>if k=i then many else rk k,λj hj gM=>?_,λa b gN bc=>?_⟩,by rw[Kc hi hm,h3]⟩
 ·by_cases e:j=i
  ·simp[e]
  ·simp only[e,SX]at gM⊢;have:=h1 j hj gM;omega
 ·have hb:=(HD bc).2;by_cases ea:a=i
  ·subst ea;have XZ:=VD b bc;have eb:¬ b=a:=λe=>by rw[e,hm]at XZ;cases XZ
   simp only[eb,SX,Sm];exact⟨XZ,h1 b hb XZ⟩
  ·simp only[ea,SX]at gN;obtain⟨h4,h5⟩:=h2 a b gN bc;have eb:¬ b=i:=λe=>by rw[e,hm]at h4;cases h4
   simp only[ea,eb,SX];exact⟨h4,h5⟩
def L2 (h:List Cell)(m:Nat->Bool)(i:Nat):Prop:=∀j,ch h i j->m j=true
theorem Ku {h:List Cell}(hw:WF h){m:Nat->Bool}{i:Nat}{c:Cell}(hc:h[i]?=some c):c.fields.all (LF m)=true↔L2 h m i:=by
 rw[Ru];constructor
 ·rintro h1 j ⟨c',w,h2,h3,h4,h5⟩;rw[hc]at h2;cases h2;have:=h1 w h3;obtain⟨q,_,h6,_⟩:=Ck h4;have h7:1000<=w:=by omega
  simp only[LF,h7,T1,S0,Bool.false_or]at this;rw[<- h5];exact this
 ·intro h1 w h2;unfold LF;by_cases h3:1000<=w
  ·have h4:=hw c (Rk hc) w h2;have h5:EX w=false:=by unfold EX;simp;omega
   unfold CW at h4;rw[h5,Bool.or_false]at h4;have:=h1 _ ⟨c,w,hc,h2,h4,rfl⟩;simp[this]
  ·simp[h3]
theorem Qe {h:List Cell}(hw:WF h){c:Cell}(hc:c∈h):∀w∈c.fields,1000<=w->w-1000<(h.length:Int):=λw h2 h3=>by
 have h4:=hw c hc w h2;have h5:EX w=false:=by unfold EX;simp;omega
 unfold CW at h4;rw[h5,Bool.or_false]at h4;obtain⟨q,_,h6,_,h7,_⟩:=Ck h4;omega
theorem OW {h:List Cell}(H:Hp h)(hw:WF h){M:Nat}(hM:2000000<=M){N i:Nat}(hi:i<=h.length)(hN:h.length-i<N):∀(m:Nat->Bool) (many:Nat) (more:Bool),J h m many->
  ∃m' UJ Ul,BH M h N (many:Int) more i (rowOf h.length m)=some (((UJ:Nat):Int),Ul,rowOf h.length m')/\J h m' UJ/\many<=UJ/\
   (Ul=false->more=false/\(∀j,j<h.length->m' j=m j)/\∀j,i<=j->j<h.length->m j=true∨¬ L2 h m j)/\(Ul=true->more=true∨many<UJ):=by
 have hl:=H.len;refine Bv h.length (λN i=>∀(m:Nat->Bool) (many:Nat) (more:Bool),J h m many->
  ∃m' UJ Ul,BH M h N (many:Int) more i (rowOf h.length m)=some (((UJ:Nat):Int),Ul,rowOf h.length m')/\J h m' UJ/\many<=UJ/\
   (Ul=false->more=false/\(∀j,j<h.length->m' j=m j)/\∀j,i<=j->j<h.length->m j=true∨¬ L2 h m j)/\(Ul=true->more=true∨many<UJ)) ?_ ?_ hi hN
 ·intro n m many more hJ;refine⟨m,many,more,?_,hJ,Rz _,λe=>⟨e,λ_ _=>rfl,λj h1 h2=>by omega⟩,λe=>.inl e⟩;rw[BH,Rx (by simp[AT])]
 ·intro n i hi ih m many more hJ;obtain⟨c,hc,U2⟩:=BN hi;have XQ:many<=h.length:=by rw[<- hJ.2];exact FM _ _
  rw[BH,Ry (by simp[AT];omega),As (CF hi)];simp only[Rl];rw[As hc];simp only[Rl];rw[Jz hl (H.GR U2) (Qe hw U2) hM];simp only[Rl];rw[Ao (n:=(i:Int)+1) (by omega) (by omega),show ((i:Int)+1)=((i+1:Nat):Int) from rfl];cases hmi:m i with
  | true=>
   obtain⟨m',UJ,Ul,e1,e2,e3,e4,e5⟩:=ih m many more hJ;refine⟨m',UJ,Ul,by simpa using e1,e2,e3,λe=>?_,e5⟩;obtain⟨f1,f2,f3⟩:=e4 e;refine⟨f1,f2,λj h1 h2=>?_⟩;rcases Ti h1 with rfl|h3
   ·exact .inl hmi
   ·exact f3 j h3 h2
  | false=>
   cases ha:c.fields.all (LF m) with
   | false=>
    obtain⟨m',UJ,Ul,e1,e2,e3,e4,e5⟩:=ih m many more hJ;refine⟨m',UJ,Ul,by simpa using e1,e2,e3,λe=>?_,e5⟩;obtain⟨f1,f2,f3⟩:=e4 e;refine⟨f1,f2,λj h1 h2=>?_⟩;rcases Ti h1 with rfl|h3
    ·refine .inr λh4=>?_;rw[(Ku hw hc).2 h4]at ha;cases ha
    ·exact f3 j h3 h2
   | true=>
    have iw:=hJ.mark hi hmi ((Ku hw hc).1 ha);obtain⟨m',UJ,Ul,e1,e2,e3,e4,e5⟩:=ih _ (many+1) true iw;refine⟨m',UJ,Ul,?_,e2,by omega,λe=>?_,λe=>.inr (by omega)⟩
    ·have ew:Sh.w ((many:Int)+1)=((many+1:Nat):Int):=by rw[Ao (by omega) (by omega)];rfl
     simp only[Bool.not_false,Sm,Rl,ew,En,Fc];exact e1
    ·have:=(e4 e).1;cases this
theorem PJ {h:List Cell}(H:Hp h)(hw:WF h){M:Nat}(hM:2000000<=M):∀(d N:Nat) (m:Nat->Bool) (many:Nat),J h m many->h.length-many=d->d+1<N->
  ∃m' UJ,A9 M h N (many:Int) true (rowOf h.length m)=some ((UJ:Nat):Int)/\J h m' UJ/\∀j,j<h.length->m' j=true∨¬ L2 h m' j:=by
 have hl:=H.len;intro d
 induction d using Nat.strongRecOn with
 | _ d ih=>
  intro N m many hJ hd hN;obtain⟨n,rfl⟩ :∃n,N=n+1:=⟨N-1,by omega⟩
  have XQ:many<=h.length:=by rw[<- hJ.2];exact FM _ _
  obtain⟨m',UJ,Ul,e1,e2,e3,e4,e5⟩:=OW H hw hM (R5 _) (by omega:h.length-0<M) m many false hJ;rw[UI]at e1;have ee:UJ<=h.length:=by rw[<- e2.2];exact FM _ _
  rw[A9,Ry rfl,e1];simp only[Rl];cases Ul with
  | true=>
   have h1:many<UJ:=by rcases e5 rfl with h|h;cases h;exact h
   exact ih (h.length-UJ) (by omega) n m' UJ e2 rfl (by omega)
  | false=>
   obtain⟨_,f2,f3⟩:=e4 rfl;obtain⟨n',rfl⟩ :∃n',n=n'+1:=⟨n-1,by omega⟩
   refine⟨m',UJ,?_,e2,λj hj=>?_⟩
   ·rw[A9,Rx (by simp)]
   ·rcases f3 j (R5 _) hj with h1|h1
    ·left;rw[f2 j hj];exact h1
    ·right;intro h2;exact h1 λq hq=>by rw[<- f2 q (HD hq).2];exact h2 q hq
theorem IE {h:List Cell}{m:Nat->Bool}{many:Nat}(hJ:J h m many)(hc :∀j,j<h.length->m j=true∨¬ L2 h m j):many=h.length↔Ix h:=by
 obtain⟨⟨rk,h1,h2⟩,h3⟩:=hJ;constructor
 ·intro e;have VD:=Eu.1 (h3.trans e);exact⟨rk,λi j Wb=>(h2 i j (VD i (HD Wb).1) Wb).2⟩
 ·rintro⟨Pr,hr⟩;rw[<- h3];refine Eu.2 λj hj=>?_;have key:∀d j,j<h.length->Pr j<d->m j=true:=by
   intro d
   induction d with
   | zero=>intro j _ h4;omega
   | succ d ih=>
    intro j hj T9;rcases hc j hj with h4|h4
    ·exact h4
    ·exact absurd (λq hq=>ih q (HD hq).2 (by have:=hr j q hq;omega)) h4
  exact key (Pr j+1) j hj (by omega)
theorem J2 {h:List Cell}(H:Hp h)(hw:WF h){N:Nat}(hN:2000000<=N):∃b,Cx N h=some b/\(b=true↔Ix h):=by
 have hl:=H.len;unfold Cx;rw[AT,Lk _ h.length 1 (by omega) (by omega),Fk];simp only[Rl];have ix:J h (λ_=>false) 0:=⟨⟨λ_=>0,λ_ _ h=>(by cases h),λ_ _ h=>(by cases h)⟩,by
  have :∀n,E0 (λ_=>false) n=0:=λn=>by induction n with
   | zero=>rfl
   | succ n ih=>rw[DB,ih];rfl
  exact this _⟩
 obtain⟨m',UJ,e1,e2,e3⟩:=PJ H hw hN _ N _ 0 ix rfl (by omega);rw[UI]at e1;rw[e1];simp only[Rl];refine⟨_,rfl,?_⟩;rw[SF,<- IE e2 e3];omega
end RC
namespace RC
open Go
def fl (h:List Cell)(i:Nat):List Int:=match h[i]? with|some c=>c.fields|none=>[]
theorem IJ {h:List Cell}{i:Nat}{c:Cell}(hc:h[i]?=some c):fl h i=c.fields:=by simp[fl,hc]
def EG (h:List Cell)(p:Nat->Bool)(j:Nat):Nat->Nat
 | 0=>0
 | n+1=>EG h p j n+if p n then 0 else CZ h (fl h n) j
def un (h:List Cell)(p:Nat->Bool)(j:Nat):Nat:=EG h p j h.length
theorem Jp {h:List Cell}{p:Nat->Bool}{j n:Nat}:EG h p j n=0↔∀i,i<n->p i=false->CZ h (fl h i) j=0:=by
 induction n with
 | zero=>simp[EG]
 | succ n ih=>
  unfold EG;constructor
  ·intro e i hi hp;rcases TQ.1 hi with h1|rfl
   ·exact ih.1 (by omega) i h1 hp
   ·simp[hp]at e;omega
  ·intro e;rw[ih.2 λi hi=>e i (by omega)];cases hp:p n with
   | true=>simp
   | false=>simp[e n (by omega) hp]
theorem MD {h:List Cell}{p p':Nat->Bool}{j n:Nat}(e :∀i,i<n->p i=p' i):EG h p j n=EG h p' j n:=by
 induction n with
 | zero=>rfl
 | succ n ih=>unfold EG;rw[ih λi hi=>e i (by omega),e n (by omega)]
theorem Ke {h:List Cell}{p:Nat->Bool}{j n x:Nat}(hx:x<n)(hp:p x=false):EG h p j n=EG h (λk=>if k=x then true else p k) j n+CZ h (fl h x) j:=by
 induction n with
 | zero=>omega
 | succ n ih=>
  unfold EG;by_cases e:x=n
  ·subst e;rw[MD (p':=λk=>if k=x then true else p k) (n:=x) (λi hi=>by
    have:¬ i=x:=by omega
    simp[this])]
   simp[hp]
  ·have e':¬ n=x:=λh=>e h.symm;rw[ih (by omega)];simp only[e',SX];omega
theorem Mz (h:List Cell)(j:Nat):∀n,n<=h.length->EG h (λ_=>false) j n=CY h (h.take n) j:=by
 intro n
 induction n with
 | zero=>intro _;simp[EG,CY]
 | succ n ih=>
  intro hn;obtain⟨c,hc,_⟩:=BN (l:=h) (i:=n) (by omega);unfold EG;rw[ih (by omega),Fg hc,IJ hc];simp[CY]
theorem Je (h:List Cell)(j:Nat):un h (λ_=>false) j=CY h h j:=by
 unfold un;rw[Mz h j _ (Rz _),TB]
theorem O5 (h:List Cell)(p:Nat->Bool)(j:Nat):∀n,n<=h.length->EG h p j n<=Dk (h.take n):=by
 intro n
 induction n with
 | zero=>intro _;simp[EG]
 | succ n ih=>
  intro hn;obtain⟨c,hc,_⟩:=BN (l:=h) (i:=n) (by omega);have h1:=ih (by omega);have h2:=Li h c.fields j;unfold EG;rw[Fg hc,Fh,IJ hc];have:Dk [c]=c.fields.length:=by simp[Dk]
  split<;>omega
theorem QT (h:List Cell)(p:Nat->Bool)(j:Nat):un h p j<=Dk h:=by
 have:=O5 h p j h.length (Rz _);rwa [TB]at this
theorem NQ {h:List Cell}{c:Cell}(hl:h.length<=1048576)(hf:c.fields.length<=1048576)(hF :∀x∈c.fields,Bl x){N k:Nat}(hk:k<=c.fields.length)(hN:c.fields.length-k<N):
  ∀(g:Nat->Nat) (ws:List Nat),(∀j,g j<=1048576)->ws.length<=2097152+k->∃ps:List Nat,Ax c h N k (rowOf h.length λj=>((g j+CZ h (c.fields.drop k) j:Nat):Int)) (CK ws)=some (rowOf h.length λj=>((g j:Nat):Int),CK (ws++ps))/\
   ps.Nodup/\ps.length<=c.fields.length-k/\∀j,j∈ps↔g j=0/\0<CZ h (c.fields.drop k) j:=by
 refine Bv c.fields.length (λN k=>∀(g:Nat->Nat) (ws:List Nat),(∀j,g j<=1048576)->ws.length<=2097152+k->∃ps:List Nat,Ax c h N k (rowOf h.length λj=>((g j+CZ h (c.fields.drop k) j:Nat):Int)) (CK ws)=some (rowOf h.length λj=>((g j:Nat):Int),CK (ws++ps))/\
   ps.Nodup/\ps.length<=c.fields.length-k/\∀j,j∈ps↔g j=0/\0<CZ h (c.fields.drop k) j) ?_ ?_ hk hN
 ·intro n g ws _ _;refine⟨[],?_,TZ,by simp,λj=>by simp[Hh]⟩;rw[Ax,Rx (by simp[AT])];simp[Hh]
 ·intro n k hk ih g ws hg gO;obtain⟨x,hx,WT⟩:=BN hk;rw[Ax,Ry (by simp[AT];omega),As hx];simp only[Rl];rw[HU hl (hF x WT)];simp only[Rl];rw[Ao (n:=(k:Int)+1) (by omega) (by omega),show ((k:Int)+1)=((k+1:Nat):Int) from rfl];cases hlv:Ca h x
  ·simp only[R1,SX,Rl];have e:(rowOf h.length λj=>((g j+CZ h (c.fields.drop k) j:Nat):Int))=rowOf h.length λj=>((g j+CZ h (c.fields.drop (k+1)) j:Nat):Int):=Bj λj _=>by
    rw[Dh hx,Gv hlv];simp
   rw[e];obtain⟨ps,h1,h2,h3,h4⟩:=ih g ws hg (by omega);refine⟨ps,h1,h2,by omega,λj=>?_⟩;rw[h4 j,Dh hx,Gv hlv];simp
  ·obtain⟨q,c',h1,h2,h3,_⟩:=Ck hlv;have e1:x-1000=(q:Int):=by omega
   have hq:CZ h (c.fields.drop k) q=1+CZ h (c.fields.drop (k+1)) q:=by rw[Dh hx,He hlv,h2];simp
   have UW:∀j,¬ j=q->CZ h (c.fields.drop k) j=CZ h (c.fields.drop (k+1)) j:=λj e=>by
    have e':¬ q=j:=λh=>e h.symm;rw[Dh hx,He hlv,h2];simp[e']
   have kE:=Li h (c.fields.drop (k+1)) q;have ZY:(c.fields.drop (k+1)).length<=c.fields.length:=by simp
   have kF:=hg q;simp only[Sm];rw[Ao (n:=x-1000) (by omega) (by omega),e1,As (CF h3)];simp only[Rl];rw[Ao (n:=((g q+CZ h (c.fields.drop k) q:Nat):Int)-1) (by omega) (by omega),En,Fc];have er:(rowOf h.length λj=>if j=q then ((g q+CZ h (c.fields.drop k) q:Nat):Int)-1 else ((g j+CZ h (c.fields.drop k) j:Nat):Int))=rowOf h.length λj=>((g j+CZ h (c.fields.drop (k+1)) j:Nat):Int):=Bj λj _=>by
    by_cases e:j=q
    ·subst e;simp only[Sm];omega
    ·simp only[e,SX];rw[UW j e]
   rw[er,As (CF h3)];simp only[Rl];by_cases hz:g q+CZ h (c.fields.drop (k+1)) q=0
   ·have ez:decide (((g q+CZ h (c.fields.drop (k+1)) q:Nat):Int)=0)=true:=by simp;omega
    rw[Ry ez,De _ _ _ (by simp[CK];omega) (by simp[CK];omega)];simp only[Rl];have en:CK ws++[(q:Int)]=CK (ws++[q]):=by simp[CK]
    rw[en];obtain⟨ps,f1,f2,f3,f4⟩:=ih g (ws++[q]) hg (by simp;omega);refine⟨q::ps,by rw[f1];simp,List.nodup_cons.2 ⟨λhm=>?_,f2⟩,by simp;omega,λj=>?_⟩
    ·have:=(f4 q).1 hm;omega
    ·rw[SA,f4 j];by_cases e:j=q
     ·subst e;rw[hq];constructor
      ·intro _;omega
      ·intro _;exact .inl rfl
     ·rw[UW j e];simp[e]
   ·have ez:decide (((g q+CZ h (c.fields.drop (k+1)) q:Nat):Int)=0)=false:=by simp;omega
    rw[Rx (by rw[ez];simp)];simp only[Rl];obtain⟨ps,f1,f2,f3,f4⟩:=ih g ws hg (by omega);refine⟨ps,f1,f2,by omega,λj=>?_⟩;rw[f4 j];by_cases e:j=q
    ·subst e;rw[hq];constructor
     ·rintro⟨a,b⟩;exact⟨a,by omega⟩
     ·rintro⟨a,b⟩;exact⟨a,by omega⟩
    ·rw[UW j e]
structure KI (h:List Cell) (p:Nat->Bool) (ws:List Nat) (many:Nat):Prop where
 nd:ws.Nodup
 mem :∀x∈ws,x<h.length/\p x=false/\un h p x=0
 all :∀j,j<h.length->un h p j=0->p j=true∨j∈ws
 num:E0 p h.length=many
 tm :∃tm:Nat->Nat,(∀j,j<h.length->p j=true->tm j<many)/\∀i j,ch h i j->p j=true->p i=true/\tm i<tm j
theorem Mj {ws:List Nat}{n:Nat}(VF:ws.Nodup)(hm :∀x∈ws,x<n):ws.length<=n:=by
 induction n generalizing ws with
 | zero=>
  cases ws with
  | nil=>simp
  | cons x r=>have:=hm x (by simp);omega
 | succ n ih=>
  by_cases h:n∈ws
  ·have h1:=ih (VF.erase n) λx hx=>by
    obtain⟨h2,h3⟩:=VF.mem_erase_iff.1 hx;have:=hm x h3;omega
   rw[TP h]at h1;omega
  ·have:=ih VF λx hx=>by
    have h1:=hm x hx;have h2:¬ x=n:=λe=>h (e▸hx);omega
   omega
theorem QZ {h:List Cell}{p:Nat->Bool}{j i:Nat}(hu:un h p j=0)(hc:ch h i j):p i=true:=by
 obtain⟨c,w,h1,h2,h3,h4⟩:=hc;cases hp:p i with
 | true=>rfl
 | false=>
  have:=Jp.1 hu i (Rm.1 h1).1 hp;rw[IJ h1]at this;have:=(Jm (j:=j) h1).2 ⟨c,w,h1,h2,h3,h4⟩;omega
theorem KI.step {h:List Cell}{p:Nat->Bool}{ws ps:List Nat}{many x:Nat}{c:Cell}(hK:KI h p (ws++[x]) many)(hc:h[x]?=some c)(iy:ps.Nodup)
  (WK :∀j,j∈ps↔un h (λk=>if k=x then true else p k) j=0/\0<CZ h c.fields j):KI h (λk=>if k=x then true else p k) (ws++ps) (many+1):=by
 obtain⟨Xf,hx2,hx3⟩:=hK.mem x (by simp);obtain⟨tm,t1,t2⟩:=hK.tm;have V0:∀j,un h p j=un h (λk=>if k=x then true else p k) j+CZ h c.fields j:=λj=>by
  have:=Ke (h:=h) (j:=j) Xf hx2;rwa [IJ hc]at this
 have VF:=hK.nd;rw[TY]at VF;obtain⟨ef,_,hnd3⟩:=VF;have YT:∀j∈ps,j<h.length/\¬ j=x/\p j=false/\0<un h p j:=λj hj=>by
  obtain⟨h1,h2⟩:=(WK j).1 hj;have YX:=(Jm hc).1 h2;have Ue:0<un h p j:=by have:=V0 j;omega
  have Xy:¬ j=x:=λe=>by subst e;omega
  refine⟨(HD YX).2,Xy,?_,Ue⟩;cases hp:p j with
  | false=>rfl
  | true=>have:=(t2 x j YX hp).1;rw[hx2]at this;cases this
 refine⟨?_,λy hy=>?_,λj hj hu=>?_,by rw[Kc Xf hx2,hK.num],⟨λk=>if k=x then many else tm k,λj hj hp=>?_,λi j Wb hp=>?_⟩⟩
 ·rw[TY];refine⟨ef,iy,λa ha b hb e=>?_⟩;subst e;have h1:=(hK.mem a (by simp[ha])).2.2;have h2:=(YT a hb).2.2.2;omega
 ·rcases SI.1 hy with hy|hy
  ·obtain⟨h1,h2,h3⟩:=hK.mem y (by simp[hy]);have iz:¬ y=x:=λe=>hnd3 y hy x (by simp) e;have:=V0 y;exact⟨h1,by simp[iz,h2],by omega⟩
  ·obtain⟨h1,h2,h3,_⟩:=YT y hy;exact⟨h1,by simp[h2,h3],((WK y).1 hy).1⟩
 ·by_cases Xy:j=x
  ·left;simp[Xy]
  ·have hs:=V0 j;rcases Nat.eq_zero_or_pos (CZ h c.fields j) with h0|h0
   ·rcases hK.all j hj (by omega) with h1|h1
    ·left;simp[Xy,h1]
    ·right;rcases SI.1 h1 with h2|h2
     ·exact SI.2 (.inl h2)
     ·simp at h2;exact absurd h2 Xy
   ·right;exact SI.2 (.inr ((WK j).2 ⟨hu,h0⟩))
 ·by_cases Xy:j=x
  ·simp[Xy]
  ·simp only[Xy,SX]at hp⊢;have:=t1 j hj hp;omega
 ·by_cases Xy:j=x
  ·subst Xy;have ZQ:=QZ hx3 Wb;have eg:¬ i=j:=λe=>by subst e;rw[hx2]at ZQ;cases ZQ
   simp only[eg,SX,Sm];exact⟨ZQ,t1 i (HD Wb).1 ZQ⟩
  ·simp only[Xy,SX]at hp;obtain⟨h1,h2⟩:=t2 i j Wb hp;have eg:¬ i=x:=λe=>by subst e;rw[hx2]at h1;cases h1
   simp only[eg,Xy,SX];exact⟨h1,h2⟩
theorem NZ {h:List Cell}(H:Hp h){M:Nat}(hM:2000000<=M):∀(d N:Nat) (p:Nat->Bool) (ws:List Nat) (many:Nat),KI h p ws many->h.length-many=d->d<N->
  ∃p' UJ,Ay M h N (many:Int) (rowOf h.length λj=>((un h p j:Nat):Int)) (CK ws)=some ((UJ:Nat):Int)/\KI h p' [] UJ:=by
 have hl:=H.len;intro d
 induction d with
 | zero=>
  intro N p ws many hK hd hN;obtain⟨n,rfl⟩ :∃n,N=n+1:=⟨N-1,by omega⟩
  have XQ:many=h.length:=by have:=FM p h.length;have:=hK.num;omega
  have gO:ws=[]:=by
   cases ws with
   | nil=>rfl
   | cons x r=>
    obtain⟨h1,h2,_⟩:=hK.mem x (by simp);have:=Eu.1 (hK.num.trans XQ) x h1;rw[h2]at this;cases this
  subst gO;exact⟨p,many,by rw[Ay,Rx (by simp[AT,CK])],hK⟩
 | succ d ih=>
  intro N p ws many hK hd hN;obtain⟨n,rfl⟩ :∃n,N=n+1:=⟨N-1,by omega⟩
  have XQ:many<=h.length:=by have:=FM p h.length;have:=hK.num;omega
  rcases List.eq_nil_or_concat ws with rfl|⟨ws,x,rfl⟩
  ·exact⟨p,many,by rw[Ay,Rx (by simp[AT,CK])],hK⟩
  ·rw[List.concat_eq_append]at hK⊢;obtain⟨Xf,hx2,hx3⟩:=hK.mem x (by simp);obtain⟨c,hc,U2⟩:=BN Xf;have jA:=Mj hK.nd (λy hy=>(hK.mem y hy).1);rw[SP,Ta]at jA;have eh:Sh.w (Sh.len (CK (ws++[x]))-1)=(ws.length:Int):=by
    rw[AT];have:(CK (ws++[x])).length=ws.length+1:=by simp[CK]
    rw[this,Ao (by omega) (by omega)];omega
   have ek:Sh.get (CK (ws++[x])) (ws.length:Int)=some (x:Int):=by
    rw[I6];simp[CK]
   have jB:Sh.hi (CK (ws++[x])) (ws.length:Int)=some (CK ws):=by
    rw[QU (by simp[CK])];congr 1;simp[CK]
   rw[Ay,Ry (by simp[AT,CK]),eh,ek];simp only[Rl];rw[As hc,jB];simp only[Rl];have X4:∀j,un h p j=un h (λk=>if k=x then true else p k) j+CZ h c.fields j:=λj=>by
    have:=Ke (h:=h) (j:=j) Xf hx2;rwa [IJ hc]at this
   have ZZ:=H.size;obtain⟨ps,f1,f2,f3,f4⟩:=NQ hl (H.GR U2) (H.cells c U2).fields (R5 _) (by have:=H.GR U2;omega:c.fields.length-0<M) (λj=>un h (λk=>if k=x then true else p k) j) ws
    (λj=>by have:=QT h (λk=>if k=x then true else p k) j;unfold Bq at ZZ;omega) (by omega)
   rw[UI,SH]at f1;have er:(rowOf h.length λj=>((un h p j:Nat):Int))=rowOf h.length λj=>((un h (λk=>if k=x then true else p k) j+CZ h c.fields j:Nat):Int):=Bj λj _=>by rw[X4 j]
   rw[er,f1];simp only[Rl];have ew:Sh.w ((many:Int)+1)=((many+1:Nat):Int):=by rw[Ao (by omega) (by omega)];rfl
   rw[ew];have jC:=hK.step hc f2 (by rw[SH]at f4;exact f4);exact ih n _ _ (many+1) jC (by omega) (by omega)
theorem Nz (rk:Nat->Nat)(n:Nat):∃B,∀j,j<n->rk j<=B:=by
 induction n with
 | zero=>exact⟨0,λj hj=>by omega⟩
 | succ n ih=>
  obtain⟨B,hB⟩:=ih;refine⟨max B (rk n),λj hj=>?_⟩;rcases TQ.1 hj with h1|rfl
  ·have:=hB j h1;omega
  ·omega
theorem Hx {h:List Cell}{p:Nat->Bool}{many:Nat}(hK:KI h p [] many):many=h.length↔Ix h:=by
 obtain⟨tm,t1,t2⟩:=hK.tm;constructor
 ·intro e;have VD:=Eu.1 (hK.num.trans e);refine⟨λk=>h.length-tm k,λi j Wb=>?_⟩;obtain⟨hi,hj⟩:=HD Wb;obtain⟨_,h2⟩:=t2 i j Wb (VD j hj);have:=t1 j hj (VD j hj);show h.length-tm j<h.length-tm i;omega
 ·rintro⟨rk,hr⟩;rw[<- hK.num];obtain⟨B,hB⟩:=Nz rk h.length;refine Eu.2 λj hj=>?_;have key:∀d j,j<h.length->B-rk j<d->p j=true:=by
   intro d
   induction d with
   | zero=>intro j _ h4;omega
   | succ d ih=>
    intro j hj T9;cases hp:p j with
    | true=>rfl
    | false=>
     have hu:¬ un h p j=0:=λe=>by
      rcases hK.all j hj e with h1|h1
      ·rw[hp]at h1;cases h1
      ·simp at h1
     have :∃i,i<h.length/\p i=false/\¬ CZ h (fl h i) j=0:=by
      refine TL λZE=>hu (Jp.2 λi hi ZQ=>?_);refine TL λUW=>ZE ⟨i,hi,ZQ,UW⟩
     obtain⟨i,hi,ZQ,UW⟩:=this;obtain⟨c,hc,_⟩:=BN hi;rw[IJ hc]at UW;have YX:=(Jm (j:=j) hc).1 (by omega);have h5:=hr i j YX;have h6:=hB i hi;have:=ih i hi (by omega);rw[ZQ]at this;cases this
  exact key (B-rk j+1) j hj (by omega)
end RC
namespace RC
open Go
def FT (h:List Cell):Bool:=match h[h.length-1]? with|some c=>decide (c.count=0)|none=>false
structure VH (h:List Cell):Prop where
 last:FT h=false
 cells :∀c∈h,El h c=true
 counts :∀j,j<h.length->LH h j=true
 Nf:Ix h
theorem Mb {h:List Cell}(hl:h.length<=1048576):(if (decide (0<(Sh.len h)))=true then (Sh.get h (Sh.w ((Sh.len h)-1))).bind λc=>some (decide (c.count=0)) else some false)=some (FT h):=by
 rw[AT];unfold FT;by_cases h0:h.length=0
 ·have:h=[]:=SK h0;subst this;rfl
 ·obtain⟨c,hc,_⟩:=BN (l:=h) (i:=h.length-1) (by omega);rw[Ry (by simp;omega),Ao (by omega) (by omega),show ((h.length:Int)-1)=((h.length-1:Nat):Int) by omega,As hc,hc];rfl
theorem QY {h:List Cell}(hc :∀c∈h,Ei h c=true):WF h:=λc U2 w hw=>by
 have:=hc c U2;unfold Ei at this;simp only[SL]at this;have h2:=Ru.1 this.2 w hw;simp only[SL]at h2;exact h2.1
theorem JA {h:List Cell}{c:Cell}(hc:El h c=true):Ei h c=true/\c.count<=999999:=by
 rw[Km,SL,SF]at hc;exact hc
theorem LP {h:List Cell}(H:Hp h){M:Nat}(hM:2000000<=M){N i:Nat}(hi:i<=h.length)(hN:h.length-i<N):BB M h N i=some (if (h.drop i).all (El h) then Sum.inr () else Sum.inl false):=by
 have hl:=H.len;refine Bv h.length (λN i=>BB M h N i=some (if (h.drop i).all (El h) then Sum.inr () else Sum.inl false)) ?_ ?_ hi hN
 ·intro n;rw[BB,Rx (by simp[AT])];simp
 ·intro n i hi ih;obtain⟨c,hc,U2⟩:=BN hi;rw[BB,Ry (by simp[AT];omega),As hc];simp only[Rl];rw[J0 hl (H.GR U2) (H.cells c U2).fields hM,Ao (by omega) (by omega),show ((i:Int)+1)=((i+1:Nat):Int) from rfl,ih,Ec hc];cases El h c<;>simp
theorem MK {h:List Cell}(H:Hp h){N:Nat}(hN:2000000<=N):∃b,B6 N h=some b/\(b=true↔VH h):=by
 have hl:=H.len;unfold B6;rw[Mb hl];simp only[Rl];cases h1:FT h with
 | true=>exact⟨false,by simp,(by simp;intro hv;rw[hv.last]at h1;cases h1)⟩
 | false=>
  have e1:=LP H hN (R5 _) (by omega:h.length-0<N);rw[UI,SH]at e1;simp only[R1,SX];rw[e1,Mm H hN];cases h2:h.all (El h) with
  | false=>
   refine⟨false,by simp,?_⟩;simp only[R1,false_iff];intro hv;have:=Ru.2 hv.cells;rw[h2]at this;cases this
  | true=>
   have T6:=Ru.1 h2;simp only[Sm,Sh.Ee,Rl];have e2:=Lj hl (R5 _) (by omega:h.length-0<N);rw[UI]at e2;rw[e2];cases h3:F6 (LH h) h.length 0 with
   | false=>
    refine⟨false,by simp,?_⟩;simp only[R1,false_iff];intro hv;have:=(Gt (p:=LH h) (R5 _)).2 λj _ hj=>hv.counts j hj;rw[h3]at this;cases this
   | true=>
    have Xo:=(Gt (p:=LH h) (R5 _)).1 h3;obtain⟨b,f1,f2⟩:=J2 H (QY λc hc=>(JA (T6 c hc)).1) hN;simp only[Sm,Sh.Ee];rw[f1];exact⟨b,rfl,f2.trans ⟨λhr=>⟨h1,T6,λj hj=>Xo j (R5 _) hj,hr⟩,λhv=>hv.Nf⟩⟩
theorem LO {h:List Cell}{j:Nat}{c:Cell}(hc:h[j]?=some c):LS h j=true↔LH h j=true/\(0<c.count->c.count<=999999):=by
 unfold LS LH;rw[hc];by_cases h1:0<c.count<;>by_cases h2:c.count<CY h h j<;>by_cases h3:999999<c.count<;>simp[h1,h2,h3]<;>omega
theorem KN (l:List Int)(hl:l.length<=1048576):BO l=some l:=by
 unfold BO;rw[De _ _ _ (by simp;omega) (by simp;omega)];rfl
theorem MW {h:List Cell}(H:Hp h){N:Nat}(hN:2000000<=N):∃r b,B5 N h=some (r,b)/\(b=true↔VH h)/\(b=true->r=refs h):=by
 have hl:=H.len;unfold B5;rw[Mb hl,AT,Lk _ h.length 8 (by omega) (by omega),Fk];simp only[Rl];have e1:=NN H hN (R5 _) (by omega:h.length-0<N) (λ_=>0) (λj=>⟨by omega,by
  have h1:=Nj h (h.drop 0) j;have h2:=Gx h 0;have h3:=H.size;unfold Bq at h3;omega⟩)
 rw[UI,SH]at e1;rw[e1];have er:(rowOf h.length λj=>(0:Int)+(CY h h j:Int))=refs h:=Bj λj _=>by omega
 rw[er];cases h2:h.all (Ei h) with
 | false=>
  refine⟨[],false,by simp,?_,by simp⟩;simp only[R1,false_iff];intro hv;have:=Ru.2 λc hc=>(JA (hv.cells c hc)).1;rw[h2]at this;cases this
 | true=>
  have T6:=Ru.1 h2;simp only[Sm,Sh.Ee];cases h1:FT h with
  | true=>exact⟨[],false,by simp,(by simp;intro hv;rw[hv.last]at h1;cases h1),by simp⟩
  | false=>
   have ZU:(refs h).length=h.length:=D6;simp only[R1,SX];rw[KN _ (by omega)];have e2:=NA hl (R5 _) (by omega:h.length-0<N) [] (by simp);rw[UI,Sx,show CK []=[] from rfl]at e2;rw[e2];simp only[Rl];cases h3:F6 (LS h) h.length 0 with
   | false=>
    refine⟨[],false,by simp,?_,by simp⟩;simp only[R1,false_iff];intro hv;have:=(Gt (p:=LS h) (R5 _)).2 λj _ hj=>by
     obtain⟨c,hc,U2⟩:=BN hj;exact (LO hc).2 ⟨hv.counts j hj,λ_=>(JA (hv.cells c U2)).2⟩
    rw[h3]at this;cases this
   | true=>
    have Xo:=(Gt (p:=LS h) (R5 _)).1 h3;simp only[Sm,Sh.Ee];have jD:refs h=rowOf h.length λj=>((un h (λ_=>false) j:Nat):Int):=Bj λj _=>by rw[Je]
    have jE:KI h (λ_=>false) (FA h 0) 0:=by
     have hz:∀x,x∈FA h 0↔x<h.length/\CY h h x=0:=λx=>by
      unfold FA;rw[List.mem_filter,List.mem_range'];simp
     refine⟨?_,λx hx=>?_,λj hj hu=>?_,?_,⟨λ_=>0,λ_ _ h=>(by cases h),λ_ _ _ h=>(by cases h)⟩⟩
     ·exact List.Nodup.sublist List.filter_sublist List.nodup_range'
     ·obtain⟨h4,h5⟩:=(hz x).1 hx;exact⟨h4,rfl,by rw[Je];exact h5⟩
     ·rw[Je]at hu;exact .inr ((hz j).2 ⟨hj,hu⟩)
     ·have :∀n,E0 (λ_=>false) n=0:=λn=>by induction n with
       | zero=>rfl
       | succ n ih=>rw[DB,ih];rfl
      exact this _
    obtain⟨p',UJ,f1,f2⟩:=NZ H hN h.length N _ _ 0 jE (by omega) (by omega);rw[UI,<- jD]at f1;rw[f1];refine⟨refs h,_,rfl,?_,λ_=>rfl⟩;rw[SF];have hm:((UJ:Nat):Int)=(h.length:Int)↔UJ=h.length:=by omega
    rw[hm,Hx f2];constructor
    ·intro hr;refine⟨h1,λc hc=>?_,λj hj=>?_,hr⟩
     ·rw[Km,T6 c hc,TO,SF];obtain⟨j,hj⟩:=R0.1 hc;by_cases h4:0<c.count
      ·exact ((LO hj).1 (Xo j (R5 _) (Rm.1 hj).1)).2 h4
      ·omega
     ·obtain⟨c,hc,_⟩:=BN hj;exact ((LO hc).1 (Xo j (R5 _) hj)).1
    ·exact λhv=>hv.Nf
theorem L1 {b b':Bool}{p:Prop}(h1:b=true↔p)(h2:b'=true↔p):b=b':=by
 cases b<;>cases b'<;>simp at h1 h2<;>first|rfl|exact absurd h2 h1|exact absurd h1 h2
theorem IZ {h:List Cell}(H:Hp h){N:Nat}(hN:2000000<=N):∃b r,B6 N h=some b/\F4 N h=some b/\B5 N h=some (r,b)/\Ct N h=some b/\(b=true↔VH h)/\(b=true->r=refs h):=by
 obtain⟨b,h1,h2⟩:=MK H hN;obtain⟨r,b',h3,h4,h5⟩:=MW H hN;obtain rfl:=L1 h2 h4;exact⟨b,r,h1,by unfold F4;rw[h1];rfl,h3,by unfold Ct;rw[h3];rfl,h2,h5⟩
end RC
