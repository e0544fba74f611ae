import Derived.Test.YtfkncfjpobjbjaaGAbsZQToAbsZW
set_option linter.all false
namespace RC
open Go
theorem Ao {n:Int}(h1:-9223372036854775808<=n)(h2:n<=9223372036854775807):Sh.w n=n:=Abs.wrap_i64 h1 h2
theorem AT {α:Type}(l:List α):Sh.len l=(l.length:Int):=rfl
theorem Jx {α:Type}(l:List α)(i:Nat):Sh.get l (i:Int)=l[i]?:=by
 unfold Sh.get;rw[R1 (Int.natCast_nonneg i)];simp
theorem As {α:Type}{l:List α}{i:Nat}{x:α}(h:l[i]?=some x):Sh.get l (i:Int)=some x:=by rw[Jx,h]
theorem Ma {α:Type}{l:List α}{j:Int}(h0:0<=j)(h1:j<l.length):∃x,Sh.get l j=some x/\l[j.toNat]?=some x:=by
 have h:l[j.toNat]?=some (l[j.toNat]'(by omega)):=Rt (by omega);exact⟨_,by unfold Sh.get;rw[R1 h0,h],h⟩
theorem N5 {α:Type}{l:List α}{j:Int}(h0:0<=j):Sh.get l j=l[j.toNat]?:=by unfold Sh.get;rw[R1 h0]
theorem Eu {α:Type}(l:List α)(i:Nat)(x:α):Sh.put l (i:Int) x=l.set i x:=by simp[Sh.put]
theorem Ls {α:Type}(x:α)(n b:Nat)(h:n*b<=281474976710656)(h2:n<=9223372036854775807):Sh.mk x (n:Int) b=some (List.replicate n x):=by
 unfold Sh.mk;rw[R1 ⟨by omega,by rw[<- Int.natCast_mul];omega,by omega⟩];simp
theorem Df {α:Type}(l m:List α)(b:Nat)(h:(l.length+m.length)*b<=140737488355328)(h2:l.length+m.length<=9223372036854775807):Sh.app l m b=some (l++m):=by
 unfold Sh.app;rw[R1 ⟨h,h2⟩]
theorem Qh {α:Type}{l:List α}{j:Nat}(h:j<=l.length):Sh.hi l (j:Int)=some (l.take j):=by
 unfold Sh.hi;rw[R1 ⟨by omega,by omega⟩];simp
theorem B0 (len:Nat)(P:Nat->Nat->Prop)(h0 :∀n,P (n+1) len)(hs :∀n i,i<len->P n (i+1)->P (n+1) i):∀{N i:Nat},i<=len->len-i<N->P N i:=by
 intro N i hi hN;obtain⟨k,hk⟩ :∃k,len-i=k:=⟨_,rfl⟩
 induction k generalizing N i with
 | zero=>
  obtain⟨n,rfl⟩ :∃n,N=n+1:=⟨N-1,by omega⟩
  have:i=len:=by omega
  subst this;exact h0 n
 | succ k ih=>
  obtain⟨n,rfl⟩ :∃n,N=n+1:=⟨N-1,by omega⟩
  exact hs n i (by omega) (ih (by omega) (by omega) (by omega))
theorem BL {α:Type}{l:List α}{i:Nat}(h:i<l.length):∃x,l[i]?=some x/\x∈l:=⟨l[i],Rt h,S7 h⟩
theorem Ff {α:Type}{l:List α}{j:Nat}{x:α}(h:l[j]?=some x):l.take (j+1)=l.take j++[x]:=by rw[List.take_add_one,h];rfl
theorem drop_cons {α:Type}{l:List α}{j:Nat}{x:α}(h:l[j]?=some x):l.drop j=x::l.drop (j+1):=by
 obtain⟨hj,rfl⟩:=Rq.1 h;exact List.drop_eq_getElem_cons hj
def Dn (h:List Cell):Nat:=(h.map λc=>c.fields.length).sum
def Br (h:List Cell):Nat:=h.length+Dn h
structure Hp (h:List Cell):Prop where
 size:Br h<=1048576
 cells :∀c∈h,Fl c
theorem OA {h:List Cell}{c:Cell}(hc:c∈h):c.fields.length<=Dn h:=by
 induction h with
 | nil=>cases hc
 | cons d h ih=>
  simp only[Dn,SD,Tt]at ih⊢;rcases SE.1 hc with rfl|hc
  ·omega
  ·have:=ih hc;omega
theorem Hp.len {h:List Cell}(H:Hp h):h.length<=1048576:=by have:=H.size;unfold Br at this;omega
theorem Hp.GS {h:List Cell}(H:Hp h){c:Cell}(hc:c∈h):c.fields.length<=1048576:=by have:=H.size;have:=OA hc;unfold Br at *;omega
theorem Fb (a b:List Cell):Dn (a++b)=Dn a+Dn b:=by simp[Dn]
theorem J6 (h:List Cell)(i:Nat):Dn (h.take i)<=Dn h:=by
 have:=Fb (h.take i) (h.drop i);rw[List.take_append_drop]at this;omega
theorem G6 (h:List Cell)(i:Nat):Dn (h.drop i)<=Dn h:=by
 have:=Fb (h.take i) (h.drop i);rw[List.take_append_drop]at this;omega
end RC
namespace RC
open Go
theorem I9 {l:List Int}{left:Int}(h0:0<=left)(h1:left<=1048576)(hl:l.length<=9223372036854775807):DR l left=some (if left-l.length<0 then -1 else left-l.length):=by
 unfold DR;rw[AT,Ao (by omega) (by omega)];by_cases h:left-l.length<0<;>simp[h]
theorem KB {l:List Int}(hl:l.length<=1048576){N i:Nat}(hi:i<=l.length)(hN:l.length-i<N):∀m:List Int,m.length=l.length->m.take i=l.take i->Bg l N i m=some l:=by
 refine B0 l.length (λN i=>∀m:List Int,m.length=l.length->m.take i=l.take i->Bg l N i m=some l) ?_ ?_ hi hN
 ·intro n m hm ht;rw[Bg,R0 (by simp[AT])];rw[List.take_of_length_le (by omega),TF]at ht;rw[ht]
 ·intro n i hi ih m hm ht;obtain⟨x,hx,_⟩:=BL hi;obtain⟨y,hy,_⟩:=BL (l:=m) (i:=i) (by omega);rw[Bg,R1 (by simp[AT];omega),As hx];simp only[Rp];rw[As hy];simp only[Rp];rw[Ao (by omega) (by omega),Eu,show ((i:Int)+1)=((i+1:Nat):Int) by omega];refine ih _ (by simp[hm]) ?_;rw[Ff hx,Ff (x:=x) (by rw[Tp];simp;omega),List.take_set_of_le (R3 _),ht]
theorem JD {l:List Int}(hl:l.length<=1048576){N:Nat}(hN:2000000<=N):DM N l=some l:=by
 unfold DM;rw[AT,Ls 0 l.length 8 (by omega) (by omega)];simp only[Rp];have:=KB hl (SA _) (by omega:l.length-0<N) (List.replicate l.length 0) (by simp) (by simp);rw[UI]at this;rw[this];rfl
theorem J5 {l:List Int}(hl:l.length<=1048576){N i:Nat}(hi:i<=l.length)(hN:l.length-i<N):Bb l l N i=some (Sum.inr ()):=by
 refine B0 l.length (λN i=>Bb l l N i=some (Sum.inr ())) ?_ ?_ hi hN
 ·intro n;rw[Bb,R0 (by simp[AT])]
 ·intro n i hi ih;obtain⟨x,hx,_⟩:=BL hi;rw[Bb,R1 (by simp[AT];omega),As hx];simp only[Rp];rw[Ao (by omega) (by omega),show ((i:Int)+1)=((i+1:Nat):Int) by omega];simpa using ih
theorem Jy {l:List Int}(hl:l.length<=1048576){N:Nat}(hN:2000000<=N):DK N l l=some true:=by
 unfold DK;have:=J5 hl (SA _) (by omega:l.length-0<N);rw[UI]at this;simp[this]
end RC
namespace RC
open Go
def Cm (h:List Cell)(w:Int):Bool:=decide (1000<=w)&&(match h[(w-1000).toNat]? with|some c=>decide (0<c.count)|none=>false)
def Eb (w:Int):Bool:=decide (-999<=w)&&decide (w<=999)
def CW (h:List Cell)(w:Int):Bool:=Cm h w || Eb w
theorem J1 {h:List Cell}{w:Int}{c:Cell}(h1:1000<=w)(hc:h[(w-1000).toNat]?=some c):Cm h w=decide (0<c.count):=by simp[Cm,h1,hc]
theorem J3 {h:List Cell}{w:Int}(h2:¬ w-1000<h.length):Cm h w=false:=by
 unfold Cm;rw[SI (by omega)];simp
theorem HJ {h:List Cell}{w:Int}(h1:¬ 1000<=w):Cm h w=false:=by simp[Cm,h1]
theorem Cp {h:List Cell}{w:Int}(hl:Cm h w=true):∃(i:Nat) (c:Cell),w=1000+(i:Int)/\(w-1000).toNat=i/\i<h.length/\h[i]?=some c/\0<c.count:=by
 unfold Cm at hl;simp only[SP,SJ]at hl;obtain⟨h1,h2⟩:=hl;split at h2
 ·rename_i c hc;exact⟨(w-1000).toNat,c,by omega,rfl,(Rq.1 hc).1,hc,by simpa using h2⟩
 ·cases h2
theorem Gk (a b c:Int):CC a b c=some (decide (b<=a)&&decide (a<=c)):=by
 unfold CC;by_cases h:b<=a<;>simp[h]
theorem JL {h:List Cell}{w:Int}(hl:h.length<=1048576)(hw:Bh w):DJ h w=some (Cm h w):=by
 obtain⟨w1,w2⟩:=hw;unfold DJ BV;rw[Gk,AT,Ao (n:=(h.length:Int)-1) (by omega) (by omega)];by_cases h1:-9223372036854775808<=w-1000
 ·rw[Ao h1 (by omega)];by_cases h2:1000<=w
  ·by_cases h3:w-1000<h.length
   ·obtain⟨c,hc,hc2⟩:=Ma (l:=h) (j:=w-1000) (by omega) h3;have e:(decide (0<=w-1000)&&decide (w-1000<=(h.length:Int)-1))=true:=by
     simp;omega
    simp only[Rp,e,h2,hc,T5,Sr,J1 h2 hc2]
   ·have e:(decide (0<=w-1000)&&decide (w-1000<=(h.length:Int)-1))=false:=by
     simp;omega
    simp only[Rp,e,J3 h3];simp
  ·have e:(decide (0<=w-1000)&&decide (w-1000<=(h.length:Int)-1))=false:=by
    simp;omega
   simp only[Rp,e,HJ h2];simp
 ·have e0:Sh.w (w-1000)=w-1000+18446744073709551616:=Abs.KP (by omega) (by omega);have e:(decide (0<=Sh.w (w-1000))&&decide (Sh.w (w-1000)<=(h.length:Int)-1))=false:=by
   rw[e0];simp;omega
  simp only[Rp,e,HJ (h:=h) (w:=w) (by omega)];simp
theorem NJ {h:List Cell}{w:Int}(hl:h.length<=1048576)(hw:Bh w):Du h w=some (CW h w):=by
 unfold Du;rw[Gk,JL hl hw];unfold CW Eb;by_cases h1:-999<=w<;>by_cases h2:w<=999<;>simp[h1,h2]
theorem HR {h:List Cell}{w:Int}(hl:h.length<=1048576)(hw:Bh w):Cs h w=some (Sh.w (w-1000),Cm h w):=by
 obtain⟨w1,w2⟩:=hw;unfold Cs;by_cases h2:1000<=w
 ·rw[Ao (n:=w-1000) (by omega) (by omega),AT];by_cases h3:w-1000<h.length
  ·obtain⟨c,hc,hc2⟩:=Ma (l:=h) (j:=w-1000) (by omega) h3;simp[h2,h3,hc,J1 h2 hc2]
  ·simp[h2,h3,J3 h3]
 ·simp[h2,HJ h2]
theorem Ku (w:Int):Dj w=some (Eb w):=by
 unfold Dj Eb;by_cases h:-999<=w<;>simp[h]
theorem KF {h:List Cell}{w:Int}(hl:h.length<=1048576)(hw:Bh w):C3 h w=some (CW h w):=by
 unfold C3 CW;rw[HR hl hw,Ku];cases h1:Cm h w<;>simp[h1]
def B4 (l:List Int):Bool:=l.all λw=>decide (w=0)
def Ek (h:List Cell)(c:Cell):Bool:=
 !(decide (c.count < -1) || decide (c.tag<0) || decide (99<c.tag) || decide (3<(c.fields.length:Int))) &&
 !((decide (c.count<1)&&!decide (c.tag=0)) || (decide (c.count=0)&&decide (0<(c.fields.length:Int)))) &&
 c.fields.all λw=>CW h w&&!(decide (c.count<0)&&!decide (w=0))
def Es (h:List Cell)(c:Cell):Bool:=
 !(decide (3<(c.fields.length:Int)) || !(decide (-1<=c.count)&&decide (c.count<=999999))) &&
 if c.count<1 then decide (c.tag=0)&&B4 c.fields&&(decide (c.count<0) || decide ((c.fields.length:Int)=0)) else (c.fields.all λw=>CW h w)&&(decide (0<=c.tag)&&decide (c.tag<=99))
theorem Eg {α:Type}{p:α->Bool}{l:List α}{i:Nat}{x:α}(h:l[i]?=some x):(l.drop i).all p=(p x&&(l.drop (i+1)).all p):=by rw[drop_cons h];rfl
theorem Jq {l:List Int}(hl:l.length<=1048576){N i:Nat}(hi:i<=l.length)(hN:l.length-i<N):BY l N i=some (if B4 (l.drop i) then Sum.inr () else Sum.inl false):=by
 refine B0 l.length (λN i=>BY l N i=some (if B4 (l.drop i) then Sum.inr () else Sum.inl false)) ?_ ?_ hi hN
 ·intro n;rw[BY,R0 (by simp[AT])];simp[B4]
 ·intro n i hi ih;obtain⟨x,hx,_⟩:=BL hi;rw[BY,R1 (by simp[AT];omega),As hx];simp only[Rp];rw[Ao (by omega) (by omega),show ((i:Int)+1)=((i+1:Nat):Int) from rfl,ih];unfold B4;rw[Eg hx];by_cases h:x=0<;>simp[h]
theorem L6 {l:List Int}(hl:l.length<=1048576){N:Nat}(hN:2000000<=N):DZ N l=some (B4 l):=by
 unfold DZ;have:=Jq hl (SA _) (by omega:l.length-0<N);rw[UI,SL]at this;rw[this];cases B4 l<;>simp
theorem ID {h:List Cell}{c:Cell}(hl:h.length<=1048576)(hf:c.fields.length<=1048576)(hF :∀x∈c.fields,Bh x){N i:Nat}(hi:i<=c.fields.length)(hN:c.fields.length-i<N):
  BI h c N i=some (if (c.fields.drop i).all (λw=>CW h w) then Sum.inr () else Sum.inl false):=by
 refine B0 c.fields.length (λN i=>BI h c N i=some (if (c.fields.drop i).all (λw=>CW h w) then Sum.inr () else Sum.inl false)) ?_ ?_ hi hN
 ·intro n;rw[BI,R0 (by simp[AT])];simp
 ·intro n i hi ih;obtain⟨x,hx,Wd⟩:=BL hi;rw[BI,R1 (by simp[AT];omega),As hx];simp only[Rp];rw[NJ hl (hF x Wd)];simp only[Rp];rw[Ao (by omega) (by omega),show ((i:Int)+1)=((i+1:Nat):Int) from rfl,ih,Eg hx];cases CW h x<;>simp
theorem KM {h:List Cell}{c:Cell}(hl:h.length<=1048576)(hf:c.fields.length<=1048576)(hF :∀x∈c.fields,Bh x){N:Nat}(hN:2000000<=N):Cy N h c=some (Es h c):=by
 unfold Cy Es;simp only[Gk,AT,L6 hf hN];by_cases h1:3<(c.fields.length:Int)
 ·simp[h1]
 ·by_cases h2:-1<=c.count
  ·by_cases h3:c.count<=999999
   ·by_cases h4:c.count<1
    ·by_cases h5:c.tag=0
     ·cases h6:B4 c.fields
      ·simp[h1,h2,h3,h4,h5]
      ·by_cases h7:c.count<0<;>simp[h1,h2,h3,h4,h5,h7]
     ·simp[h1,h2,h3,h4,h5]
    ·have:=ID hl hf hF (SA _) (by omega:c.fields.length-0<N);rw[UI,SL]at this;simp only[h1,h2,h3,h4,this];cases c.fields.all (λw=>CW h w)<;>simp
   ·simp[h1,h2,h3]
  ·simp[h1,h2]
def Lv (h:List Cell)(c:Cell)(w:Int):Bool:=CW h w&&!(decide (c.count<0)&&!decide (w=0))
theorem H7 {h:List Cell}{c:Cell}(hl:h.length<=1048576)(hf:c.fields.length<=1048576)(hF :∀x∈c.fields,Bh x){N i:Nat}(hi:i<=c.fields.length)(hN:c.fields.length-i<N):
  BD h c N i=some (if (c.fields.drop i).all (Lv h c) then Sum.inr () else Sum.inl false):=by
 refine B0 c.fields.length (λN i=>BD h c N i=some (if (c.fields.drop i).all (Lv h c) then Sum.inr () else Sum.inl false)) ?_ ?_ hi hN
 ·intro n;rw[BD,R0 (by simp[AT])];simp
 ·intro n i hi ih;obtain⟨x,hx,Wd⟩:=BL hi;rw[BD,R1 (by simp[AT];omega),As hx];simp only[Rp];rw[KF hl (hF x Wd)];simp only[Rp];rw[Ao (by omega) (by omega),show ((i:Int)+1)=((i+1:Nat):Int) from rfl,ih,Eg hx];unfold Lv;cases CW h x
  ·simp
  ·by_cases h1:c.count<0<;>by_cases h2:x=0<;>simp[h1,h2]
theorem J8 {h:List Cell}{c:Cell}(hl:h.length<=1048576)(hf:c.fields.length<=1048576)(hF :∀x∈c.fields,Bh x){N:Nat}(hN:2000000<=N):Cx N h c=some (Ek h c):=by
 have hc:Ek h c=(!(decide (c.count < -1) || decide (c.tag<0) || decide (99<c.tag) || decide (3<(c.fields.length:Int))) &&
   !((decide (c.count<1)&&!decide (c.tag=0)) || (decide (c.count=0)&&decide (0<(c.fields.length:Int))))&&c.fields.all (Lv h c)):=rfl
 rw[hc];unfold Cx;have:=H7 hl hf hF (SA _) (by omega:c.fields.length-0<N);rw[UI,SL]at this;simp only[AT,this];have key:∀b:Bool,Sh.cont (some (if b=true then (Sum.inr ():Bool ⊕ Unit) else Sum.inl false)) id (λ_=>some true)=some b:=λb=>by cases b<;>rfl
 by_cases h1:c.count < -1
 ·simp[h1]
 ·by_cases h2:c.tag<0
  ·simp[h1,h2]
  ·by_cases h3:99<c.tag
   ·simp[h1,h2,h3]
   ·by_cases h4:3<(c.fields.length:Int)
    ·simp[h1,h2,h3,h4]
    ·by_cases h5:c.count<1
     ·by_cases h6:c.tag=0
      ·by_cases h7:c.count=0
       ·by_cases h8:0<(c.fields.length:Int)
        ·have bh:0<c.fields.length:=by omega
         simp[h2,h3,h4,h5,h6,h7,bh]
        ·simp only[h1,h2,h3,h4,h5,h6,h7,h8,key];simp
       ·simp only[h1,h2,h3,h4,h5,h6,h7,key];simp
      ·simp[h1,h2,h3,h4,h5,h6]
     ·have h7:¬ c.count=0:=by omega
      simp only[h1,h2,h3,h4,h5,h7,key];simp
theorem Kf (h:List Cell)(c:Cell):Es h c=(Ek h c&&decide (c.count<=999999)):=by
 unfold Es Ek;by_cases h4:3<(c.fields.length:Int)
 ·simp[h4]
 ·by_cases hm:c.count<=999999
  ·by_cases Xd:-1<=c.count
   ·have YZ:¬ c.count < -1:=by omega
    by_cases h5:c.count<1
    ·by_cases h6:c.tag=0
     ·by_cases h7:c.count=0
      ·by_cases h8:0<(c.fields.length:Int)
       ·have h9:¬ (c.fields.length:Int)=0:=by omega
        have bh:0<c.fields.length:=by omega
        have eg:¬ c.fields=[]:=λe=>by rw[e]at bh;simp at bh
        simp[h4,h6,h7,bh,eg]
       ·have h9:c.fields=[]:=SO (by omega);simp[hm,h7,h6,h9,B4]
      ·have h8:c.count<0:=by omega
       simp only[h4,hm,Xd,YZ,h5,h6,h7,h8,B4];simp only[T5,decide_false,Bool.not_false,Bool.and_true,TS,Bool.or_false,Bool.or_true,Bool.and_self,Sw,Sr,Bool.false_and,Bool.or_self,Bool.true_or];have e:∀l:List Int,(l.all λw=>decide (w=0))=l.all λw=>CW h w&&!(!decide (w=0)):=λl=>by
        congr 1;funext w;by_cases h0:w=0
        ·subst h0;have:CW h 0=true:=by simp[CW,Eb]
         simp[this]
        ·simp[h0]
       rw[e];simp
     ·have jD:decide (c.tag=0)=false:=by simpa using h6
      simp[h4,hm,Xd,YZ,h5,jD]
    ·have h7:¬ c.count=0:=by omega
     have h8:¬ c.count<0:=by omega
     by_cases h9:c.tag<0
     ·have:¬ 0<=c.tag:=by omega
      simp[h4,hm,Xd,YZ,h5,h7,h8,h9,this]
     ·have eg:0<=c.tag:=by omega
      by_cases h10:99<c.tag
      ·have:¬ c.tag<=99:=by omega
       simp[h4,hm,Xd,YZ,h5,h7,h8,h9,h10,this]
      ·have:c.tag<=99:=by omega
       simp[h4,hm,Xd,YZ,h5,h7,h8,h9,eg,h10,this]
   ·have:c.count < -1:=by omega
    simp[h4,Xd,this]
  ·simp[hm]
end RC
namespace RC
open Go
def rowOf {α:Type}(n:Nat)(f:Nat->α):List α:=(List.range n).map f
theorem D7 {α:Type}{n:Nat}{f:Nat->α}:(rowOf n f).length=n:=by simp[rowOf]
theorem CH {α:Type}{n:Nat}{f:Nat->α}{j:Nat}(h:j<n):(rowOf n f)[j]?=some (f j):=by simp[rowOf,h]
theorem Bp {α:Type}{n:Nat}{f g:Nat->α}(h :∀j,j<n->f j=g j):rowOf n f=rowOf n g:=R8 λj hj=>h j (Tb.1 hj)
theorem Fa {α:Type}{n:Nat}{f:Nat->α}{j:Nat}{v:α}:(rowOf n f).set j v=rowOf n (λk=>if k=j then v else f k):=by
 apply TZ;intro k;rw[Tp];by_cases hk:k<n
 ·rw[CH hk,CH hk,D7];by_cases e:j=k
  ·subst e;simp[hk]
  ·have e':¬ k=j:=λh=>e h.symm;simp[e,e']
 ·rw[SI (by rw[D7];omega),SI (by rw[D7];omega),D7];by_cases e:j=k
  ·subst e;simp[hk]
  ·simp[e]
theorem Fi {α:Type}(n:Nat)(x:α):List.replicate n x=rowOf n (λ_=>x):=by
 apply TZ;intro k;by_cases hk:k<n
 ·rw[CH hk];simp[hk]
 ·rw[SI (by simp;omega),SI (by rw[D7];omega)]
def HA (h:List Cell)(j:Nat)(w:Int):Bool:=Cm h w&&decide ((w-1000).toNat=j)
def CY (h:List Cell)(ws:List Int)(j:Nat):Nat:=ws.countP (HA h j)
def CZ (h l:List Cell)(j:Nat):Nat:=(l.map λc=>CY h c.fields j).sum
theorem Hz (h:List Cell)(j:Nat):CY h [] j=0:=rfl
theorem OM (h:List Cell)(x:Int)(ws:List Int)(j:Nat):CY h (x::ws) j=(if HA h j x then 1 else 0)+CY h ws j:=by
 unfold CY;rw[List.countP_cons];omega
theorem Dl {h:List Cell}{ws:List Int}{i:Nat}{x:Int}(hx:ws[i]?=some x)(j:Nat):CY h (ws.drop i) j=(if HA h j x then 1 else 0)+CY h (ws.drop (i+1)) j:=by rw[drop_cons hx,OM]
theorem Lt (h:List Cell)(ws:List Int)(j:Nat):CY h ws j<=ws.length:=List.countP_le_length
theorem Gq {h l:List Cell}{i:Nat}{c:Cell}(hc:l[i]?=some c)(j:Nat):CZ h (l.drop i) j=CY h c.fields j+CZ h (l.drop (i+1)) j:=by rw[drop_cons hc];simp[CZ]
theorem N0 (h l:List Cell)(j:Nat):CZ h l j<=Dn l:=by
 induction l with
 | nil=>simp[CZ]
 | cons c l ih=>
  have:=Lt h c.fields j;simp only[CZ,Dn,SD,Tt]at ih⊢;omega
theorem NO {h:List Cell}{j:Nat}{x:Int}(hh:HA h j x=true):Cm h x=true/\(x-1000).toNat=j:=by
 unfold HA at hh;simpa using hh
theorem Gp {h:List Cell}{j:Nat}{x:Int}(hl:Cm h x=false):HA h j x=false:=by simp[HA,hl]
theorem Hv {h:List Cell}{j:Nat}{x:Int}(hl:Cm h x=true):HA h j x=decide ((x-1000).toNat=j):=by simp[HA,hl]
theorem MF {h:List Cell}{c:Cell}{i:Nat}(hc:h[i]?=some c)(hl:h.length<=1048576)(hf:c.fields.length<=1048576)(hF :∀x∈c.fields,Bh x){N k:Nat}(hk:k<=c.fields.length)(hN:c.fields.length-k<N):
  ∀f:Nat->Int,(∀j,0<=f j/\f j<=1048576+k)->Bc i h N k (rowOf h.length f)=some (rowOf h.length λj=>f j+CY h (c.fields.drop k) j):=by
 refine B0 c.fields.length (λN k=>∀f:Nat->Int,(∀j,0<=f j/\f j<=1048576+k)->Bc i h N k (rowOf h.length f)=some (rowOf h.length λj=>f j+CY h (c.fields.drop k) j)) ?_ ?_ hk hN
 ·intro n f _;rw[Bc,As hc];simp only[Rp];rw[R0 (by simp[AT])];simp[Hz]
 ·intro n k hk ih f hb;obtain⟨x,hx,Wd⟩:=BL hk;rw[Bc,As hc];simp only[Rp];rw[R1 (by simp[AT];omega),As hx];simp only[Rp];rw[JL hl (hF x Wd)];simp only[Rp];rw[Ao (n:=(k:Int)+1) (by omega) (by omega),show ((k:Int)+1)=((k+1:Nat):Int) from rfl];cases hlv:Cm h x
  ·simp only[R4,Sa,Rp];rw[ih f (λj=>⟨(hb j).1,by have:=(hb j).2;omega⟩)];congr 1;refine Bp λj _=>?_;rw[Dl hx,Gp hlv];simp
  ·obtain⟨q,c',h1,h2,h3,_⟩:=Cp hlv;have e1:x-1000=(q:Int):=by omega
   simp only[Sr];rw[Ao (n:=x-1000) (by omega) (by omega),e1,As (CH h3)];simp only[Rp];have jE:=hb q;rw[Ao (by omega) (by omega),Eu,Fa];rw[ih _ (λj=>by
    by_cases e:j=q
    ·simp only[e,Sr];omega
    ·simp only[e,Sa];have:=hb j;omega)]
   congr 1;refine Bp λj _=>?_;rw[Dl hx,Hv hlv,h2];by_cases e:j=q
   ·subst e;simp;omega
   ·have e':¬ q=j:=λh=>e h.symm;simp[e,e']
theorem Mj {h:List Cell}(H:Hp h){M:Nat}(hM:2000000<=M){N i:Nat}(hi:i<=h.length)(hN:h.length-i<N):
  ∀f:Nat->Int,(∀j,0<=f j/\f j+CZ h (h.drop i) j<=1048576)->Bf M h N i (rowOf h.length f)=some (rowOf h.length λj=>f j+CZ h (h.drop i) j):=by
 have hl:=H.len;refine B0 h.length (λN i=>∀f:Nat->Int,(∀j,0<=f j/\f j+CZ h (h.drop i) j<=1048576)->Bf M h N i (rowOf h.length f)=some (rowOf h.length λj=>f j+CZ h (h.drop i) j)) ?_ ?_ hi hN
 ·intro n f _;rw[Bf,R0 (by simp[AT])];simp[CZ]
 ·intro n i hi ih f hb;obtain⟨c,hc,U7⟩:=BL hi;have V3:=H.GS U7;have:=MF hc hl V3 (H.cells c U7).fields (SA _) (by omega:c.fields.length-0<M) f (λj=>⟨(hb j).1,by have:=(hb j).2;omega⟩);rw[UI,SL]at this;rw[Bf,R1 (by simp[AT];omega),this];simp only[Rp];rw[Ao (by omega) (by omega),show ((i:Int)+1)=((i+1:Nat):Int) from rfl,ih]
  ·congr 1;refine Bp λj _=>?_;rw[Gq hc];omega
  ·intro j;have:=hb j;rw[Gq hc]at this;omega
def refs (h:List Cell):List Int:=rowOf h.length λj=>(CZ h h j:Int)
theorem My {h:List Cell}(H:Hp h){N:Nat}(hN:2000000<=N):Dw N h=some (refs h):=by
 have hl:=H.len;unfold Dw;rw[AT,Ls _ h.length 8 (by omega) (by omega),Fi];simp only[Rp];have:=Mj H hN (SA _) (by omega:h.length-0<N) (λ_=>0) (λj=>⟨by omega,by
  have h1:=N0 h (h.drop 0) j;have h2:=G6 h 0;have h3:=H.size;unfold Br at h3;omega⟩)
 rw[UI,SL]at this;rw[this];simp[refs]
theorem Mn {h:List Cell}{c:Cell}(hl:h.length<=1048576)(hf:c.fields.length<=1048576)(hF :∀x∈c.fields,Bh x){N k:Nat}(hk:k<=c.fields.length)(hN:c.fields.length-k<N):
  ∀f:Nat->Int,(∀j,0<=f j/\f j<=1048576+k)->Ay c h N k (rowOf h.length f)=some (rowOf h.length λj=>f j+CY h (c.fields.drop k) j):=by
 refine B0 c.fields.length (λN k=>∀f:Nat->Int,(∀j,0<=f j/\f j<=1048576+k)->Ay c h N k (rowOf h.length f)=some (rowOf h.length λj=>f j+CY h (c.fields.drop k) j)) ?_ ?_ hk hN
 ·intro n f _;rw[Ay,R0 (by simp[AT])];simp[Hz]
 ·intro n k hk ih f hb;obtain⟨x,hx,Wd⟩:=BL hk;rw[Ay,R1 (by simp[AT];omega),As hx];simp only[Rp];rw[HR hl (hF x Wd)];simp only[Rp];rw[Ao (n:=(k:Int)+1) (by omega) (by omega),show ((k:Int)+1)=((k+1:Nat):Int) from rfl];cases hlv:Cm h x
  ·simp only[R4,Sa,Rp];rw[ih f (λj=>⟨(hb j).1,by have:=(hb j).2;omega⟩)];congr 1;refine Bp λj _=>?_;rw[Dl hx,Gp hlv];simp
  ·obtain⟨q,c',h1,h2,h3,_⟩:=Cp hlv;have e1:x-1000=(q:Int):=by omega
   simp only[Sr];rw[Ao (n:=x-1000) (by omega) (by omega),e1,As (CH h3)];simp only[Rp];have jE:=hb q;rw[Ao (by omega) (by omega),Eu,Fa];rw[ih _ (λj=>by
    by_cases e:j=q
    ·simp only[e,Sr];omega
    ·simp only[e,Sa];have:=hb j;omega)]
   congr 1;refine Bp λj _=>?_;rw[Dl hx,Hv hlv,h2];by_cases e:j=q
   ·subst e;simp;omega
   ·have e':¬ q=j:=λh=>e h.symm;simp[e,e']
theorem Mu {h:List Cell}(H:Hp h){M:Nat}(hM:2000000<=M){N i:Nat}(hi:i<=h.length)(hN:h.length-i<N):
  ∀f:Nat->Int,(∀j,0<=f j/\f j+CZ h (h.drop i) j<=1048576)->Ax M h N i (rowOf h.length f)=some (if (h.drop i).all (Ek h) then Sum.inr (rowOf h.length λj=>f j+CZ h (h.drop i) j) else Sum.inl ([],false)):=by
 have hl:=H.len;refine B0 h.length (λN i=>∀f:Nat->Int,(∀j,0<=f j/\f j+CZ h (h.drop i) j<=1048576)->Ax M h N i (rowOf h.length f)=some (if (h.drop i).all (Ek h) then Sum.inr (rowOf h.length λj=>f j+CZ h (h.drop i) j) else Sum.inl ([],false))) ?_ ?_ hi hN
 ·intro n f _;rw[Ax,R0 (by simp[AT])];simp[CZ]
 ·intro n i hi ih f hb;obtain⟨c,hc,U7⟩:=BL hi;have V3:=H.GS U7;rw[Ax,R1 (by simp[AT];omega),As hc];simp only[Rp];rw[J8 hl V3 (H.cells c U7).fields hM,Eg hc];simp only[Rp];cases hv:Ek h c
  ·simp
  ·simp only[Sw,R4,Sa,TS];have:=Mn hl V3 (H.cells c U7).fields (SA _) (by omega:c.fields.length-0<M) f (λj=>⟨(hb j).1,by have:=(hb j).2;omega⟩);rw[UI,SL]at this;rw[this];simp only[Rp];rw[Ao (by omega) (by omega),show ((i:Int)+1)=((i+1:Nat):Int) from rfl,ih]
   ·have e:(rowOf h.length λj=>f j+(CY h c.fields j:Int)+(CZ h (h.drop (i+1)) j:Int))=rowOf h.length λj=>f j+(CZ h (h.drop i) j:Int):=Bp λj _=>by rw[Gq hc];omega
    rw[e]
   ·intro j;have:=hb j;rw[Gq hc]at this;omega
def Jr (p:Nat->Bool):Nat->Nat->Bool
 | 0,_=>true
 | k+1,i=>p i&&Jr p k (i+1)
def Fz (p:Nat->Bool)(n i:Nat):Bool:=Jr p (n-i) i
theorem IJ (p:Nat->Bool)(n:Nat):Fz p n n=true:=by simp[Fz,Jr]
theorem HU {p:Nat->Bool}{n i:Nat}(h:i<n):Fz p n i=(p i&&Fz p n (i+1)):=by
 unfold Fz;obtain⟨k,hk⟩ :∃k,n-i=k+1:=⟨n-i-1,by omega⟩
 rw[hk,show n-(i+1)=k by omega];rfl
theorem Gr {p:Nat->Bool}{n i:Nat}(h:i<=n):Fz p n i=true↔∀j,i<=j->j<n->p j=true:=by
 obtain⟨k,hk⟩ :∃k,n-i=k:=⟨_,rfl⟩
 induction k generalizing i with
 | zero=>
  have:i=n:=by omega
  subst this;rw[IJ];simp;intro j h1 h2;omega
 | succ k ih=>
  rw[HU (by omega),SP,ih (by omega) (by omega)];constructor
  ·rintro⟨h1,h2⟩ j h3 h4;rcases Tm h3 with rfl|h5
   ·exact h1
   ·exact h2 j h5 h4
  ·intro h1;exact⟨h1 i (R3 _) (by omega),λj h2 h3=>h1 j (by omega) h3⟩
def Li (h:List Cell)(j:Nat):Bool:=match h[j]? with|some c=>!(decide (0<c.count)&&decide (c.count<CZ h h j))|none=>true
def LQ (h:List Cell)(j:Nat):Bool:=match h[j]? with|some c=>!(decide (0<c.count)&&(decide (c.count<CZ h h j) || decide (999999<c.count)))|none=>true
theorem LM {h:List Cell}(hl:h.length<=1048576){N i:Nat}(hi:i<=h.length)(hN:h.length-i<N):BJ h (refs h) N i=some (if Fz (Li h) h.length i then Sum.inr () else Sum.inl false):=by
 refine B0 h.length (λN i=>BJ h (refs h) N i=some (if Fz (Li h) h.length i then Sum.inr () else Sum.inl false)) ?_ ?_ hi hN
 ·intro n;rw[BJ,R0 (by simp[AT]),IJ];rfl
 ·intro n i hi ih;obtain⟨c,hc,_⟩:=BL hi;rw[BJ,R1 (by simp[AT];omega),As hc];simp only[Rp];rw[As (l:=refs h) (CH hi),Ao (by omega) (by omega),show ((i:Int)+1)=((i+1:Nat):Int) from rfl,ih,HU hi];unfold Li;rw[hc];by_cases h1:0<c.count<;>by_cases h2:c.count<CZ h h i<;>simp[h1,h2]
def CK (l:List Nat):List Int:=List.map (λn:Nat=>(n:Int)) l
def FH (h:List Cell)(i:Nat):List Nat:=(List.range' i (h.length-i)).filter λj=>decide (CZ h h j=0)
theorem NT (h:List Cell):FH h h.length=[]:=by simp[FH]
theorem MC {h:List Cell}{i:Nat}(hi:i<h.length):FH h i=(if CZ h h i=0 then [i] else [])++FH h (i+1):=by
 unfold FH;obtain⟨k,hk⟩ :∃k,h.length-i=k+1:=⟨h.length-i-1,by omega⟩
 rw[hk,show h.length-(i+1)=k by omega,List.range'_succ,Tw];by_cases h1:CZ h h i=0<;>simp[h1]
theorem NP {h:List Cell}(hl:h.length<=1048576){N i:Nat}(hi:i<=h.length)(hN:h.length-i<N):∀ws:List Nat,ws.length<=i->
  A1 (refs h) h N i (CK ws)=some (if Fz (LQ h) h.length i then Sum.inr (CK (ws++FH h i)) else Sum.inl ([],false)):=by
 refine B0 h.length (λN i=>∀ws:List Nat,ws.length<=i->A1 (refs h) h N i (CK ws)=some (if Fz (LQ h) h.length i then Sum.inr (CK (ws++FH h i)) else Sum.inl ([],false))) ?_ ?_ hi hN
 ·intro n ws _;rw[A1,R0 (by simp[AT]),IJ,NT];simp
 ·intro n i hi ih ws hw;obtain⟨c,hc,_⟩:=BL hi;rw[A1,R1 (by simp[AT];omega),As hc];simp only[Rp];rw[As (l:=refs h) (CH hi),Ao (by omega) (by omega),show ((i:Int)+1)=((i+1:Nat):Int) from rfl,HU hi,MC hi];simp only[Rp];have T6:LQ h i=!(decide (0<c.count)&&(decide (c.count<CZ h h i) || decide (999999<c.count))):=by unfold LQ;rw[hc]
  rw[T6];by_cases hbad:0<c.count/\(c.count<CZ h h i∨999999<c.count)
  ·obtain⟨h1,h2⟩:=hbad;by_cases h3:c.count<CZ h h i
   ·simp[h1,h3]
   ·have h4:999999<c.count:=by rcases h2 with h|h;exact absurd h h3;exact h
    simp[h1,h3,h4]
  ·have bj:(decide (0<c.count)&&(decide (c.count<CZ h h i) || decide (999999<c.count)))=false:=by
    by_cases h1:0<c.count
    ·have h2:¬ c.count<CZ h h i:=λh=>hbad ⟨h1,.inl h⟩;have h3:¬ 999999<c.count:=λh=>hbad ⟨h1,.inr h⟩;simp[h2,h3]
    ·simp[h1]
   rw[bj];have e1:(if decide (0<c.count)=true then (if decide (c.count<(CZ h h i:Int))=true then some true else some (decide (999999<c.count))) else some false)=some false:=by
    by_cases h1:0<c.count
    ·have h2:¬ c.count<CZ h h i:=λh=>hbad ⟨h1,.inl h⟩;have h3:¬ 999999<c.count:=λh=>hbad ⟨h1,.inr h⟩;simp[h1,h2,h3]
    ·simp[h1]
   rw[e1];simp only[Rp,R4,Sa,Bool.not_false,TS];by_cases hz:CZ h h i=0
   ·have e2:decide ((CZ h h i:Int)=0)=true:=by simpa using hz
    rw[R1 e2,Df _ _ _ (by simp[CK];omega) (by simp[CK];omega)];simp only[Rp,Sh.Eh];have:=ih (ws++[i]) (by simp;omega);simp only[CK,Sj,SD,TB]at this⊢;rw[this,R1 hz];simp
   ·have e2:decide ((CZ h h i:Int)=0)=false:=by simp;omega
    rw[R0 (by rw[e2];simp)];simp only[Sh.Eh];rw[ih ws (by omega),R0 hz];simp
end RC
namespace RC
open Go
def WF (h:List Cell):Prop:=∀c∈h,∀w∈c.fields,CW h w=true
def ch (h:List Cell)(i j:Nat):Prop:=∃c w,h[i]?=some c/\w∈c.fields/\Cm h w=true/\(w-1000).toNat=j
def I1 (h:List Cell):Prop:=∃rk:Nat->Nat,∀i j,ch h i j->rk j<rk i
theorem HG {h:List Cell}{i j:Nat}(hc:ch h i j):i<h.length/\j<h.length:=by
 obtain⟨c,w,h1,_,h3,h4⟩:=hc;obtain⟨q,_,_,h5,h6,_⟩:=Cp h3;exact⟨(Rq.1 h1).1,by omega⟩
theorem JJ {h:List Cell}{i j:Nat}{c:Cell}(hc:h[i]?=some c):0<CY h c.fields j↔ch h i j:=by
 unfold CY;rw[List.countP_pos_iff];constructor
 ·rintro⟨w,h1,h2⟩;obtain⟨h3,h4⟩:=NO h2;exact⟨c,w,hc,h1,h3,h4⟩
 ·rintro⟨c',w,h1,h2,h3,h4⟩;rw[hc]at h1;cases h1;exact⟨w,h2,by simp[HA,h3,h4]⟩
def E4 (m:Nat->Bool)(n:Nat):Nat:=(List.range n).countP m
theorem FW (m:Nat->Bool)(n:Nat):E4 m n<=n:=by have:=List.countP_le_length (p:=m) (l:=List.range n);simpa [E4] using this
theorem DG (m:Nat->Bool)(n:Nat):E4 m (n+1)=E4 m n+if m n then 1 else 0:=by
 unfold E4;rw[List.range_succ,List.countP_append];simp[List.countP_cons]
theorem L7 {m m':Nat->Bool}{n:Nat}(h :∀j,j<n->m j=m' j):E4 m n=E4 m' n:=by
 induction n with
 | zero=>rfl
 | succ n ih=>rw[DG,DG,ih (λj hj=>h j (by omega)),h n (by omega)]
theorem LD {m:Nat->Bool}{n i:Nat}(hi:i<n)(hm:m i=false):E4 (λk=>if k=i then true else m k) n=E4 m n+1:=by
 induction n with
 | zero=>omega
 | succ n ih=>
  rw[DG,DG];by_cases e:i=n
  ·subst e;rw[L7 (m':=m) (λj hj=>by simp;omega)];simp[hm]
  ·rw[ih (by omega)];have:¬ n=i:=λh=>e h.symm;simp[this];omega
theorem Er {m:Nat->Bool}{n:Nat}:E4 m n=n↔∀j,j<n->m j=true:=by
 constructor
 ·intro h
  induction n with
  | zero=>intro j hj;omega
  | succ n ih=>
   rw[DG]at h;have hle:=FW m n;have h1:m n=true:=by cases hm:m n<;>simp[hm]at h⊢;omega
   simp[h1]at h;intro j hj;rcases TU.1 hj with h2|rfl
   ·exact ih h j h2
   ·exact h1
 ·intro h
  induction n with
  | zero=>rfl
  | succ n ih=>rw[DG,ih (λj hj=>h j (by omega)),h n (by omega)];rfl
def Le (m:Nat->Bool)(w:Int):Bool:=!(decide (1000<=w)) || m (w-1000).toNat
theorem H8 {n:Nat}{m:Nat->Bool}{l:List Int}(hn:n<=1048576)(hl:l.length<=1048576)(hw :∀w∈l,1000<=w->w-1000<n){N i:Nat}(hi:i<=l.length)(hN:l.length-i<N):
  BE (rowOf n m) l N i=some (if (l.drop i).all (Le m) then Sum.inr () else Sum.inl false):=by
 refine B0 l.length (λN i=>BE (rowOf n m) l N i=some (if (l.drop i).all (Le m) then Sum.inr () else Sum.inl false)) ?_ ?_ hi hN
 ·intro n';rw[BE,R0 (by simp[AT])];simp
 ·intro n' i hi ih;obtain⟨x,hx,Wd⟩:=BL hi;rw[BE,R1 (by simp[AT];omega),As hx];simp only[Rp];rw[Ao (n:=(i:Int)+1) (by omega) (by omega),show ((i:Int)+1)=((i+1:Nat):Int) from rfl,ih,Eg hx];unfold BV Le;simp only[Rp];by_cases h1:1000<=x
  ·have h2:=hw x Wd h1;have e1:x-1000=(((x-1000).toNat:Nat):Int):=by omega
   rw[Ao (n:=x-1000) (by omega) (by omega)];have e2:Sh.get (rowOf n m) (x-1000)=some (m (x-1000).toNat):=by rw[N5 (by omega),CH (by omega)]
   rw[e2];cases m (x-1000).toNat<;>simp[h1]
  ·simp[h1]
theorem J9 {n:Nat}{m:Nat->Bool}{l:List Int}(hn:n<=1048576)(hl:l.length<=1048576)(hw :∀w∈l,1000<=w->w-1000<n){N:Nat}(hN:2000000<=N):Cw N (rowOf n m) l=some (l.all (Le m)):=by
 unfold Cw;have:=H8 (m:=m) hn hl hw (SA _) (by omega:l.length-0<N);rw[UI,SL]at this;rw[this];cases l.all (Le m)<;>rfl
def J (h:List Cell)(m:Nat->Bool)(many:Nat):Prop:=
 (∃rk:Nat->Nat,(∀j,j<h.length->m j=true->rk j<many)/\∀i j,m i=true->ch h i j->m j=true/\rk j<rk i)/\E4 m h.length=many
theorem J.mark {h:List Cell}{m:Nat->Bool}{many i:Nat}(hJ:J h m many)(hi:i<h.length)(hm:m i=false)(VK :∀j,ch h i j->m j=true):J h (λk=>if k=i then true else m k) (many+1):=by
 obtain⟨⟨rk,h1,h2⟩,h3⟩:=hJ;refine⟨⟨λk=>if k=i then many else rk k,λj hj gV=>?_,λa b gX bk=>?_⟩,by rw[LD hi hm,h3]⟩
 ·by_cases e:j=i
  ·simp[e]
  ·simp only[e,Sa]at gV⊢;have:=h1 j hj gV;omega
 ·have hb:=(HG bk).2;by_cases ea:a=i
  ·subst ea;have Xg:=VK b bk;have eb:¬ b=a:=λe=>by rw[e,hm]at Xg;cases Xg
   simp only[eb,Sa,Sr];exact⟨Xg,h1 b hb Xg⟩
  ·simp only[ea,Sa]at gX;obtain⟨h4,h5⟩:=h2 a b gX bk;have eb:¬ b=i:=λe=>by rw[e,hm]at h4;cases h4
   simp only[ea,eb,Sa];exact⟨h4,h5⟩
def Mi (h:List Cell)(m:Nat->Bool)(i:Nat):Prop:=∀j,ch h i j->m j=true
theorem Kn {h:List Cell}(hw:WF h){m:Nat->Bool}{i:Nat}{c:Cell}(hc:h[i]?=some c):c.fields.all (Le m)=true↔Mi h m i:=by
 rw[Ry];constructor
 ·rintro h1 j ⟨c',w,h2,h3,h4,h5⟩;rw[hc]at h2;cases h2;have:=h1 w h3;obtain⟨q,_,h6,_⟩:=Cp h4;have h7:1000<=w:=by omega
  simp only[Le,h7,T5,Sw,Bool.false_or]at this;rw[<- h5];exact this
 ·intro h1 w h2;unfold Le;by_cases h3:1000<=w
  ·have h4:=hw c (Ro hc) w h2;have h5:Eb w=false:=by unfold Eb;simp;omega
   unfold CW at h4;rw[h5,Bool.or_false]at h4;have:=h1 _ ⟨c,w,hc,h2,h4,rfl⟩;simp[this]
  ·simp[h3]
theorem Qq {h:List Cell}(hw:WF h){c:Cell}(hc:c∈h):∀w∈c.fields,1000<=w->w-1000<(h.length:Int):=λw h2 h3=>by
 have h4:=hw c hc w h2;have h5:Eb w=false:=by unfold Eb;simp;omega
 unfold CW at h4;rw[h5,Bool.or_false]at h4;obtain⟨q,_,h6,_,h7,_⟩:=Cp h4;omega
theorem OZ {h:List Cell}(H:Hp h)(hw:WF h){M:Nat}(hM:2000000<=M){N i:Nat}(hi:i<=h.length)(hN:h.length-i<N):∀(m:Nat->Bool) (many:Nat) (more:Bool),J h m many->
  ∃m' UO Up,BH M h N (many:Int) more i (rowOf h.length m)=some (((UO:Nat):Int),Up,rowOf h.length m')/\J h m' UO/\many<=UO/\
   (Up=false->more=false/\(∀j,j<h.length->m' j=m j)/\∀j,i<=j->j<h.length->m j=true∨¬ Mi h m j)/\(Up=true->more=true∨many<UO):=by
 have hl:=H.len;refine B0 h.length (λN i=>∀(m:Nat->Bool) (many:Nat) (more:Bool),J h m many->
  ∃m' UO Up,BH M h N (many:Int) more i (rowOf h.length m)=some (((UO:Nat):Int),Up,rowOf h.length m')/\J h m' UO/\many<=UO/\
   (Up=false->more=false/\(∀j,j<h.length->m' j=m j)/\∀j,i<=j->j<h.length->m j=true∨¬ Mi h m j)/\(Up=true->more=true∨many<UO)) ?_ ?_ hi hN
 ·intro n m many more hJ;refine⟨m,many,more,?_,hJ,R3 _,λe=>⟨e,λ_ _=>rfl,λj h1 h2=>by omega⟩,λe=>.inl e⟩;rw[BH,R0 (by simp[AT])]
 ·intro n i hi ih m many more hJ;obtain⟨c,hc,U7⟩:=BL hi;have XW:many<=h.length:=by rw[<- hJ.2];exact FW _ _
  rw[BH,R1 (by simp[AT];omega),As (CH hi)];simp only[Rp];rw[As hc];simp only[Rp];rw[J9 hl (H.GS U7) (Qq hw U7) hM];simp only[Rp];rw[Ao (n:=(i:Int)+1) (by omega) (by omega),show ((i:Int)+1)=((i+1:Nat):Int) from rfl];cases hmi:m i with
  | true=>
   obtain⟨m',UO,Up,e1,e2,e3,e4,e5⟩:=ih m many more hJ;refine⟨m',UO,Up,by simpa using e1,e2,e3,λe=>?_,e5⟩;obtain⟨f1,f2,f3⟩:=e4 e;refine⟨f1,f2,λj h1 h2=>?_⟩;rcases Tm h1 with rfl|h3
   ·exact .inl hmi
   ·exact f3 j h3 h2
  | false=>
   cases ha:c.fields.all (Le m) with
   | false=>
    obtain⟨m',UO,Up,e1,e2,e3,e4,e5⟩:=ih m many more hJ;refine⟨m',UO,Up,by simpa using e1,e2,e3,λe=>?_,e5⟩;obtain⟨f1,f2,f3⟩:=e4 e;refine⟨f1,f2,λj h1 h2=>?_⟩;rcases Tm h1 with rfl|h3
    ·refine .inr λh4=>?_;rw[(Kn hw hc).2 h4]at ha;cases ha
    ·exact f3 j h3 h2
   | true=>
    have jF:=hJ.mark hi hmi ((Kn hw hc).1 ha);obtain⟨m',UO,Up,e1,e2,e3,e4,e5⟩:=ih _ (many+1) true jF;refine⟨m',UO,Up,?_,e2,by omega,λe=>?_,λe=>.inr (by omega)⟩
    ·have ew:Sh.w ((many:Int)+1)=((many+1:Nat):Int):=by rw[Ao (by omega) (by omega)];rfl
     simp only[Bool.not_false,Sr,Rp,ew,Eu,Fa];exact e1
    ·have:=(e4 e).1;cases this
theorem O0 {h:List Cell}(H:Hp h)(hw:WF h){M:Nat}(hM:2000000<=M):∀(d N:Nat) (m:Nat->Bool) (many:Nat),J h m many->h.length-many=d->d+1<N->
  ∃m' UO,BG M h N (many:Int) true (rowOf h.length m)=some ((UO:Nat):Int)/\J h m' UO/\∀j,j<h.length->m' j=true∨¬ Mi h m' j:=by
 have hl:=H.len;intro d
 induction d using Nat.strongRecOn with
 | _ d ih=>
  intro N m many hJ hd hN;obtain⟨n,rfl⟩ :∃n,N=n+1:=⟨N-1,by omega⟩
  have XW:many<=h.length:=by rw[<- hJ.2];exact FW _ _
  obtain⟨m',UO,Up,e1,e2,e3,e4,e5⟩:=OZ H hw hM (SA _) (by omega:h.length-0<M) m many false hJ;rw[UI]at e1;have eh:UO<=h.length:=by rw[<- e2.2];exact FW _ _
  rw[BG,R1 rfl,e1];simp only[Rp];cases Up with
  | true=>
   have h1:many<UO:=by rcases e5 rfl with h|h;cases h;exact h
   exact ih (h.length-UO) (by omega) n m' UO e2 rfl (by omega)
  | false=>
   obtain⟨_,f2,f3⟩:=e4 rfl;obtain⟨n',rfl⟩ :∃n',n=n'+1:=⟨n-1,by omega⟩
   refine⟨m',UO,?_,e2,λj hj=>?_⟩
   ·rw[BG,R0 (by simp)]
   ·rcases f3 j (SA _) hj with h1|h1
    ·left;rw[f2 j hj];exact h1
    ·right;intro h2;exact h1 λq hq=>by rw[<- f2 q (HG hq).2];exact h2 q hq
theorem IB {h:List Cell}{m:Nat->Bool}{many:Nat}(hJ:J h m many)(hc :∀j,j<h.length->m j=true∨¬ Mi h m j):many=h.length↔I1 h:=by
 obtain⟨⟨rk,h1,h2⟩,h3⟩:=hJ;constructor
 ·intro e;have VK:=Er.1 (h3.trans e);exact⟨rk,λi j Wm=>(h2 i j (VK i (HG Wm).1) Wm).2⟩
 ·rintro⟨Pg,hr⟩;rw[<- h3];refine Er.2 λj hj=>?_;have key:∀d j,j<h.length->Pg j<d->m j=true:=by
   intro d
   induction d with
   | zero=>intro j _ h4;omega
   | succ d ih=>
    intro j hj UM;rcases hc j hj with h4|h4
    ·exact h4
    ·exact absurd (λq hq=>ih q (HG hq).2 (by have:=hr j q hq;omega)) h4
  exact key (Pg j+1) j hj (by omega)
theorem KC {h:List Cell}(H:Hp h)(hw:WF h){N:Nat}(hN:2000000<=N):∃b,Cz N h=some b/\(b=true↔I1 h):=by
 have hl:=H.len;unfold Cz;rw[AT,Ls _ h.length 1 (by omega) (by omega),Fi];simp only[Rp];have jG:J h (λ_=>false) 0:=⟨⟨λ_=>0,λ_ _ h=>(by cases h),λ_ _ h=>(by cases h)⟩,by
  have :∀n,E4 (λ_=>false) n=0:=λn=>by induction n with
   | zero=>rfl
   | succ n ih=>rw[DG,ih];rfl
  exact this _⟩
 obtain⟨m',UO,e1,e2,e3⟩:=O0 H hw hN _ N _ 0 jG rfl (by omega);rw[UI]at e1;rw[e1];simp only[Rp];refine⟨_,rfl,?_⟩;rw[SJ,<- IB e2 e3];omega
end RC
namespace RC
open Go
def fl (h:List Cell)(i:Nat):List Int:=match h[i]? with|some c=>c.fields|none=>[]
theorem IF {h:List Cell}{i:Nat}{c:Cell}(hc:h[i]?=some c):fl h i=c.fields:=by simp[fl,hc]
def EI (h:List Cell)(p:Nat->Bool)(j:Nat):Nat->Nat
 | 0=>0
 | n+1=>EI h p j n+if p n then 0 else CY h (fl h n) j
def un (h:List Cell)(p:Nat->Bool)(j:Nat):Nat:=EI h p j h.length
theorem JA {h:List Cell}{p:Nat->Bool}{j n:Nat}:EI h p j n=0↔∀i,i<n->p i=false->CY h (fl h i) j=0:=by
 induction n with
 | zero=>simp[EI]
 | succ n ih=>
  unfold EI;constructor
  ·intro e i hi hp;rcases TU.1 hi with h1|rfl
   ·exact ih.1 (by omega) i h1 hp
   ·simp[hp]at e;omega
  ·intro e;rw[ih.2 λi hi=>e i (by omega)];cases hp:p n with
   | true=>simp
   | false=>simp[e n (by omega) hp]
theorem MV {h:List Cell}{p p':Nat->Bool}{j n:Nat}(e :∀i,i<n->p i=p' i):EI h p j n=EI h p' j n:=by
 induction n with
 | zero=>rfl
 | succ n ih=>unfold EI;rw[ih λi hi=>e i (by omega),e n (by omega)]
theorem KQ {h:List Cell}{p:Nat->Bool}{j n x:Nat}(hx:x<n)(hp:p x=false):EI h p j n=EI h (λk=>if k=x then true else p k) j n+CY h (fl h x) j:=by
 induction n with
 | zero=>omega
 | succ n ih=>
  unfold EI;by_cases e:x=n
  ·subst e;rw[MV (p':=λk=>if k=x then true else p k) (n:=x) (λi hi=>by
    have:¬ i=x:=by omega
    simp[this])]
   simp[hp]
  ·have e':¬ n=x:=λh=>e h.symm;rw[ih (by omega)];simp only[e',Sa];omega
theorem NR (h:List Cell)(j:Nat):∀n,n<=h.length->EI h (λ_=>false) j n=CZ h (h.take n) j:=by
 intro n
 induction n with
 | zero=>intro _;simp[EI,CZ]
 | succ n ih=>
  intro hn;obtain⟨c,hc,_⟩:=BL (l:=h) (i:=n) (by omega);unfold EI;rw[ih (by omega),Ff hc,IF hc];simp[CZ]
theorem JM (h:List Cell)(j:Nat):un h (λ_=>false) j=CZ h h j:=by
 unfold un;rw[NR h j _ (R3 _),TF]
theorem Od (h:List Cell)(p:Nat->Bool)(j:Nat):∀n,n<=h.length->EI h p j n<=Dn (h.take n):=by
 intro n
 induction n with
 | zero=>intro _;simp[EI]
 | succ n ih=>
  intro hn;obtain⟨c,hc,_⟩:=BL (l:=h) (i:=n) (by omega);have h1:=ih (by omega);have h2:=Lt h c.fields j;unfold EI;rw[Ff hc,Fb,IF hc];have:Dn [c]=c.fields.length:=by simp[Dn]
  split<;>omega
theorem Qe (h:List Cell)(p:Nat->Bool)(j:Nat):un h p j<=Dn h:=by
 have:=Od h p j h.length (R3 _);rwa [TF]at this
theorem NH {h:List Cell}{c:Cell}(hl:h.length<=1048576)(hf:c.fields.length<=1048576)(hF :∀x∈c.fields,Bh x){N k:Nat}(hk:k<=c.fields.length)(hN:c.fields.length-k<N):
  ∀(g:Nat->Nat) (ws:List Nat),(∀j,g j<=1048576)->ws.length<=2097152+k->∃ps:List Nat,A2 c h N k (rowOf h.length λj=>((g j+CY h (c.fields.drop k) j:Nat):Int)) (CK ws)=some (rowOf h.length λj=>((g j:Nat):Int),CK (ws++ps))/\
   ps.Nodup/\ps.length<=c.fields.length-k/\∀j,j∈ps↔g j=0/\0<CY h (c.fields.drop k) j:=by
 refine B0 c.fields.length (λN k=>∀(g:Nat->Nat) (ws:List Nat),(∀j,g j<=1048576)->ws.length<=2097152+k->∃ps:List Nat,A2 c h N k (rowOf h.length λj=>((g j+CY h (c.fields.drop k) j:Nat):Int)) (CK ws)=some (rowOf h.length λj=>((g j:Nat):Int),CK (ws++ps))/\
   ps.Nodup/\ps.length<=c.fields.length-k/\∀j,j∈ps↔g j=0/\0<CY h (c.fields.drop k) j) ?_ ?_ hk hN
 ·intro n g ws _ _;refine⟨[],?_,Td,by simp,λj=>by simp[Hz]⟩;rw[A2,R0 (by simp[AT])];simp[Hz]
 ·intro n k hk ih g ws hg gY;obtain⟨x,hx,Wd⟩:=BL hk;rw[A2,R1 (by simp[AT];omega),As hx];simp only[Rp];rw[HR hl (hF x Wd)];simp only[Rp];rw[Ao (n:=(k:Int)+1) (by omega) (by omega),show ((k:Int)+1)=((k+1:Nat):Int) from rfl];cases hlv:Cm h x
  ·simp only[R4,Sa,Rp];have e:(rowOf h.length λj=>((g j+CY h (c.fields.drop k) j:Nat):Int))=rowOf h.length λj=>((g j+CY h (c.fields.drop (k+1)) j:Nat):Int):=Bp λj _=>by
    rw[Dl hx,Gp hlv];simp
   rw[e];obtain⟨ps,h1,h2,h3,h4⟩:=ih g ws hg (by omega);refine⟨ps,h1,h2,by omega,λj=>?_⟩;rw[h4 j,Dl hx,Gp hlv];simp
  ·obtain⟨q,c',h1,h2,h3,_⟩:=Cp hlv;have e1:x-1000=(q:Int):=by omega
   have hq:CY h (c.fields.drop k) q=1+CY h (c.fields.drop (k+1)) q:=by rw[Dl hx,Hv hlv,h2];simp
   have Ua:∀j,¬ j=q->CY h (c.fields.drop k) j=CY h (c.fields.drop (k+1)) j:=λj e=>by
    have e':¬ q=j:=λh=>e h.symm;rw[Dl hx,Hv hlv,h2];simp[e']
   have kP:=Lt h (c.fields.drop (k+1)) q;have Zb:(c.fields.drop (k+1)).length<=c.fields.length:=by simp
   have kQ:=hg q;simp only[Sr];rw[Ao (n:=x-1000) (by omega) (by omega),e1,As (CH h3)];simp only[Rp];rw[Ao (n:=((g q+CY h (c.fields.drop k) q:Nat):Int)-1) (by omega) (by omega),Eu,Fa];have er:(rowOf h.length λj=>if j=q then ((g q+CY h (c.fields.drop k) q:Nat):Int)-1 else ((g j+CY h (c.fields.drop k) j:Nat):Int))=rowOf h.length λj=>((g j+CY h (c.fields.drop (k+1)) j:Nat):Int):=Bp λj _=>by
    by_cases e:j=q
    ·subst e;simp only[Sr];omega
    ·simp only[e,Sa];rw[Ua j e]
   rw[er,As (CH h3)];simp only[Rp];by_cases hz:g q+CY h (c.fields.drop (k+1)) q=0
   ·have ez:decide (((g q+CY h (c.fields.drop (k+1)) q:Nat):Int)=0)=true:=by simp;omega
    rw[R1 ez,Df _ _ _ (by simp[CK];omega) (by simp[CK];omega)];simp only[Rp];have en:CK ws++[(q:Int)]=CK (ws++[q]):=by simp[CK]
    rw[en];obtain⟨ps,f1,f2,f3,f4⟩:=ih g (ws++[q]) hg (by simp;omega);refine⟨q::ps,by rw[f1];simp,List.nodup_cons.2 ⟨λhm=>?_,f2⟩,by simp;omega,λj=>?_⟩
    ·have:=(f4 q).1 hm;omega
    ·rw[SE,f4 j];by_cases e:j=q
     ·subst e;rw[hq];constructor
      ·intro _;omega
      ·intro _;exact .inl rfl
     ·rw[Ua j e];simp[e]
   ·have ez:decide (((g q+CY h (c.fields.drop (k+1)) q:Nat):Int)=0)=false:=by simp;omega
    rw[R0 (by rw[ez];simp)];simp only[Rp];obtain⟨ps,f1,f2,f3,f4⟩:=ih g ws hg (by omega);refine⟨ps,f1,f2,by omega,λj=>?_⟩;rw[f4 j];by_cases e:j=q
    ·subst e;rw[hq];constructor
     ·rintro⟨a,b⟩;exact⟨a,by omega⟩
     ·rintro⟨a,b⟩;exact⟨a,by omega⟩
    ·rw[Ua j e]
structure KI (h:List Cell) (p:Nat->Bool) (ws:List Nat) (many:Nat):Prop where
 nd:ws.Nodup
 mem :∀x∈ws,x<h.length/\p x=false/\un h p x=0
 all :∀j,j<h.length->un h p j=0->p j=true∨j∈ws
 num:E4 p h.length=many
 tm :∃tm:Nat->Nat,(∀j,j<h.length->p j=true->tm j<many)/\∀i j,ch h i j->p j=true->p i=true/\tm i<tm j
theorem NF {ws:List Nat}{n:Nat}(VM:ws.Nodup)(hm :∀x∈ws,x<n):ws.length<=n:=by
 induction n generalizing ws with
 | zero=>
  cases ws with
  | nil=>simp
  | cons x r=>have:=hm x (by simp);omega
 | succ n ih=>
  by_cases h:n∈ws
  ·have h1:=ih (VM.erase n) λx hx=>by
    obtain⟨h2,h3⟩:=VM.mem_erase_iff.1 hx;have:=hm x h3;omega
   rw[TT h]at h1;omega
  ·have:=ih VM λx hx=>by
    have h1:=hm x hx;have h2:¬ x=n:=λe=>h (e▸hx);omega
   omega
theorem Qb {h:List Cell}{p:Nat->Bool}{j i:Nat}(hu:un h p j=0)(hc:ch h i j):p i=true:=by
 obtain⟨c,w,h1,h2,h3,h4⟩:=hc;cases hp:p i with
 | true=>rfl
 | false=>
  have:=JA.1 hu i (Rq.1 h1).1 hp;rw[IF h1]at this;have:=(JJ (j:=j) h1).2 ⟨c,w,h1,h2,h3,h4⟩;omega
theorem KI.step {h:List Cell}{p:Nat->Bool}{ws ps:List Nat}{many x:Nat}{c:Cell}(hK:KI h p (ws++[x]) many)(hc:h[x]?=some c)(jH:ps.Nodup)
  (WO :∀j,j∈ps↔un h (λk=>if k=x then true else p k) j=0/\0<CY h c.fields j):KI h (λk=>if k=x then true else p k) (ws++ps) (many+1):=by
 obtain⟨Xm,hx2,hx3⟩:=hK.mem x (by simp);obtain⟨tm,t1,t2⟩:=hK.tm;have V4:∀j,un h p j=un h (λk=>if k=x then true else p k) j+CY h c.fields j:=λj=>by
  have:=KQ (h:=h) (j:=j) Xm hx2;rwa [IF hc]at this
 have VM:=hK.nd;rw[Tc]at VM;obtain⟨ek,_,hnd3⟩:=VM;have Ya:∀j∈ps,j<h.length/\¬ j=x/\p j=false/\0<un h p j:=λj hj=>by
  obtain⟨h1,h2⟩:=(WO j).1 hj;have Yc:=(JJ hc).1 h2;have Ui:0<un h p j:=by have:=V4 j;omega
  have X2:¬ j=x:=λe=>by subst e;omega
  refine⟨(HG Yc).2,X2,?_,Ui⟩;cases hp:p j with
  | false=>rfl
  | true=>have:=(t2 x j Yc hp).1;rw[hx2]at this;cases this
 refine⟨?_,λy hy=>?_,λj hj hu=>?_,by rw[LD Xm hx2,hK.num],⟨λk=>if k=x then many else tm k,λj hj hp=>?_,λi j Wm hp=>?_⟩⟩
 ·rw[Tc];refine⟨ek,jH,λa ha b hb e=>?_⟩;subst e;have h1:=(hK.mem a (by simp[ha])).2.2;have h2:=(Ya a hb).2.2.2;omega
 ·rcases SM.1 hy with hy|hy
  ·obtain⟨h1,h2,h3⟩:=hK.mem y (by simp[hy]);have jI:¬ y=x:=λe=>hnd3 y hy x (by simp) e;have:=V4 y;exact⟨h1,by simp[jI,h2],by omega⟩
  ·obtain⟨h1,h2,h3,_⟩:=Ya y hy;exact⟨h1,by simp[h2,h3],((WO y).1 hy).1⟩
 ·by_cases X2:j=x
  ·left;simp[X2]
  ·have hs:=V4 j;rcases Nat.eq_zero_or_pos (CY h c.fields j) with h0|h0
   ·rcases hK.all j hj (by omega) with h1|h1
    ·left;simp[X2,h1]
    ·right;rcases SM.1 h1 with h2|h2
     ·exact SM.2 (.inl h2)
     ·simp at h2;exact absurd h2 X2
   ·right;exact SM.2 (.inr ((WO j).2 ⟨hu,h0⟩))
 ·by_cases X2:j=x
  ·simp[X2]
  ·simp only[X2,Sa]at hp⊢;have:=t1 j hj hp;omega
 ·by_cases X2:j=x
  ·subst X2;have ZT:=Qb hx3 Wm;have eo:¬ i=j:=λe=>by subst e;rw[hx2]at ZT;cases ZT
   simp only[eo,Sa,Sr];exact⟨ZT,t1 i (HG Wm).1 ZT⟩
  ·simp only[X2,Sa]at hp;obtain⟨h1,h2⟩:=t2 i j Wm hp;have eo:¬ i=x:=λe=>by subst e;rw[hx2]at h1;cases h1
   simp only[eo,X2,Sa];exact⟨h1,h2⟩
theorem Mv {h:List Cell}(H:Hp h){M:Nat}(hM:2000000<=M):∀(d N:Nat) (p:Nat->Bool) (ws:List Nat) (many:Nat),KI h p ws many->h.length-many=d->d<N->
  ∃p' UO,Az M h N (many:Int) (rowOf h.length λj=>((un h p j:Nat):Int)) (CK ws)=some ((UO:Nat):Int)/\KI h p' [] UO:=by
 have hl:=H.len;intro d
 induction d with
 | zero=>
  intro N p ws many hK hd hN;obtain⟨n,rfl⟩ :∃n,N=n+1:=⟨N-1,by omega⟩
  have XW:many=h.length:=by have:=FW p h.length;have:=hK.num;omega
  have gY:ws=[]:=by
   cases ws with
   | nil=>rfl
   | cons x r=>
    obtain⟨h1,h2,_⟩:=hK.mem x (by simp);have:=Er.1 (hK.num.trans XW) x h1;rw[h2]at this;cases this
  subst gY;exact⟨p,many,by rw[Az,R0 (by simp[AT,CK])],hK⟩
 | succ d ih=>
  intro N p ws many hK hd hN;obtain⟨n,rfl⟩ :∃n,N=n+1:=⟨N-1,by omega⟩
  have XW:many<=h.length:=by have:=FW p h.length;have:=hK.num;omega
  rcases List.eq_nil_or_concat ws with rfl|⟨ws,x,rfl⟩
  ·exact⟨p,many,by rw[Az,R0 (by simp[AT,CK])],hK⟩
  ·rw[List.concat_eq_append]at hK⊢;obtain⟨Xm,hx2,hx3⟩:=hK.mem x (by simp);obtain⟨c,hc,U7⟩:=BL Xm;have jJ:=NF hK.nd (λy hy=>(hK.mem y hy).1);rw[SV,Te]at jJ;have ep:Sh.w (Sh.len (CK (ws++[x]))-1)=(ws.length:Int):=by
    rw[AT];have:(CK (ws++[x])).length=ws.length+1:=by simp[CK]
    rw[this,Ao (by omega) (by omega)];omega
   have eu:Sh.get (CK (ws++[x])) (ws.length:Int)=some (x:Int):=by
    rw[Jx];simp[CK]
   have jK:Sh.hi (CK (ws++[x])) (ws.length:Int)=some (CK ws):=by
    rw[Qh (by simp[CK])];congr 1;simp[CK]
   rw[Az,R1 (by simp[AT,CK]),ep,eu];simp only[Rp];rw[As hc,jK];simp only[Rp];have YB:∀j,un h p j=un h (λk=>if k=x then true else p k) j+CY h c.fields j:=λj=>by
    have:=KQ (h:=h) (j:=j) Xm hx2;rwa [IF hc]at this
   have Zc:=H.size;obtain⟨ps,f1,f2,f3,f4⟩:=NH hl (H.GS U7) (H.cells c U7).fields (SA _) (by have:=H.GS U7;omega:c.fields.length-0<M) (λj=>un h (λk=>if k=x then true else p k) j) ws
    (λj=>by have:=Qe h (λk=>if k=x then true else p k) j;unfold Br at Zc;omega) (by omega)
   rw[UI,SL]at f1;have er:(rowOf h.length λj=>((un h p j:Nat):Int))=rowOf h.length λj=>((un h (λk=>if k=x then true else p k) j+CY h c.fields j:Nat):Int):=Bp λj _=>by rw[YB j]
   rw[er,f1];simp only[Rp];have ew:Sh.w ((many:Int)+1)=((many+1:Nat):Int):=by rw[Ao (by omega) (by omega)];rfl
   rw[ew];have jL:=hK.step hc f2 (by rw[SL]at f4;exact f4);exact ih n _ _ (many+1) jL (by omega) (by omega)
theorem OB (rk:Nat->Nat)(n:Nat):∃B,∀j,j<n->rk j<=B:=by
 induction n with
 | zero=>exact⟨0,λj hj=>by omega⟩
 | succ n ih=>
  obtain⟨B,hB⟩:=ih;refine⟨max B (rk n),λj hj=>?_⟩;rcases TU.1 hj with h1|rfl
  ·have:=hB j h1;omega
  ·omega
theorem IU {h:List Cell}{p:Nat->Bool}{many:Nat}(hK:KI h p [] many):many=h.length↔I1 h:=by
 obtain⟨tm,t1,t2⟩:=hK.tm;constructor
 ·intro e;have VK:=Er.1 (hK.num.trans e);refine⟨λk=>h.length-tm k,λi j Wm=>?_⟩;obtain⟨hi,hj⟩:=HG Wm;obtain⟨_,h2⟩:=t2 i j Wm (VK j hj);have:=t1 j hj (VK j hj);show h.length-tm j<h.length-tm i;omega
 ·rintro⟨rk,hr⟩;rw[<- hK.num];obtain⟨B,hB⟩:=OB rk h.length;refine Er.2 λj hj=>?_;have key:∀d j,j<h.length->B-rk j<d->p j=true:=by
   intro d
   induction d with
   | zero=>intro j _ h4;omega
   | succ d ih=>
    intro j hj UM;cases hp:p j with
    | true=>rfl
    | false=>
     have hu:¬ un h p j=0:=λe=>by
      rcases hK.all j hj e with h1|h1
      ·rw[hp]at h1;cases h1
      ·simp at h1
     have :∃i,i<h.length/\p i=false/\¬ CY h (fl h i) j=0:=by
      refine TP λYg=>hu (JA.2 λi hi ZT=>?_);refine TP λUa=>Yg ⟨i,hi,ZT,Ua⟩
     obtain⟨i,hi,ZT,Ua⟩:=this;obtain⟨c,hc,_⟩:=BL hi;rw[IF hc]at Ua;have Yc:=(JJ (j:=j) hc).1 (by omega);have h5:=hr i j Yc;have h6:=hB i hi;have:=ih i hi (by omega);rw[ZT]at this;cases this
  exact key (B-rk j+1) j hj (by omega)
end RC
namespace RC
open Go
def FN (h:List Cell):Bool:=match h[h.length-1]? with|some c=>decide (c.count=0)|none=>false
structure VH (h:List Cell):Prop where
 last:FN h=false
 cells :∀c∈h,Es h c=true
 counts :∀j,j<h.length->Li h j=true
 Nk:I1 h
theorem Mh {h:List Cell}(hl:h.length<=1048576):(if (decide (0<(Sh.len h)))=true then (Sh.get h (Sh.w ((Sh.len h)-1))).bind λc=>some (decide (c.count=0)) else some false)=some (FN h):=by
 rw[AT];unfold FN;by_cases h0:h.length=0
 ·have:h=[]:=SO h0;subst this;rfl
 ·obtain⟨c,hc,_⟩:=BL (l:=h) (i:=h.length-1) (by omega);rw[R1 (by simp;omega),Ao (by omega) (by omega),show ((h.length:Int)-1)=((h.length-1:Nat):Int) by omega,As hc,hc];rfl
theorem Qf {h:List Cell}(hc :∀c∈h,Ek h c=true):WF h:=λc U7 w hw=>by
 have:=hc c U7;unfold Ek at this;simp only[SP]at this;have h2:=Ry.1 this.2 w hw;simp only[SP]at h2;exact h2.1
theorem Ji {h:List Cell}{c:Cell}(hc:Es h c=true):Ek h c=true/\c.count<=999999:=by
 rw[Kf,SP,SJ]at hc;exact hc
theorem Lh {h:List Cell}(H:Hp h){M:Nat}(hM:2000000<=M){N i:Nat}(hi:i<=h.length)(hN:h.length-i<N):BF M h N i=some (if (h.drop i).all (Es h) then Sum.inr () else Sum.inl false):=by
 have hl:=H.len;refine B0 h.length (λN i=>BF M h N i=some (if (h.drop i).all (Es h) then Sum.inr () else Sum.inl false)) ?_ ?_ hi hN
 ·intro n;rw[BF,R0 (by simp[AT])];simp
 ·intro n i hi ih;obtain⟨c,hc,U7⟩:=BL hi;rw[BF,R1 (by simp[AT];omega),As hc];simp only[Rp];rw[KM hl (H.GS U7) (H.cells c U7).fields hM,Ao (by omega) (by omega),show ((i:Int)+1)=((i+1:Nat):Int) from rfl,ih,Eg hc];cases Es h c<;>simp
theorem MW {h:List Cell}(H:Hp h){N:Nat}(hN:2000000<=N):∃b,B7 N h=some b/\(b=true↔VH h):=by
 have hl:=H.len;unfold B7;rw[Mh hl];simp only[Rp];cases h1:FN h with
 | true=>exact⟨false,by simp,(by simp;intro hv;rw[hv.last]at h1;cases h1)⟩
 | false=>
  have e1:=Lh H hN (SA _) (by omega:h.length-0<N);rw[UI,SL]at e1;simp only[R4,Sa];rw[e1,My H hN];cases h2:h.all (Es h) with
  | false=>
   refine⟨false,by simp,?_⟩;simp only[R4,false_iff];intro hv;have:=Ry.2 hv.cells;rw[h2]at this;cases this
  | true=>
   have UJ:=Ry.1 h2;simp only[Sr,Sh.Eh,Rp];have e2:=LM hl (SA _) (by omega:h.length-0<N);rw[UI]at e2;rw[e2];cases h3:Fz (Li h) h.length 0 with
   | false=>
    refine⟨false,by simp,?_⟩;simp only[R4,false_iff];intro hv;have:=(Gr (p:=Li h) (SA _)).2 λj _ hj=>hv.counts j hj;rw[h3]at this;cases this
   | true=>
    have Xt:=(Gr (p:=Li h) (SA _)).1 h3;obtain⟨b,f1,f2⟩:=KC H (Qf λc hc=>(Ji (UJ c hc)).1) hN;simp only[Sr,Sh.Eh];rw[f1];exact⟨b,rfl,f2.trans ⟨λhr=>⟨h1,UJ,λj hj=>Xt j (SA _) hj,hr⟩,λhv=>hv.Nk⟩⟩
theorem Lf {h:List Cell}{j:Nat}{c:Cell}(hc:h[j]?=some c):LQ h j=true↔Li h j=true/\(0<c.count->c.count<=999999):=by
 unfold LQ Li;rw[hc];by_cases h1:0<c.count<;>by_cases h2:c.count<CZ h h j<;>by_cases h3:999999<c.count<;>simp[h1,h2,h3]<;>omega
theorem Kg (l:List Int)(hl:l.length<=1048576):BO l=some l:=by
 unfold BO;rw[Df _ _ _ (by simp;omega) (by simp;omega)];rfl
theorem MI {h:List Cell}(H:Hp h){N:Nat}(hN:2000000<=N):∃r b,B6 N h=some (r,b)/\(b=true↔VH h)/\(b=true->r=refs h):=by
 have hl:=H.len;unfold B6;rw[Mh hl,AT,Ls _ h.length 8 (by omega) (by omega),Fi];simp only[Rp];have e1:=Mu H hN (SA _) (by omega:h.length-0<N) (λ_=>0) (λj=>⟨by omega,by
  have h1:=N0 h (h.drop 0) j;have h2:=G6 h 0;have h3:=H.size;unfold Br at h3;omega⟩)
 rw[UI,SL]at e1;rw[e1];have er:(rowOf h.length λj=>(0:Int)+(CZ h h j:Int))=refs h:=Bp λj _=>by omega
 rw[er];cases h2:h.all (Ek h) with
 | false=>
  refine⟨[],false,by simp,?_,by simp⟩;simp only[R4,false_iff];intro hv;have:=Ry.2 λc hc=>(Ji (hv.cells c hc)).1;rw[h2]at this;cases this
 | true=>
  have UJ:=Ry.1 h2;simp only[Sr,Sh.Eh];cases h1:FN h with
  | true=>exact⟨[],false,by simp,(by simp;intro hv;rw[hv.last]at h1;cases h1),by simp⟩
  | false=>
   have ZX:(refs h).length=h.length:=D7;simp only[R4,Sa];rw[Kg _ (by omega)];have e2:=NP hl (SA _) (by omega:h.length-0<N) [] (by simp);rw[UI,S4,show CK []=[] from rfl]at e2;rw[e2];simp only[Rp];cases h3:Fz (LQ h) h.length 0 with
   | false=>
    refine⟨[],false,by simp,?_,by simp⟩;simp only[R4,false_iff];intro hv;have:=(Gr (p:=LQ h) (SA _)).2 λj _ hj=>by
     obtain⟨c,hc,U7⟩:=BL hj;exact (Lf hc).2 ⟨hv.counts j hj,λ_=>(Ji (hv.cells c U7)).2⟩
    rw[h3]at this;cases this
   | true=>
    have Xt:=(Gr (p:=LQ h) (SA _)).1 h3;simp only[Sr,Sh.Eh];have jM:refs h=rowOf h.length λj=>((un h (λ_=>false) j:Nat):Int):=Bp λj _=>by rw[JM]
    have jN:KI h (λ_=>false) (FH h 0) 0:=by
     have hz:∀x,x∈FH h 0↔x<h.length/\CZ h h x=0:=λx=>by
      unfold FH;rw[List.mem_filter,List.mem_range'];simp
     refine⟨?_,λx hx=>?_,λj hj hu=>?_,?_,⟨λ_=>0,λ_ _ h=>(by cases h),λ_ _ _ h=>(by cases h)⟩⟩
     ·exact List.Nodup.sublist List.filter_sublist List.nodup_range'
     ·obtain⟨h4,h5⟩:=(hz x).1 hx;exact⟨h4,rfl,by rw[JM];exact h5⟩
     ·rw[JM]at hu;exact .inr ((hz j).2 ⟨hj,hu⟩)
     ·have :∀n,E4 (λ_=>false) n=0:=λn=>by induction n with
       | zero=>rfl
       | succ n ih=>rw[DG,ih];rfl
      exact this _
    obtain⟨p',UO,f1,f2⟩:=Mv H hN h.length N _ _ 0 jN (by omega) (by omega);rw[UI,<- jM]at f1;rw[f1];refine⟨refs h,_,rfl,?_,λ_=>rfl⟩;rw[SJ];have hm:((UO:Nat):Int)=(h.length:Int)↔UO=h.length:=by omega
    rw[hm,IU f2];constructor
    ·intro hr;refine⟨h1,λc hc=>?_,λj hj=>?_,hr⟩
     ·rw[Kf,UJ c hc,TS,SJ];obtain⟨j,hj⟩:=R5.1 hc;by_cases h4:0<c.count
      ·exact ((Lf hj).1 (Xt j (SA _) (Rq.1 hj).1)).2 h4
      ·omega
     ·obtain⟨c,hc,_⟩:=BL hj;exact ((Lf hc).1 (Xt j (SA _) hj)).1
    ·exact λhv=>hv.Nk
theorem MG {b b':Bool}{p:Prop}(h1:b=true↔p)(h2:b'=true↔p):b=b':=by
 cases b<;>cases b'<;>simp at h1 h2<;>first|rfl|exact absurd h2 h1|exact absurd h1 h2
theorem Ic {h:List Cell}(H:Hp h){N:Nat}(hN:2000000<=N):∃b r,B7 N h=some b/\F3 N h=some b/\B6 N h=some (r,b)/\Cv N h=some b/\(b=true↔VH h)/\(b=true->r=refs h):=by
 obtain⟨b,h1,h2⟩:=MW H hN;obtain⟨r,b',h3,h4,h5⟩:=MI H hN;obtain rfl:=MG h2 h4;exact⟨b,r,h1,by unfold F3;rw[h1];rfl,h3,by unfold Cv;rw[h3];rfl,h2,h5⟩
end RC
