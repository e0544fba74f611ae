import Derived.Test.YtihdgoiebmfapaaGreatGHADefsToNSDefs
set_option linter.all false
namespace RC
end RC
namespace RC
open Go
theorem BE {n:Int}(h1:-9223372036854775808<=n)(h2:n<=9223372036854775807):Sh.w n=n:=Abs.wrap_i64 h1 h2
theorem AI {α:Type}(l:List α):Sh.len l=(l.length:Int):=rfl
theorem QU {α:Type}(l:List α)(i:Nat):Sh.get l (i:Int)=l[i]?:=by
 unfold Sh.get;rw[pI (sM i)];simp
theorem Aw {α:Type}{l:List α}{i:Nat}{x:α}(h:l[i]?=some x):Sh.get l (i:Int)=some x:=by rw[QU,h]
theorem OY {α:Type}{l:List α}{j:Int}(h0:0<=j)(h1:j<l.length):∃x,Sh.get l j=some x/\l[j.toNat]?=some x:=by
 have h:l[j.toNat]?=some (l[j.toNat]'(by omega)):=pF (by omega);exact⟨_,by unfold Sh.get;rw[pI h0,h],h⟩
theorem Zu {α:Type}{l:List α}{j:Int}(h0:0<=j):Sh.get l j=l[j.toNat]?:=by unfold Sh.get;rw[pI h0]
theorem Oj {α:Type}(l:List α)(i:Nat)(x:α):Sh.put l (i:Int) x=l.set i x:=by simp[Sh.put]
theorem OG {α:Type}(x:α)(n b:Nat)(h:n*b<=281474976710656)(h2:n<=9223372036854775807):Sh.mk x (n:Int) b=some (List.replicate n x):=by
 unfold Sh.mk;rw[pI ⟨by omega,by rw[<- tH];omega,by omega⟩];simp
theorem DH {α:Type}(l m:List α)(b:Nat)(h:(l.length+m.length)*b<=140737488355328)(h2:l.length+m.length<=9223372036854775807):Sh.app l m b=some (l++m):=by
 unfold Sh.app;rw[pI ⟨h,h2⟩]
theorem ig {α:Type}{l:List α}{j:Nat}(h:j<=l.length):Sh.hi l (j:Int)=some (l.take j):=by
 unfold Sh.hi;rw[pI ⟨by omega,by omega⟩];simp
theorem BS (len:Nat)(P:Nat->Nat->Prop)(h0 :∀n,P (n+1) len)(hs :∀n i,i<len->P n (i+1)->P (n+1) i):∀{N i:Nat},i<=len->len-i<N->P N i:=by
 intro N i hi hN;obtain⟨k,hk⟩ :∃k,len-i=k:=⟨_,rfl⟩
 induction k generalizing N i with
 |zero=>
  obtain⟨n,rfl⟩ :∃n,N=n+1:=⟨N-1,by omega⟩
  have:i=len:=by omega
  subst this;exact h0 n
 |succ k ih=>
  obtain⟨n,rfl⟩ :∃n,N=n+1:=⟨N-1,by omega⟩
  exact hs n i (by omega) (ih (by omega) (by omega) (by omega))
theorem Bi {α:Type}{l:List α}{i:Nat}(h:i<l.length):∃x,l[i]?=some x/\x∈l:=⟨l[i],pF h,ra h⟩
theorem EM {α:Type}{l:List α}{j:Nat}{x:α}(h:l[j]?=some x):l.take (j+1)=l.take j++[x]:=by rw[List.take_add_one,h];rfl
theorem drop_cons {α:Type}{l:List α}{j:Nat}{x:α}(h:l[j]?=some x):l.drop j=x::l.drop (j+1):=by
 obtain⟨hj,rfl⟩:=pA.1 h;exact List.drop_eq_getElem_cons hj
def kD (h:List Cell):Nat:=(h.map λc=>c.fields.length).sum
def E8 (h:List Cell):Nat:=h.length+kD h
structure Hp (h:List Cell):Prop where
 size:E8 h<=1048576
 cells :∀c∈h,bG c
theorem hU {h:List Cell}{c:Cell}(hc:c∈h):c.fields.length<=kD h:=by
 induction h with
 |nil=>cases hc
 |cons d h ih=>
  simp only[kD,pc,rT]at ih⊢;rcases pK.1 hc with rfl|hc
  .omega
  .have:=ih hc;omega
theorem Hp.len {h:List Cell}(H:Hp h):h.length<=1048576:=by have:=H.size;unfold E8 at this;omega
theorem Hp.J2 {h:List Cell}(H:Hp h){c:Cell}(hc:c∈h):c.fields.length<=1048576:=by have:=H.size;have:=hU hc;unfold E8 at *;omega
end RC
namespace RC
open Go
def E7 {α:Type}(f:Nat->α->Bool):Nat->List α->Bool
 |_,[]=>true
 |k,x::r=>f k x&&E7 f (k+1) r
theorem Ub {α:Type}{f g:Nat->α->Bool}:∀(l:List α) (k:Nat),(∀(i:Nat) x,l[i]?=some x->f (k+i) x=g (k+i) x)->E7 f k l=E7 g k l
 | [],_,_=>rfl
 |x::r,k,h=>by
  have h0:=h 0 x rfl;rw[qo]at h0;have h1:=Ub r (k+1) λi y hy=>(show k+(i+1)=k+1+i by omega)▸h (i+1) y hy;rw[E7,E7,h0,h1]
theorem GC {α:Type}{p:α->Bool}:∀(l:List α) (k:Nat),E7 (λ_ x=>p x) k l=l.all p
 | [],_=>rfl
 |x::r,k=>by rw[E7,GC r (k+1),rQ]
theorem EH {α:Type}{l:List α}(L:Nat->Int->Option (Bool⊕Unit))(f:Nat->α->Bool)(h0 :∀n,L (n+1) (l.length:Int)=some (.inr ()))
  (hs :∀n (i:Nat) x,l[i]?=some x->L (n+1) (i:Int)=if f i x=true then L n ((i+1:Nat):Int) else some (.inl false)) {N:Nat} (hN:l.length<N) :
  L N 0=some (if E7 f 0 l=true then .inr () else .inl false):=by
 have key:∀{N i:Nat},i<=l.length->l.length-i<N->L N (i:Int)=some (if E7 f i (l.drop i)=true then .inr () else .inl false):=by
  intro N i hi hN;refine BS l.length (λN i=>L N (i:Int)=some (if E7 f i (l.drop i)=true then .inr () else .inl false)) ?_ ?_ hi hN
  .intro n;rw[h0 n];simp[E7]
  .intro n i hi ih;obtain⟨x,hx,_⟩:=Bi hi;rw[hs n i x hx,ih,drop_cons hx,E7];cases h:f i x<;>simp
 have:=key (pT _) (by omega:l.length-0<N);simpa using this
theorem EN {β:Type}{b:Bool}{g:Bool->β}{K:Unit->Option β}:Sh.cont (some (if b=true then Sum.inr () else Sum.inl false)) g K=if b=true then K () else some (g false):=by
 cases b<;>rfl
theorem cy {α:Type}{l:List α}{j:Nat}(h:j<=l.length)(h2:l.length<=9223372036854775807):Sh.sl l 0 (j:Int)=some (l.take j):=by
 unfold Sh.sl;rw[pI ⟨by omega,by omega,by omega⟩];simp
end RC
namespace RC
open Go
end RC
namespace RC
open Go
def mW (h:List Cell)(w:Int):Bool:=decide (1000<=w)&&(match h[(w-1000).toNat]? with|some c=>decide (0<c.count)|none=>false)
theorem Dx (a b c:Int):Cw a b c=some (decide (b<=a)&&decide (a<=c)):=by
 unfold Cw;by_cases h:b<=a<;>simp[h]
end RC
namespace RC
open Go
def DZ (D:List AK)(t:Int):Bool:=decide (0<=t)&&decide (t<=(D.length:Int))
theorem N5 {D:List AK}{x:Int}:Cw x 0 (Sh.len D)=some (DZ D x):=by rw[Dx];rfl
theorem N7 {D:List AK}{l:List Int}(hl:l.length<=1048576){N:Nat}(hN:l.length<N):IT N D l=some (l.all (DZ D)):=by
 unfold IT;rw[EH (l:=l) (Fc D l) (λ_ x=>DZ D x) (λn=>by rw[Fc,pJ (by simp[AI])]) (λn i x hx=>?_) hN,EN,GC]
 .cases l.all (DZ D)<;>rfl
 .have hi:=(pA.1 hx).1;rw[Fc,pI (by simp[AI];omega),Aw hx];simp only[ou];rw[N5,BE (by omega) (by omega),show ((i:Int)+1)=((i+1:Nat):Int) by omega];simp only[ou];cases DZ D x<;>rfl
theorem Kj {D:List AK}{t:Int}:H6 D t=some (DZ D t):=by
 unfold H6 DZ;by_cases h:0<=t<;>by_cases h2:t<=(D.length:Int)<;>simp[h,h2,AI]
theorem Li {D:List AK}{l:List Int}(hl:l.length<=1048576){N:Nat}(hN:l.length<N):He N D l=some (l.all (DZ D)):=by
 unfold He;rw[EH (l:=l) (Fe D l) (λ_ x=>DZ D x) (λn=>by rw[Fe,pJ (by simp[AI])]) (λn i x hx=>?_) hN,EN,GC]
 .cases l.all (DZ D)<;>rfl
 .have hi:=(pA.1 hx).1;rw[Fe,pI (by simp[AI];omega),Aw hx];simp only[ou];rw[Kj,BE (by omega) (by omega),show ((i:Int)+1)=((i+1:Nat):Int) by omega];simp only[ou];cases DZ D x<;>rfl
def R7 (D:List AK)(c:D7):Bool:=decide (c.fields.length<=3)&&c.fields.all (DZ D)
def II (a b:AK):Bool:=decide (a.cons.length=0)&&(decide (a.from_=b.from_)&&decide (a.to=b.to))
def Mf (D:List AK)(i:Nat)(d:AK):Bool:=
 if 0<d.cons.length then (decide (d.cons.length<=3)&&(decide (d.from_=0)&&decide (d.to=0)))&&d.cons.all (R7 D)
 else (D.take i).all (λe=>!II e d)&&(DZ D d.from_&&DZ D d.to)
def Ur (D:List AK)(i:Nat)(d:AK):Bool:=
 ((DZ D d.from_&&(DZ D d.to&&(decide (d.cons.length<=3)&&(!(decide (0<d.cons.length)&&(!decide (d.from_=0) || !decide (d.to=0)))))))&&d.cons.all (R7 D))&&(D.take i).all (λe=>!(decide (d.cons.length=0)&&II e d))
theorem dr (D:List AK)(i:Nat)(d:AK):Ur D i d=Mf D i d:=by
 unfold Ur Mf;by_cases h:0<d.cons.length
 .have h0:¬ d.cons.length=0:=by omega
  have ha:(D.take i).all (λe=>!(decide (d.cons.length=0)&&II e d))=true:=by simp[h0]
  rw[pI h,ha];by_cases h1:d.from_=0<;>by_cases h2:d.to=0<;>simp[h,h1,h2,DZ]
 .have h0:d.cons.length=0:=by omega
  have hc:d.cons=[]:=qM h0;rw[pJ h];simp only[hc,h0,qi,List.all_nil,pW,sI,sy];cases DZ D d.from_<;>cases DZ D d.to<;>simp
structure RQ (D:List AK):Prop where
 len:D.length<=1048576
 cons :∀d∈D,d.cons.length<=1048576
 Nc :∀d∈D,∀c∈d.cons,c.fields.length<=1048576
theorem SV {D:List AK}(hD:RQ D){i:Nat}{d:AK}(hd:D[i]?=some d){N:Nat}(hN:2000000<=N):JG N D i=some (Mf D i d):=by
 have hm:=ov hd;have hi:=(pA.1 hd).1;have hlen:=hD.len;have hc:=hD.cons d hm;unfold JG Mf;rw[Aw hd];simp only[ou];by_cases h:0<d.cons.length
 .rw[pI (by simp[AI];omega),pI h];rw[EH (l:=d.cons) (FJ N d D) (λ_ c=>R7 D c) (λn=>by rw[FJ,pJ (by simp[AI])]) (λn j c hj=>?_) (by omega),EN,GC]
  .simp only[AI];by_cases h3:d.cons.length<=3
   .have e3:¬ (3:Int)<(d.cons.length:Int):=by omega
    generalize d.cons.all (R7 D)=z;cases z<;>by_cases h1:d.from_=0<;>by_cases h2:d.to=0<;>simp[h1,h2,h3,e3]
   .have e3:(3:Int)<(d.cons.length:Int):=by omega
    simp[h3,e3]
  .have hj':=(pA.1 hj).1;have hf:=hD.Nc d hm c (ov hj);rw[FJ,pI (by simp[AI];omega),Aw hj];simp only[ou];rw[N7 hf (by omega),BE (by omega) (by omega),show ((j:Int)+1)=((j+1:Nat):Int) by omega];unfold R7;by_cases h3:c.fields.length<=3
   .have e3:¬ (3:Int)<(c.fields.length:Int):=by omega
    simp only[AI];cases c.fields.all (DZ D)<;>simp[h3,e3]
   .have e3:(3:Int)<(c.fields.length:Int):=by omega
    simp[h3,e3,AI]
 .have h0:d.cons.length=0:=by omega
  have e0:¬ decide ((0:Int)<Sh.len d.cons)=true:=by rw[AI,h0];simp
  rw[pJ e0,pJ h];have uU:(D.take i).length=i:=by simp;omega
  rw[EH (l:=D.take i) (FC d D i) (λ_ e=>!II e d) (λn=>by rw[FC,pJ (by simp;omega)]) (λn j e hj=>?_) (by omega),EN,GC]
  .rw[N5,N5];simp only[ou];cases (D.take i).all (λe=>!II e d)<;>cases DZ D d.from_<;>simp
  .have hj':=(pA.1 hj).1;have hje:D[j]?=some e:=by rw[pn]at hj;split at hj<;>first|exact hj|cases hj
   rw[FC,pI (by simp;omega),Aw hje];simp only[ou];rw[BE (by omega) (by omega),show ((j:Int)+1)=((j+1:Nat):Int) by omega];unfold II;simp only[AI];by_cases a0:e.cons.length=0<;>by_cases a1:e.from_=d.from_<;>by_cases a2:e.to=d.to<;>simp[a0,a1,a2]
def Nx (D:List AK):Bool:=decide (D.length<=4)&&E7 (Mf D) 0 D
theorem Rh {D:List AK}(hD:RQ D){N:Nat}(hN:2000000<=N):IV N D=some (Nx D):=by
 have hlen:=hD.len;unfold IV Nx;rw[EH (l:=D) (Ep N D) (Mf D) (λn=>by rw[Ep,pJ (by simp[AI])]) (λn i d hd=>?_) (by omega),EN]
 .simp only[AI];by_cases h:D.length<=4
  .have e4:¬ (4:Int)<(D.length:Int):=by omega
   cases E7 (Mf D) 0 D<;>simp[h,e4]
  .have e4:(4:Int)<(D.length:Int):=by omega
   simp[h,e4]
 .have hi:=(pA.1 hd).1;rw[Ep,pI (by simp[AI];omega),SV hD hd hN];simp only[ou];rw[BE (by omega) (by omega),show ((i:Int)+1)=((i+1:Nat):Int) by omega];cases Mf D i d<;>rfl
theorem Rv {D:List AK}(hD:RQ D){N:Nat}(hN:2000000<=N):IU N D=some (Nx D):=by
 have hlen:=hD.len;unfold IU Nx;rw[<- Ub (f:=Ur D) D 0 (λi d _=>dr D _ d)];rw[EH (l:=D) (Eo N D) (Ur D) (λn=>by rw[Eo,pJ (by simp[AI])]) (λn i d hd=>?_) (by omega),EN]
 .simp only[AI];by_cases h:D.length<=4
  .have e4:¬ (4:Int)<(D.length:Int):=by omega
   cases E7 (Ur D) 0 D<;>simp[h,e4]
  .have e4:(4:Int)<(D.length:Int):=by omega
   simp[h,e4]
 .have hi:=(pA.1 hd).1;have hm:=ov hd;have hc:=hD.cons d hm;have l2:D8 N d D N 0=some (if d.cons.all (R7 D)=true then .inr () else .inl false):=by
   rw[EH (l:=d.cons) (D8 N d D) (λ_ c=>R7 D c) (λn=>by rw[D8,pJ (by simp[AI])]) (λn j c hj=>?_) (by omega),GC];have hj':=(pA.1 hj).1;have hf:=hD.Nc d hm c (ov hj);rw[D8,pI (by simp[AI];omega),Aw hj];simp only[ou];rw[Li hf (by omega),BE (by omega) (by omega),show ((j:Int)+1)=((j+1:Nat):Int) by omega];unfold R7;by_cases h3:c.fields.length<=3
   .have e3:¬ (3:Int)<(c.fields.length:Int):=by omega
    simp only[AI];cases c.fields.all (DZ D)<;>simp[h3,e3]
   .have e3:(3:Int)<(c.fields.length:Int):=by omega
    simp[h3,e3,AI]
  have uU:(D.take i).length=i:=by simp;omega
  have l3:EB d (D.take i) N 0=some (if (D.take i).all (λe=>!(decide (d.cons.length=0)&&II e d))=true then .inr () else .inl false):=by
   rw[EH (l:=D.take i) (EB d (D.take i)) (λ_ e=>!(decide (d.cons.length=0)&&II e d)) (λn=>by rw[EB,pJ (by simp[AI])]) (λn j e hj=>?_) (by omega),GC];have hj':=(pA.1 hj).1;rw[EB,pI (by simp only[AI];simp;omega),Aw hj];simp only[ou];rw[BE (by omega) (by omega),show ((j:Int)+1)=((j+1:Nat):Int) by omega];unfold II;simp only[AI];by_cases b0:d.cons.length=0<;>by_cases a0:e.cons.length=0<;>by_cases a1:e.from_=d.from_<;>by_cases a2:e.to=d.to<;>simp[a0,a1,a2,b0]
  rw[Eo,pI (by simp[AI];omega),Aw hd];simp only[ou];rw[Kj,Kj,l2,cy (by omega) (by omega),BE (by omega) (by omega),show ((i:Int)+1)=((i+1:Nat):Int) by omega];simp only[ou];rw[l3,EN,EN];unfold Ur;simp only[AI];generalize d.cons.all (R7 D)=z1;generalize (D.take i).all (λe=>!(decide (d.cons.length=0)&&II e d))=z2;by_cases h3:d.cons.length<=3
  .have e3:¬ (3:Int)<(d.cons.length:Int):=by omega
   by_cases h0:0<d.cons.length
   .have e0:(0:Int)<(d.cons.length:Int):=by omega
    cases DZ D d.from_<;>cases DZ D d.to<;>cases z1<;>cases z2<;>by_cases h1:d.from_=0<;>by_cases h2:d.to=0<;>simp[h1,h2,h3,e3,h0]
   .have e0:¬ (0:Int)<(d.cons.length:Int):=by omega
    cases DZ D d.from_<;>cases DZ D d.to<;>cases z1<;>cases z2<;>simp[h3,e3,h0]
  .have e3:(3:Int)<(d.cons.length:Int):=by omega
   cases DZ D d.from_<;>cases DZ D d.to<;>simp[h3,e3]
end RC
namespace RC
open Go
def MY (ps ls:List Int)(i:Nat)(v:Int):Bool:=
 (decide (0<=v)&&decide (v<(ps.length:Int)))&&(!decide (ps[v.toNat]?=some 0)&&!(decide (0<i)&&decide (v<=(ls[i-1]?).getD 0)))
theorem gr {ls:List Int}{i:Nat}(h0:0<i)(hi:i<ls.length):∃x,ls[i-1]?=some x/\Sh.get ls (((i:Nat):Int)-1)=some x:=by
 obtain⟨x,hx,_⟩:=Bi (l:=ls) (i:=i-1) (by omega);exact⟨x,hx,by rw[show ((i:Int)-1)=((i-1:Nat):Int) by omega,Aw hx]⟩
theorem Yo {c:By}(hp:c.params.length<=1048576)(hl:c.Gb.length<=1048576){N:Nat}(hN:2000000<=N):Ea c N 0=some (if E7 (MY c.params c.Gb) 0 c.Gb=true then .inr () else .inl false):=by
 refine EH (l:=c.Gb) (Ea c) (MY c.params c.Gb) (λn=>by rw[Ea,pJ (by simp[AI])]) (λn i v hv=>?_) (by omega);have hi:=(pA.1 hv).1;rw[Ea,pI (by simp[AI];omega),Aw hv];simp only[ou];rw[AI,BE (n:=(i:Int)+1) (by omega) (by omega),BE (n:=(i:Int)-1) (by omega) (by omega),show ((i:Int)+1)=((i+1:Nat):Int) by omega];unfold MY;by_cases h0:0<=v
 .have yk:¬ v<0:=by omega
  by_cases h1:v<(c.params.length:Int)
  .have xG:¬ (c.params.length:Int)<=v:=by omega
   obtain⟨d,e1,e2⟩:=OY h0 h1;rw[e1,e2];by_cases hi0:0<i
   .obtain⟨x,g1,g2⟩:=gr hi0 hi;rw[g1,g2];by_cases hc:d=0<;>by_cases hx:v<=x<;>simp[h0,yk,h1,xG,hc,hi0,hx]
   .by_cases hc:d=0<;>simp[h0,yk,h1,xG,hc,hi0]
  .have xG:(c.params.length:Int)<=v:=by omega
   simp[h0,yk,h1,xG]
 .have yk:v<0:=by omega
  simp[h0,yk]
def Om (D:List AK)(ps:List Int)(r:Int):Bool:=decide (ps.length<=3)&&(ps.all (DZ D)&&DZ D r)
theorem Ud {p:AJ}(hf:p.funcs.length<=1048576)(hp :∀f∈p.funcs,f.params.length<=1048576){N:Nat}(hN:2000000<=N):EX N p N 0=some (if (p.funcs.all λf=>Om p.decls f.params f.result)=true then .inr () else .inl false):=by
 rw[<- GC _ 0];refine EH (l:=p.funcs) (EX N p) (λ_ f=>Om p.decls f.params f.result) (λn=>by rw[EX,pJ (by simp[AI])]) (λn i f hi=>?_) (by omega);have xI:=(pA.1 hi).1;have hpf:=hp f (ov hi);rw[EX,pI (by simp[AI];omega),Aw hi];simp only[ou];rw[N7 hpf (by omega),N5,BE (by omega) (by omega),show ((i:Int)+1)=((i+1:Nat):Int) by omega];unfold Om;simp only[AI];by_cases h3:f.params.length<=3
 .have e3:¬ (3:Int)<(f.params.length:Int):=by omega
  generalize f.params.all (DZ p.decls)=z;cases z<;>cases DZ p.decls f.result<;>simp[h3,e3]
 .have e3:(3:Int)<(f.params.length:Int):=by omega
  simp[h3,e3]
theorem VR {D:List AK}{l:List By}(hf:l.length<=1048576)(hp :∀f∈l,f.params.length<=1048576/\f.Gb.length<=1048576){N:Nat}(hN:2000000<=N):Ec N D l N 0=some (if (l.all λf=>Om D f.params f.result&&E7 (MY f.params f.Gb) 0 f.Gb)=true then .inr () else .inl false):=by
 rw[<- GC _ 0];refine EH (l:=l) (Ec N D l) (λ_ f=>Om D f.params f.result&&E7 (MY f.params f.Gb) 0 f.Gb) (λn=>by rw[Ec,pJ (by simp[AI])]) (λn i f hi=>?_) (by omega);have xI:=(pA.1 hi).1;have hpf:=hp f (ov hi);rw[Ec,pI (by simp[AI];omega),Aw hi];simp only[ou];rw[Li hpf.1 (by omega),Kj,Yo hpf.1 hpf.2 hN,EN,BE (by omega) (by omega),show ((i:Int)+1)=((i+1:Nat):Int) by omega];unfold Om;simp only[AI];generalize E7 (MY f.params f.Gb) 0 f.Gb=y;by_cases h3:f.params.length<=3
 .have e3:¬ (3:Int)<(f.params.length:Int):=by omega
  generalize f.params.all (DZ D)=z;cases z<;>cases DZ D f.result<;>cases y<;>simp[h3,e3]
 .have e3:(3:Int)<(f.params.length:Int):=by omega
  simp[h3,e3]
end RC
namespace RC
open Go
def Z8 (D:List (List Int×Int)):Bool:=match D with|[]=>false|(ps,r)::_=>decide (ps.length=0)&&decide (r=0)
def O7 (D:List AK)(l:List (List Int×Int)):Bool:=Nx D&&((decide (1<=l.length)&&decide (l.length<=4))&&(l.all (λs=>Om D s.1 s.2)&&Z8 l))
theorem Sc {p:AJ}(hD:RQ p.decls)(hf:p.funcs.length<=1048576)(hp :∀f∈p.funcs,f.params.length<=1048576){N:Nat}(hN:2000000<=N):Ht N p=some (O7 p.decls (p.funcs.map λf=>(f.params,f.result))):=by
 unfold Ht O7;rw[Rh hD hN,Ud hf hp hN,EN,Dx];simp only[ou,pR,List.all_map,sv];cases Nx p.decls with
 |false=>simp
 |true=>
  cases hl:p.funcs with
  |nil=>simp[AI]
  |cons f r=>
   have e0:Sh.get (f::r) 0=some f:=rfl;rw[e0];generalize (f::r).all (λf=>Om p.decls f.params f.result)=z;simp only[pc,Z8];have q1:decide ((1:Int)<=Sh.len (f::r))=true:=sT (by rw[AI,po];omega);have q2:decide (1<=(f::r).length)=true:=by simp
   have q3:decide (Sh.len (f::r)<=4)=decide ((f::r).length<=4):=rf.2 (by rw[AI];omega);have q4:decide (Sh.len f.params=0)=decide (f.params.length=0):=rf.2 (by rw[AI];omega);simp only[q1,q2,q3,q4,ou];cases decide ((f::r).length<=4)<;>cases z<;>by_cases a1:f.params.length=0<;>by_cases a2:f.result=0<;>simp[a1,a2]
theorem Sl {D:List AK}{l:List By}(hD:RQ D)(hf:l.length<=1048576)(hp :∀f∈l,f.params.length<=1048576/\f.Gb.length<=1048576){N:Nat}(hN:2000000<=N):
  JB N D l=some (O7 D (l.map λf=>(f.params,f.result))&&l.all (λf=>E7 (MY f.params f.Gb) 0 f.Gb)):=by
 unfold JB O7;rw[Rv hD hN,VR hf hp hN,EN];have xk:(l.all λf=>Om D f.params f.result&&E7 (MY f.params f.Gb) 0 f.Gb)=((l.all λf=>Om D f.params f.result)&&(l.all λf=>E7 (MY f.params f.Gb) 0 f.Gb)):=by
  clear hf hp
  induction l with
  |nil=>rfl
  |cons f r ih=>
   simp only[rQ,ih];cases Om D f.params f.result<;>cases E7 (MY f.params f.Gb) 0 f.Gb<;>simp
 rw[xk];simp only[ou,pR,List.all_map,sv];cases Nx D with
 |false=>simp
 |true=>
  cases hl:l with
  |nil=>simp[AI]
  |cons f r=>
   have e0:Sh.get (f::r) 0=some f:=rfl;rw[e0];generalize (f::r).all (λf=>Om D f.params f.result)=z;generalize (f::r).all (λf=>E7 (MY f.params f.Gb) 0 f.Gb)=y;simp only[pc,Z8];have q1:decide (Sh.len (f::r)<1)=false:=rH (by rw[AI,po];omega);have q2:decide (1<=(f::r).length)=true:=by simp
   have q3:decide ((4:Int)<Sh.len (f::r))=!decide ((f::r).length<=4):=by rw[<- decide_not];exact rf.2 (by rw[AI];omega)
   have q4:decide ((0:Int)<Sh.len f.params)=!decide (f.params.length=0):=by rw[<- decide_not];exact rf.2 (by rw[AI];omega)
   simp only[q1,q2,q3,q4,ou];cases decide ((f::r).length<=4)<;>cases z<;>cases y<;>by_cases a1:f.params.length=0<;>by_cases a2:f.result=0<;>simp[a1,a2]
end RC
namespace RC
open Go
def nc (D:List AK):Nat:=(D.map (·.cons.length)).sum
theorem MG {D:List AK}{i:Nat}{d:AK}(h:D[i]?=some d):nc (D.take (i+1))=nc (D.take i)+d.cons.length:=by
 rw[EM h];simp[nc]
theorem Tt {D:List AK}{i:Nat}{d:AK}(h:D[i]?=some d):nc (D.drop i)=d.cons.length+nc (D.drop (i+1)):=by
 rw[drop_cons h];simp[nc]
theorem Hs (D:List AK)(i:Nat):nc D=nc (D.take i)+nc (D.drop i):=by
 unfold nc;rw[<- List.sum_append_nat,<- qu,List.take_append_drop]
theorem JY {D:List AK}(hD:D.length<=1048576)(hn:nc D<=1048576){i:Nat}(hi:i<=D.length){N:Nat}(hN:2000000<=N):Hd N D i=some (nc (D.take i):Int):=by
 unfold Hd;have key:∀{N j:Nat},j<=i->i-j<N->Ev D i N (nc (D.take j)) j=some (nc (D.take i):Int):=by
  intro N j hj hN;refine BS i (λN j=>Ev D i N (nc (D.take j)) j=some (nc (D.take i):Int)) ?_ ?_ hj hN
  .intro n;rw[Ev,pJ (by simp)]
  .intro n j hj ih;obtain⟨d,hd,_⟩:=Bi (l:=D) (i:=j) (by omega);have hs:=Hs D (j+1);have ht:=MG hd;rw[Ev,pI (by simp;omega),Aw hd];simp only[ou];rw[AI,BE (n:=(j:Int)+1) (by omega) (by omega),BE (by omega) (by omega),show ((nc (D.take j):Int)+(d.cons.length:Int))=((nc (D.take (j+1)):Nat):Int) by omega,show ((j:Int)+1)=((j+1:Nat):Int) by omega];exact ih
 have:=key (pT _) (by omega:i-0<N);rw[show (((nc (D.take 0):Nat):Int))=0 from rfl,show (((0:Nat):Int))=0 from rfl]at this;rw[this];rfl
theorem UU {D:List AK}(hD:D.length<=1048576)(hn:nc D<=1048576){N:Nat}(hN:2000000<=N):J0 N D=some (nc D:Int):=by
 unfold J0;have key:∀{N j:Nat},j<=D.length->D.length-j<N->E2 D N (nc (D.take j)) j=some (nc D:Int):=by
  intro N j hj hN;refine BS D.length (λN j=>E2 D N (nc (D.take j)) j=some (nc D:Int)) ?_ ?_ hj hN
  .intro n;rw[E2,pJ (by simp[AI]),qq]
  .intro n j hj ih;obtain⟨d,hd,_⟩:=Bi hj;have hs:=Hs D (j+1);have ht:=MG hd;rw[E2,pI (by simp[AI];omega),Aw hd];simp only[ou];rw[AI,BE (n:=(j:Int)+1) (by omega) (by omega),BE (by omega) (by omega),show ((nc (D.take j):Int)+(d.cons.length:Int))=((nc (D.take (j+1)):Nat):Int) by omega,show ((j:Int)+1)=((j+1:Nat):Int) by omega];exact ih
 have:=key (pT _) (by omega:D.length-0<N);rw[show (((nc (D.take 0):Nat):Int))=0 from rfl,show (((0:Nat):Int))=0 from rfl]at this;rw[this];rfl
def IL:List AK->Nat->Nat->Option (Nat×D7)
 | [],_,_=>none
 |d::r,k,c=>match d.cons[c]? with
  |some x=>some (k+1,x)
  |none=>IL r (k+1) (c-d.cons.length)
theorem Q2 {D:List AK}(hD:D.length<=1048576)(hn:nc D<=1048576){c:Nat}(hc:c<nc D){N:Nat}(hN:2000000<=N):∃t x,IL D 0 c=some (t,x)/\Ir N D c=some ((t:Int),x):=by
 have key:∀(m j N c:Nat),D.length-j=m->j<=D.length->m<N->c<nc (D.drop j)->∃t x,IL (D.drop j) j c=some (t,x)/\Fo D N c j=some (.inl ((t:Int),x)):=by
  intro m
  induction m with
  |zero=>
   intro j N c h1 h2 _ h3;rw[rS (by omega)]at h3;simp[nc]at h3
  |succ m ih=>
   intro j N c h1 h2 h3 h4;obtain⟨N,rfl⟩ :∃n,N=n+1:=⟨N-1,by omega⟩
   obtain⟨d,hd,_⟩:=Bi (l:=D) (i:=j) (by omega);have hs:=Hs D j;rw[Tt hd]at h4 hs;rw[drop_cons hd];unfold IL;rw[Fo,pI (by simp[AI];omega),Aw hd];simp only[ou];rw[pI (by simp),AI,BE (n:=(j:Int)+1) (by omega) (by omega),BE (by omega) (by omega)];cases hx:d.cons[c]? with
   |some x=>
    have uU:=(pA.1 hx).1;refine⟨j+1,x,rfl,?_⟩;have e:((c:Int)<(d.cons.length:Int)):=by omega
    simp[e,Aw hx]
   |none=>
    have hle:d.cons.length<=c:=by simpa using hx
    obtain⟨t,x,g1,g2⟩:=ih (j+1) N (c-d.cons.length) (by omega) (by omega) (by omega) (by omega);refine⟨t,x,g1,?_⟩;have e:¬ ((c:Int)<(d.cons.length:Int)):=by omega
    rw[<- g2,show ((c:Int)-(d.cons.length:Int))=((c-d.cons.length:Nat):Int) by omega,show ((j:Int)+1)=((j+1:Nat):Int) by omega];simp[e]
 obtain⟨t,x,g1,g2⟩:=key D.length 0 N c (by omega) (by omega) (by omega) (by simpa using hc);refine⟨t,x,by simpa using g1,?_⟩;unfold Ir;rw[show (((0:Nat):Int))=0 from rfl]at g2;rw[g2];rfl
end RC
namespace RC
open Go
theorem Od {D:List AK}(hD:D.length<=1048576)(hn:nc D<=1048576){c:Nat}(hc:c<nc D){N:Nat}(hN:2000000<=N):∃t x,IL D 0 c=some (t,x)/\Gu N D c=some (t:Int):=by
 have key:∀(m j M c:Nat),D.length-j=m->j<=D.length->m<M->c<nc (D.drop j)->∃t x,IL (D.drop j) j c=some (t,x)/\EI N D ((nc (D.take j)+c:Nat):Int) M j=some (.inl (t:Int)):=by
  intro m
  induction m with
  |zero=>
   intro j M c h1 h2 _ h3;rw[rS (by omega)]at h3;simp[nc]at h3
  |succ m ih=>
   intro j M c h1 h2 h3 h4;obtain⟨M,rfl⟩ :∃n,M=n+1:=⟨M-1,by omega⟩
   obtain⟨d,hd,_⟩:=Bi (l:=D) (i:=j) (by omega);have hs:=Hs D j;rw[Tt hd]at h4 hs;have ht:=MG hd;rw[drop_cons hd];unfold IL;rw[EI,pI (by simp[AI];omega),JY hD hn (by omega) hN,Aw hd];simp only[ou];rw[AI,BE (n:=(j:Int)+1) (by omega) (by omega),BE (n:=(nc (D.take j):Int)+(d.cons.length:Int)) (by omega) (by omega),BE (by omega) (by omega),Dx];simp only[ou];cases hx:d.cons[c]? with
   |some x=>
    have uU:=(pA.1 hx).1;refine⟨j+1,x,rfl,?_⟩;rw[pI (by simp;omega)];rfl
   |none=>
    have hle:d.cons.length<=c:=by simpa using hx
    obtain⟨t,x,g1,g2⟩:=ih (j+1) M (c-d.cons.length) (by omega) (by omega) (by omega) (by omega);refine⟨t,x,g1,?_⟩;rw[pJ (by simp;omega),<- g2,show nc (D.take j)+c=nc (D.take (j+1))+(c-d.cons.length) by omega];rfl
 obtain⟨t,x,g1,g2⟩:=key D.length 0 N c (by omega) (by omega) (by omega) (by simpa using hc);refine⟨t,x,by simpa using g1,?_⟩;unfold Gu;rw[show nc (D.take 0)+c=c by simp[nc],show (((0:Nat):Int))=0 from rfl]at g2;rw[g2];rfl
theorem TE {D:List AK}(hD:D.length<=1048576)(hn:nc D<=1048576){c:Int}(hc:c<0∨(nc D:Int)<=c){N:Nat}(hN:2000000<=N):Gu N D c=some (-1):=by
 unfold Gu;have key:∀{M j:Nat},j<=D.length->D.length-j<M->EI N D c M j=some (.inr ()):=by
  intro M j hj hM;refine BS D.length (λM j=>EI N D c M j=some (.inr ())) ?_ ?_ hj hM
  .intro n;rw[EI,pJ (by simp[AI])]
  .intro n j hj ih;obtain⟨d,hd,_⟩:=Bi hj;have hs:=Hs D (j+1);have ht:=MG hd;rw[EI,pI (by simp[AI];omega),JY hD hn (by omega) hN,Aw hd];simp only[ou];rw[AI,BE (n:=(j:Int)+1) (by omega) (by omega),BE (n:=(nc (D.take j):Int)+(d.cons.length:Int)) (by omega) (by omega),BE (by omega) (by omega),Dx];simp only[ou];rw[pJ (by simp;omega)];exact ih
 have:=key (pT _) (by omega:D.length-0<N);rw[show (((0:Nat):Int))=0 from rfl]at this;rw[this];rfl
end RC
namespace RC
open Go
theorem fH {D:List AK}:∀(m j c t:Nat) (x:D7),D.length-j=m->j<=D.length->IL (D.drop j) j c=some (t,x)->∃d,1<=t/\D[t-1]?=some d/\nc (D.take (t-1))<=nc (D.take j)+c/\d.cons[nc (D.take j)+c-nc (D.take (t-1))]?=some x:=by
 intro m
 induction m with
 |zero=>
  intro j c t x h1 h2 h;rw[rS (by omega)]at h;simp[IL]at h
 |succ m ih=>
  intro j c t x h1 h2 h;obtain⟨d,hd,_⟩:=Bi (l:=D) (i:=j) (by omega);have ht:=MG hd;rw[drop_cons hd]at h;unfold IL at h;cases hx:d.cons[c]? with
  |some y=>
   rw[hx]at h;simp only[pC,rA]at h;obtain⟨rfl,rfl⟩:=h;exact⟨d,by omega,by simpa using hd,by simp,by simpa using hx⟩
  |none=>
   rw[hx]at h;have hle:d.cons.length<=c:=by simpa using hx
   obtain⟨e,g1,g2,g3,g4⟩:=ih (j+1) (c-d.cons.length) t x (by omega) (by omega) h;rw[show nc (D.take (j+1))+(c-d.cons.length)=nc (D.take j)+c by omega]at g3 g4;exact⟨e,g1,g2,g3,g4⟩
theorem Iy {D:List AK}(hD:D.length<=1048576)(hn:nc D<=1048576){c:Nat}(hc:c<nc D){N:Nat}(hN:2000000<=N):∃t x,IL D 0 c=some (t,x)/\Bs N D c=some x.fields:=by
 obtain⟨t,x,e1,e2⟩:=Od hD hn hc hN;obtain⟨d,g1,g2,g3,g4⟩:=fH (D:=D) D.length 0 c t x (by omega) (by omega) (by simpa using e1);have uU:=(pA.1 g2).1;have hs:=Hs D (t-1);rw[show nc (D.take 0)+c=c by simp[nc]]at g3 g4;refine⟨t,x,e1,?_⟩;unfold Bs;rw[e2];simp only[ou];rw[pJ (by simp;omega),BE (n:=(t:Int)-1) (by omega) (by omega),show ((t:Int)-1)=((t-1:Nat):Int) by omega,Aw g2,JY hD hn (by omega) hN];simp only[ou];rw[BE (by omega) (by omega),show ((c:Int)-(nc (D.take (t-1)):Int))=((c-nc (D.take (t-1)):Nat):Int) by omega,Aw g4];rfl
theorem T4 {D:List AK}(hD:D.length<=1048576)(hn:nc D<=1048576){c:Nat}(hc:c<nc D){N:Nat}(hN:2000000<=N):∃t x,IL D 0 c=some (t,x)/\Eg N D c=some x.fields:=by
 obtain⟨t,x,e1,e2⟩:=Q2 hD hn hc hN;exact⟨t,x,e1,by unfold Eg;rw[e2];rfl⟩
end RC
namespace RC
open Go
def CO (D:List AK)(t:Int):List Int:=
 if 1<=t/\t<=(D.length:Int) then (List.range ((D[(t-1).toNat]?).elim 0 (·.cons.length))).map λ(i:Nat)=>(nc (D.take (t-1).toNat):Int)+(i:Int) else []
theorem Vi {f:Nat->Int}{i:Nat}:(List.range (i+1)).map f=(List.range i).map f++[f i]:=by rw[List.range_succ,qu];rfl
theorem MX {D:List AK}(hD:D.length<=1048576)(hn:nc D<=1048576){t:Int}{N:Nat}(hN:2000000<=N):Gw N D t=some (CO D t):=by
 unfold Gw CO;rw[Dx,AI];simp only[ou];by_cases h:1<=t/\t<=(D.length:Int)
 .obtain⟨a,ha⟩ :∃a:Nat,t=(a:Int)+1:=⟨(t-1).toNat,by omega⟩
  subst ha;obtain⟨d,hd,_⟩:=Bi (l:=D) (i:=a) (by omega);have hs:=Hs D (a+1);have ht:=MG hd;rw[pJ (by simp;omega),pI h,show (((a:Int)+1)-1).toNat=a by omega,hd];simp only[re];have key:∀{M i:Nat},i<=d.cons.length->d.cons.length-i<M->F6 N D ((a:Int)+1) M i ((List.range i).map λ(i:Nat)=>(nc (D.take a):Int)+(i:Int))=some ((List.range d.cons.length).map λ(i:Nat)=>(nc (D.take a):Int)+(i:Int)):=by
   intro M i hi hM;refine BS d.cons.length (λM i=>F6 N D ((a:Int)+1) M i ((List.range i).map λ(i:Nat)=>(nc (D.take a):Int)+(i:Int))=some ((List.range d.cons.length).map λ(i:Nat)=>(nc (D.take a):Int)+(i:Int))) ?_ ?_ hi hM
   .intro n;rw[F6,BE (by omega) (by omega),show ((a:Int)+1-1)=((a:Nat):Int) by omega,Aw hd];simp only[ou];rw[pJ (by simp[AI])]
   .intro n i hi ih;rw[F6,BE (n:=(a:Int)+1-1) (by omega) (by omega),show ((a:Int)+1-1)=((a:Nat):Int) by omega,Aw hd];simp only[ou];rw[pI (by simp[AI];omega),JY hD hn (by omega) hN];simp only[ou];rw[DH _ _ _ (by simp;omega) (by simp;omega),BE (n:=(i:Int)+1) (by omega) (by omega),BE (by omega) (by omega),show ((i:Int)+1)=((i+1:Nat):Int) by omega];simp only[ou];rw[<- ih,Vi]
  have:=key (pT _) (by omega:d.cons.length-0<N);rw[show (((0:Nat):Int))=0 from rfl,List.range_zero,qt]at this;rw[this];rfl
 .rw[pI (by simp;omega),pJ h]
theorem JJ {D:List AK}(hD:D.length<=1048576)(hn:nc D<=1048576){t:Int}{N:Nat}(hN:2000000<=N):Iw N D t=some (CO D t):=by
 unfold Iw CO;rw[AI];by_cases h:1<=t/\t<=(D.length:Int)
 .obtain⟨a,ha⟩ :∃a:Nat,t=(a:Int)+1:=⟨(t-1).toNat,by omega⟩
  subst ha;obtain⟨d,hd,_⟩:=Bi (l:=D) (i:=a) (by omega);have hs:=Hs D (a+1);have hs0:=Hs D a;have ht:=MG hd;have e1:¬ ((a:Int)+1<1):=by omega
  have e2:¬ ((D.length:Int)<(a:Int)+1):=by omega
  rw[pI h,show (((a:Int)+1)-1).toNat=a by omega,hd,BE (by omega) (by omega),show ((a:Int)+1-1)=((a:Nat):Int) by omega,cy (by omega) (by omega),Aw hd];simp only[re,e1,e2,pa,pD,pV,ou];rw[UU (by simp;omega) (by omega) hN];simp only[ou];have key:∀{M i:Nat},i<=d.cons.length->d.cons.length-i<M->Fy d (nc (D.take a):Int) M i ((List.range i).map λ(i:Nat)=>(nc (D.take a):Int)+(i:Int))=some ((List.range d.cons.length).map λ(i:Nat)=>(nc (D.take a):Int)+(i:Int)):=by
   intro M i hi hM;refine BS d.cons.length (λM i=>Fy d (nc (D.take a):Int) M i ((List.range i).map λ(i:Nat)=>(nc (D.take a):Int)+(i:Int))=some ((List.range d.cons.length).map λ(i:Nat)=>(nc (D.take a):Int)+(i:Int))) ?_ ?_ hi hM
   .intro n;rw[Fy,pJ (by simp[AI])]
   .intro n i hi ih;rw[Fy,pI (by simp[AI];omega)];rw[DH _ _ _ (by simp;omega) (by simp;omega),BE (n:=(i:Int)+1) (by omega) (by omega),BE (by omega) (by omega),show ((i:Int)+1)=((i+1:Nat):Int) by omega];simp only[ou];rw[<- ih,Vi]
  have:=key (pT _) (by omega:d.cons.length-0<N);rw[show (((0:Nat):Int))=0 from rfl,List.range_zero,qt]at this;rw[this];rfl
 .rw[pJ h];by_cases e1:t<1
  .simp[e1]
  .have e2:(D.length:Int)<t:=by omega
   simp[e1,e2]
end RC
namespace RC
open Go
end RC
namespace RC
open Go
def nL (left:Int)(s:Nat):Int:=if left-s<0 then -1 else left-s
theorem UK {left:Int}{s:Nat}(h:left-s<0):nL left s=-1:=pI h
theorem YO {left:Int}{s:Nat}(h:¬ left-s<0):nL left s=left-s:=pJ h
def cz (c:D7):Nat:=c.fields.length
def dz (d:AK):Nat:=d.cons.length+(d.cons.map cz).sum
end RC
namespace RC
open Go
end RC
namespace RC
open Go
end RC
namespace RC
open Go
def nD (op:Int):Bool:=(decide (0<=op)&&decide (op<=11)&&!decide (op=7)&&!decide (op=8)) || decide (op=18) || decide (op=19)
def preB (p:eo)(i:Z7):Bool:=
 (decide (0<=i.dst)&&decide (i.dst<p.nT))&&(decide (i.dst=0) || nD i.op)&&(decide (i.bV=0) || decide (i.op=6))&&(decide (i.op=21) || decide (i.jumps.length=0))
end RC
namespace RC
open Go
section
variable {im : kx} {p : eo} {at_ : Nat} {i : Z7} {N : Nat}
end
end RC
namespace RC
open Go
theorem MR {α:Type}(f:α->Nat){l:List α}{x:α}(h:x∈l):f x<=(l.map f).sum:=by
 induction l with
 |nil=>cases h
 |cons y r ih=>
  rw[pc,rT];rcases pK.1 h with rfl|h
  .omega
  .have:=ih h;omega
end RC
namespace RC
open Go
end RC
namespace RC
open Go
end RC
namespace RC
open Go
mutual
def en:AD->Nat|.mk _ _ k=>1+CJ k
def CJ:List AD->Nat|[]=>0|e::l=>en e+CJ l
end
theorem Ft (e:AD):en e=1+CJ e.kids:=by cases e;simp[en,AD.kids]
theorem ZV {k:List AD}{i:Nat}{e:AD}(h:k[i]?=some e):CJ (k.drop i)=en e+CJ (k.drop (i+1)):=by rw[drop_cons h];simp[CJ]
theorem Fi (e:AD):1<=en e:=by rw[Ft];omega
theorem I3 {k:List AD}{e:AD}(h:e∈k):en e<=CJ k:=by
 induction k with
 |nil=>cases h
 |cons c k ih=>
  simp only[CJ];rcases pK.1 h with rfl|h
  .omega
  .have:=ih h;omega
theorem HF (k:List AD):k.length<=CJ k:=by
 induction k with
 |nil=>simp
 |cons c k ih=>have:=Fi c;simp only[CJ,po];omega
theorem Ca {e k:AD}(h:k∈e.kids):en k<en e:=by have:=I3 h;rw[Ft e];omega
def aH (f:AU):Nat:=f.params.length+CJ f.body.kids
def U3 (p:AJ):Nat:=(p.decls.length+(p.decls.map dz).sum)+(p.funcs.length+(p.funcs.map aH).sum)
theorem Wa {N:Nat}(hN:2000000<=N):∀(n:Nat) (e:AD) (left:Int),left<=1000->0<=left->left<n->CJ e.kids<=1048576->Fh N n e left=some (nL left (en e)):=by
 intro n
 induction n with
 |zero=>intro e left _ _ h;omega
 |succ n ih=>
  intro e left h0 hl0 h1 hz;rw[Fh];unfold Jb;have hp:=Ft e;have hle:=HF e.kids;by_cases h2:left<1
  .rw[pI (by simpa using h2),UK (by omega)]
  .rw[pJ (by simpa using h2),BE (by omega) (by omega)];have key:∀{M i:Nat},i<=e.kids.length->e.kids.length-i<M->∀l:Int,0<=l->l<left->Dr e (Fh N n) M l i=some (if l-(CJ (e.kids.drop i):Int)<0 then .inl (-1) else .inr (l-(CJ (e.kids.drop i):Int))):=by
    intro M i hi hM;refine BS e.kids.length (λM i=>∀l:Int,0<=l->l<left->Dr e (Fh N n) M l i=some (if l-(CJ (e.kids.drop i):Int)<0 then .inl (-1) else .inr (l-(CJ (e.kids.drop i):Int)))) ?_ ?_ hi hM
    .intro m l l0 l1;rw[Dr,pJ (by simp[AI])];simp[CJ];omega
    .intro m i hi xH l l0 l1;obtain⟨x,hx,vy⟩:=Bi hi;have hz2:=I3 vy;have e1:=Ft x;rw[Dr,pI (by simp[AI];omega),Aw hx];simp only[ou];rw[ih x l (by omega) l0 (by omega) (by omega),ZV hx];simp only[ou];by_cases h3:l-(en x:Int)<0
     .rw[UK h3,pI (by simp),pI (by omega)]
     .rw[YO h3,pJ (by simpa using h3),BE (by omega) (by omega),show ((i:Int)+1)=((i+1:Nat):Int) by omega,xH (l-(en x:Int)) (by omega) (by omega)];rw[show l-(en x:Int)-(CJ (e.kids.drop (i+1)):Int)=l-((en x+CJ (e.kids.drop (i+1)):Nat):Int) by omega]
   have:=key (pT _) (by omega:e.kids.length-0<N) (left-1) (by omega) (by omega);rw[tk,qJ]at this;rw[this];by_cases h3:left-1-(CJ e.kids:Int)<0
   .rw[pI h3,UK (by omega)];rfl
   .rw[pJ h3,YO (by omega)];simp only[Sh.Oe];congr 1;omega
theorem Gk {e:AD}(hz:CJ e.kids<=1048576){N:Nat}(hN:2000000<=N):HW N e=some (if en e<=30 then (en e:Int) else -1):=by
 unfold HW MV;rw[Wa hN N e 30 (by omega) (by omega) (by omega) hz];simp only[ou];by_cases h:en e<=30
 .rw[YO (by omega),pI h,pJ (by simp;omega),BE (by omega) (by omega)];congr 1;omega
 .rw[UK (by omega),pJ h];rfl
theorem VI {N:Nat}(hN:2000000<=N):∀(n:Nat) (e:AD) (c:Nat),c<=30->31-c<n->CJ e.kids<=1048576->FD N n c e=some (if c+en e<=30 then (true,((c+en e:Nat):Int)) else (false,31)):=by
 intro n
 induction n with
 |zero=>intro e c _ h;omega
 |succ n ih=>
  intro e c h0 h1 hz;rw[FD];unfold I1;have hp:=Ft e;have hle:=HF e.kids;rw[BE (by omega) (by omega)];by_cases h2:c=30
  .subst h2;rw[pI (by simp),pJ (by omega)];rfl
  .rw[pJ (by simp;omega)];have key:∀{M i:Nat},i<=e.kids.length->e.kids.length-i<M->∀d:Nat,c<d->d<=30->DP e (FD N n) M i d=some (if d+CJ (e.kids.drop i)<=30 then .inr ((d+CJ (e.kids.drop i):Nat):Int) else .inl (false,31)):=by
    intro M i hi hM;refine BS e.kids.length (λM i=>∀d:Nat,c<d->d<=30->DP e (FD N n) M i d=some (if d+CJ (e.kids.drop i)<=30 then .inr ((d+CJ (e.kids.drop i):Nat):Int) else .inl (false,31))) ?_ ?_ hi hM
    .intro m d l0 l1;rw[DP,pJ (by simp[AI])];simp[CJ,l1]
    .intro m i hi xH d l0 l1;obtain⟨x,hx,vy⟩:=Bi hi;have hz2:=I3 vy;have e1:=Ft x;rw[DP,pI (by simp[AI];omega),Aw hx];simp only[ou];rw[ih x d l1 (by omega) (by omega),ZV hx];simp only[ou];by_cases h3:d+en x<=30
     .rw[pI h3];simp only[qC,pD,pV];rw[BE (by omega) (by omega),show ((i:Int)+1)=((i+1:Nat):Int) by omega,xH (d+en x) (by omega) h3,qd]
     .have h4:¬ (d+(en x+CJ (List.drop (i+1) e.kids))<=30):=by omega
      rw[pJ h3,pJ h4];rfl
   have:=key (pT _) (by omega:e.kids.length-0<N) (c+1) (by omega) (by omega);rw[tk,qJ,show ((c+1:Nat):Int)=(c:Int)+1 by omega]at this;rw[this];by_cases h3:c+1+CJ e.kids<=30
   .rw[pI h3,pI (by omega)];simp only[Sh.Oe];rw[show c+1+CJ e.kids=c+en e by omega]
   .rw[pJ h3,pJ (by omega)];rfl
theorem Ov {e:AD}(hz:CJ e.kids<=1048576){N:Nat}(hN:2000000<=N):JN N e=some (if en e<=30 then (en e:Int) else -1):=by
 unfold JN Lt;have:=VI hN N e 0 (by omega) (by omega) hz;rw[tk,qO]at this;rw[this];simp only[ou];by_cases h:en e<=30
 .rw[pI h,pI h];rfl
 .rw[pJ h,pJ h];rfl
end RC
namespace RC
open Go
theorem Q7 {α:Type}{g:Nat->α->Bool}:∀(l:List α) (k:Nat),E7 g k l=true↔∀(i:Nat) x,l[i]?=some x->g (k+i) x=true
 | [],_=>by simp[E7]
 |x::r,k=>by
  rw[E7,pZ,Q7 r (k+1)];constructor
  .rintro⟨h1,h2⟩ i y hy;cases i with
   |zero=>simp only[ph,pC]at hy;subst hy;exact h1
   |succ i=>have:=h2 i y hy;rw[show k+(i+1)=k+1+i by omega];exact this
  .intro h;exact⟨h 0 x rfl,λi y hy=>by have:=h (i+1) y hy;rw[show k+(i+1)=k+1+i by omega]at this;exact this⟩
theorem UM {a b:List Int}(h:a.length=b.length):E7 (λi x=>decide (b[i]?=some x)) 0 a=decide (a=b):=by
 rw[Bool.eq_iff_iff,Q7,sO];constructor
 .intro g;refine qj λi=>?_;by_cases hi:i<a.length
  .obtain⟨x,hx,_⟩:=Bi hi;have:=g i x hx;rw[sO,qO]at this;rw[hx,this]
  .rw[qA (by omega),qA (by omega)]
 .rintro rfl i x hx;rw[sO,qO,hx]
theorem Oi {a b:List Int}(ha:a.length<=1048576){N:Nat}(hN:2000000<=N):DR N a b=some (decide (a=b)):=by
 unfold DR;by_cases h:a.length=b.length
 .rw[pJ (by simp[AI,h]),EH (l:=a) (DD a b) (λi x=>decide (b[i]?=some x)) (λn=>by rw[DD,pJ (by simp[AI])]) (λn i x hx=>?_) (by omega),EN,UM h]
  .cases decide (a=b)<;>rfl
  .have hi:=(pA.1 hx).1;obtain⟨y,hy,_⟩:=Bi (l:=b) (i:=i) (by omega);rw[DD,pI (by simp[AI];omega),Aw hx];simp only[ou];rw[Aw hy,hy,BE (by omega) (by omega),show ((i:Int)+1)=((i+1:Nat):Int) by omega];simp only[ou];by_cases e:x=y
   .simp[e]
   .have e':¬ y=x:=λq=>e q.symm;simp[e,e']
 .have uq:¬ a=b:=λe=>h (by rw[e]);have h':¬ ((a.length:Int)=(b.length:Int)):=by omega
  simp[AI,h',uq]
structure FB (D:List AK) (F:List AU):Prop where
 Pr:D.length<=4
 V7 :∀d∈D,d.cons.length<=3
 Nc :∀d∈D,∀c∈d.cons,c.fields.length<=3/\∀t∈c.fields,DZ D t=true
 jS :∀d∈D,DZ D d.from_=true/\DZ D d.to=true
 J2:F.length<=4
 NS :∀f∈F,f.params.length<=3/\(∀t∈f.params,DZ D t=true)/\DZ D f.result=true
theorem ju {D:List AK}(h :∀d∈D,d.cons.length<=3):nc D<=3*D.length:=by
 induction D with
 |nil=>simp[nc]
 |cons d r ih=>
  have h1:=h d (by simp);have h2:=ih λe he=>h e (by simp[he]);simp only[nc,pc,rT,po]at h2⊢;omega
theorem FB.nc {D:List AK}{F:List AU}(S:FB D F):nc D<=12:=by have:=ju S.V7;have:=S.Pr;omega
theorem Lc {D:List AK}{t:Int}(h:DZ D t=true):0<=t/\t<=(D.length:Int):=by
 unfold DZ at h;simpa using h
theorem FB.of {p:AJ}(h:O7 p.decls (p.funcs.map λf=>(f.params,f.result))=true):FB p.decls p.funcs:=by
 unfold O7 at h;simp only[pZ,pR,List.all_map,pP]at h;obtain⟨h1,⟨_,h2⟩,h3,_⟩:=h;unfold Nx at h1;simp only[pZ,pP]at h1;obtain⟨h4,h5⟩:=h1;rw[Q7]at h5;have hd:∀d∈p.decls,∃i,Mf p.decls i d=true:=λd hd=>by
  obtain⟨i,hi⟩:=pY.1 hd;exact⟨_,h5 i d hi⟩
 refine⟨h4,λd hm=>?_,λd hm c hc=>?_,λd hm=>?_,h2,λf hf=>?_⟩
 .obtain⟨i,hi⟩:=hd d hm;unfold Mf at hi;split at hi
  .simp only[pZ,pP]at hi;exact hi.1.1
  .omega
 .obtain⟨i,hi⟩:=hd d hm;unfold Mf at hi;split at hi
  .simp only[pZ,pP,pG]at hi;have:=hi.2 c hc;unfold R7 at this;simp only[pZ,pP,pG]at this;exact this
  .have:=List.length_pos_of_mem hc;omega
 .obtain⟨i,hi⟩:=hd d hm;unfold Mf at hi;split at hi
  .simp only[pZ,pP]at hi;rw[hi.1.2.1,hi.1.2.2];have:DZ p.decls 0=true:=by unfold DZ;simp
   exact⟨this,this⟩
  .simp only[pZ]at hi;exact hi.2
 .have:=pG.1 h3 f hf;simp only[Function.comp,Om,pZ,pP,pG]at this;exact this
def LH (p:AJ)(sg:BO)(R1:AJ->List Int->AD->Option Int)(R2:List Int->BO->AD->Option Int)(T:List Int->AD->Int)(m:Nat):Prop:=
 ∀(v:List Int) (e:AD),Aj e->en e<m->v.length+3*en e<=1000->(∀x∈v,DZ p.decls x=true)->R1 p v e=some (T v e)/\R2 v sg e=some (T v e)/\(T v e=-1∨DZ p.decls (T v e)=true)
section
variable {p : AJ} {sg : BO} {R1 : AJ -> List Int -> AD -> Option Int} {R2 : List Int -> BO -> AD -> Option Int} {T : List Int -> AD -> Int} {e : AD} {v : List Int} {N : Nat}
structure IS (p:AJ) (e:AD) (v:List Int):Prop where
 len:v.length+3*en e<=1000
 Jk :∀x∈v,DZ p.decls x=true
 small:en e<=340
 CS:Aj e
theorem IS.KH (V:IS p e v){k:AD}(hk:k∈e.kids):v.length+3*en k<=1000:=by have:=V.len;have:=Ca hk;omega
theorem IS.more (V:IS p e v){k:AD}(hk:k∈e.kids){m:List Int}(hm:m.length<=3):(v++m).length+3*en k<=1000:=by have:=V.len;have:=Ca hk;rw[pU];omega
theorem IS.XI (V:IS p e v){m:List Int}(hm :∀x∈m,DZ p.decls x=true):∀x∈v++m,DZ p.decls x=true:=λx hx=>by
 rcases pX.1 hx with h|h
 .exact V.Jk x h
 .exact hm x h
theorem IS.KX (V:IS p e v):e.kids.length<=340:=by have:=HF e.kids;have:=V.small;have:=Ft e;omega
theorem Vo (H:LH p sg R1 R2 T (en e))(V:IS p e v)(hN:2000000<=N)(m:Nat):JP N R1 p v e.kids m=some (decide (e.kids.map (T v)=List.replicate m 0)):=by
 unfold JP;have hk:=V.KX;by_cases h:e.kids.length=m
 .subst h;rw[pJ (by simp[AI]),EH (l:=e.kids) (GH p v e.kids e.kids.length R1) (λ_ x=>decide (T v x=0)) (λn=>by rw[GH,pJ (by simp)]) (λn i x hx=>?_) (by omega),EN,GC]
  .have e1:e.kids.all (λx=>decide (T v x=0))=decide (e.kids.map (T v)=List.replicate e.kids.length 0):=by
    rw[Bool.eq_iff_iff,sO,pG,List.eq_replicate_iff];simp
   rw[e1];cases decide (e.kids.map (T v)=List.replicate e.kids.length 0)<;>rfl
  .have hi:=(pA.1 hx).1;have hm:=ov hx;rw[GH,pI (by simp;omega),Aw hx];simp only[ou];rw[(H v x (V.CS.kids x hm) (Ca hm) (V.KH hm) V.Jk).1,BE (by omega) (by omega),show ((i:Int)+1)=((i+1:Nat):Int) by omega];simp only[ou];by_cases e1:T v x=0<;>simp[e1]
 .have h1:¬ ((e.kids.length:Int)=(m:Int)):=by omega
  have h2:¬ e.kids.map (T v)=List.replicate m 0:=λq=>h (by have:=qX List.length q;simpa using this);simp[AI,h1,h2]
theorem RL (H:LH p sg R1 R2 T (en e))(V:IS p e v)(hN:2000000<=N)(l:List Int):Jv N R1 p v e.kids l=some (decide (e.kids.map (T v)=l)):=by
 unfold Jv;have hk:=V.KX;by_cases h:e.kids.length=l.length
 .rw[pJ (by simp[AI,h]),EH (l:=l) (G3 p v e.kids l R1) (λi x=>decide ((e.kids.map (T v))[i]?=some x)) (λn=>by rw[G3,pJ (by simp[AI])]) (λn i x hx=>?_) (by omega),EN,UM (by simp[h])]
  .by_cases q:l=e.kids.map (T v)
   .simp[q]
   .have q':¬ e.kids.map (T v)=l:=λz=>q z.symm;simp[q,q']
  .have hi:=(pA.1 hx).1;obtain⟨y,hy,hm⟩:=Bi (l:=e.kids) (i:=i) (by omega);rw[G3,pI (by simp[AI];omega),Aw hy];simp only[ou];rw[(H v y (V.CS.kids y hm) (Ca hm) (V.KH hm) V.Jk).1,Aw hx,BE (by omega) (by omega),show ((i:Int)+1)=((i+1:Nat):Int) by omega];simp only[ou];rw[pB,hy,qF];by_cases e1:T v y=x<;>simp[e1]
 .have h1:¬ ((e.kids.length:Int)=(l.length:Int)):=by omega
  have h2:¬ e.kids.map (T v)=l:=λq=>h (by have:=qX List.length q;simpa using this);simp[AI,h1,h2]
theorem aI (H:LH p sg R1 R2 T (en e))(V:IS p e v)(hN:2000000<=N):
  CB v sg e R2 N 0 (List.replicate e.kids.length 0)=some (if (e.kids.map (T v)).any (λt=>decide (t<0))=true then .inl (-1) else .inr (e.kids.map (T v))):=by
 have hk:=V.KX;have key:∀{N i:Nat},i<=e.kids.length->e.kids.length-i<N->∀m:List Int,m.length=e.kids.length->m.take i=(e.kids.map (T v)).take i->
   CB v sg e R2 N i m=some (if ((e.kids.map (T v)).drop i).any (λt=>decide (t<0))=true then .inl (-1) else .inr (e.kids.map (T v))):=by
  intro N i hi hN;refine BS e.kids.length (λN i=>∀m:List Int,m.length=e.kids.length->m.take i=(e.kids.map (T v)).take i->
   CB v sg e R2 N i m=some (if ((e.kids.map (T v)).drop i).any (λt=>decide (t<0))=true then .inl (-1) else .inr (e.kids.map (T v)))) ?_ ?_ hi hN
  .intro n m a b;rw[CB,pJ (by simp[AI])];rw[qI (by omega),qI (by simp)]at b;rw[b,sR (by simp)];simp
  .intro n i hi ih m a b;obtain⟨x,hx,vy⟩:=Bi hi;obtain⟨y,hy,_⟩:=Bi (l:=m) (i:=i) (by omega);have hx2:(e.kids.map (T v))[i]?=some (T v x):=by rw[pB,hx];rfl
   have xI:(m.set i (T v x))[i]?=some (T v x):=by rw[pO (by omega)]
   rw[CB,pI (by simp[AI];omega),Aw hx];simp only[ou];rw[(H v x (V.CS.kids x vy) (Ca vy) (V.KH vy) V.Jk).2.1,Aw hy];simp only[ou];rw[Oj,Aw xI,drop_cons hx2];simp only[ou,List.any_cons];by_cases h:T v x<0
   .simp[h]
   .rw[pJ (by simpa using h),BE (by omega) (by omega),show ((i:Int)+1)=((i+1:Nat):Int) by omega,ih (m.set i (T v x)) (by simp[a]) (by rw[EM xI,EM hx2,<- b,sd (pL _)])];simp[h]
 have:=key (pT _) (by omega:e.kids.length-0<N) (List.replicate e.kids.length 0) (by simp) rfl;simpa using this
theorem Jt {a b:List Int}(ha:a.length<=1000)(hb:b.length<=1000):E3 a b=some (a++b):=by
 unfold E3 Fv;rw[DH [] a 8 (by simp;omega) (by simp;omega)];simp only[ou,qS];rw[DH a b 8 (by omega) (by omega)];rfl
theorem ee {a b:List Int}(ha:a.length<=1000)(hb:b.length<=1000)(hN:2000000<=N):GX N [a,b]=some (a++b):=by
 obtain⟨n,rfl⟩ :∃n,N=n+3:=⟨N-3,by omega⟩
 unfold GX;have e1:Cf [a,b] (n+3) 0 0=some ((a.length+b.length:Nat):Int):=by
  rw[Cf,pI (by simp[AI]),show Sh.get [a,b] 0=some a from rfl];simp only[ou];rw[AI,BE (n:=(0:Int)+1) (by omega) (by omega),BE (by omega) (by omega),pJ (by rw[pP];omega)];rw[Cf,pI (by simp[AI]),show Sh.get [a,b] (0+1)=some b from rfl];simp only[ou];rw[AI,BE (n:=(0:Int)+1+1) (by omega) (by omega),BE (by omega) (by omega),pJ (by rw[pP];omega)];rw[Cf,pJ (by simp[AI])];congr 1;omega
 have e2:Cg [a,b] (n+3) 0 []=some (a++b):=by
  rw[Cg,pI (by simp[AI]),show Sh.get [a,b] 0=some a from rfl];simp only[ou];rw[DH [] a 8 (by simp;omega) (by simp;omega),BE (n:=(0:Int)+1) (by omega) (by omega)];simp only[ou,qS];rw[Cg,pI (by simp[AI]),show Sh.get [a,b] (0+1)=some b from rfl];simp only[ou];rw[DH a b 8 (by omega) (by omega),BE (n:=(0:Int)+1+1) (by omega) (by omega)];simp only[ou];rw[Cg,pJ (by simp[AI])]
 have e3:Gy ((a.length+b.length:Nat):Int)=some []:=by
  unfold Gy;rw[pJ (by simp;omega),BE (n:=(0:Int)-0) (by omega) (by omega),BE (by omega) (by omega)];by_cases h:0<a.length+b.length
  .rw[pI (by simp;omega),show (((a.length+b.length:Nat):Int)-(0-0))=((a.length+b.length:Nat):Int) by omega,OG _ _ _ (by omega) (by omega)];simp only[ou];have:=ig (l:=List.replicate (a.length+b.length) (0:Int)) (j:=0) (by omega);rw[tk]at this;rw[this];rfl
  .rw[pJ (by simp;omega)];rfl
 rw[e1];simp only[ou];rw[e3];simp only[ou];rw[e2];rfl
def MU:List Int->Int
 | []=>-1
 |t::r=>if r.all (λx=>decide (x=t))=true then t else -1
theorem LC (H:LH p sg R1 R2 T (en e))(V:IS p e v)(hN:2000000<=N){ks:List AD}{ms:List (List Int)}(wq :∀k∈ks,k∈e.kids)(xz:ks.length<=340)(hl:ms.length=ks.length)(hm :∀m∈ms,m.length<=3/\∀x∈m,DZ p.decls x=true):
  Ei N R2 sg v ks ms=some (MU (List.zipWith (λm k=>T (v++m) k) ms ks)):=by
 unfold Ei;have hvl:v.length<=1000:=by have:=V.len;omega
 have step:∀(n i:Nat) (r:Int) k m,ks[i]?=some k->ms[i]?=some m->Bh N sg v ks ms R2 (n+1) r i=if T (v++m) k<0∨(0<i/\T (v++m) k≠r) then some (.inl (-1)) else Bh N sg v ks ms R2 n (T (v++m) k) ((i+1:Nat):Int):=by
  intro n i r k m hk hmm;have hi:=(pA.1 hk).1;have hmo:=hm m (ov hmm);have hke:=wq k (ov hk);rw[Bh,pI (by simp[AI];omega),Aw hk];simp only[ou];rw[Aw hmm];simp only[ou];rw[ee hvl (by omega) hN];simp only[ou];rw[(H (v++m) k (V.CS.kids k hke) (Ca hke) (V.more hke hmo.1) (V.XI hmo.2)).2.1];simp only[ou];rw[BE (by omega) (by omega),show ((i:Int)+1)=((i+1:Nat):Int) by omega];by_cases h1:T (v++m) k<0
  .simp[h1]
  .by_cases h2:0<i
   .by_cases h3:T (v++m) k=r
    .have xG:¬ r<0:=h3▸h1;simp[xG,h2,h3]
    .simp[h1,h2,h3]
   .simp[h1,h2]
 have rest:∀(d i n:Nat) (r:Int),ks.length-i=d->0<i->i<=ks.length->d<n->Bh N sg v ks ms R2 n r i=some (if ((List.zipWith (λm k=>T (v++m) k) ms ks).drop i).all (λx=>decide (x=r))=true then (if ((List.zipWith (λm k=>T (v++m) k) ms ks).drop i).any (λx=>decide (x<0))=true then .inl (-1) else .inr r) else .inl (-1)):=by
  intro d
  induction d with
  |zero=>
   intro i n r h1 h2 h3 h4;obtain⟨n,rfl⟩ :∃q,n=q+1:=⟨n-1,by omega⟩
   rw[Bh,pJ (by simp[AI];omega),sR (by simp;omega)];rfl
  |succ d ih=>
   intro i n r h1 h2 h3 h4;obtain⟨n,rfl⟩ :∃q,n=q+1:=⟨n-1,by omega⟩
   obtain⟨k,hk,_⟩:=Bi (l:=ks) (i:=i) (by omega);obtain⟨m,hmm,_⟩:=Bi (l:=ms) (i:=i) (by omega);have hz:(List.zipWith (λm k=>T (v++m) k) ms ks)[i]?=some (T (v++m) k):=by rw[rD,hk,hmm]
   rw[step n i r k m hk hmm,drop_cons hz,rQ,List.any_cons];by_cases h5:T (v++m) k=r
   .by_cases h6:T (v++m) k<0
    .rw[pI (.inl h6)];have h6':r<0:=h5▸h6;simp[h5,h6']
    .rw[pJ (by rintro (h|h);exact h6 h;exact h.2 h5),ih (i+1) n _ (by omega) (by omega) (by omega) (by omega)];have h6':¬ r<0:=h5▸h6;simp[h5,h6']
   .rw[pI (.inr ⟨h2,h5⟩)];simp[h5]
 cases hks0:ks with
 |nil=>
  obtain⟨n,rfl⟩ :∃q,N=q+1:=⟨N-1,by omega⟩
  rw[Bh,pJ (by simp[AI])];simp[MU]
 |cons k r=>
  cases hms0:ms with
  |nil=>rw[hks0,hms0]at hl;simp at hl
  |cons m s=>
   rw[<- hks0,<- hms0];obtain⟨n,hn⟩ :∃q,N=q+1:=⟨N-1,by omega⟩
   have h0:=step n 0 (-1) k m (by rw[hks0];rfl) (by rw[hms0];rfl);rw[tk]at h0;have hke:=wq k (by rw[hks0];simp);have hmo:=hm m (by rw[hms0];simp);have hT:=(H (v++m) k (V.CS.kids k hke) (Ca hke) (V.more hke hmo.1) (V.XI hmo.2)).2.2;rw[show Bh N sg v ks ms R2 N (-1) 0=Bh N sg v ks ms R2 (n+1) (-1) 0 by rw[<- hn],h0];have hzc:List.zipWith (λm k=>T (v++m) k) ms ks=T (v++m) k::List.zipWith (λm k=>T (v++m) k) s r:=by rw[hks0,hms0];rfl
   rw[hzc];unfold MU;by_cases h1:T (v++m) k<0
   .rw[pI (.inl h1)];have:T (v++m) k=-1:=by
     rcases hT with h|h
     .exact h
     .have:=(Lc h).1;omega
    rw[this];simp
   .rw[pJ (by rintro (h|h);exact h1 h;omega),rest _ 1 n _ rfl (by omega) (by rw[hks0];simp) (by omega),hzc,List.drop_succ_cons,qJ];by_cases h2:(List.zipWith (λm k=>T (v++m) k) s r).all (λx=>decide (x=T (v++m) k))=true
    .have h3:¬ (List.zipWith (λm k=>T (v++m) k) s r).any (λx=>decide (x<0))=true:=λh=>by
      obtain⟨x,hx,hx2⟩:=rZ.1 h;have:=pG.1 h2 x hx;simp only[pP]at this hx2;omega
     rw[pI h2,pJ h3];dsimp only;rw[pI h2];rfl
    .rw[pJ h2];dsimp only;rw[pJ h2];rfl
end
end RC
namespace RC
open Go
theorem fP {n:Int}(h1:n < -9223372036854775808)(h2:-18446744073709551616<=n):Sh.w n=n+18446744073709551616:=by
 unfold Sh.w;rw[IntKind.wrap_i64];omega
theorem WG {D:List AK}(hD:D.length<=1048576)(hn:nc D<=1048576){c:Int}(hI:HC c)(hc:c<0∨(nc D:Int)<=c){N:Nat}(hN:2000000<=N):Ir N D c=some (-1,⟨[]⟩):=by
 have key:∀(m j N:Nat) (c:Int),D.length-j=m->j<=D.length->m<N->HC c->(c<0∨(nc (D.drop j):Int)<=c)->Fo D N c j=some (.inr ()):=by
  intro m
  induction m with
  |zero=>
   intro j N c h1 h2 h3 _ _;obtain⟨N,rfl⟩ :∃n,N=n+1:=⟨N-1,by omega⟩
   rw[Fo,pJ (by simp[AI];omega)]
  |succ m ih=>
   intro j N c h1 h2 h3 hI h4;obtain⟨N,rfl⟩ :∃n,N=n+1:=⟨N-1,by omega⟩
   obtain⟨d,hd,_⟩:=Bi (l:=D) (i:=j) (by omega);have hs:=Hs D j;rw[Tt hd]at h4 hs;rw[Fo,pI (by simp[AI];omega),Aw hd];simp only[ou];have yR:=hI.1;have hhi:=hI.2;have e1:¬ (0<=c/\c<(d.cons.length:Int)):=by omega
   have e2:(if decide (0<=c)=true then some (decide (c<Sh.len d.cons)) else some false)=some false:=by
    by_cases h0:0<=c
    .have:¬ c<(d.cons.length:Int):=by omega
     simp[h0,AI,this]
    .simp[h0]
   rw[BE (n:=(j:Int)+1) (by omega) (by omega),show ((j:Int)+1)=((j+1:Nat):Int) by omega,AI];rw[AI]at e2;by_cases h5:c-(d.cons.length:Int) < -9223372036854775808
   .have:=ih (j+1) N (Sh.w (c-(d.cons.length:Int))) (by omega) (by omega) (by omega) (by rw[fP h5 (by omega)];unfold HC;omega) (by rw[fP h5 (by omega)];omega);rw[e2];simp only[ou,pD,pV];exact this
   .have:=ih (j+1) N (Sh.w (c-(d.cons.length:Int))) (by omega) (by omega) (by omega) (by rw[BE (by omega) (by omega)];unfold HC;omega) (by rw[BE (by omega) (by omega)];omega);rw[e2];simp only[ou,pD,pV];exact this
 have:=key D.length 0 N c (by omega) (by omega) (by omega) hI (by simpa using hc);unfold Ir;rw[show (((0:Nat):Int))=0 from rfl]at this;rw[this];rfl
theorem RZ:∀{D:List AK} {k c t:Nat} {x:D7},IL D k c=some (t,x)->k<t/\t<=k+D.length/\∃d∈D,x∈d.cons
 | [],_,_,_,_,h=>by simp[IL]at h
 |d::r,k,c,t,x,h=>by
  unfold IL at h;cases hx:d.cons[c]? with
  |some y=>
   rw[hx]at h;simp only[pC,rA]at h;obtain⟨rfl,rfl⟩:=h;exact⟨by omega,by simp,d,by simp,ov hx⟩
  |none=>
   rw[hx]at h;obtain⟨h1,h2,e,h3,h4⟩:=RZ h;exact⟨by omega,by simp;omega,e,by simp[h3],h4⟩
def Uo (a b:Int)(d:AK):Bool:=decide (d.cons.length=0)&&(decide (d.from_=a)&&decide (d.to=b))
def JD (a b:Int):List AK->Nat->Int
 | [],_=>-1
 |d::r,k=>if Uo a b d=true then (k:Int)+1 else JD a b r (k+1)
theorem dR {a b:Int}:∀(l:List AK) (k:Nat),JD a b l k=-1∨((k:Int)<JD a b l k/\JD a b l k<=k+l.length)
 | [],_=>.inl rfl
 |d::r,k=>by
  unfold JD;by_cases h:Uo a b d=true
  .rw[pI h];right;simp only[po];omega
  .rw[pJ h];rcases dR r (k+1) with h1|h1
   .exact .inl h1
   .right;simp only[po];omega
theorem Zf {a b:Int}{d:AK}:(if decide ((Sh.len d.cons)=0)=true then if decide (d.from_=a)=true then some (decide (d.to=b)) else some false else some false)=some (Uo a b d):=by
 unfold Uo;by_cases h1:d.cons.length=0<;>by_cases h2:d.from_=a<;>simp[AI,h1,h2]
theorem O6 {D:List AK}(hD:D.length<=1048576){a b:Int}{N:Nat}(hN:2000000<=N):JM N D a b=some (JD a b D 0):=by
 unfold JM;have key:∀{M i:Nat},i<=D.length->D.length-i<M->Sh.cont (FQ D a b M i) id (λ()=>some (-1))=some (JD a b (D.drop i) i):=by
  intro M i hi hM;refine BS D.length (λM i=>Sh.cont (FQ D a b M i) id (λ()=>some (-1))=some (JD a b (D.drop i) i)) ?_ ?_ hi hM
  .intro n;rw[FQ,pJ (by simp[AI])];simp[JD,Sh.cont]
  .intro n i hi ih;obtain⟨d,hd,_⟩:=Bi hi;rw[FQ,pI (by simp[AI];omega),Aw hd,drop_cons hd];simp only[ou];rw[Zf,BE (by omega) (by omega),show ((i:Int)+1)=((i+1:Nat):Int) by omega];simp only[ou,JD];by_cases h:Uo a b d=true
   .rw[pI h,pI h];simp[Sh.cont]
   .rw[pJ h,pJ h,ih]
 have:=key (pT _) (by omega:D.length-0<N);simpa using this
theorem VE {D:List AK}(hD:D.length<=1048576){a b:Int}{N:Nat}(hN:2000000<=N):Kb N D a b=some (JD a b D 0):=by
 unfold Kb;have key:∀{M i:Nat},i<=D.length->D.length-i<M->Sh.cont (FO D a b M i) id (λ()=>some (-1))=some (JD a b (D.drop i) i):=by
  intro M i hi hM;refine BS D.length (λM i=>Sh.cont (FO D a b M i) id (λ()=>some (-1))=some (JD a b (D.drop i) i)) ?_ ?_ hi hM
  .intro n;rw[FO,pJ (by simp[AI])];simp[JD,Sh.cont]
  .intro n i hi ih;obtain⟨d,hd,_⟩:=Bi hi;rw[FO,pI (by simp[AI];omega),Aw hd,drop_cons hd];simp only[ou];rw[Zf,BE (by omega) (by omega),show ((i:Int)+1)=((i+1:Nat):Int) by omega];simp only[ou,JD];by_cases h:Uo a b d=true
   .rw[pI h,pI h];simp[Sh.cont]
   .rw[pJ h,pJ h,ih]
 have:=key (pT _) (by omega:D.length-0<N);simpa using this
def R0 (D:List AK)(t:Int):Option AK:=if 1<=t/\t<=(D.length:Int) then (D[(t-1).toNat]?).bind λd=>if d.cons.length=0 then some d else none else none
theorem VQ {D:List AK}{t:Int}{d:AK}(h:R0 D t=some d):d∈D/\1<=t/\t<=(D.length:Int)/\D[(t-1).toNat]?=some d:=by
 unfold R0 at h;split at h
 .rename_i h1;obtain⟨e,he,h2⟩:=pz.1 h;split at h2
  .cases h2;exact⟨ov he,h1.1,h1.2,he⟩
  .cases h2
 .cases h
theorem VP {D:List AK}(hD:D.length<=1048576){t:Int}:Kc D t=some ((R0 D t).elim (⟨0,0,[]⟩,false) λd=>(d,true)):=by
 unfold Kc R0;by_cases h:1<=t/\t<=(D.length:Int)
 .obtain⟨a,ha⟩ :∃a:Nat,t=(a:Int)+1:=⟨(t-1).toNat,by omega⟩
  subst ha;obtain⟨d,hd,_⟩:=Bi (l:=D) (i:=a) (by omega);have e1:¬ ((a:Int)+1<1):=by omega
  have e2:¬ ((D.length:Int)<(a:Int)+1):=by omega
  rw[pI h,BE (by omega) (by omega),show ((a:Int)+1-1)=((a:Nat):Int) by omega,Aw hd,qP,hd];by_cases h2:d.cons.length=0
  .have h2':d.cons=[]:=qM h2;simp[e1,e2,AI,h2']
  .have h3:0<d.cons.length:=by omega
   have h2':¬ d.cons=[]:=λq=>h2 (by rw[q];rfl);simp[e1,e2,AI,h2',h3]
 .rw[pJ h];by_cases h1:t<1
  .simp[h1]
  .have h2:(D.length:Int)<t:=by omega
   simp[h1,AI,h2]
theorem KM {D:List AK}(hD:D.length<=1048576){t:Int}:HR D t=some (R0 D t).isSome:=by
 unfold HR R0;rw[Dx];by_cases h:1<=t/\t<=(D.length:Int)
 .obtain⟨a,ha⟩ :∃a:Nat,t=(a:Int)+1:=⟨(t-1).toNat,by omega⟩
  subst ha;obtain⟨d,hd,_⟩:=Bi (l:=D) (i:=a) (by omega);have e1:((1:Int)<=(a:Int)+1):=by omega
  have e2:((a:Int)+1<=(D.length:Int)):=by omega
  rw[pI h,BE (by omega) (by omega),show ((a:Int)+1-1)=((a:Nat):Int) by omega,Aw hd,qP,hd];by_cases h2:d.cons=[]<;>simp[e1,e2,AI,h2]
 .rw[pJ h];have:(decide (1<=t)&&decide (t<=Sh.len D))=false:=by
   rw[AI];by_cases h1:1<=t
   .have h2:¬ t<=(D.length:Int):=λq=>h ⟨h1,q⟩;simp[h1,h2]
   .simp[h1]
  simp[this]
section
variable {p : AJ} {sg : BO} {R1 : AJ -> List Int -> AD -> Option Int} {R2 : List Int -> BO -> AD -> Option Int} {T : List Int -> AD -> Int} {e : AD} {v : List Int} {N : Nat}
theorem Fz (H:LH p sg R1 R2 T (en e))(V:IS p e v)(hN:2000000<=N)(h1:¬ e.op=12)(h2:¬ e.op=13)(h3:¬ e.op=7)(h4:¬ e.op=8):
  Al N R2 v sg e=if (e.kids.map (T v)).any (λt=>decide (t<0))=true then some (-1) else (BH N sg e.op e.num (e.kids.map (T v))).bind λq=>if q.2=true then some q.1 else some (-1):=by
 unfold Al;have hk:=V.KX;simp only[h1,h2,h3,h4,pa,pD,pV];rw[AI,OG _ _ _ (by omega) (by omega)];simp only[ou];rw[aI H V hN];by_cases h:(e.kids.map (T v)).any (λt=>decide (t<0))=true
 .rw[pI h,pI h];rfl
 .rw[pJ h,pJ h];simp only[Sh.Oe];cases BH N sg e.op e.num (e.kids.map (T v)) with
  |none=>rfl
  |some q=>simp only[ou];cases q.2<;>rfl
theorem Lz (H:LH p sg R1 R2 T (en e))(V:IS p e v)(hN:2000000<=N)(h1:¬ e.op=12)(h2:¬ e.op=13)(h3:¬ e.op=7)(h4:¬ e.op=8){want:List Int}{c:Bool}{t:Int}(hw :∀x∈want,0<=x)
  (hs:BH N sg e.op e.num (e.kids.map (T v))=some (t,c&&decide (e.kids.map (T v)=want))) :
  Al N R2 v sg e=some (if c=true/\e.kids.map (T v)=want then t else -1):=by
 rw[Fz H V hN h1 h2 h3 h4,hs];by_cases h:e.kids.map (T v)=want
 .have:¬ (e.kids.map (T v)).any (λt=>decide (t<0))=true:=λq=>by
   obtain⟨x,hx,hx2⟩:=rZ.1 q;have:=hw x (h▸hx);simp only[pP]at hx2;omega
  rw[pJ this];cases c<;>simp[h]
 .have hn:¬ (c=true/\e.kids.map (T v)=want):=λq=>h q.2;rw[pJ hn];simp[h]
end
end RC
namespace RC
open Go
def FF (p:AJ):BO:=⟨p.decls,p.funcs.map λf=>⟨f.params,[],f.result⟩⟩
section
variable {p : AJ} {R1 : AJ -> List Int -> AD -> Option Int} {R2 : List Int -> BO -> AD -> Option Int} {T : List Int -> AD -> Int} {e : AD} {v : List Int} {N : Nat}
def Ll (p:AJ)(R1:AJ->List Int->AD->Option Int)(R2:List Int->BO->AD->Option Int)(N:Nat)(v:List Int)(e:AD):Prop:=
 ∃t,Bt N R1 p v e=some t/\Al N R2 v (FF p) e=some t/\(t=-1∨DZ p.decls t=true)
theorem nA {D:List AK}:DZ D 0=true:=by unfold DZ;simp
theorem len_nil {α:Type}{l:List α}:decide ((Sh.len l)=0)=decide (l=[]):=by
 cases l with
 |nil=>rfl
 |cons x r=>exact rf.2 (by rw[AI,po];exact⟨λh=>by omega,λh=>nomatch h⟩)
theorem gI (H:LH p (FF p) R1 R2 T (en e))(V:IS p e v)(hN:2000000<=N)(h:e.op=0):Ll p R1 R2 N v e:=by
 have h1:=Lz H V hN (by omega) (by omega) (by omega) (by omega) (want:=[]) (c:=decide (-999<=e.num)&&decide (e.num<=999)) (t:=0) (by simp) (by
  unfold BH;simp only[h,pW,pq,len_nil];by_cases a:-999<=e.num<;>by_cases b:e.num<=999<;>simp[a,b,Sh.cont])
 refine⟨_,?_,h1,?_⟩
 .unfold Bt;simp only[h,pW,pq,len_nil,Dx];by_cases a:-999<=e.num<;>by_cases b:e.num<=999<;>by_cases c:e.kids=[]<;>simp[a,b,c,Sh.cont]
 .split
  .exact .inr nA
  .exact .inl rfl
theorem dF (H:LH p (FF p) R1 R2 T (en e))(V:IS p e v)(hN:2000000<=N)(h:e.op=1∨e.op=2∨e.op=3∨e.op=4):Ll p R1 R2 N v e:=by
 have hk:=V.KX;have h1:=Lz H V hN (by omega) (by omega) (by omega) (by omega) (want:=[0,0]) (c:=decide (e.num=0)) (t:=0) (by simp) (by
  unfold BH;have e3:DR N (e.kids.map (T v)) [0,0]=some (decide (e.kids.map (T v)=[0,0])):=Oi (by simp;omega) hN;rcases h with h|h|h|h<;>simp only[h,Int.reduceEq,pW,pa,pD,pq,pV,ou,Sh.Oe]<;>rw[e3]<;>by_cases a:e.num=0<;>simp[a])
 refine⟨_,?_,h1,?_⟩
 .unfold Bt;have e2:=Vo H V hN 2;rw[show ((2:Nat):Int)=2 from rfl,show List.replicate 2 (0:Int)=[0,0] from rfl]at e2;rcases h with h|h|h|h<;>simp only[h,Int.reduceEq,pW,pa,pD,pq,pV,ou]<;>rw[e2]<;>by_cases a:e.num=0<;>by_cases b:e.kids.map (T v)=[0,0]<;>simp[a,b,Sh.cont]
 .split
  .exact .inr nA
  .exact .inl rfl
theorem cR (H:LH p (FF p) R1 R2 T (en e))(V:IS p e v)(hN:2000000<=N)(h:e.op=5):Ll p R1 R2 N v e:=by
 have hk:=V.KX;have h1:=Lz H V hN (by omega) (by omega) (by omega) (by omega) (want:=[0]) (c:=decide (e.num=0)) (t:=0) (by simp) (by
  unfold BH;simp only[h,Int.reduceEq,pW,pa,pD,pq,pV,ou,Sh.Oe];rw[Oi (by simp;omega) hN];by_cases a:e.num=0<;>simp[a])
 refine⟨_,?_,h1,?_⟩
 .unfold Bt;have e2:=Vo H V hN 1;rw[show ((1:Nat):Int)=1 from rfl,show List.replicate 1 (0:Int)=[0] from rfl]at e2;simp only[h,Int.reduceEq,pW,pa,pD,pq,pV,ou];rw[e2];by_cases a:e.num=0<;>by_cases b:e.kids.map (T v)=[0]<;>simp[a,b,Sh.cont]
 .split
  .exact .inr nA
  .exact .inl rfl
theorem iP (H:LH p (FF p) R1 R2 T (en e))(V:IS p e v)(S:FB p.decls p.funcs)(hN:2000000<=N)(h:e.op=6):Ll p R1 R2 N v e:=by
 have hk:=V.KX;have hD:=S.Pr;have hn:=S.nc;by_cases hr:0<=e.num/\e.num<(nc p.decls:Int)
 .obtain⟨c,hc⟩:=pb hr.1;have hc2:c<nc p.decls:=by omega
  obtain⟨t,x,e1,e2⟩:=Od (D:=p.decls) (by omega) (by omega) hc2 hN;obtain⟨t',x',e1',e3⟩:=Iy (D:=p.decls) (by omega) (by omega) hc2 hN;obtain⟨t'',x'',e1'',e4⟩:=Q2 (D:=p.decls) (by omega) (by omega) hc2 hN;rw[e1]at e1' e1'';cases e1';cases e1'';obtain⟨g1,g2,d,g3,g4⟩:=RZ e1;have hx:=S.Nc d g3 x g4;have h1:=Lz H V hN (by omega) (by omega) (by omega) (by omega) (want:=x.fields) (c:=true) (t:=(t:Int)) (λy hy=>(Lc (hx.2 y hy)).1) (by
   unfold BH;simp only[h,Int.reduceEq,pW,pa,pD,pq,pV,ou];rw[hc,show (FF p).decls=p.decls from rfl,e4];simp only[ou];rw[Oi (by simp;omega) hN,pI (by simp)];simp[Sh.cont])
  refine⟨_,?_,h1,?_⟩
  .unfold Bt;simp only[h,Int.reduceEq,pW,pa,pD,pq,pV,ou];rw[hc,e2,e3];simp only[ou];rw[RL H V hN,pI (by simp;omega)];by_cases b:e.kids.map (T v)=x.fields<;>simp[b,Sh.cont]
  .split
   .right;unfold DZ;simp;omega
   .exact .inl rfl
 .refine⟨-1,?_,?_,.inl rfl⟩
  .unfold Bt;simp only[h,Int.reduceEq,pW,pa,pD,pq,pV,ou];rw[TE (by omega) (by omega) (by omega) hN];simp[Sh.cont]
  .rw[Fz H V hN (by omega) (by omega) (by omega) (by omega)];unfold BH;simp only[h,Int.reduceEq,pW,pa,pD,pq,pV,ou];rw[show (FF p).decls=p.decls from rfl,WG (by omega) (by omega) V.CS.num (by omega) hN];simp[Sh.cont]
theorem cB (H:LH p (FF p) R1 R2 T (en e))(V:IS p e v)(hN:2000000<=N)(h:e.op<0∨13<e.op):Ll p R1 R2 N v e:=by
 refine⟨-1,?_,?_,.inl rfl⟩
 .unfold Bt;simp only[show ¬ e.op=0 by omega,show ¬ e.op=12 by omega,show ¬ e.op=1 by omega,show ¬ e.op=2 by omega,show ¬ e.op=3 by omega,show ¬ e.op=4 by omega,show ¬ e.op=5 by omega,show ¬ e.op=6 by omega,show ¬ e.op=13 by omega,show ¬ e.op=7 by omega,show ¬ e.op=8 by omega,show ¬ e.op=9 by omega,show ¬ e.op=10 by omega,show ¬ e.op=11 by omega,pa,pD,pV,ou];simp[Sh.cont]
 .rw[Fz H V hN (by omega) (by omega) (by omega) (by omega)];unfold BH;simp only[show ¬ e.op=0 by omega,show ¬ e.op=12 by omega,show ¬ e.op=1 by omega,show ¬ e.op=2 by omega,show ¬ e.op=3 by omega,show ¬ e.op=4 by omega,show ¬ e.op=5 by omega,show ¬ e.op=6 by omega,show ¬ e.op=13 by omega,show ¬ e.op=7 by omega,show ¬ e.op=8 by omega,show ¬ e.op=9 by omega,show ¬ e.op=10 by omega,show ¬ e.op=11 by omega,pa,pD,pV,ou];simp[Sh.cont]
theorem gV (V:IS p e v)(h:e.op=12):Ll p R1 R2 N v e:=by
 have hv:v.length<=1000:=by have:=V.len;omega
 unfold Ll Bt Al;simp only[h,Int.reduceEq,pW,pa,pD,pq,pV,ou,len_nil,Dx];rw[AI,BE (by omega) (by omega)];cases wq:e.kids with
 |cons a r=>exact⟨-1,by simp[Sh.cont],by simp[AI],.inl rfl⟩
 |nil=>
  by_cases h1:0<=e.num
  .by_cases h2:e.num<(v.length:Int)
   .obtain⟨x,g1,g2⟩:=OY h1 h2;have h3:e.num<=(v.length:Int)-1:=by omega
    have h4:¬ e.num<0:=by omega
    have h5:¬ (v.length:Int)<=e.num:=by omega
    refine⟨x,?_,?_,.inr (V.Jk x (ov g2))⟩
    .simp[h1,h3,g1,Sh.cont]
    .simp[h4,h5,g1,AI]
   .have h3:¬ e.num<=(v.length:Int)-1:=by omega
    have h4:¬ e.num<0:=by omega
    have h5:(v.length:Int)<=e.num:=by omega
    exact⟨-1,by simp[h1,h3,Sh.cont],by simp[h4,h5,AI],.inl rfl⟩
  .have h4:e.num<0:=by omega
   exact⟨-1,by simp[h1,Sh.cont],by simp[h4,AI],.inl rfl⟩
end
end RC
namespace RC
open Go
section
variable {p : AJ} {R1 : AJ -> List Int -> AD -> Option Int} {R2 : List Int -> BO -> AD -> Option Int} {T : List Int -> AD -> Int} {e : AD} {v : List Int} {N : Nat}
theorem gZ (H:LH p (FF p) R1 R2 T (en e))(V:IS p e v)(h:e.op=13):Ll p R1 R2 N v e:=by
 have hv:v.length<=1000:=by have:=V.len;omega
 unfold Ll Bt Al;simp only[h,Int.reduceEq,pW,pa,pD,pq,pV,ou];by_cases hl:e.kids.length=2
 .obtain⟨a,b,hk⟩ :∃a b,e.kids=[a,b]:=by
   match hk:e.kids,hl with
   | [a,b],_=>exact⟨a,b,rfl⟩
  have vV:a∈e.kids:=by rw[hk];simp
  have yH:b∈e.kids:=by rw[hk];simp
  obtain⟨a1,a2,a3⟩:=H v a (V.CS.kids a vV) (Ca vV) (V.KH vV) V.Jk;have g0:Sh.get e.kids 0=some a:=by rw[hk];rfl
  have g1:Sh.get e.kids 1=some b:=by rw[hk];rfl
  rw[g0,g1];simp only[ou,AI,hl];rw[a1,a2];simp only[ou];by_cases hn:e.num=0
  .by_cases ht:0<=T v a
   .have ht':¬ T v a<0:=by omega
    have hty:DZ p.decls (T v a)=true:=by
     rcases a3 with q|q
     .omega
     .exact q
    obtain⟨b1,b2,b3⟩:=H (v++[T v a]) b (V.CS.kids b yH) (Ca yH) (V.more yH (by simp)) (V.XI (by simp[hty]));refine⟨T (v++[T v a]) b,?_,?_,b3⟩
    .rw[Jt hv (by simp)];simp[hn,ht,b1,Sh.cont]
    .rw[DH v [T v a] 8 (by simp;omega) (by simp;omega)];simp[hn,ht',b2]
   .have ht':T v a<0:=by omega
    exact⟨-1,by simp[hn,ht,Sh.cont],by simp[hn,ht'],.inl rfl⟩
  .exact⟨-1,by simp[hn,Sh.cont],by simp[hn],.inl rfl⟩
 .have yb:¬ ((e.kids.length:Int)=2):=by omega
  refine⟨-1,?_,?_,.inl rfl⟩
  .by_cases hn:e.num=0<;>simp[hn,AI,yb,Sh.cont]
  .simp[AI,yb]
theorem U2 (x y:Int):MU [x,y]=if y=x then x else -1:=by
 unfold MU;by_cases h:y=x<;>simp[h]
theorem kC (H:LH p (FF p) R1 R2 T (en e))(V:IS p e v)(hN:2000000<=N)(h:e.op=7):Ll p R1 R2 N v e:=by
 have hv:v.length<=1000:=by have:=V.len;omega
 unfold Ll Bt Al;simp only[h,Int.reduceEq,pW,pa,pD,pq,pV,ou];by_cases hl:e.kids.length=3
 .obtain⟨a,b,c,hk⟩ :∃a b c,e.kids=[a,b,c]:=by
   match hk:e.kids,hl with
   | [a,b,c],_=>exact⟨a,b,c,rfl⟩
  have vV:a∈e.kids:=by rw[hk];simp
  have yH:b∈e.kids:=by rw[hk];simp
  have hmc:c∈e.kids:=by rw[hk];simp
  obtain⟨a1,a2,a3⟩:=H v a (V.CS.kids a vV) (Ca vV) (V.KH vV) V.Jk;obtain⟨b1,b2,b3⟩:=H v b (V.CS.kids b yH) (Ca yH) (V.KH yH) V.Jk;obtain⟨c1,c2,c3⟩:=H v c (V.CS.kids c hmc) (Ca hmc) (V.KH hmc) V.Jk;have g0:Sh.get e.kids 0=some a:=by rw[hk];rfl
  have g1:Sh.get e.kids 1=some b:=by rw[hk];rfl
  have g2:Sh.get e.kids 2=some c:=by rw[hk];rfl
  have g3:Sh.sl e.kids 1 3=some [b,c]:=by rw[hk];rfl
  have o:=LC (ks:=[b,c]) (ms:=[[],[]]) H V hN (by intro k hk;simp only[pK,pj,qb]at hk;rcases hk with rfl|rfl<;>assumption) (by simp) rfl (by simp);have mk2:Sh.mk ([]:List Int) 2 24=some [[],[]]:=OG [] 2 24 (by omega) (by omega);rw[g0,g1,g2];simp only[ou,AI,hl];rw[a1,a2,b1,c1,show ((3:Nat):Int)=3 from rfl,g3,mk2];simp only[ou];rw[o];simp only[ou,List.zipWith,qR,U2];by_cases hn:e.num=0
  .by_cases ht:T v a=0
   .by_cases hq:T v c=T v b
    .exact⟨T v b,by simp[hn,ht,hq,Sh.cont],by simp[hn,ht,hq],b3⟩
    .exact⟨-1,by simp[hn,ht,hq,Sh.cont],by simp[hn,ht,hq],.inl rfl⟩
   .exact⟨-1,by simp[hn,ht,Sh.cont],by simp[hn,ht],.inl rfl⟩
  .exact⟨-1,by simp[hn,Sh.cont],by simp[hn],.inl rfl⟩
 .have yb:¬ ((e.kids.length:Int)=3):=by omega
  refine⟨-1,?_,?_,.inl rfl⟩
  .by_cases hn:e.num=0<;>simp[hn,AI,yb,Sh.cont]
  .simp[AI,yb]
theorem ao {n:Int}:(∃f,0<=n/\n<(p.funcs.length:Int)/\p.funcs[n.toNat]?=some f/\f∈p.funcs/\Sh.get p.funcs n=some f/\Sh.get (FF p).funcs n=some ⟨f.params,[],f.result⟩)∨(n<0∨(p.funcs.length:Int)<=n):=by
 by_cases h:0<=n/\n<(p.funcs.length:Int)
 .obtain⟨f,h1,h2⟩:=OY h.1 h.2;refine .inl ⟨f,h.1,h.2,h2,ov h2,h1,?_⟩;rw[Zu h.1];show ((p.funcs.map λf=>(⟨f.params,[],f.result⟩:By)))[n.toNat]?=_;rw[pB,h2];rfl
 .exact .inr (by omega)
theorem OB:(FF p).funcs.length=p.funcs.length:=by show (p.funcs.map _).length=_;simp
theorem eN (H:LH p (FF p) R1 R2 T (en e))(V:IS p e v)(S:FB p.decls p.funcs)(hN:2000000<=N)(h:e.op=9):Ll p R1 R2 N v e:=by
 have hk:=V.KX;have hF:=S.J2;rcases ao (p:=p) (n:=e.num) with ⟨f,f0,f1,f2,f3,f4,f5⟩|hr
 .obtain⟨q1,q2,q3⟩:=S.NS f f3;have f0':¬ e.num<0:=by omega
  have f1':¬ (p.funcs.length:Int)<=e.num:=by omega
  have f1'':e.num<=(p.funcs.length:Int)-1:=by omega
  have h1:=Lz H V hN (by omega) (by omega) (by omega) (by omega) (want:=f.params) (c:=true) (t:=f.result) (λy hy=>(Lc (q2 y hy)).1) (by
   unfold BH;simp only[h,Int.reduceEq,pW,pa,pD,pq,pV,ou,AI,OB,f0',f1'];rw[f5];simp only[ou];rw[Oi (by simp;omega) hN];simp[Sh.cont])
  refine⟨_,?_,h1,?_⟩
  .unfold Bt Fm;simp only[h,Int.reduceEq,pW,pa,pD,pq,pV,ou];rw[Dx,AI p.funcs,BE (n:=(p.funcs.length:Int)-1) (by omega) (by omega),f4];simp only[h,Int.reduceEq,pW,pa,pD,pq,pV,ou,f0,f1'',sH,qC];rw[RL H V hN];by_cases b:e.kids.map (T v)=f.params<;>simp[b,Sh.cont]
  .split
   .exact .inr q3
   .exact .inl rfl
 .refine⟨-1,?_,?_,.inl rfl⟩
  .unfold Bt Fm;simp only[h,Int.reduceEq,pW,pa,pD,pq,pV,ou];rw[Dx,AI p.funcs,BE (n:=(p.funcs.length:Int)-1) (by omega) (by omega)];have:(decide (0<=e.num)&&decide (e.num<=(p.funcs.length:Int)-1))=false:=by
    rw[rU,qY,qY];omega
   rw[this];simp only[h,Int.reduceEq,pW,pa,pD,pq,pV,ou];simp[Sh.cont]
  .rw[Fz H V hN (by omega) (by omega) (by omega) (by omega)];unfold BH;simp only[h,Int.reduceEq,pW,pa,pD,pq,pV,ou,AI,OB];rcases hr with hr|hr
   .simp[hr,Sh.cont]
   .have:¬ e.num<0:=by omega
    simp[hr,this,Sh.cont]
theorem cG {α:Type}{l:List α}{m:Nat}(h:m<=l.length):Sh.sl l 0 (m:Int)=some (l.take m):=by
 unfold Sh.sl;rw[pI ⟨by omega,by omega,by omega⟩];simp
theorem cV (H:LH p (FF p) R1 R2 T (en e))(V:IS p e v)(S:FB p.decls p.funcs)(hN:2000000<=N)(h:e.op=10):Ll p R1 R2 N v e:=by
 have hk:=V.KX;have hF:=S.J2;have hD:=S.Pr;rcases ao (p:=p) (n:=e.num) with ⟨f,f0,f1,f2,f3,f4,f5⟩|hr
 .obtain⟨q1,q2,q3⟩:=S.NS f f3;have f0':¬ e.num<0:=by omega
  have f1':¬ (p.funcs.length:Int)<=e.num:=by omega
  have f1'':e.num<=(p.funcs.length:Int)-1:=by omega
  by_cases hp:f.params.length=0
  .have hp':f.params=[]:=qM hp;refine⟨-1,?_,?_,.inl rfl⟩
   .unfold Bt Fm;simp only[h,Int.reduceEq,pW,pa,pD,pq,pV,ou];rw[Dx,AI p.funcs,BE (n:=(p.funcs.length:Int)-1) (by omega) (by omega),f4];simp only[h,Int.reduceEq,pW,pa,pD,pq,pV,ou,f0,f1'',sH,qC,len_nil,hp'];simp[Sh.cont]
   .rw[Fz H V hN (by omega) (by omega) (by omega) (by omega)];unfold BH;simp only[h,Int.reduceEq,pW,pa,pD,pq,pV,ou,AI,OB,f0',f1'];rw[f5];simp only[ou,hp];rw[BE (by omega) (by omega)];simp[Sh.cont]
  .obtain⟨m,hm⟩ :∃m,f.params.length=m+1:=⟨f.params.length-1,by omega⟩
   obtain⟨x,hx,vy⟩:=Bi (l:=f.params) (i:=m) (by omega);have hp':¬ f.params=[]:=λq=>hp (by rw[q];rfl);have hw:Sh.w ((f.params.length:Int)-1)=(m:Int):=by rw[BE (by omega) (by omega)];omega
   have hm0:¬ ((m:Int)<0):=by omega
   have hty:JD x f.result p.decls 0=-1∨DZ p.decls (JD x f.result p.decls 0)=true:=by
    rcases dR (a:=x) (b:=f.result) p.decls 0 with q|q
    .exact .inl q
    .right;unfold DZ;simp;omega
   have h1:=Lz H V hN (by omega) (by omega) (by omega) (by omega) (want:=f.params.take m) (c:=decide (0<=JD x f.result p.decls 0)) (t:=JD x f.result p.decls 0) (λy hy=>(Lc (q2 y (qc hy))).1) (by
    unfold BH;simp only[h,Int.reduceEq,pW,pa,pD,pq,pV,ou,AI,OB,f0',f1'];rw[f5];simp only[ou,hw,hm0,pa,pD,pV];rw[Aw hx];simp only[ou];rw[show (FF p).decls=p.decls from rfl,VE (by omega) hN,cG (by omega)];simp only[ou];rw[Oi (by simp;omega) hN];by_cases z:0<=JD x f.result p.decls 0<;>simp[z,Sh.cont])
   refine⟨_,?_,h1,?_⟩
   .unfold Bt Fm;simp only[h,Int.reduceEq,pW,pa,pD,pq,pV,ou];rw[Dx,AI p.funcs,BE (n:=(p.funcs.length:Int)-1) (by omega) (by omega),f4];simp only[h,Int.reduceEq,pW,pa,pD,pq,pV,ou,f0,f1'',sH,qC,len_nil,hp'];rw[AI,hw,cG (by omega),Aw hx];simp only[ou];rw[RL H V hN,O6 (by omega) hN];by_cases b:e.kids.map (T v)=f.params.take m
    .by_cases z:0<=JD x f.result p.decls 0
     .simp[b,z,Sh.cont]
     .have:JD x f.result p.decls 0=-1:=by
       rcases hty with q|q
       .exact q
       .exact absurd (Lc q).1 z
      simp[b,this,Sh.cont]
    .simp[b,Sh.cont]
   .split
    .exact hty
    .exact .inl rfl
 .refine⟨-1,?_,?_,.inl rfl⟩
  .unfold Bt Fm;simp only[h,Int.reduceEq,pW,pa,pD,pq,pV,ou];rw[Dx,AI p.funcs,BE (n:=(p.funcs.length:Int)-1) (by omega) (by omega)];have:(decide (0<=e.num)&&decide (e.num<=(p.funcs.length:Int)-1))=false:=by
    rw[rU,qY,qY];omega
   rw[this];simp only[h,Int.reduceEq,pW,pa,pD,pq,pV,ou];simp[Sh.cont]
  .rw[Fz H V hN (by omega) (by omega) (by omega) (by omega)];unfold BH;simp only[h,Int.reduceEq,pW,pa,pD,pq,pV,ou,AI,OB];rcases hr with hr|hr
   .simp[hr,Sh.cont]
   .have:¬ e.num<0:=by omega
    simp[hr,this,Sh.cont]
theorem ba (H:LH p (FF p) R1 R2 T (en e))(V:IS p e v)(S:FB p.decls p.funcs)(hN:2000000<=N)(h:e.op=11):Ll p R1 R2 N v e:=by
 have hk:=V.KX;have hD:=S.Pr;by_cases hl:e.kids.length=2
 .obtain⟨a,b,hk⟩ :∃a b,e.kids=[a,b]:=by
   match hk:e.kids,hl with
   | [a,b],_=>exact⟨a,b,rfl⟩
  have vV:a∈e.kids:=by rw[hk];simp
  have yH:b∈e.kids:=by rw[hk];simp
  obtain⟨a1,a2,a3⟩:=H v a (V.CS.kids a vV) (Ca vV) (V.KH vV) V.Jk;obtain⟨b1,b2,b3⟩:=H v b (V.CS.kids b yH) (Ca yH) (V.KH yH) V.Jk;have g0:Sh.get e.kids 0=some a:=by rw[hk];rfl
  have g1:Sh.get e.kids 1=some b:=by rw[hk];rfl
  have i1:Sh.get (e.kids.map (T v)) 0=some (T v a):=by rw[hk];rfl
  have i2:Sh.get (e.kids.map (T v)) 1=some (T v b):=by rw[hk];rfl
  have imp:Al N R2 v (FF p) e=some ((R0 p.decls (T v a)).elim (-1) λd=>if T v b=d.from_/\e.num=0 then d.to else -1):=by
   rw[Fz H V hN (by omega) (by omega) (by omega) (by omega)];unfold BH;simp only[h,Int.reduceEq,pW,pa,pD,pq,pV,ou,AI,pR,hl];rw[i1,i2];simp only[ou];rw[show (FF p).decls=p.decls from rfl,VP (by omega)];simp only[ou];cases hA:R0 p.decls (T v a) with
   |none=>simp[Sh.cont]
   |some d=>
    obtain⟨m1,m2,m3,m4⟩:=VQ hA;have m5:=S.jS d m1;have n1:¬ T v a<0:=by omega
    by_cases c1:T v b=d.from_
    .have n2:¬ T v b<0:=by rw[c1];have:=(Lc m5.1).1;omega
     have n3:¬ d.from_<0:=c1▸n2;by_cases c2:e.num=0<;>simp[hk,n1,c1,n3,c2,Sh.cont]
    .simp[c1,Sh.cont]
  refine⟨_,?_,imp,?_⟩
  .unfold Bt;simp only[h,Int.reduceEq,pW,pa,pD,pq,pV,ou,AI,hl];rw[g0,g1];simp only[ou];rw[a1];simp only[ou];rw[KM (by omega),b1];simp only[ou];cases hA:R0 p.decls (T v a) with
   |none=>by_cases c2:e.num=0<;>simp[c2,Sh.cont]
   |some d=>
    obtain⟨m1,m2,m3,m4⟩:=VQ hA;have g5:Sh.get p.decls (Sh.w (T v a-1))=some d:=by rw[BE (by omega) (by omega),Zu (by omega),m4]
    rw[g5];by_cases c2:e.num=0<;>by_cases c1:T v b=d.from_<;>simp[c1,c2,Sh.cont]
  .cases hA:R0 p.decls (T v a) with
   |none=>exact .inl rfl
   |some d=>
    obtain⟨m1,_⟩:=VQ hA;simp only[re];split
    .exact .inr (S.jS d m1).2
    .exact .inl rfl
 .have yb:¬ ((e.kids.length:Int)=2):=by omega
  refine⟨-1,?_,?_,.inl rfl⟩
  .unfold Bt;simp only[h,Int.reduceEq,pW,pa,pD,pq,pV,ou,AI,yb];by_cases c2:e.num=0<;>simp[c2,Sh.cont]
  .rw[Fz H V hN (by omega) (by omega) (by omega) (by omega)];unfold BH;simp only[h,Int.reduceEq,pW,pa,pD,pq,pV,ou,AI,pR,yb];simp[Sh.cont]
end
end RC
namespace RC
open Go
def Gf (D:List AK)(c:Int):List Int:=(IL D 0 c.toNat).elim [] λx=>x.2.fields
theorem eF {D:List AK}{t c:Int}(h:c∈CO D t):∃k:Nat,c=(k:Int)/\k<nc D:=by
 unfold CO at h;split at h
 .rename_i h1;obtain⟨a,ha⟩ :∃a:Nat,t=(a:Int)+1:=⟨(t-1).toNat,by omega⟩
  subst ha;obtain⟨d,hd,_⟩:=Bi (l:=D) (i:=a) (by omega);rw[show (((a:Int)+1)-1).toNat=a by omega,hd]at h;simp only[re,pQ,rE]at h;obtain⟨i,hi,rfl⟩:=h;have hs:=Hs D a;rw[Tt hd]at hs;exact⟨nc (D.take a)+i,by omega,by omega⟩
 .cases h
theorem NT {D:List AK}(h :∀d∈D,d.cons.length<=3)(t:Int):(CO D t).length<=3:=by
 unfold CO;split
 .rename_i h1;obtain⟨a,ha⟩ :∃a:Nat,t=(a:Int)+1:=⟨(t-1).toNat,by omega⟩
  subst ha;obtain⟨d,hd,hm⟩:=Bi (l:=D) (i:=a) (by omega);rw[show (((a:Int)+1)-1).toNat=a by omega,hd];simp only[re,pR,List.length_range];exact h d hm
 .simp
theorem RN {D:List AK}{F:List AU}(S:FB D F){t c:Int}(h:c∈CO D t){N:Nat}(hN:2000000<=N):Bs N D c=some (Gf D c)/\Eg N D c=some (Gf D c)/\(Gf D c).length<=3/\∀x∈Gf D c,DZ D x=true:=by
 obtain⟨k,rfl,hk⟩:=eF h;have hD:=S.Pr;have hn:=S.nc;obtain⟨t,x,e1,e2⟩:=Iy (D:=D) (by omega) (by omega) hk hN;obtain⟨t',x',e1',e3⟩:=T4 (D:=D) (by omega) (by omega) hk hN;rw[e1]at e1';cases e1';obtain⟨_,_,d,g3,g4⟩:=RZ e1;have hf:Gf D (k:Int)=x.fields:=by unfold Gf;rw[qP,e1];rfl
 rw[hf];exact⟨e2,e3,S.Nc d g3 x g4⟩
section
variable {p : AJ} {R1 : AJ -> List Int -> AD -> Option Int} {R2 : List Int -> BO -> AD -> Option Int} {T : List Int -> AD -> Int} {e : AD} {v : List Int} {N : Nat}
theorem PQ (S:FB p.decls p.funcs)(hN:2000000<=N){C:List Int}(hC:C.length<=3)(hc :∀c∈C,Eg N p.decls c=some (Gf p.decls c)):CA N (FF p) C N 0 (List.replicate C.length [])=some (C.map (Gf p.decls)):=by
 have key:∀{M i:Nat},i<=C.length->C.length-i<M->∀m:List (List Int),m.length=C.length->m.take i=(C.map (Gf p.decls)).take i->CA N (FF p) C M i m=some (C.map (Gf p.decls)):=by
  intro M i hi hM;refine BS C.length (λM i=>∀m:List (List Int),m.length=C.length->m.take i=(C.map (Gf p.decls)).take i->CA N (FF p) C M i m=some (C.map (Gf p.decls))) ?_ ?_ hi hM
  .intro n m a b;rw[CA,pJ (by simp[AI])];rw[qI (by omega),qI (by simp)]at b;rw[b]
  .intro n i hi ih m a b;obtain⟨x,hx,vy⟩:=Bi hi;obtain⟨y,hy,_⟩:=Bi (l:=m) (i:=i) (by omega);have hx2:(C.map (Gf p.decls))[i]?=some (Gf p.decls x):=by rw[pB,hx];rfl
   have xI:(m.set i (Gf p.decls x))[i]?=some (Gf p.decls x):=by rw[pO (by omega)]
   rw[CA,pI (by simp[AI];omega),Aw hx];simp only[ou];rw[show (FF p).decls=p.decls from rfl,hc x vy,Aw hy];simp only[ou];rw[Oj,BE (by omega) (by omega),show ((i:Int)+1)=((i+1:Nat):Int) by omega];exact ih _ (by simp[a]) (by rw[EM xI,EM hx2,<- b,sd (pL _)])
 have:=key (pT _) (by omega:C.length-0<N) (List.replicate C.length []) (by simp) rfl;simpa using this
theorem dP (H:LH p (FF p) R1 R2 T (en e))(V:IS p e v)(S:FB p.decls p.funcs)(hN:2000000<=N)(h:e.op=8):Ll p R1 R2 N v e:=by
 have hk:=V.KX;have hD:=S.Pr;have hn:=S.nc;have hv:v.length<=1000:=by have:=V.len;omega
 have hCl:=NT S.V7 e.num;unfold Ll Bt Al Kn;simp only[h,Int.reduceEq,pW,pa,pD,pq,pV,ou];rw[show (FF p).decls=p.decls from rfl,MX (by omega) (by omega) hN,JJ (by omega) (by omega) hN];simp only[ou];generalize hCe:CO p.decls e.num=C at hCl;have hCm:∀c∈C,Bs N p.decls c=some (Gf p.decls c)/\Eg N p.decls c=some (Gf p.decls c)/\(Gf p.decls c).length<=3/\∀x∈Gf p.decls c,DZ p.decls x=true:=λc hc=>RN S (hCe▸hc) hN;rw[AI C,AI e.kids,BE (n:=1+(C.length:Int)) (by omega) (by omega)];by_cases h0:C.length=0
 .exact⟨-1,by simp[h0,Sh.cont],by simp[h0],.inl rfl⟩
 .have yk:¬ ((C.length:Int)=0):=by omega
  have uq:¬ C=[]:=λq=>h0 (by rw[q];rfl);by_cases h1:e.kids.length=1+C.length
  .have xG:((e.kids.length:Int)=1+(C.length:Int)):=by omega
   obtain⟨a,r,wq⟩ :∃a r,e.kids=a::r:=by
    cases hq:e.kids with
    |nil=>rw[hq]at h1;simp at h1;omega
    |cons a r=>exact⟨a,r,rfl⟩
   have ye:r.length=C.length:=by rw[wq]at h1;simp at h1;omega
   have vV:a∈e.kids:=by rw[wq];simp
   have hmr:∀k∈r,k∈e.kids:=λk hk=>by rw[wq];simp[hk]
   obtain⟨a1,a2,a3⟩:=H v a (V.CS.kids a vV) (Ca vV) (V.KH vV) V.Jk;have g0:Sh.get e.kids 0=some a:=by rw[wq];rfl
   have gi:∀(i:Nat) k,r[i]?=some k->Sh.get e.kids ((1+i:Nat):Int)=some k:=λi k hk=>by
    rw[QU,wq,Nat.add_comm];simpa using hk
   have g3:Sh.sl e.kids 1 (e.kids.length:Int)=some r:=by
    unfold Sh.sl;rw[pI ⟨by omega,by omega,by omega⟩,wq];simp
   have mkC:Sh.mk ([]:List Int) (C.length:Int) 24=some (List.replicate C.length []):=OG [] C.length 24 (by omega) (by omega);have o:=LC (ks:=r) (ms:=C.map (Gf p.decls)) H V hN hmr (by omega) (by simp[ye]) (by
    intro m hm;obtain⟨c,hc,rfl⟩:=pQ.1 hm;exact (hCm c hc).2.2)
   have F:=PQ (p:=p) S hN hCl λc hc=>(hCm c hc).2.1;generalize hts:List.zipWith (λm k=>T (v++m) k) (C.map (Gf p.decls)) r=ts at o;have tsl:ts.length=C.length:=by rw[<- hts];simp[ye]
   have tsi:∀(i:Nat),i<C.length->∃c k,C[i]?=some c/\r[i]?=some k/\ts[i]?=some (T (v++Gf p.decls c) k)/\Bs N p.decls c=some (Gf p.decls c)/\E3 v (Gf p.decls c)=some (v++Gf p.decls c)/\R1 p (v++Gf p.decls c) k=some (T (v++Gf p.decls c) k)/\(T (v++Gf p.decls c) k=-1∨DZ p.decls (T (v++Gf p.decls c) k)=true):=λi hi=>by
    obtain⟨c,hc,wH⟩:=Bi (l:=C) (i:=i) hi;obtain⟨k,hk2,xU⟩:=Bi (l:=r) (i:=i) (by omega);obtain⟨q1,q2,q3,q4⟩:=hCm c wH;obtain⟨z1,z2,z3⟩:=H (v++Gf p.decls c) k (V.CS.kids k (hmr k xU)) (Ca (hmr k xU)) (V.more (hmr k xU) q3) (V.XI q4);refine⟨c,k,hc,hk2,?_,q1,Jt hv (by omega),z1,z3⟩;rw[<- hts,rD,pB,hc,hk2];rfl
   have L:∀(t:Int) {M i:Nat},i<=C.length->C.length-i<M->Eb N p v e t C R1 M i=some (if (ts.drop i).all (λx=>decide (x=t))=true then .inr () else .inl (-1)):=by
    intro t M i hi hM;refine BS C.length (λM i=>Eb N p v e t C R1 M i=some (if (ts.drop i).all (λx=>decide (x=t))=true then .inr () else .inl (-1))) ?_ ?_ hi hM
    .intro n;rw[Eb,pJ (by simp[AI]),sR (by omega)];rfl
    .intro n i hi ih;obtain⟨c,k,q1,q2,q3,q4,q5,q6,q7⟩:=tsi i hi;rw[Eb,pI (by simp[AI];omega),Aw q1];simp only[ou];rw[q4];simp only[ou];rw[q5,BE (n:=(1:Int)+(i:Int)) (by omega) (by omega),show ((1:Int)+(i:Int))=((1+i:Nat):Int) by omega,gi i k q2];simp only[ou];rw[q6,BE (by omega) (by omega),show ((i:Int)+1)=((i+1:Nat):Int) by omega,drop_cons q3,rQ];simp only[ou];by_cases z:T (v++Gf p.decls c) k=t
     .simp only[z,pW,qC,pD,pV,sI];exact ih
     .simp[z]
   rw[g0,g3,mkC];simp only[ou];rw[a1,a2];simp only[ou];rw[F];simp only[ou];rw[o];obtain⟨c,k,q1,q2,q3,q4,q5,q6,q7⟩:=tsi 0 (by omega);have g1:=gi 0 k q2;have c0:Sh.get C 0=some c:=by rw[show (0:Int)=((0:Nat):Int) from rfl,Aw q1]
   rw[show ((1+0:Nat):Int)=1 from rfl]at g1;rw[c0];simp only[ou];rw[q4];simp only[ou];rw[q5,g1];simp only[ou];rw[q6];simp only[ou];have L1:=L (T (v++Gf p.decls c) k) (M:=N) (i:=1) (by omega) (by omega);rw[show ((1:Nat):Int)=1 from rfl]at L1;rw[L1];have hts2:ts=T (v++Gf p.decls c) k::ts.drop 1:=by
    have:=drop_cons q3;simpa using this
   by_cases z:T v a=e.num
   .by_cases y:(ts.drop 1).all (λx=>decide (x=T (v++Gf p.decls c) k))=true
    .have ho:MU ts=T (v++Gf p.decls c) k:=by rw[hts2];unfold MU;dsimp only;rw[if_pos y]
     refine⟨T (v++Gf p.decls c) k,?_,?_,q7⟩
     .rw[pI y];simp[yk,uq,xG,z,Sh.cont]
     .rw[ho];simp[yk,uq,xG,z]
    .have ho:MU ts=-1:=by rw[hts2];unfold MU;dsimp only;rw[if_neg y]
     refine⟨-1,?_,?_,.inl rfl⟩
     .rw[pJ y];simp[yk,uq,xG,z,Sh.cont]
     .rw[ho];simp[yk,uq,xG,z]
   .exact⟨-1,by simp[yk,uq,xG,z,Sh.cont],by simp[yk,uq,xG,z],.inl rfl⟩
  .have xG:¬ ((e.kids.length:Int)=1+(C.length:Int)):=by omega
   exact⟨-1,by simp[yk,uq,xG,Sh.cont],by simp[yk,uq,xG],.inl rfl⟩
theorem fJ (H:LH p (FF p) R1 R2 T (en e))(V:IS p e v)(S:FB p.decls p.funcs)(hN:2000000<=N):Ll p R1 R2 N v e:=by
 by_cases h0:e.op=0
 .exact gI H V hN h0
 by_cases h1:e.op=1∨e.op=2∨e.op=3∨e.op=4
 .exact dF H V hN h1
 by_cases h5:e.op=5
 .exact cR H V hN h5
 by_cases h6:e.op=6
 .exact iP H V S hN h6
 by_cases h7:e.op=7
 .exact kC H V hN h7
 by_cases h8:e.op=8
 .exact dP H V S hN h8
 by_cases h9:e.op=9
 .exact eN H V S hN h9
 by_cases h10:e.op=10
 .exact cV H V S hN h10
 by_cases h11:e.op=11
 .exact ba H V S hN h11
 by_cases vt:e.op=12
 .exact gV V vt
 by_cases h13:e.op=13
 .exact gZ H V h13
 exact cB H V hN (by omega)
end
theorem O3 {p:AJ}(S:FB p.decls p.funcs){N:Nat}(hN:2000000<=N):∀(n:Nat),∃T:List Int->AD->Int,∀(v:List Int) (e:AD),Aj e->en e<n->v.length+3*en e<=1000->(∀x∈v,DZ p.decls x=true)->
  ∀n1 n2,n<=n1->n<=n2->Cj N n1 p v e=some (T v e)/\Bc N n2 v (FF p) e=some (T v e)/\(T v e=-1∨DZ p.decls (T v e)=true):=by
 intro n
 induction n with
 |zero=>exact⟨λ_ _=>0,λv e _ h=>by omega⟩
 |succ n ih=>
  obtain⟨T,hT⟩:=ih;refine⟨λv e=>(Cj N (n+1) p v e).getD 0,λv e hi hn hl ht n1 n2 h1 h2=>?_⟩;have step:∀n1 n2,n<=n1->n<=n2->Ll p (Cj N n1) (Bc N n2) N v e:=λn1 n2 h1 h2=>
   fJ (T:=T) (λv e a b c d=>hT v e a (by omega) c d n1 n2 h1 h2) ⟨hl,ht,by have:=hl;omega,hi⟩ S hN
  obtain⟨m1,rfl⟩ :∃m,n1=m+1:=⟨n1-1,by omega⟩
  obtain⟨m2,rfl⟩ :∃m,n2=m+1:=⟨n2-1,by omega⟩
  obtain⟨t,q1,q2,q3⟩:=step n n (pL _) (pL _);obtain⟨t',r1,r2,_⟩:=step n m2 (pL _) (by omega);obtain⟨t'',s1,s2,_⟩:=step m1 n (by omega) (pL _);have e1:t'=t:=by rw[q1]at r1;cases r1;rfl
  have e2:t''=t:=by rw[q2]at s2;cases s2;rfl
  subst e1;subst e2;have e3:(Cj N (n+1) p v e).getD 0=t'':=by rw[Cj,q1];rfl
  dsimp only;rw[e3];exact⟨by rw[Cj];exact s1,by rw[Bc];exact r2,q3⟩
end RC
namespace RC
open Go
structure Ds (p:AJ):Prop where
 CS:dB p
 size:U3 p<=1048576
theorem Ds.decls {p:AJ}(S:Ds p):RQ p.decls:=by
 have h:=S.size;unfold U3 at h;have hd:∀d∈p.decls,dz d<=1048576:=λd hd=>by have:=MR dz hd;omega
 refine⟨by omega,λd hm=>?_,λd hm c hc=>?_⟩
 .have:=hd d hm;unfold dz at this;omega
 .have:=hd d hm;unfold dz at this;have:=MR cz hc;show cz c<=_;omega
theorem Ds.J2 {p:AJ}(S:Ds p):p.funcs.length<=1048576:=by have h:=S.size;unfold U3 at h;omega
theorem Ds.fz {p:AJ}(S:Ds p){f:AU}(hf:f∈p.funcs):f.params.length<=1048576/\CJ f.body.kids<=1048576:=by
 have h:=S.size;unfold U3 at h;have h2:=MR aH hf;have h3:aH f=f.params.length+CJ f.body.kids:=rfl;omega
theorem Ds.fin {p:AJ}(S:Ds p){f:AU}(hf:f∈p.funcs):YH f:=S.CS.funcs.1 f hf
def Mg (p:AJ):Bool:=O7 p.decls (p.funcs.map λf=>(f.params,f.result))
theorem Nf {p:AJ}(S:Ds p){N:Nat}(hN:2000000<=N):Ht N p=some (Mg p):=Sc S.decls S.J2 (λf hf=>(S.fz hf).1) hN
theorem fD {p:AJ}(hl:p.funcs.length<=1048576){N:Nat}(hN:2000000<=N):D2 p N 0 []=some (FF p).funcs:=by
 have key:∀{N i:Nat},i<=p.funcs.length->p.funcs.length-i<N->D2 p N i ((FF p).funcs.take i)=some (FF p).funcs:=by
  intro N i hi hN;refine BS p.funcs.length (λN i=>D2 p N i ((FF p).funcs.take i)=some (FF p).funcs) ?_ ?_ hi hN
  .intro n;rw[D2,pJ (by simp[AI]),qI (by rw[OB];omega)]
  .intro n i hi ih;obtain⟨f,hf,_⟩:=Bi hi;have hf2:(FF p).funcs[i]?=some ⟨f.params,[],f.result⟩:=by
    show (p.funcs.map _)[i]?=_;rw[pB,hf];rfl
   rw[D2,pI (by simp[AI];omega),Aw hf];simp only[ou];rw[DH _ _ _ (by simp;omega) (by simp;omega),BE (by omega) (by omega),show ((i:Int)+1)=((i+1:Nat):Int) by omega];simp only[ou];rw[<- ih,EM hf2]
 have:=key (pT _) (by omega:p.funcs.length-0<N);simpa using this
theorem eT {p:AJ}(hl:p.funcs.length<=1048576){N:Nat}(hN:2000000<=N):LU N p=some (FF p):=by
 have key:∀{N i:Nat},i<=p.funcs.length->p.funcs.length-i<N->F5 p N i ((FF p).funcs.take i)=some (FF p).funcs:=by
  intro N i hi hN;refine BS p.funcs.length (λN i=>F5 p N i ((FF p).funcs.take i)=some (FF p).funcs) ?_ ?_ hi hN
  .intro n;rw[F5,pJ (by simp[AI]),qI (by rw[OB];omega)]
  .intro n i hi ih;obtain⟨f,hf,_⟩:=Bi hi;have hf2:(FF p).funcs[i]?=some ⟨f.params,[],f.result⟩:=by
    show (p.funcs.map _)[i]?=_;rw[pB,hf];rfl
   rw[F5,pI (by simp[AI];omega),Aw hf];simp only[ou];rw[DH _ _ _ (by simp;omega) (by simp;omega),BE (by omega) (by omega),show ((i:Int)+1)=((i+1:Nat):Int) by omega];simp only[ou];rw[<- ih,EM hf2]
 have:=key (pT _) (by omega:p.funcs.length-0<N);rw[qs,tk]at this;unfold LU;rw[this];rfl
theorem Xm {p:AJ}(S:Ds p){N:Nat}(hN:2000000<=N):Hn N p=some (Mg p):=by
 have hl:=S.J2;unfold Hn Mg;by_cases h4:p.funcs.length<=4
 .rw[pJ (by rw[pP,AI];omega),fD hl hN];simp only[ou];rw[Sl S.decls (by rw[OB];exact hl) (λf hf=>by obtain⟨q,hq,rfl⟩:=pQ.1 (show f∈p.funcs.map _ from hf);exact⟨(S.fz hq).1,by simp⟩) hN];have e1:((FF p).funcs.map λf=>(f.params,f.result))=p.funcs.map λf=>(f.params,f.result):=by
   show (p.funcs.map _).map _=_;rw[rF];rfl
  have e2:((FF p).funcs.all λf=>E7 (MY f.params f.Gb) 0 f.Gb)=true:=by
   rw[pG];intro f hf;obtain⟨q,hq,rfl⟩:=pQ.1 (show f∈p.funcs.map _ from hf);rfl
  rw[e1,e2];simp
 .rw[pI (by rw[pP,AI];omega)];have:O7 p.decls (p.funcs.map λf=>(f.params,f.result))=false:=by
   unfold O7;simp[h4]
  rw[this]
def HK (p:AJ)(T:List Int->AD->Int)(f:AU):Bool:=decide (en f.body<=30)&&decide (T f.params f.body=f.result)
theorem Gj {p:AJ}(S:Ds p){N:Nat}(hN:2000000<=N):∃b,BM N p=some b/\CI N p=some b/\(b=true->FB p.decls p.funcs/\∀f∈p.funcs,en f.body<=30):=by
 unfold BM CI;rw[Nf S hN,Xm S hN];simp only[ou];cases hs:Mg p with
 |false=>exact⟨false,rfl,rfl,λh=>nomatch h⟩
 |true=>
  have SO:=FB.of hs;have hl:=S.J2;obtain⟨T,hT⟩:=O3 SO hN 31;have hty:∀f∈p.funcs,en f.body<=30->KJ N p f.params f.body=some (T f.params f.body)/\IY N f.params (FF p) f.body=some (T f.params f.body)/\(T f.params f.body=-1∨DZ p.decls (T f.params f.body)=true):=λf hf he=>by
   obtain⟨q1,q2,q3⟩:=SO.NS f hf;exact hT f.params f.body (S.fin hf).body (by omega) (by omega) q2 N N (by omega) (by omega)
  have xZ:∀f∈p.funcs,CN f.params=some f.params:=λf hf=>by
   obtain⟨q1,q2,q3⟩:=SO.NS f hf;unfold CN;rw[DH [] f.params 8 (by simp;omega) (by simp;omega)];rfl
  have L1:=EH (l:=p.funcs) (Bl N p) (λ_ f=>HK p T f) (λn=>by rw[Bl,pJ (by simp[AI])]) (λn i f hi=>by
   have vk:=(pA.1 hi).1;have hf:=ov hi;rw[Bl,pI (by simp[AI];omega),Aw hi];simp only[ou];rw[Gk (S.fz hf).2 hN,BE (by omega) (by omega),show ((i:Int)+1)=((i+1:Nat):Int) by omega];simp only[ou];unfold HK;by_cases he:en f.body<=30
   .rw[pI he,pJ (by simp),(hty f hf he).1];by_cases hr:T f.params f.body=f.result<;>simp[he,hr]
   .rw[pJ he];simp[he]) (by omega:p.funcs.length<N)
  have L2:=EH (l:=p.funcs) (D6 N p) (λ_ f=>HK p T f) (λn=>by rw[D6,pJ (by simp[AI])]) (λn i f hi=>by
   have vk:=(pA.1 hi).1;have hf:=ov hi;obtain⟨q1,q2,q3⟩:=SO.NS f hf;have q4:f.params.all (DZ p.decls)=true:=pG.2 q2;rw[D6,pI (by simp[AI];omega),Aw hi];simp only[ou];unfold Mz;rw[Xm S hN,hs,Ov (S.fz hf).2 hN,Li (by omega) (by omega),q4,eT hl hN,xZ f hf,BE (by omega) (by omega),show ((i:Int)+1)=((i+1:Nat):Int) by omega];simp only[ou];unfold HK;by_cases he:en f.body<=30
   .rw[pI he,(hty f hf he).2.1];have he0:¬ ((en f.body:Int)<0):=by omega
    by_cases hr:T f.params f.body=f.result<;>simp[he,hr,he0]
   .rw[pJ he];have hr:¬ ((-1:Int)=f.result):=λq=>by have:=(Lc q3).1;omega
    simp[he,hr]) (by omega:p.funcs.length<N)
  rw[GC]at L1 L2;refine⟨p.funcs.all (HK p T),?_,?_,λh=>⟨SO,λf hf=>?_⟩⟩
  .simp only[qC,pD,pV];rw[L1,EN];cases p.funcs.all (HK p T)<;>rfl
  .simp only[qC,pD,pV];rw[L2,EN];cases p.funcs.all (HK p T)<;>rfl
  .have:=pG.1 h f hf;unfold HK at this;simp only[pZ,pP]at this;exact this.1
def Y9 (f:Int)(e:AD):Nat:=if e.op=9/\e.num=f then 1 else 0
mutual
def cse (f:Int):AD->Nat|.mk o n k=>(if o=9/\n=f then 1 else 0)+LI f k
def LI (f:Int):List AD->Nat|[]=>0|e::l=>cse f e+LI f l
end
theorem aN (f:Int)(e:AD):cse f e=Y9 f e+LI f e.kids:=by
 cases e;simp only[cse,Y9,AD.op,AD.num,AD.kids];congr 1
theorem Zg {f:Int}{k:List AD}{i:Nat}{e:AD}(h:k[i]?=some e):LI f (k.drop i)=cse f e+LI f (k.drop (i+1)):=by rw[drop_cons h];simp[LI]
theorem fp (f:Int)(e:AD):Y9 f e<=1:=by unfold Y9;split<;>omega
mutual
theorem fk (f:Int):∀e:AD,cse f e<=en e
 |.mk o n k=>by
  have:=Wz f k;simp only[cse,en];split<;>omega
theorem Wz (f:Int):∀l:List AD,LI f l<=CJ l
 | []=>by simp[LI,CJ]
 |e::l=>by
  have:=fk f e;have:=Wz f l;simp only[LI,CJ];omega
end
theorem dI {e:AD}{f:Int}:(if decide (e.op=9)=true then some (decide (e.num=f)) else some false)=some (decide (e.op=9/\e.num=f)):=by
 by_cases h1:e.op=9<;>by_cases h2:e.num=f<;>simp[h1,h2]
theorem ek {N:Nat}(hN:2000000<=N){f:Int}:∀(n:Nat) (e:AD),en e<=1000->en e<=n->Ho N n e f=some (cse f e:Int):=by
 intro n
 induction n with
 |zero=>intro e _ h;have:=Fi e;omega
 |succ n ih=>
  intro e hz hn;have hk:e.kids.length<=1000:=by have:=HF e.kids;have:=Ft e;omega
  have hp:=Ft e;have xZ:=Wz f e.kids;have h1:=fp f e;rw[Ho];unfold P3;have key:∀{M i:Nat},i<=e.kids.length->e.kids.length-i<M->∀c:Nat,c+LI f (e.kids.drop i)<=2000->Gn e f (Ho N n) M c i=some ((c+LI f (e.kids.drop i):Nat):Int):=by
   intro M i hi hM;refine BS e.kids.length (λM i=>∀c:Nat,c+LI f (e.kids.drop i)<=2000->Gn e f (Ho N n) M c i=some ((c+LI f (e.kids.drop i):Nat):Int)) ?_ ?_ hi hM
   .intro m c _;rw[Gn,pJ (by simp[AI]),qp];simp[LI]
   .intro m i hi xH c hc;obtain⟨x,hx,vy⟩:=Bi hi;have hxe:=Ca vy;rw[Zg hx]at hc⊢;rw[Gn,pI (by simp[AI];omega),Aw hx];simp only[ou];rw[ih x (by omega) (by omega)];simp only[ou];rw[BE (n:=(i:Int)+1) (by omega) (by omega),BE (by omega) (by omega),show ((i:Int)+1)=((i+1:Nat):Int) by omega,show ((c:Int)+(cse f x:Int))=((c+cse f x:Nat):Int) by omega,xH (c+cse f x) (by omega),qd]
  have:=key (pT _) (by omega:e.kids.length-0<N) (Y9 f e) (by rw[qJ];omega);rw[qJ,tk,<- aN]at this;rw[dI];simp only[ou];have e1:(if decide (e.op=9/\e.num=f)=true then some (1:Int) else some 0)=some ((Y9 f e:Nat):Int):=by
   unfold Y9;by_cases h:e.op=9/\e.num=f<;>simp[h]
  rw[e1];simp only[ou];rw[this];rfl
theorem kf {N:Nat}(hN:2000000<=N){f:Int}:∀(n:Nat) (e:AD) (c:Nat),en e<=1000->c+cse f e<=102000->en e<=n->IB N n f c e=some (f,((c+cse f e:Nat):Int)):=by
 intro n
 induction n with
 |zero=>intro e _ _ _ h;have:=Fi e;omega
 |succ n ih=>
  intro e c hz hc hn;have hk:e.kids.length<=1000:=by have:=HF e.kids;have:=Ft e;omega
  have hp:=Ft e;have xZ:=Wz f e.kids;have h1:=fp f e;have hce:=aN f e;rw[IB];unfold Mo JX;have key:∀{M i:Nat},i<=e.kids.length->e.kids.length-i<M->∀c:Nat,c<=102000->c+LI f (e.kids.drop i)<=102000->F3 e (IB N n) M i f c=some (f,((c+LI f (e.kids.drop i):Nat):Int)):=by
   intro M i hi hM;refine BS e.kids.length (λM i=>∀c:Nat,c<=102000->c+LI f (e.kids.drop i)<=102000->F3 e (IB N n) M i f c=some (f,((c+LI f (e.kids.drop i):Nat):Int))) ?_ ?_ hi hM
   .intro m c _ _;rw[F3,pJ (by simp[AI]),qp];simp[LI]
   .intro m i hi xH c wS hc;obtain⟨x,hx,vy⟩:=Bi hi;have hxe:=Ca vy;rw[Zg hx]at hc⊢;rw[F3,pI (by simp[AI];omega),Aw hx];simp only[ou];rw[ih x c (by omega) (by omega) (by omega)];simp only[ou];rw[BE (n:=(i:Int)+1) (by omega) (by omega),show ((i:Int)+1)=((i+1:Nat):Int) by omega,xH (c+cse f x) (by omega) (by omega),qd]
  have:=key (pT _) (by omega:e.kids.length-0<N) (c+Y9 f e) (by omega) (by rw[qJ];omega);rw[qJ,tk,qd,<- aN]at this;rw[dI];simp only[ou];have e1:(if decide (e.op=9/\e.num=f)=true then some (Sh.w ((c:Int)+1)) else some (c:Int))=some ((c+Y9 f e:Nat):Int):=by
   unfold Y9;rw[BE (by omega) (by omega)];by_cases h:e.op=9/\e.num=f<;>simp[h]
  rw[e1];simp only[ou];rw[this];rfl
def Lb (f:Int)(l:List AU):Nat:=(l.map λg=>cse f g.body).sum
theorem ZM {f:Int}{k:List AU}{i:Nat}{e:AU}(h:k[i]?=some e):Lb f (k.drop i)=cse f e.body+Lb f (k.drop (i+1)):=by rw[drop_cons h];simp[Lb]
theorem lO {f:Int}{l:List AU}(h :∀g∈l,en g.body<=30):Lb f l<=30*l.length:=by
 induction l with
 |nil=>simp[Lb]
 |cons g r ih=>
  have h1:=h g (by simp);have h2:=ih λk hk=>h k (by simp[hk]);have h3:=fk f g.body;simp only[Lb,pc,rT,po]at h2⊢;omega
end RC
namespace RC
open Go
def Ad {α:Type}(x:Option α)(Q:α->Prop):Prop:=∃v,x=some v/\Q v
theorem Ad.some {α:Type}{v:α}{Q:α->Prop}(h:Q v):Ad (some v) Q:=⟨v,rfl,h⟩
theorem Ad.mono {α:Type}{x:Option α}{Q R:α->Prop}(h:Ad x Q)(g :∀v,Q v->R v):Ad x R:=
 let ⟨v,e,q⟩:=h;⟨v,e,g v q⟩
theorem Ad.bind {α β:Type}{x:Option α}{f:α->Option β}{R:α->Prop}{Q:β->Prop}(h:Ad x R)(k :∀v,R v->Ad (f v) Q):Ad (Option.bind x f) Q:=by
 obtain⟨v,rfl,hv⟩:=h;exact k v hv
theorem AR {α β:Type}{x:Option α}{f:α->Option β}{v:α}{Q:β->Prop}(h:x=Option.some v)(k:Ad (f v) Q):Ad (Option.bind x f) Q:=by
 subst h;exact k
theorem Co {α:Type}{b:Bool}{x y:Option α}{Q:α->Prop}(h1:b=true->Ad x Q)(h2:b=false->Ad y Q):Ad (if b=true then x else y) Q:=by
 cases b
 .exact h2 rfl
 .exact h1 rfl
theorem BB {α:Type}{p:Prop}[Decidable p]{x y:Option α}{Q:α->Prop}(h1:p->Ad x Q)(h2:¬ p->Ad y Q):Ad (if decide p=true then x else y) Q:=by
 by_cases h:p
 .rw[pI (by simpa using h)];exact h1 h
 .rw[pJ (by simpa using h)];exact h2 h
theorem Ad.cont {ρ σ β:Type}{o:Option (ρ⊕σ)}{g:ρ->β}{f:σ->Option β}{R:ρ->Prop}{S:σ->Prop}{Q:β->Prop}(h:Ad o λv=>match v with|.inl r=>R r|.inr s=>S s)(h1 :∀r,R r->Q (g r))(h2 :∀s,S s->Ad (f s) Q):Ad (Sh.cont o g f) Q:=by
 obtain⟨v,rfl,hv⟩:=h;cases v with
 |inl r=>exact⟨g r,rfl,h1 r hv⟩
 |inr s=>exact h2 s hv
theorem Ad.get {α β:Type}{l:List α}{j:Int}{f:α->Option β}{Q:β->Prop}(h0:0<=j)(h1:j<l.length)(k :∀x,l[j.toNat]?=Option.some x->x∈l->Ad (f x) Q):Ad (Option.bind (Sh.get l j) f) Q:=by
 obtain⟨x,e,hx⟩:=OY h0 h1;exact AR e (k x hx (ov hx))
theorem Ad.app {α β:Type}{l m:List α}{b:Nat}{f:List α->Option β}{Q:β->Prop}(h:(l.length+m.length)*b<=140737488355328)(h2:l.length+m.length<=9223372036854775807)(k:Ad (f (l++m)) Q):Ad (Option.bind (Sh.app l m b) f) Q:=AR (DH l m b h h2) k
theorem dW {n:Int}(h1:-9223372036854775808<=n)(h2:n<=9223372036854775807):Sh.wk .i64 n=n:=Abs.wrap_i64 h1 h2
theorem kb {a b:Int}(ha:0<=a)(ha':a<4611686018427387904)(hb:0<=b)(vF:b<4611686018427387904):0<=Sh.xor a b/\Sh.xor a b<4611686018427387904:=by
 obtain⟨x,rfl⟩:=pb ha;obtain⟨y,rfl⟩:=pb hb;have e:Sh.xor (x:Int) (y:Int)=((x ^^^ y:Nat):Int):=by
  unfold Sh.xor;have h1:(BitVec.ofInt 64 (x:Int) ^^^ BitVec.ofInt 64 (y:Int)).toNat=x ^^^ y:=by
   rw[BitVec.toNat_xor];simp only[BitVec.ofInt_natCast,BitVec.toNat_ofNat];rw[sB (by omega),sB (by omega)]
  rw[h1];have h2:x ^^^ y<2 ^ 62:=Nat.xor_lt_two_pow (by omega) (by omega);exact Abs.wrap_i64 (by omega) (by omega)
 have h2:x ^^^ y<2 ^ 62:=Nat.xor_lt_two_pow (by omega) (by omega);rw[e];omega
end RC
namespace RC
open Go
inductive aZ:Step->Prop where
 |mk {s:Step}:HC s.op->HC s.num->HC s.bV->I2 HC s.args->s.kids.length<=9223372036854775807->(∀b∈s.kids,b.steps.length<=9223372036854775807)->(∀b∈s.kids,HC b.result)->(∀b∈s.kids,∀t∈b.steps,aZ t)->aZ s
structure oR (b:Block):Prop where
 steps:I2 aZ b.steps
 result:HC b.result
def lf (left:Int)(s:Nat):Int:=if left-s<0 then -1 else left-s
end RC
namespace RC
open Go
end RC
namespace RC
open Go
def oE (o:Int):Bool:=decide (14<=o)&&decide (o<=17)
mutual
def us (v:Int):Step->Nat|.mk o _ _ a k=>if oE o then 0 else a.countP (λx=>decide (x=v))+uk v k
def uk (v:Int):List (MD Step)->Nat|[]=>0|b::k=>ub v b+uk v k
def ub (v:Int):MD Step->Nat|⟨ss,r⟩=>(if r=v then 1 else 0)+ul v ss
def ul (v:Int):List Step->Nat|[]=>0|s::l=>us v s+ul v l
end
def ua (v:Int)(a:List Int):Nat:=a.countP λx=>decide (x=v)
theorem od (v:Int)(a:List Int):ua v a<=a.length:=List.countP_le_length
end RC
namespace RC
open Go
section
variable {D : List AK} {G : List By} {ks : List Int} {op num : Int} {N : Nat}
end
end RC
namespace RC
open Go
section
variable {n : JE} {R1 : JE -> List Int -> Block -> Option Int} {R2 : BO -> List Int -> Block -> Option Int} {T : List Int -> Block -> Int} {s : Step} {v : List Int} {N : Nat}
end
end RC
namespace RC
open Go
section
variable {n : JE} {R1 : JE -> List Int -> Block -> Option Int} {R2 : BO -> List Int -> Block -> Option Int} {T : List Int -> Block -> Int} {s : Step} {v : List Int} {N : Nat}
end
end RC
namespace RC
open Go
section
variable {n : JE} {R1 : JE -> List Int -> Block -> Option Int} {R2 : BO -> List Int -> Block -> Option Int} {T : List Int -> Block -> Int} {s : Step} {v : List Int} {N : Nat} {b : Bool}
end
end RC
namespace RC
open Go
section
variable {n : JE} {R1 : JE -> List Int -> Block -> Option Int} {R2 : BO -> List Int -> Block -> Option Int} {T : List Int -> Block -> Int} {s : Step} {v : List Int} {N : Nat} {b : Bool}
end
end RC
namespace RC
open Go
section
variable {n : JE} {R1 : JE -> List Int -> Block -> Option Int} {R2 : BO -> List Int -> Block -> Option Int} {T : List Int -> Block -> Int} {s : Step} {v : List Int} {N : Nat} {b : Bool}
end
end RC
namespace RC
open Go
section
variable {n : JE} {R1 : JE -> List Int -> Block -> Option Int} {R2 : BO -> List Int -> Block -> Option Int} {T : List Int -> Block -> Int} {b : Block} {v : List Int} {N : Nat}
end
end RC
namespace RC
open Go
end RC
namespace RC
open Go
end RC
namespace RC
open Go
theorem bd {α:Type}(A B:List α)(x:α):Sh.get (A++x::B) (A.length:Int)=some x:=Aw (by simp)
theorem dA {α:Type}(A B:List α)(x y:α):Sh.put (A++x::B) (A.length:Int) y=A++y::B:=by rw[Oj];simp
theorem T3 {α:Type}{f g:α->Nat}{a b:Nat}:∀{l:List α},(∀x∈l,f x<=a+b*g x)->(l.map f).sum<=a*l.length+b*(l.map g).sum
 | [],_=>by simp
 |x::r,h=>by
  have h1:=h x (by simp);have h2:=T3 (l:=r) λy hy=>h y (by simp[hy]);simp only[pc,rT,po,Nat.mul_add];omega
mutual
def ms:Step->Nat|.mk _ _ _ a k=>3+a.length+oN k
def oN:List (MD Step)->Nat|[]=>0|b::k=>mb b+oN k
def mb:MD Step->Nat|⟨ss,_⟩=>nW ss+1
def nW:List Step->Nat|[]=>0|s::l=>ms s+nW l
end
end RC
namespace RC
open Go
theorem ZZ {α β:Type}{l:List α}(L:Nat->Int->List β->Option (List β))(g:α->β)(h0 :∀n acc,L (n+1) ((l.length:Nat):Int) acc=some acc)
  (hs :∀n i x acc,l[i]?=some x->acc.length=i->L (n+1) ((i:Nat):Int) acc=L n ((i+1:Nat):Int) (acc++[g x])) {N:Nat} (hN:l.length<N):L N 0 []=some (l.map g):=by
 have key:∀{N i:Nat},i<=l.length->l.length-i<N->L N (i:Int) ((l.take i).map g)=some (l.map g):=by
  intro N i hi hN;refine BS l.length (λN i=>L N (i:Int) ((l.take i).map g)=some (l.map g)) ?_ ?_ hi hN
  .intro n;rw[h0,qq]
  .intro n i hi ih;obtain⟨x,hx,_⟩:=Bi hi;rw[hs n i x _ hx (by simp;omega),<- ih,EM hx,qu];rfl
 have:=key (pT _) (by omega:l.length-0<N);simpa using this
theorem ZN {α:Type}{l:List α}(L:Nat->Int->List α->Option (List α))(g:α->α)(h0 :∀n acc,L (n+1) ((l.length:Nat):Int) acc=some acc)
  (hs :∀n (A:List α) (x:α) (C:List α),A.length+C.length<l.length->l[A.length]?=some x->L (n+1) ((A.length:Nat):Int) (A++x::C)=L n ((A.length+1:Nat):Int) (A++g x::C)) {N:Nat} (hN:l.length<N):L N 0 l=some (l.map g):=by
 have key:∀(C A:List α) (n:Nat),C.length<n->A.length<=l.length->C=l.drop A.length->L n ((A.length:Nat):Int) (A++C)=some (A++C.map g):=by
  intro C
  induction C with
  |nil=>
   intro A n hn h1 h2;obtain⟨n,rfl⟩ :∃m,n=m+1:=⟨n-1,by simp at hn;omega⟩
   have h3:=qX List.length h2;simp at h3;rw[show A.length=l.length by omega,h0];simp
  |cons x C ih=>
   intro A n hn h1 h2;have h3:=qX List.length h2;simp only[po,rb]at hn h3;obtain⟨n,rfl⟩ :∃m,n=m+1:=⟨n-1,by omega⟩
   have hx:l[A.length]?=some x:=by
    have:=qX (λz=>z[0]?) h2;simpa using this.symm
   rw[hs n A x C (by omega) hx];have:=ih (A++[g x]) n (by omega) (by simp;omega) (by
    rw[drop_cons hx]at h2;simpa using (List.cons.inj h2).2)
   simpa using this
 have:=key l [] N hN (by simp) (by simp);simpa using this
theorem bM {i:Nat}(h:i<=1048576):Sh.w ((i:Int)+1)=((i+1:Nat):Int):=by rw[BE (by omega) (by omega)];rfl
theorem oh {l:List Int}(hl:l.length<=1048576):Fv l=some l:=by
 unfold Fv;rw[DH [] l 8 (by simp;omega) (by simp;omega)];rfl
theorem og {l:List Int}(hl:l.length<=1048576):CN l=some l:=by
 unfold CN;rw[DH [] l 8 (by simp;omega) (by simp;omega)];rfl
theorem Yw {D:List AK}{i:Nat}{d:AK}(hd:D[i]?=some d)(hz:dz d<=1048576){N:Nat}(hN:2000000<=N):EY i D N 0 []=some d.cons:=by
 unfold dz at hz;rw[ZZ (l:=d.cons) (EY i D) id (λn acc=>by rw[EY,Aw hd];simp only[ou];rw[pJ (by simp[AI])]) (λn j c acc hc ha=>?_) (by omega)]
 .simp
 .have hj:=(pA.1 hc).1;have hcz:=MR cz (ov hc);rw[EY,Aw hd];simp only[ou];rw[pI (by simp[AI];omega),Aw hc];simp only[ou];rw[oh (show cz c<=1048576 by omega)];simp only[ou];rw[DH acc _ 24 (by simp;omega) (by simp;omega)];simp only[ou];rw[bM (by omega)];rfl
theorem ZB {D:List AK}(hl:D.length<=1048576)(hz :∀d∈D,dz d<=1048576){N:Nat}(hN:2000000<=N):I4 N D=some D:=by
 unfold I4;rw[ZZ (l:=D) (FE N D) id (λn acc=>by rw[FE,pJ (by simp[AI])]) (λn j c acc hc ha=>?_) (by omega)]
 .simp
 .have hj:=(pA.1 hc).1;rw[FE,pI (by simp[AI];omega),Yw hc (hz c (ov hc)) hN,Aw hc];simp only[ou];rw[DH acc _ 40 (by simp;omega) (by simp;omega)];simp only[ou];rw[bM (by omega)];rfl
theorem X2 {D:List AK}(hl:D.length<=1048576)(hz :∀d∈D,dz d<=1048576){N:Nat}(hN:2000000<=N):Ij N D=some D:=by
 unfold Ij DY;rw[DH [] D 40 (by simp;omega) (by simp;omega)];simp only[ou,qS];rw[ZN (l:=D) (En N (Sh.len D)) id (λn acc=>by rw[En,pJ (by simp[AI])]) (λn A d C hA hd=>?_) (by omega)]
 .simp
 .have h1:=hz d (ov hd);unfold dz at h1;rw[En,pI (by simp[AI];omega),bd];simp only[ou];unfold DA;rw[DH [] d.cons 24 (by simp;omega) (by simp;omega)];simp only[ou,qS];rw[ZN (l:=d.cons) (Er d.cons) id (λn acc=>by rw[Er,pJ (by simp[AI])]) (λn B c E hB hc=>?_) (by omega)]
  .simp only[ou,dA,qn];rw[bM (by omega)];rfl
  .have hcz:=MR cz (ov hc);have hl:=(pA.1 hc).1;rw[Er,pI (by simp[AI];omega),Aw hc];simp only[ou];rw[og (show cz c<=1048576 by omega),bd];simp only[ou];rw[dA,bM (by omega)];rfl
end RC
namespace RC
open Go
end RC
namespace RC
end RC
namespace RC
open Go
def ins:List Int->Int->List Int
 | [],x=>[x]
 |a::r,x=>if x<=a then (if x<a then x::a::r else a::r) else a::ins r x
def Nw:List Int->Int->Bool
 | [],_=>false
 |a::r,x=>if x<=a then true else Nw r x
def Pt (l:List Int)(x:Int):List Int:=if Nw l x then ins l x else l
theorem jY:∀(l:List Int) (x:Int),ins l x=if Nw l x then Pt l x else Pt l x++[x]
 | [],x=>by simp[ins,Nw,Pt]
 |a::r,x=>by
  have ih:=jY r x;simp only[Pt,Nw,ins]at ih⊢;by_cases h:x<=a
  .simp[h]
  .simp only[h,pV]at ih⊢;by_cases hd:Nw r x=true
   .simp[hd]
   .simp only[hd,pV]at ih⊢;simp[ih]
theorem WH {l:List Int}{x:Int}(hl:l.length<=1048576){N i:Nat}(hi:i<=l.length)(hN:l.length-i<N):∀acc:List Int,acc.length<=1048576+i->Df l x N true (i:Int) acc=some (true,acc++l.drop i):=by
 refine BS l.length (λN i=>∀acc:List Int,acc.length<=1048576+i->Df l x N true (i:Int) acc=some (true,acc++l.drop i)) ?_ ?_ hi hN
 .intro n acc _;rw[Df,pJ (by simp[AI])];simp
 .intro n i hi ih acc ha;obtain⟨y,hy,_⟩:=Bi hi;rw[Df,pI (by simp[AI];omega),Aw hy];simp only[qC,pD,pV,ou];rw[DH _ _ 8 (by simp;omega) (by simp;omega)];simp only[ou];rw[BE (by omega) (by omega),show ((i:Int)+1)=((i+1:Nat):Int) by omega,ih _ (by simp;omega),drop_cons hy];simp
theorem ZC {l:List Int}{x:Int}(hl:l.length<=1048576){N i:Nat}(hi:i<=l.length)(hN:l.length-i<N):∀acc:List Int,acc.length<=i->Df l x N false (i:Int) acc=some (Nw (l.drop i) x,acc++Pt (l.drop i) x):=by
 refine BS l.length (λN i=>l.length-i<N->∀acc:List Int,acc.length<=i->Df l x N false (i:Int) acc=some (Nw (l.drop i) x,acc++Pt (l.drop i) x)) ?_ ?_ hi hN hN
 .intro n _ acc _;rw[Df,pJ (by simp[AI])];simp[Nw,Pt]
 .intro n i hi ih hf acc ha;obtain⟨y,hy,_⟩:=Bi hi;have ih:=ih (by omega);rw[Df,pI (by simp[AI];omega),Aw hy];simp only[Bool.not_false,pq,ou];rw[BE (n:=(i:Int)+1) (by omega) (by omega),show ((i:Int)+1)=((i+1:Nat):Int) by omega,drop_cons hy];have done:=WH (l:=l) (x:=x) hl (N:=n) (i:=i+1) (by omega) (by omega);by_cases h:x<=y
  .simp only[h,pW,pq];by_cases h2:x<y
   .simp only[h2,pW,pq];rw[DH acc [x] 8 (by simp;omega) (by simp;omega)];simp only[ou];rw[DH _ _ 8 (by simp;omega) (by simp;omega)];simp only[ou];rw[done _ (by simp;omega)];simp[Nw,Pt,ins,h,h2]
   .simp only[h2,pa,pD,pV,ou];rw[DH _ _ 8 (by simp;omega) (by simp;omega)];simp only[ou];rw[done _ (by simp;omega)];simp[Nw,Pt,ins,h,h2]
  .simp only[h,pa,pD,pV,ou];rw[DH _ _ 8 (by simp;omega) (by simp;omega)];simp only[ou];rw[ih _ (by simp;omega)];simp only[Nw,Pt,ins,h,pV,qe,ru];cases Nw (l.drop (i+1)) x<;>simp
theorem WJ {l:List Int}{x:Int}(hl:l.length<=1048576){N:Nat}(hN:2000000<=N):Hz N l x=some (ins l x):=by
 unfold Hz;have:=ZC (l:=l) (x:=x) hl (pT _) (by omega:l.length-0<N) [] (by simp);rw[tk,qJ]at this;rw[this];simp only[ou,qS];rw[jY];cases hd:Nw l x with
 |true=>simp
 |false=>
  simp only[Bool.not_false,pq,pD,pV];have e:Pt l x=l:=by simp[Pt,hd]
  rw[e,DH _ _ 8 (by simp;omega) (by simp;omega)];rfl
mutual
def vs:Step->List Int|.mk o _ _ a k=>if oE o then [] else a++nY k
def nY:List (MD Step)->List Int|[]=>[]|b::k=>oU b++nY k
def oU:MD Step->List Int|⟨ss,r⟩=>nU ss++[r]
def nU:List Step->List Int|[]=>[]|s::l=>vs s++nU l
end
end RC
namespace RC
open Go
def rowOf {α:Type}(n:Nat)(f:Nat->α):List α:=(List.range n).map f
theorem Ko {α:Type}{n:Nat}{f:Nat->α}:(rowOf n f).length=n:=by simp[rowOf]
theorem Kx {α:Type}{n:Nat}{f:Nat->α}{j:Nat}(h:j<n):(rowOf n f)[j]?=some (f j):=by simp[rowOf,h]
theorem bJ {α:Type}{n:Nat}{f g:Nat->α}(h :∀j,j<n->f j=g j):rowOf n f=rowOf n g:=pf λj hj=>h j (rE.1 hj)
theorem eu {α:Type}{n:Nat}{f:Nat->α}{j:Nat}{v:α}:(rowOf n f).set j v=rowOf n (λk=>if k=j then v else f k):=by
 apply qj;intro k;rw[List.getElem?_set];by_cases hk:k<n
 .rw[Kx hk,Kx hk,Ko];by_cases e:j=k
  .subst e;simp[hk]
  .have e':¬ k=j:=λh=>e h.symm;simp[e,e']
 .rw[qA (by rw[Ko];omega),qA (by rw[Ko];omega),Ko];by_cases e:j=k
  .subst e;simp[hk]
  .simp[e]
def nh (h:List Cell)(j:Nat)(w:Int):Bool:=mW h w&&decide ((w-1000).toNat=j)
def oa (h:List Cell)(ws:List Int)(j:Nat):Nat:=ws.countP (nh h j)
theorem oD (h:List Cell)(j:Nat):oa h [] j=0:=rfl
def Ed (l:List Nat):List Int:=List.map (λn:Nat=>(n:Int)) l
end RC
namespace RC
open Go
theorem aR (a b:List Nat):Ed (a++b)=Ed a++Ed b:=by simp[Ed]
theorem Lq (a:List Nat):(Ed a).length=a.length:=by simp[Ed]
def mk (m:Nat->Bool)(n i:Nat):List Nat:=(List.range' i (n-i)).filter m
theorem lp (m:Nat->Bool)(n:Nat):mk m n n=[]:=by simp[mk]
theorem Q8 {m:Nat->Bool}{n i:Nat}(hi:i<n):mk m n i=(if m i then [i] else [])++mk m n (i+1):=by
 unfold mk;obtain⟨k,hk⟩ :∃k,n-i=k+1:=⟨n-i-1,by omega⟩
 rw[hk,List.range'_succ,List.filter_cons,show n-(i+1)=k by omega];cases m i<;>simp
theorem RS {m:Nat->Bool}{n j:Nat}:j∈mk m n 0↔j<n/\m j=true:=by simp[mk]
theorem Tc (m:Nat->Bool)(n i:Nat):(mk m n i).length<=n-i:=by
 have:=List.length_filter_le m (List.range' i (n-i));simpa [mk] using this
theorem eR {l:List Int}{x:Int}(hl:l.length<=1048576){N i:Nat}(hi:i<=l.length)(hN:l.length-i<N):Ej l x N i=some (if x∈l.drop i then Sum.inl true else Sum.inr ()):=by
 refine BS l.length (λN i=>Ej l x N i=some (if x∈l.drop i then Sum.inl true else Sum.inr ())) ?_ ?_ hi hN
 .intro n;rw[Ej,pJ (by simp[AI])];simp
 .intro n i hi ih;obtain⟨y,hy,_⟩:=Bi hi;rw[Ej,pI (by simp[AI];omega),Aw hy];simp only[ou];rw[BE (by omega) (by omega),show ((i:Int)+1)=((i+1:Nat):Int) by omega,ih,drop_cons hy];by_cases e:y=x
  .subst e;simp
  .have e':¬ x=y:=λh=>e h.symm;simp[e,e']
theorem eU {l:List Int}{x:Int}(hl:l.length<=1048576){N:Nat}(hN:2000000<=N):HB N l x=some (decide (x∈l)):=by
 unfold HB;have:=eR (x:=x) hl (pT _) (by omega:l.length-0<N);rw[tk,qJ]at this;rw[this];by_cases h:x∈l<;>simp[h]
def Eh (m:Nat->Bool)(j:Nat):Nat->Bool:=λk=>m k || decide (k=j)
theorem iS {m:Nat->Bool}{n i:Nat}{y:Int}(h:y∈Ed (mk m n i)):(i:Int)<=y:=by
 obtain⟨k,hk,rfl⟩:=pQ.1 h;simp only[mk,List.mem_filter,List.mem_range']at hk;omega
theorem da {l:List Int}{x:Int}(h :∀y∈l,x<y):ins l x=x::l:=by
 cases l with
 |nil=>rfl
 |cons a r=>
  have:=h a (by simp);simp only[ins];rw[pI (by omega),pI this]
theorem mk_congr {m m':Nat->Bool}{n i:Nat}(h :∀k,i<=k->k<n->m k=m' k):mk m n i=mk m' n i:=by
 unfold mk;refine List.filter_congr λk hk=>?_;simp only[List.mem_range']at hk;obtain⟨q,hq,rfl⟩:=hk;exact h _ (by omega) (by omega)
theorem TC (a:Nat)(l:List Nat):Ed (a::l)=(a:Int)::Ed l:=rfl
theorem aV {m:Nat->Bool}{n j:Nat}(hj:j<n):∀(d i:Nat),j-i=d->i<=j->ins (Ed (mk m n i)) (j:Int)=Ed (mk (Eh m j) n i)
 |0,i,hd,hi=>by
  have:i=j:=by omega
  subst this;rw[Q8 hj,Q8 (m:=Eh m i) hj,mk_congr (m:=Eh m i) (m':=m) (i:=i+1) (λk h1 h2=>by
   have:k≠i:=by omega
   simp[Eh,this])]
  have ha:∀y∈Ed (mk m n (i+1)),(i:Int)<y:=λy hy=>by have:=iS hy;omega
  have hw:Eh m i i=true:=by simp[Eh]
  rw[hw];cases m i with
  |true=>
   simp only[pq,ru,TC,ins];rw[pI (tJ _),pJ (by omega)]
  |false=>
   simp only[pD,pV,pq,qS,ru,TC];exact da ha
 |d+1,i,hd,hi=>by
  have ih:=aV (m:=m) hj d (i+1) (by omega) (by omega);rw[Q8 (by omega),Q8 (m:=Eh m j) (i:=i) (by omega)];have hw:Eh m j i=m i:=by
   have:i≠j:=by omega
   simp[Eh,this]
  rw[hw];cases m i with
  |true=>
   simp only[pq,ru,TC,ins];rw[pJ (by omega),ih]
  |false=>
   simp only[pD,pV,qS];exact ih
theorem XV {m:Nat->Bool}{n j:Nat}(hn:n<=1048576)(hj:j<n){N:Nat}(hN:2000000<=N):Hz N (Ed (mk m n 0)) (j:Int)=some (Ed (mk (Eh m j) n 0)):=by
 rw[WJ (by rw[Lq];have:=Tc m n 0;omega) hN,aV hj j 0 (by omega) (by omega)]
def FA (m:Nat->Bool)(l:List Int):Nat->Bool:=λk=>m k || decide ((k:Int)∈l)
theorem Kq (m:Nat->Bool):FA m []=m:=by funext k;simp[FA]
theorem Qz (m:Nat->Bool)(j:Nat)(l:List Int):FA m ((j:Int)::l)=FA (Eh m j) l:=by
 funext k;simp only[FA,Eh,pK,Bool.decide_or,Bool.or_assoc];congr 2;exact rf.2 (by omega)
theorem YS {m:Nat->Bool}{n j:Nat}(hn:n<=1048576)(hj:j<n){N:Nat}(hN:2000000<=N):HB N (Ed (mk m n 0)) (j:Int)=some (m j):=by
 rw[eU (by rw[Lq];have:=Tc m n 0;omega) hN];congr 1;have:((j:Int)∈Ed (mk m n 0))↔j∈mk m n 0:=by
  constructor
  .intro h;obtain⟨k,hk,e⟩:=pQ.1 h;have:k=j:=by omega
   subst this;exact hk
  .intro h;exact pQ.2 ⟨j,h,rfl⟩
 cases hm:m j with
 |true=>exact sT (this.2 (RS.2 ⟨hj,hm⟩))
 |false=>exact rH λh=>by have:=(RS.1 (this.1 h)).2;rw[hm]at this;cases this
theorem VW {m:Nat->Bool}{n0:Nat}(hl:n0<=1048576){N i:Nat}(hi:i<=n0)(hN:n0-i<N):∀acc:List Nat,acc.length<=i->EZ (rowOf n0 m) N i (Ed acc)=some (Ed (acc++mk m n0 i)):=by
 refine BS n0 (λN i=>∀acc:List Nat,acc.length<=i->EZ (rowOf n0 m) N i (Ed acc)=some (Ed (acc++mk m n0 i))) ?_ ?_ hi hN
 .intro n acc _;rw[EZ,pJ (by simp[AI,Ko]),lp,qR]
 .intro n i hi ih acc ha;rw[EZ,pI (by simp[AI,Ko];omega),Aw (Kx hi)];simp only[ou];rw[BE (by omega) (by omega),show ((i:Int)+1)=((i+1:Nat):Int) by omega,Q8 hi];cases m i with
  |false=>simp only[pD,pV,ou,qS];exact ih acc (by omega)
  |true=>
   simp only[pq];rw[DH _ _ 8 (by rw[Lq];simp;omega) (by rw[Lq];simp;omega)];simp only[ou];have:=ih (acc++[i]) (by simp;omega);rw[aR,qe]at this;exact this
theorem QR {m:Nat->Bool}{n:Nat}(hn:n<=1048576){N:Nat}(hN:2000000<=N):Ge N (rowOf n m)=some (Ed (mk m n 0)):=by
 unfold Ge;have:=VW (m:=m) hn (pT n) (by omega:n-0<N) [] (by simp);rw[tk,show Ed []=[] from rfl]at this;rw[this];rfl
theorem O8 (m:Nat->Bool)(a b:List Int):FA (FA m a) b=FA m (a++b):=by
 funext k;simp only[FA,pX,Bool.decide_or,Bool.or_assoc]
mutual
def HY:AD->List Int|.mk o n k=>(if o=9∨o=10 then [n] else [])++Fl k
def Fl:List AD->List Int|[]=>[]|e::l=>HY e++Fl l
end
def Mi (e:AD):List Int:=if e.op=9∨e.op=10 then [e.num] else []
theorem IA (e:AD):HY e=Mi e++Fl e.kids:=by
 obtain⟨o,n,k⟩:=e;by_cases h:o=9∨o=10
 .have h':(AD.mk o n k).op=9∨(AD.mk o n k).op=10:=h;unfold HY Mi;rw[pI h,pI h'];rfl
 .have h':¬ ((AD.mk o n k).op=9∨(AD.mk o n k).op=10):=h;unfold HY Mi;rw[pJ h,pJ h'];rfl
theorem Vv {k:List AD}{i:Nat}{e:AD}(h:k[i]?=some e):Fl (k.drop i)=HY e++Fl (k.drop (i+1)):=by rw[drop_cons h];simp[Fl]
theorem XZ {k:List AD}{e:AD}(h:e∈k){x:Int}(hx:x∈HY e):x∈Fl k:=by
 induction k with
 |nil=>cases h
 |cons a r ih=>
  simp only[Fl,pX];rcases pK.1 h with rfl|h
  .exact .inl hx
  .exact .inr (ih h)
theorem Zd {e:AD}:(if decide (e.op=9)=true then some true else some (decide (e.op=10)))=some (decide (e.op=9∨e.op=10)):=by
 by_cases h:e.op=9<;>simp[h]
def VV (F:Nat)(l:List Int):Prop:=∀x∈l,0<=x/\x<(F:Int)
theorem Z0 {N:Nat}(hN:2000000<=N){F:Nat}(hF:F<=1000):∀(n:Nat) (e:AD) (m:Nat->Bool),en e<=1000->en e<=n->VV F (HY e)->Ff N n e (Ed (mk m F 0))=some (Ed (mk (FA m (HY e)) F 0)):=by
 intro n
 induction n with
 |zero=>intro e _ _ h;have:=Fi e;omega
 |succ n ih=>
  intro e m hz hn vQ;have hk:e.kids.length<=1000:=by have:=HF e.kids;have:=Ft e;omega
  rw[Ff];unfold Ji;have key:∀{M i:Nat},i<=e.kids.length->e.kids.length-i<M->∀m:Nat->Bool,Dv e (Ff N n) M (Ed (mk m F 0)) i=some (Ed (mk (FA m (Fl (e.kids.drop i))) F 0)):=by
   intro M i hi hM;refine BS e.kids.length (λM i=>∀m:Nat->Bool,Dv e (Ff N n) M (Ed (mk m F 0)) i=some (Ed (mk (FA m (Fl (e.kids.drop i))) F 0))) ?_ ?_ hi hM
   .intro q m;rw[Dv,pJ (by simp[AI]),qp];simp[Fl,Kq]
   .intro q i hi xH m;obtain⟨x,hx,vy⟩:=Bi hi;have hxe:=Ca vy;rw[Vv hx,Dv,pI (by simp[AI];omega),Aw hx];simp only[ou];rw[ih x m (by omega) (by omega) (λy hy=>vQ y (by rw[IA];exact qZ _ (XZ vy hy)))];simp only[ou];rw[BE (n:=(i:Int)+1) (by omega) (by omega),show ((i:Int)+1)=((i+1:Nat):Int) by omega,xH,O8]
  rw[Zd];simp only[ou];have e1:(if decide (e.op=9∨e.op=10)=true then (Hz N (Ed (mk m F 0)) e.num).bind λwV=>some wV else some (Ed (mk m F 0)))=some (Ed (mk (FA m (Mi e)) F 0)):=by
   unfold Mi;by_cases h:e.op=9∨e.op=10
   .rw[pI (by simpa using h),pI h];have:=vQ e.num (by rw[IA];simp[Mi,h]);obtain⟨j,hj⟩:=pb this.1;rw[hj,XV (by omega) (by omega) hN,Qz,Kq];rfl
   .rw[pJ (by simpa using h),pJ h,Kq]
  rw[e1];simp only[ou];have:=key (pT _) (by omega:e.kids.length-0<N) (FA m (Mi e));rw[qJ,tk,O8,<- IA]at this;rw[this];rfl
theorem W9 {F j:Nat}{m:Nat->Bool}:Sh.put (rowOf F m) (j:Int) true=rowOf F (Eh m j):=by
 rw[Oj,eu];refine bJ λk _=>?_;by_cases h:k=j<;>simp[Eh,h]
theorem kK {N:Nat}(hN:2000000<=N){F:Nat}(hF:F<=1000):∀(n:Nat) (e:AD) (m:Nat->Bool),en e<=1000->en e<=n->VV F (HY e)->Gz N n (rowOf F m) e=some (rowOf F (FA m (HY e))):=by
 intro n
 induction n with
 |zero=>intro e _ _ h;have:=Fi e;omega
 |succ n ih=>
  intro e m hz hn vQ;have hk:e.kids.length<=1000:=by have:=HF e.kids;have:=Ft e;omega
  rw[Gz];unfold LS Jh;have key:∀{M i:Nat},i<=e.kids.length->e.kids.length-i<M->∀m:Nat->Bool,E5 e (Gz N n) M i (rowOf F m)=some (rowOf F (FA m (Fl (e.kids.drop i)))):=by
   intro M i hi hM;refine BS e.kids.length (λM i=>∀m:Nat->Bool,E5 e (Gz N n) M i (rowOf F m)=some (rowOf F (FA m (Fl (e.kids.drop i))))) ?_ ?_ hi hM
   .intro q m;rw[E5,pJ (by simp[AI]),qp];simp[Fl,Kq]
   .intro q i hi xH m;obtain⟨x,hx,vy⟩:=Bi hi;have hxe:=Ca vy;rw[Vv hx,E5,pI (by simp[AI];omega),Aw hx];simp only[ou];rw[ih x m (by omega) (by omega) (λy hy=>vQ y (by rw[IA];exact qZ _ (XZ vy hy)))];simp only[ou];rw[BE (n:=(i:Int)+1) (by omega) (by omega),show ((i:Int)+1)=((i+1:Nat):Int) by omega,xH,O8]
  rw[Zd];simp only[ou];have e1:(if decide (e.op=9∨e.op=10)=true then (Sh.get (rowOf F m) e.num).bind λ_=>some (Sh.put (rowOf F m) e.num true) else some (rowOf F m))=some (rowOf F (FA m (Mi e))):=by
   unfold Mi;by_cases h:e.op=9∨e.op=10
   .rw[pI (by simpa using h),pI h];have:=vQ e.num (by rw[IA];simp[Mi,h]);obtain⟨j,hj⟩:=pb this.1;rw[hj,Aw (Kx (by omega)),W9,Qz,Kq];rfl
   .rw[pJ (by simpa using h),pJ h,Kq]
  rw[e1];simp only[ou];have:=key (pT _) (by omega:e.kids.length-0<N) (FA m (Mi e));rw[qJ,tk,O8,<- IA]at this;rw[this];rfl
end RC
namespace RC
open Go
def pop (m:Nat->Bool):Nat->Nat|0=>0|n+1=>pop m n+(if m n then 1 else 0)
theorem Wx (m:Nat->Bool):∀n,pop m n<=n
 |0=>pL _
 |n+1=>by have:=Wx m n;simp only[pop];split<;>omega
theorem RW {m m':Nat->Bool}:∀{n:Nat},(∀k,k<n->m k=true->m' k=true)->pop m n<=pop m' n
 |0,_=>pL _
 |n+1,h=>by
  have ih:=RW (n:=n) λk hk=>h k (by omega);have h1:=h n (by omega);simp only[pop];cases hm:m n with
  |false=>simp only[pD,pV];omega
  |true=>rw[h1 hm];simp only[pq];omega
theorem fX {m m':Nat->Bool}{j:Nat}(h0:m j=false)(h1:m' j=true):∀{n:Nat},j<n->(∀k,k<n->m k=true->m' k=true)->pop m n+1<=pop m' n
 |0,hj,_=>by omega
 |n+1,hj,h=>by
  simp only[pop];by_cases e:j=n
  .subst e;have:=RW (n:=j) λk hk=>h k (by omega);rw[h0,h1];simp only[pD,pV,pq];omega
  .have ih:=fX h0 h1 (n:=n) (by omega) λk hk=>h k (by omega);have h2:=h n (by omega);cases hm:m n with
   |false=>simp only[pD,pV];omega
   |true=>rw[h2 hm];simp only[pq];omega
theorem PK {m:Nat->Bool}{j:Nat}(h0:m j=false):∀{n:Nat},j<n->pop (Eh m j) n=pop m n+1
 |0,hj=>by omega
 |n+1,hj=>by
  simp only[pop];by_cases e:j=n
  .subst e;have a:∀n,n<=j->pop (Eh m j) n=pop m n:=by
    intro n
    induction n with
    |zero=>intro _;rfl
    |succ n ih=>
     intro hn;have:n≠j:=by omega
     simp[pop,ih (by omega),Eh,this]
   rw[a j (pL _)];simp[Eh,h0]
  .have ih:=PK h0 (n:=n) (by omega);have:n≠j:=λh=>e h.symm;rw[ih];simp[Eh,this];omega
def push:List Int->(Nat->Bool)->List Int->(Nat->Bool)×List Int
 | [],m,w=>(m,w)
 |x::q,m,w=>if m x.toNat then push q m w else push q (Eh m x.toNat) (w++[x])
structure ly (F:Nat) (q:List Int) (m:Nat->Bool) (w:List Int) (m':Nat->Bool) (w':List Int):Prop where
 new :∃v,w'=w++v/\VV F v/\(∀x∈v,m' x.toNat=true)/\(∀k,k<F->m' k=true->m k=true∨(k:Int)∈v)/\v.length+pop m F=pop m' F
 mono :∀k,m k=true->m' k=true
 all :∀x∈q,m' x.toNat=true
 only :∀k,m' k=true->m k=true∨(k:Int)∈q
theorem Xt {F:Nat}:∀(q:List Int) (m:Nat->Bool) (w:List Int),VV F q->ly F q m w (push q m w).1 (push q m w).2
 | [],m,w,_=>⟨⟨[],by simp[push],λ_ h=>(by cases h),λ_ h=>(by cases h),λ_ _ h=>.inl h,by simp[push]⟩,λ_ h=>h,λ_ h=>(by cases h),λ_ h=>.inl h⟩
 |x::q,m,w,hq=>by
  have hx:=hq x (by simp);have zT:VV F q:=λy hy=>hq y (by simp[hy]);simp only[push];cases hm:m x.toNat with
  |true=>
   simp only[pq];obtain⟨a,b,c,d⟩:=Xt q m w zT;refine⟨a,b,λy hy=>?_,λk hk=>(d k hk).imp id λh=>by simp[h]⟩;rcases pK.1 hy with rfl|hy
   .exact b _ hm
   .exact c y hy
  |false=>
   simp only[pD,pV];obtain⟨⟨v,a1,a2,a3,a4,a5⟩,b,c,d⟩:=Xt q (Eh m x.toNat) (w++[x]) zT;have h1:∀k,m k=true->Eh m x.toNat k=true:=λk hk=>by simp[Eh,hk]
   have wQ:Eh m x.toNat x.toNat=true:=by simp[Eh]
   refine⟨⟨x::v,by rw[a1];simp,λy hy=>?_,λy hy=>?_,λk hkF hk=>?_,?_⟩,λk hk=>b k (h1 k hk),λy hy=>?_,λk hk=>?_⟩
   .rcases pK.1 hy with rfl|hy
    .exact hx
    .exact a2 y hy
   .rcases pK.1 hy with rfl|hy
    .exact b _ wQ
    .exact a3 y hy
   .rcases a4 k hkF hk with h|h
    .simp only[Eh,sJ,pP]at h;rcases h with h|h
     .exact .inl h
     .exact .inr (by simp only[pK];left;omega)
    .exact .inr (by simp[h])
   .have:=PK hm (n:=F) (by omega);simp only[po];omega
   .rcases pK.1 hy with rfl|hy
    .exact b _ wQ
    .exact c y hy
   .rcases d k hk with h|h
    .simp only[Eh,sJ,pP]at h;rcases h with h|h
     .exact .inl h
     .exact .inr (by simp only[pK];left;omega)
    .exact .inr (by simp[h])
theorem jK {F:Nat}(hF:F<=1000){q:List Int}(hq:VV F q)(hql:q.length<=1000){N i:Nat}(hi:i<=q.length)(hN:q.length-i<N):∀(m:Nat->Bool) (w:List Int),w.length+(q.length-i)<=5000->
  Dq q N i (rowOf F m) w=some (rowOf F (push (q.drop i) m w).1,(push (q.drop i) m w).2):=by
 refine BS q.length (λN i=>∀(m:Nat->Bool) (w:List Int),w.length+(q.length-i)<=5000->Dq q N i (rowOf F m) w=some (rowOf F (push (q.drop i) m w).1,(push (q.drop i) m w).2)) ?_ ?_ hi hN
 .intro n m w _;rw[Dq,pJ (by simp[AI]),qp];rfl
 .intro n i hi ih m w hw;obtain⟨x,hx,vy⟩:=Bi hi;have hxi:=hq x vy;obtain⟨j,rfl⟩:=pb hxi.1;rw[Dq,pI (by simp[AI];omega),Aw hx];simp only[ou];rw[Aw (Kx (by omega)),BE (n:=(i:Int)+1) (by omega) (by omega),show ((i:Int)+1)=((i+1:Nat):Int) by omega,drop_cons hx];simp only[ou,push,qP];cases hm:m j with
  |true=>simp only[qC,pD,pV,pq,ou];exact ih m w (by omega)
  |false=>
   simp only[Bool.not_false,pq,pD,pV];rw[DH _ _ 8 (by simp;omega) (by simp;omega),W9];simp only[ou];exact ih _ _ (by simp;omega)
end RC
namespace RC
open Go
structure PO (p:AJ) (F:Nat):Prop where
 len:p.funcs.length=F
 le:F<=4
 sz :∀f∈p.funcs,en f.body<=30
 mU :∀f∈p.funcs,VV F (HY f.body)
def MI (p:AJ)(k:Nat):List Int:=match p.funcs[k]? with|some f=>HY f.body|none=>[]
theorem T1 {p:AJ}{F:Nat}(P:PO p F)(k:Nat):VV F (MI p k):=by
 unfold MI;cases h:p.funcs[k]? with
 |none=>intro x hx;cases hx
 |some f=>exact P.mU f (ov h)
inductive Re (p:AJ) (F:Nat) (c:Nat):Nat->Prop
 |refl:Re p F c c
 |step {k:Nat} {x:Int}:Re p F c k->x∈MI p k->Re p F c x.toNat
def MZ:Nat->Bool:=λ_=>false
def cl (p:AJ)(F k:Nat):List Int:=Ed (mk (FA MZ (MI p k)) F 0)
theorem PE {p:AJ}{F k:Nat}(P:PO p F)(x:Int):x∈cl p F k↔x∈MI p k:=by
 unfold cl;constructor
 .intro h;obtain⟨j,hj,rfl⟩:=pQ.1 h;have:=(RS.1 hj).2;simpa [FA,MZ] using this
 .intro h;have vQ:=T1 P k x h;obtain⟨j,rfl⟩:=pb vQ.1;exact pQ.2 ⟨j,RS.2 ⟨by omega,by simpa [FA,MZ] using h⟩,rfl⟩
theorem S6 {p:AJ}{F k:Nat}(P:PO p F):VV F (cl p F k):=λx hx=>T1 P k x ((PE P x).1 hx)
theorem W6 {p:AJ}{F k:Nat}:(cl p F k).length<=F:=by unfold cl;rw[Lq];have:=Tc (FA MZ (MI p k)) F 0;omega
theorem OJ {p:AJ}{F k:Nat}(P:PO p F){f:AU}(hf:p.funcs[k]?=some f){N:Nat}(hN:2000000<=N):I7 N f.body []=some (cl p F k):=by
 have hm:=ov hf;have hs:=P.sz f hm;have hF:=P.le;have:=Z0 hN (F:=F) (by omega) N f.body MZ (by omega) (by omega) (P.mU f hm);have e:Ed (mk MZ F 0)=[]:=by simp[mk,Ed,MZ]
 rw[e]at this;unfold I7;rw[this];unfold cl MI;rw[hf]
theorem bu (F:Nat):List.replicate F false=rowOf F MZ:=by
 apply qj;intro k;by_cases h:k<F
 .rw[Kx h,List.getElem?_replicate,pI h];rfl
 .rw[qA (by simp;omega),qA (by rw[Ko];omega)]
theorem OF {p:AJ}{F k:Nat}(P:PO p F){f:AU}(hf:p.funcs[k]?=some f){N:Nat}(hN:2000000<=N):Hr N p (k:Int)=some (rowOf F (FA MZ (MI p k))):=by
 have hm:=ov hf;have hs:=P.sz f hm;have hF:=P.le;unfold Hr;rw[AI,P.len,OG _ F 1 (by omega) (by omega),bu,Aw hf];simp only[ou];unfold Pb;rw[kK hN (by omega) N f.body MZ (by omega) (by omega) (P.mU f hm)];unfold MI;rw[hf];rfl
theorem Q1 {p:AJ}{F k:Nat}(P:PO p F){N:Nat}(hN:2000000<=N):Ge N (rowOf F (FA MZ (MI p k)))=some (cl p F k):=QR (by have:=P.le;omega) hN
def Sub (p:AJ)(F c:Nat)(m:Nat->Bool):Prop:=∀k,k<F->m k=true->Re p F c k
def Cl (p:AJ)(F:Nat)(m:Nat->Bool):Prop:=∀k,k<F->m k=true->∀x∈MI p k,m x.toNat=true
theorem je {p:AJ}{F c:Nat}(P:PO p F){m:Nat->Bool}(h0:m c=true)(hc:Cl p F m)(hcF:c<F):∀{k},Re p F c k->k<F/\m k=true:=by
 intro k h
 induction h with
 |refl=>exact⟨hcF,h0⟩
 |step h hx ih=>have:=T1 P _ _ hx;exact⟨by omega,hc _ ih.1 ih.2 _ hx⟩
theorem jg {p:AJ}{F c:Nat}(P:PO p F){N0:Nat}(hN0:2000000<=N0):∀(N:Nat) (m:Nat->Bool) (w:List Int),w.length+(F-pop m F)<N->VV F w->(∀x∈w,m x.toNat=true)->Sub p F c m->(w.length<=4)->
  (∀k,k<F->m k=true->(k:Int)∈w∨∀x∈MI p k,m x.toNat=true)->w.length+(F-pop m F)<=4->
  ∃m',FK N0 p N (rowOf F m) w=some (rowOf F m')/\(∀k,m k=true->m' k=true)/\Sub p F c m'/\Cl p F m':=by
 intro N
 induction N with
 |zero=>intro m w h;omega
 |succ N ih=>
  intro m w hN hw hwm hs hw4 xZ hme;rw[FK];cases w with
  |nil=>
   rw[pJ (by simp[AI])];exact⟨m,rfl,λ_ h=>h,hs,λk hk h=>(xZ k hk h).resolve_left (by simp)⟩
  |cons x w=>
   have hF:=P.le;have hx:=hw x (by simp);obtain⟨j,rfl⟩:=pb hx.1;obtain⟨f,hf,_⟩:=Bi (l:=p.funcs) (i:=j) (by rw[P.len];omega);have hg:Sh.get ((j:Int)::w) 0=some (j:Int):=rfl;rw[pI (by simp[AI]),hg];simp only[ou];rw[OF P hf hN0];simp only[ou];rw[Q1 P hN0];simp only[ou];have hl:=W6 (p:=p) (F:=F) (k:=j);have e:=jK (F:=F) (by omega) (S6 P (k:=j)) (by omega) (pT _) (by omega:(cl p F j).length-0<N0) m ((j:Int)::w) (by omega);rw[qJ,tk]at e;rw[e];simp only[ou];obtain⟨⟨v,a1,a2,a3,a4,a5⟩,b,cc,d⟩:=Xt (F:=F) (cl p F j) m ((j:Int)::w) (S6 P);generalize push (cl p F j) m ((j:Int)::w)=pw at a1 a3 a4 a5 b cc d⊢;rw[a1];have hsl:Sh.sl ((j:Int)::w++v) 1 (Sh.len ((j:Int)::w++v))=some (w++v):=by
    unfold Sh.sl Sh.len;rw[pI ⟨by omega,by simp;omega,by omega⟩,qP,qq];rfl
   rw[hsl];simp only[ou];have hp1:=Wx pw.1 F;simp only[po]at hN hw4 hme;have q1:VV F (w++v):=λy hy=>by
    rcases pX.1 hy with hy|hy
    .exact hw y (by simp[hy])
    .exact a2 y hy
   have q2:∀y∈w++v,pw.1 y.toNat=true:=λy hy=>by
    rcases pX.1 hy with hy|hy
    .exact b _ (hwm y (by simp[hy]))
    .exact a3 y hy
   have q3:Sub p F c pw.1:=λk hk h=>by
    rcases d k h with h|h
    .exact hs k hk h
    .have:=Re.step (hs j (by omega) (by simpa using hwm (j:Int) (by simp))) ((PE P _).1 h);simpa using this
   have q4:∀k,k<F->pw.1 k=true->(k:Int)∈w++v∨∀x∈MI p k,pw.1 x.toNat=true:=λk hk h=>by
    rcases a4 k hk h with h|h
    .rcases xZ k hk h with h|h
     .rcases pK.1 h with h|h
      .have:k=j:=by omega
       subst this;exact .inr λy hy=>cc y ((PE P y).2 hy)
      .exact .inl (by simp[h])
     .exact .inr λy hy=>b _ (h y hy)
    .exact .inl (by simp[h])
   obtain⟨m',r1,r2,r3,r4⟩:=ih pw.1 (w++v) (by simp;omega) q1 q2 q3 (by simp;omega) q4 (by simp;omega);exact⟨m',r1,λk h=>r2 k (b k h),r3,r4⟩
end RC
namespace RC
open Go
theorem lJ {m m':Nat->Bool}{F:Nat}(h :∀k,k<F->m k=true->m' k=true)(he:pop m' F<=pop m F):∀k,k<F->m' k=true->m k=true:=λk hk h1=>by
 cases h0:m k with
 |true=>rfl
 |false=>have:=fX h0 h1 hk h;omega
theorem gy {F:Nat}(hF:F<=1000){q:List Int}(hq:VV F q)(hql:q.length<=1000){N0:Nat}(hN0:2000000<=N0){N i:Nat}(hi:i<=q.length)(hN:q.length-i<N):∀m:Nat->Bool,
  Du N0 q N i (Ed (mk m F 0))=some (Ed (mk (FA m (q.drop i)) F 0)):=by
 refine BS q.length (λN i=>∀m:Nat->Bool,Du N0 q N i (Ed (mk m F 0))=some (Ed (mk (FA m (q.drop i)) F 0))) ?_ ?_ hi hN
 .intro n m;rw[Du,pJ (by simp[AI]),qp,Kq]
 .intro n i hi ih m;obtain⟨x,hx,vy⟩:=Bi hi;have hxi:=hq x vy;obtain⟨j,rfl⟩:=pb hxi.1;rw[Du,pI (by simp[AI];omega),Aw hx];simp only[ou];rw[XV (by omega) (by omega) hN0,BE (n:=(i:Int)+1) (by omega) (by omega),show ((i:Int)+1)=((i+1:Nat):Int) by omega,drop_cons hx,Qz];simp only[ou];exact ih _
structure np (p:AJ) (F c i:Nat) (m m':Nat->Bool):Prop where
 mono :∀k,m k=true->m' k=true
 sub:Sub p F c m->Sub p F c m'
 still:Cl p F m->∀k,k<F->m' k=true->m k=true
 closed:pop m' F<=pop m F->∀k,i<=k->k<F->m k=true->∀x∈MI p k,m x.toNat=true
theorem iQ {p:AJ}{F c:Nat}(P:PO p F){N0:Nat}(hN0:2000000<=N0){N i:Nat}(hi:i<=F)(hN:F-i<N):∀m:Nat->Bool,
  ∃m',Dw N0 p N i (Ed (mk m F 0))=some (Ed (mk m' F 0))/\np p F c i m m':=by
 have hF:=P.le;refine BS F (λN i=>∀m:Nat->Bool,∃m',Dw N0 p N i (Ed (mk m F 0))=some (Ed (mk m' F 0))/\np p F c i m m') ?_ ?_ hi hN
 .intro n m;refine⟨m,by rw[Dw,pJ (by simp[AI,P.len])],λ_ h=>h,λh=>h,λ_ _ _ h=>h,λ_ k h1 h2=>by omega⟩
 .intro n i hi ih m;rw[Dw,pI (by simp[AI,P.len];omega),YS (by omega) hi hN0];simp only[ou];rw[BE (n:=(i:Int)+1) (by omega) (by omega),show ((i:Int)+1)=((i+1:Nat):Int) by omega];cases hm:m i with
  |false=>
   simp only[pD,pV,ou];obtain⟨m',h1,h2⟩:=ih m;refine⟨m',h1,h2.mono,h2.sub,h2.still,λhe k hk hkF hmk=>?_⟩;by_cases e:k=i
   .subst e;rw[hm]at hmk;cases hmk
   .exact h2.closed he k (by omega) hkF hmk
  |true=>
   obtain⟨f,hf,_⟩:=Bi (l:=p.funcs) (i:=i) (by rw[P.len];omega);simp only[pq];rw[Aw hf];simp only[ou];rw[OJ P hf hN0];simp only[ou];have hl:=W6 (p:=p) (F:=F) (k:=i);have e:=gy (F:=F) (by omega) (S6 P (k:=i)) (by omega) hN0 (pT _) (by omega:(cl p F i).length-0<N0) m;rw[qJ,tk]at e;rw[e];simp only[ou];obtain⟨m',h1,h2⟩:=ih (FA m (cl p F i));have g0:∀k,m k=true->FA m (cl p F i) k=true:=λk hk=>by simp[FA,hk]
   have g1:∀k,FA m (cl p F i) k=true->m k=true∨(k:Int)∈MI p i:=λk hk=>by
    simp only[FA,sJ,pP]at hk;exact hk.imp id λh=>(PE P _).1 h
   have g2:∀x∈MI p i,FA m (cl p F i) x.toNat=true:=λx hx=>by
    have:=T1 P i x hx;have e:((x.toNat:Nat):Int)=x:=by omega
    simp only[FA,e,(PE P x).2 hx,pW,Bool.or_true]
   refine⟨m',h1,λk hk=>h2.mono k (g0 k hk),λhs=>h2.sub λk hk h=>?_,λhc k hk h=>?_,λhe k hk hkF hmk x hx=>?_⟩
   .rcases g1 k h with h|h
    .exact hs k hk h
    .have:=Re.step (hs i hi hm) h;simpa using this
   .have same:∀k,k<F->FA m (cl p F i) k=true->m k=true:=λk _ h=>by
     rcases g1 k h with h|h
     .exact h
     .have:=hc i hi hm _ h;simpa using this
    exact same k hk (h2.still (λk hk h x hx=>g0 _ (hc k hk (same k hk h) x hx)) k hk h)
   .have p1:=RW (n:=F) λk _=>g0 k;have p2:=RW (n:=F) λk _=>h2.mono k;have same:=lJ (λk _=>g0 k) (by omega:pop (FA m (cl p F i)) F<=pop m F);have hxF:=T1 P k x hx;by_cases e:k=i
    .subst e;exact same _ (by omega) (g2 x hx)
    .exact same _ (by omega) (h2.closed (by omega) k (by omega) hkF (g0 k hmk) x hx)
theorem gh {p:AJ}{F c:Nat}(P:PO p F){N0:Nat}(hN0:2000000<=N0){N r:Nat}(hr:r<=F)(hN:F-r<N):∀m:Nat->Bool,Sub p F c m->m c=true->(r+1<=pop m F∨Cl p F m)->
  ∃m',Dt N0 p N r (Ed (mk m F 0))=some (Ed (mk m' F 0))/\Sub p F c m'/\m' c=true/\Cl p F m':=by
 have hF:=P.le;refine BS F (λN r=>∀m:Nat->Bool,Sub p F c m->m c=true->(r+1<=pop m F∨Cl p F m)->∃m',Dt N0 p N r (Ed (mk m F 0))=some (Ed (mk m' F 0))/\Sub p F c m'/\m' c=true/\Cl p F m') ?_ ?_ hr hN
 .intro n m hs hc h;refine⟨m,by rw[Dt,pJ (by simp[AI,P.len])],hs,hc,h.resolve_left λh=>by have:=Wx m F;omega⟩
 .intro n r hr ih m hs hc h;rw[Dt,pI (by simp[AI,P.len];omega)];obtain⟨m1,h1,h2⟩:=iQ (c:=c) P hN0 (pT F) (by omega:F-0<N0) m;rw[tk]at h1;rw[h1];simp only[ou];rw[BE (n:=(r:Int)+1) (by omega) (by omega),show ((r:Int)+1)=((r+1:Nat):Int) by omega];have key:Cl p F m->Cl p F m1:=λxZ k hk hm x hx=>h2.mono _ (xZ k hk (h2.still xZ k hk hm) x hx);refine ih m1 (h2.sub hs) (h2.mono c hc) ?_;by_cases he:pop m1 F<=pop m F
  .exact .inr (key λk hk=>h2.closed he k (pT _) hk)
  .rcases h with h|h
   .exact .inl (by omega)
   .exact .inr (key h)
end RC
namespace RC
open Go
theorem dN {F c:Nat}(hc:c<F):[(c:Int)]=Ed (mk (Eh MZ c) F 0):=by
 have h:=aV (m:=MZ) (n:=F) hc c 0 (by omega) (pT _);have e:Ed (mk MZ F 0)=[]:=by simp[mk,Ed,MZ]
 rw[e]at h;exact h
theorem Sw {c k:Nat}(h:Eh MZ c k=true):k=c:=by simpa [Eh,MZ] using h
theorem Ps {p:AJ}{F c:Nat}(P:PO p F)(hc:c<F){N:Nat}(hN:2000000<=N):∃m,Hv N p (c:Int)=some (Ed (mk m F 0))/\∀k,k<F->(m k=true↔Re p F c k):=by
 have hF:=P.le;have h1:Eh MZ c c=true:=by simp[Eh]
 have hp:0+1<=pop (Eh MZ c) F:=by
  have:=PK (m:=MZ) (j:=c) rfl hc;omega
 obtain⟨m,a1,a2,a3,a4⟩:=gh (c:=c) P hN (pT F) (by omega:F-0<N) (Eh MZ c) (λk _ hk=>by rw[Sw hk];exact .refl) h1 (.inl hp);refine⟨m,?_,λk hk=>⟨a2 k hk,λh=>(je P a3 a4 hc h).2⟩⟩;unfold Hv;rw[dN hc];rw[tk]at a1;rw[a1];rfl
theorem P4 {p:AJ}{F c:Nat}(P:PO p F)(hc:c<F){N:Nat}(hN:2000000<=N)(hv:CI N p=some true):∃m,H4 N p (c:Int)=some (Ed (mk m F 0))/\∀k,k<F->(m k=true↔Re p F c k):=by
 have hF:=P.le;have h1:Eh MZ c c=true:=by simp[Eh]
 have hpc:=PK (m:=MZ) (j:=c) rfl hc;have hple:=Wx (Eh MZ c) F;obtain⟨m,a1,a2,a3,a4⟩:=jg (c:=c) P hN N (Eh MZ c) [(c:Int)] (by simp;omega) (λx hx=>by simp at hx;omega) (λx hx=>by simp at hx;subst hx;simpa using h1) (λk _ hk=>by rw[Sw hk];exact .refl) (by simp) (λk _ hk=>.inl (by rw[Sw hk];simp)) (by simp;omega);refine⟨m,?_,λk hk=>⟨a3 k hk,λh=>(je P (a2 c h1) a4 hc h).2⟩⟩;unfold H4;rw[hv];have b1:decide ((c:Int)<0)=false:=rH (by omega);have b2:decide (((F:Nat):Int)<=(c:Int))=false:=rH (by omega);simp only[ou,qC,pD,pV,b1,AI,P.len,b2];rw[OG _ F 1 (by omega) (by omega),bu];simp only[ou];rw[Aw (Kx hc),W9];simp only[ou];rw[a1];simp only[ou];rw[QR (by omega) hN];rfl
theorem gT {l:List Int}{x:Int}(hl:l.length<=1000){N i:Nat}(hi:i<=l.length)(hN:l.length-i<N):(x∈l.drop i->∃j:Nat,CP l x N i=some (.inl (j:Int)))/\(x ∉ l.drop i->CP l x N i=some (.inr ())):=by
 refine BS l.length (λN i=>(x∈l.drop i->∃j:Nat,CP l x N i=some (.inl (j:Int)))/\(x ∉ l.drop i->CP l x N i=some (.inr ()))) ?_ ?_ hi hN
 .intro n;rw[qp];exact⟨λh=>(by cases h),λ_=>by rw[CP,pJ (by simp[AI])]⟩
 .intro n i hi ih;obtain⟨y,hy,_⟩:=Bi hi;rw[drop_cons hy,CP,pI (by simp[AI];omega),Aw hy];simp only[ou,pK,not_or];rw[BE (n:=(i:Int)+1) (by omega) (by omega),show ((i:Int)+1)=((i+1:Nat):Int) by omega];by_cases e:x=y
  .rw[pI (by simpa using e)];exact⟨λ_=>⟨i,rfl⟩,λh=>absurd e h.1⟩
  .rw[pJ (by simpa using e)];exact⟨λh=>ih.1 (h.resolve_left e),λh=>ih.2 h.2⟩
theorem Ti {l:List Int}{x:Int}(hl:l.length<=1000){N:Nat}(hN:2000000<=N):Fq N l x=some (decide (x∈l)):=by
 have h:=gT (x:=x) hl (pT _) (by omega:l.length-0<N);rw[qJ,tk]at h;unfold Fq Hh;by_cases hx:x∈l
 .obtain⟨j,hj⟩:=h.1 hx;rw[hj];have:(0:Int)<=(j:Int):=by omega
  simp[Sh.cont,hx]
 .rw[h.2 hx];simp[Sh.cont,hx]
theorem mem_mk {m:Nat->Bool}{F k:Nat}(hk:k<F):((k:Int)∈Ed (mk m F 0))↔m k=true:=by
 constructor
 .intro h;obtain⟨j,hj,e⟩:=pQ.1 h;have:j=k:=by omega
  subst this;exact (RS.1 hj).2
 .intro h;exact pQ.2 ⟨k,RS.2 ⟨hk,h⟩,rfl⟩
open Classical in
theorem Yg {p:AJ}{F:Nat}(P:PO p F){f:Int}{N:Nat}(hN:2000000<=N)(hs:BM N p=some true)(hv:CI N p=some true):∃b,Fx N p f=some b/\Dk N p f=some b:=by
 have hF:=P.le;unfold Fx Dk Di;rw[hs,hv];simp only[ou,pq,qC,pD,pV,AI,P.len];rw[Dx,BE (n:=(F:Int)-1) (by omega) (by omega)];simp only[ou];by_cases h1:f<1
 .have:¬ (1<=f):=by omega
  exact⟨false,by simp[this],by simp[h1]⟩
 .by_cases h2:(F:Int)<=f
  .have:¬ (f<=(F:Int)-1):=by omega
   exact⟨false,by simp[this],by simp[h2]⟩
  .obtain⟨k,rfl⟩:=pb (by omega:0<=f);have hk:k<F:=by omega
   obtain⟨g,hg,_⟩:=Bi (l:=p.funcs) (i:=k) (by rw[P.len];omega);have c1:(1:Int)<=(k:Int):=by omega
   have c2:(k:Int)<=(F:Int)-1:=by omega
   have hl:=W6 (p:=p) (F:=F) (k:=k);have L1:=EH (l:=cl p F k) (DN N p (k:Int) (cl p F k)) (λ_ c=>decide (¬ Re p F c.toNat k)) (λn=>by rw[DN,pJ (by simp[AI])]) (λn i c hc=>by
    have vk:=(pA.1 hc).1;have hcF:=S6 P c (ov hc);obtain⟨j,rfl⟩:=pb hcF.1;obtain⟨m,a1,a2⟩:=Ps P (c:=j) (by omega) hN;rw[DN,pI (by simp[AI];omega),Aw hc];simp only[ou];rw[a1];simp only[ou];rw[YS (by omega) hk hN,BE (n:=(i:Int)+1) (by omega) (by omega),show ((i:Int)+1)=((i+1:Nat):Int) by omega];simp only[ou,qP];have:=a2 k hk;by_cases hr:Re p F j k
    .simp[this.2 hr,hr]
    .have:m k=false:=by
      cases hm:m k with
      |false=>rfl
      |true=>exact absurd (this.1 hm) hr
     simp[this,hr]) (by omega:(cl p F k).length<N)
   have L2:=EH (l:=cl p F k) (DM N p (k:Int) (cl p F k)) (λ_ c=>decide (¬ Re p F c.toNat k)) (λn=>by rw[DM,pJ (by simp[AI])]) (λn i c hc=>by
    have vk:=(pA.1 hc).1;have hcF:=S6 P c (ov hc);obtain⟨j,rfl⟩:=pb hcF.1;obtain⟨m,a1,a2⟩:=P4 P (c:=j) (by omega) hN hv;rw[DM,pI (by simp[AI];omega),Aw hc];simp only[ou];rw[a1];simp only[ou];rw[Ti (by rw[Lq];have:=Tc m F 0;omega) hN,BE (n:=(i:Int)+1) (by omega) (by omega),show ((i:Int)+1)=((i+1:Nat):Int) by omega];simp only[ou,qP,mem_mk hk];have:=a2 k hk;by_cases hr:Re p F j k
    .simp[this.2 hr,hr]
    .have:m k=false:=by
      cases hm:m k with
      |false=>rfl
      |true=>exact absurd (this.1 hm) hr
     simp[this,hr]) (by omega:(cl p F k).length<N)
   have hco:G9 N p (k:Int)=some (cl p F k):=by
    unfold G9;rw[hv];have b1:decide ((k:Int)<0)=false:=rH (by omega);have b2:decide ((F:Int)<=(k:Int))=false:=rH (by omega);simp only[ou,qC,pD,pV,b1,AI,P.len,b2];rw[OF P hg hN];simp only[ou];rw[Q1 P hN];rfl
   refine⟨E7 (λ_ c=>decide (¬ Re p F c.toNat k)) 0 (cl p F k),?_,?_⟩
   .simp only[c1,c2,pW,sy,qC,pD,pV];rw[Aw hg];simp only[ou];rw[OJ P hg hN];simp only[ou];rw[L1,EN];cases E7 (λ(_:Nat) (c:Int)=>decide (¬ Re p F c.toNat k)) 0 (cl p F k)<;>rfl
   .simp only[h1,h2,pa,pD,pV,ou];rw[hco];simp only[ou];rw[L2,EN];cases E7 (λ(_:Nat) (c:Int)=>decide (¬ Re p F c.toNat k)) 0 (cl p F k)<;>rfl
end RC
namespace RC
open Go
section
variable {p : AJ} {R1 : AJ -> List Int -> AD -> Option Int} {R2 : List Int -> BO -> AD -> Option Int} {T : List Int -> AD -> Int} {e : AD} {v : List Int} {N : Nat}
theorem lk (S:FB p.decls p.funcs){t:Int}(hB:Bt N R1 p v e=some t)(ht:t≠-1)(h:e.op=9∨e.op=10):0<=e.num/\e.num<(p.funcs.length:Int):=by
 have hF:=S.J2;by_cases hr:0<=e.num/\e.num<=(p.funcs.length:Int)-1
 .omega
 .exfalso;apply ht;have hb:(decide (0<=e.num)&&decide (e.num<=(p.funcs.length:Int)-1))=false:=by
   rw[<- Bool.decide_and];exact rH hr
  unfold Bt Fm at hB;rcases h with h|h;all_goals
   simp only[h,Int.reduceEq,pW,pa,pD,pq,pV,ou]at hB;rw[Dx,AI p.funcs,BE (n:=(p.funcs.length:Int)-1) (by omega) (by omega),hb]at hB;simpa [Sh.cont] using hB.symm
theorem VH {l:List Int}(h:MU l≠-1):∀x∈l,x≠-1:=by
 cases l with
 |nil=>exact absurd rfl h
 |cons a r=>
  simp only[MU]at h;by_cases hr:r.all (λx=>decide (x=a))=true
  .rw[pI hr]at h;intro x hx;rcases pK.1 hx with rfl|hx
   .exact h
   .have:=pG.1 hr x hx;simp only[pP]at this;rw[this];exact h
  .rw[pJ hr]at h;exact absurd rfl h
theorem bj (H:LH p (FF p) R1 R2 T (en e))(V:IS p e v)(S:FB p.decls p.funcs)(hN:2000000<=N){t:Int}(hB:Al N R2 v (FF p) e=some t)(ht:t≠-1):
  ∀k∈e.kids,∃m:List Int,m.length<=3/\(∀x∈m,DZ p.decls x=true)/\T (v++m) k≠-1:=by
 have hv:v.length<=1000:=by have:=V.len;omega
 have nil:∀k,T v k≠-1->∃m:List Int,m.length<=3/\(∀x∈m,DZ p.decls x=true)/\T (v++m) k≠-1:=λk h=>⟨[],by simp,λx hx=>(by cases hx),by simpa using h⟩;by_cases vt:e.op=12
 .unfold Al at hB;simp only[vt,pW,pq]at hB;intro k hk;have:0<Sh.len e.kids:=by rw[AI];have:=List.length_pos_of_mem hk;omega
  simp only[this,pW,pq,ou,pC]at hB;exact absurd hB.symm ht
 by_cases h13:e.op=13
 .unfold Al at hB;simp only[h13,Int.reduceEq,pW,pa,pD,pq,pV]at hB;by_cases hl:e.kids.length=2
  .obtain⟨a,b,hk⟩ :∃a b,e.kids=[a,b]:=by
    match hk:e.kids,hl with
    | [a,b],_=>exact⟨a,b,rfl⟩
   have vV:a∈e.kids:=by rw[hk];simp
   have yH:b∈e.kids:=by rw[hk];simp
   obtain⟨a1,a2,a3⟩:=H v a (V.CS.kids a vV) (Ca vV) (V.KH vV) V.Jk;have g0:Sh.get e.kids 0=some a:=by rw[hk];rfl
   have g1:Sh.get e.kids 1=some b:=by rw[hk];rfl
   rw[g0,g1]at hB;simp only[ou,AI,hl]at hB;rw[a2]at hB;simp only[ou]at hB;by_cases hn:e.num=0
   .by_cases h0:T v a<0
    .simp[hn,h0]at hB;exact absurd hB.symm ht
    .have hty:DZ p.decls (T v a)=true:=a3.resolve_left (by omega);obtain⟨b1,b2,b3⟩:=H (v++[T v a]) b (V.CS.kids b yH) (Ca yH) (V.more yH (by simp)) (V.XI (by simp[hty]));rw[DH v [T v a] 8 (by simp;omega) (by simp;omega)]at hB;simp only[ou,b2]at hB;simp[hn,h0]at hB;intro k xU;rw[hk]at xU;simp only[pK,pj,qb]at xU;rcases xU with rfl|rfl
     .exact nil _ (by omega)
     .exact⟨[T v a],by simp,by simp[hty],by rw[hB];exact ht⟩
   .simp[hn]at hB;exact absurd hB.symm ht
  .have:¬ ((e.kids.length:Int)=2):=by omega
   simp[AI,this]at hB;exact absurd hB.symm ht
 by_cases h7:e.op=7
 .unfold Al at hB;simp only[h7,Int.reduceEq,pW,pa,pD,pq,pV]at hB;by_cases hl:e.kids.length=3
  .obtain⟨a,b,c,hk⟩ :∃a b c,e.kids=[a,b,c]:=by
    match hk:e.kids,hl with
    | [a,b,c],_=>exact⟨a,b,c,rfl⟩
   have vV:a∈e.kids:=by rw[hk];simp
   have yH:b∈e.kids:=by rw[hk];simp
   have hmc:c∈e.kids:=by rw[hk];simp
   obtain⟨a1,a2,a3⟩:=H v a (V.CS.kids a vV) (Ca vV) (V.KH vV) V.Jk;have g0:Sh.get e.kids 0=some a:=by rw[hk];rfl
   have g3:Sh.sl e.kids 1 3=some [b,c]:=by rw[hk];rfl
   have o:=LC (ks:=[b,c]) (ms:=[[],[]]) H V hN (by intro k hk;simp only[pK,pj,qb]at hk;rcases hk with rfl|rfl<;>assumption) (by simp) rfl (by simp);have mk2:Sh.mk ([]:List Int) 2 24=some [[],[]]:=OG [] 2 24 (by omega) (by omega);rw[g0]at hB;simp only[ou,AI,hl]at hB;rw[a2,show ((3:Nat):Int)=3 from rfl,g3,mk2]at hB;simp only[ou]at hB;rw[o]at hB;by_cases hn:e.num=0
   .by_cases h0:T v a=0
    .simp[hn,h0]at hB;have hal:=VH (l:=[T v b,T v c]) (by rw[hB];exact ht);intro k xU;rw[hk]at xU;simp only[pK,pj,qb]at xU;rcases xU with rfl|rfl|rfl
     .exact nil _ (by omega)
     .exact nil _ (hal _ (by simp))
     .exact nil _ (hal _ (by simp))
    .simp[hn,h0]at hB;exact absurd hB.symm ht
   .simp[hn]at hB;exact absurd hB.symm ht
  .have:¬ ((e.kids.length:Int)=3):=by omega
   simp[AI,this]at hB;exact absurd hB.symm ht
 by_cases h8:e.op=8
 .have xz:=V.KX;have hD:=S.Pr;have hn:=S.nc;have hCl:=NT S.V7 e.num;unfold Al at hB;simp only[h8,Int.reduceEq,pW,pa,pD,pq,pV]at hB;rw[show (FF p).decls=p.decls from rfl,JJ (by omega) (by omega) hN]at hB;simp only[ou]at hB;generalize hCe:CO p.decls e.num=C at hCl hB;have hCm:∀c∈C,Bs N p.decls c=some (Gf p.decls c)/\Eg N p.decls c=some (Gf p.decls c)/\(Gf p.decls c).length<=3/\∀x∈Gf p.decls c,DZ p.decls x=true:=λc hc=>RN S (hCe▸hc) hN;rw[AI C,AI e.kids,BE (n:=1+(C.length:Int)) (by omega) (by omega)]at hB;by_cases h0:C.length=0
  .simp[h0]at hB;exact absurd hB.symm ht
  .have yk:¬ ((C.length:Int)=0):=by omega
   have uq:¬ C=[]:=λq=>h0 (by rw[q];rfl);by_cases h1:e.kids.length=1+C.length
   .have xG:((e.kids.length:Int)=1+(C.length:Int)):=by omega
    obtain⟨a,r,wq⟩ :∃a r,e.kids=a::r:=by
     cases hq:e.kids with
     |nil=>rw[hq]at h1;simp at h1;omega
     |cons a r=>exact⟨a,r,rfl⟩
    have ye:r.length=C.length:=by rw[wq]at h1;simp at h1;omega
    have vV:a∈e.kids:=by rw[wq];simp
    have hmr:∀k∈r,k∈e.kids:=λk hk=>by rw[wq];simp[hk]
    obtain⟨a1,a2,a3⟩:=H v a (V.CS.kids a vV) (Ca vV) (V.KH vV) V.Jk;have g0:Sh.get e.kids 0=some a:=by rw[wq];rfl
    have g3:Sh.sl e.kids 1 (e.kids.length:Int)=some r:=by
     unfold Sh.sl;rw[pI ⟨by omega,by omega,by omega⟩,wq];simp
    have mkC:Sh.mk ([]:List Int) (C.length:Int) 24=some (List.replicate C.length []):=OG [] C.length 24 (by omega) (by omega);have o:=LC (ks:=r) (ms:=C.map (Gf p.decls)) H V hN hmr (by omega) (by simp[ye]) (by
     intro m hm;obtain⟨c,hc,rfl⟩:=pQ.1 hm;exact (hCm c hc).2.2)
    have FL:=PQ (p:=p) S hN hCl λc hc=>(hCm c hc).2.1;rw[g0,g3,mkC]at hB;simp only[ou]at hB;rw[a2,FL]at hB;simp only[ou]at hB;rw[o]at hB;by_cases hta:T v a=e.num
    .simp[uq,xG,hta]at hB;have hal:=VH (by rw[hB];exact ht);intro k xU;rw[wq]at xU;rcases pK.1 xU with rfl|xU
     .refine nil _ λhq=>?_;have hneg:e.num=-1:=by rw[<- hta];exact hq
      rw[hneg]at hCe;exact h0 (by rw[<- hCe];simp[CO])
     .obtain⟨i,hi⟩:=pY.1 xU;have vk:=(pA.1 hi).1;obtain⟨c,hc,wH⟩:=Bi (l:=C) (i:=i) (by omega);refine⟨Gf p.decls c,(hCm c wH).2.2.1,(hCm c wH).2.2.2,hal _ (pY.2 ⟨i,?_⟩)⟩;rw[rD,pB,hc,hi];rfl
    .simp[uq,xG,hta]at hB;exact absurd hB.symm ht
   .have xG:¬ ((e.kids.length:Int)=1+(C.length:Int)):=by omega
    simp[uq,xG]at hB;exact absurd hB.symm ht
 rw[Fz H V hN vt h13 h7 h8]at hB;by_cases h:(e.kids.map (T v)).any (λt=>decide (t<0))=true
 .rw[pI h]at hB;simp at hB;exact absurd hB.symm ht
 .intro k hk;refine nil k λhq=>h ?_;exact rZ.2 ⟨T v k,rC hk,by rw[hq];rfl⟩
end
end RC
namespace RC
open Go
theorem Zk {x:Int}:∀{l:List AD},x∈Fl l->∃k∈l,x∈HY k
 | [],h=>by cases h
 |a::r,h=>by
  simp only[Fl,pX]at h;rcases h with h|h
  .exact⟨a,by simp,h⟩
  .obtain⟨k,hk,hx⟩:=Zk h;exact⟨k,by simp[hk],hx⟩
def TT (p:AJ)(N:Nat)(T:List Int->AD->Int):Prop:=∀(v:List Int) (e:AD),Aj e->en e<31->v.length+3*en e<=1000->(∀x∈v,DZ p.decls x=true)->
  ∀n1 n2,31<=n1->31<=n2->Cj N n1 p v e=some (T v e)/\Bc N n2 v (FF p) e=some (T v e)/\(T v e=-1∨DZ p.decls (T v e)=true)
theorem jr {p:AJ}(S:FB p.decls p.funcs){N:Nat}(hN:2000000<=N){T:List Int->AD->Int}(hT:TT p N T):∀(n:Nat) (e:AD) (v:List Int),en e<=n->n<=30->IS p e v->T v e≠-1->VV p.funcs.length (HY e):=by
 intro n
 induction n with
 |zero=>intro e _ h;have:=Fi e;omega
 |succ n ih=>
  intro e v he hn V ht x hx;have H:LH p (FF p) (Cj N 31) (Bc N 31) T (en e):=λv e a b c d=>hT v e a (by omega) c d 31 31 (pL _) (pL _);obtain⟨q1,q2,_⟩:=hT v e V.CS (by omega) V.len V.Jk 32 32 (by omega) (by omega);rw[Cj]at q1;rw[Bc]at q2;rw[IA,pX]at hx;rcases hx with hx|hx
  .unfold Mi at hx;by_cases h:e.op=9∨e.op=10
   .rw[pI h]at hx;have:x=e.num:=by simpa using hx
    rw[this];exact lk S q1 ht h
   .rw[pJ h]at hx;cases hx
  .obtain⟨k,hk,hxk⟩:=Zk hx;have hke:=Ca hk;obtain⟨m,m1,m2,m3⟩:=bj H V S hN q2 ht k hk;exact ih k (v++m) (by omega) (by omega) ⟨V.more hk m1,V.XI m2,by omega,V.CS.kids k hk⟩ m3 x hxk
theorem VT {p:AJ}(S:Ds p){N:Nat}(hN:2000000<=N)(hv:BM N p=some true):PO p p.funcs.length:=by
 obtain⟨b,h1,_,h3⟩:=Gj S hN;rw[hv]at h1;cases h1;obtain⟨SO,zH⟩:=h3 rfl;obtain⟨T,hT⟩:=O3 SO hN 31;have hl:=S.J2;refine⟨rfl,SO.J2,zH,λf hf=>?_⟩;obtain⟨q1,q2,q3⟩:=SO.NS f hf;have he:=zH f hf;have V:IS p f.body f.params:=⟨by omega,q2,by omega,(S.fin hf).body⟩
 have L1:=EH (l:=p.funcs) (Bl N p) (λ_ f=>HK p T f) (λn=>by rw[Bl,pJ (by simp[AI])]) (λn i f hi=>by
  have vk:=(pA.1 hi).1;have hf:=ov hi;obtain⟨q1,q2,q3⟩:=SO.NS f hf;have he:=zH f hf;have ty:KJ N p f.params f.body=some (T f.params f.body):=(hT f.params f.body (S.fin hf).body (by omega) (by omega) q2 N N (by omega) (by omega)).1;rw[Bl,pI (by simp[AI];omega),Aw hi];simp only[ou];rw[Gk (S.fz hf).2 hN,BE (by omega) (by omega),show ((i:Int)+1)=((i+1:Nat):Int) by omega];simp only[ou];unfold HK;rw[pI he,pJ (by simp),ty];by_cases hr:T f.params f.body=f.result<;>simp[he,hr]) (by omega:p.funcs.length<N)
 rw[GC]at L1;have hs:p.funcs.all (HK p T)=true:=by
  unfold BM at hv;rw[Nf S hN]at hv;simp only[ou]at hv;cases yj:Mg p with
  |false=>rw[yj]at hv;simp at hv
  |true=>
   rw[yj]at hv;simp only[qC,pD,pV]at hv;rw[L1,EN]at hv;cases hb:p.funcs.all (HK p T) with
   |true=>rfl
   |false=>rw[hb]at hv;simp at hv
 have hb:=pG.1 hs f hf;unfold HK at hb;simp only[pZ,pP]at hb;exact jr SO hN hT 30 f.body f.params he (pL _) V (by rw[hb.2];have:=(Lc q3).1;omega)
theorem Wc {p:AJ}(S:Ds p){f:Int}{N:Nat}(hN:2000000<=N):∃b,Fx N p f=some b/\Dk N p f=some b:=by
 obtain⟨b,h1,h2,_⟩:=Gj S hN;cases b with
 |true=>exact Yg (VT S hN h1) hN h1 h2
 |false=>
  unfold Fx Dk;rw[h1,h2];exact⟨false,by simp,by simp⟩
end RC
namespace RC
open Go
def oT (o n:Int):List AD->AD
 |c::d::k=>if o=11/\c.op=10 then .mk 9 c.num (c.kids++[d]) else .mk o n (c::d::k)
 |k=>.mk o n k
mutual
def kn:AD->AD|.mk o n k=>oT o n (nz k)
def nz:List AD->List AD|[]=>[]|e::l=>kn e::nz l
end
def K2 (e:AD):Prop:=e.op=11->2<=e.kids.length
theorem bF {N:Nat}(hN:2000000<=N):∀(n:Nat) (k:List AD),CJ k<n->CJ k<=1000->DJ N n k=some k:=by
 intro n
 induction n with
 |zero=>intro k h;omega
 |succ n ih=>
  intro k hk hs;have hlen:=HF k;rw[DJ];unfold Hx;have key:∀(M i:Nat),i<=k.length->k.length-i<M->CT k (DJ N n) M i (k.take i)=some k:=by
   intro M i hi hM;refine BS k.length (λM i=>CT k (DJ N n) M i (k.take i)=some k) ?_ ?_ hi hM
   .intro m;rw[CT,pJ (by simp[AI]),qq]
   .intro m i hi xH;obtain⟨e,he,hem⟩:=Bi hi;have h1:=I3 hem;have h2:=Ft e;rw[CT,pI (by simp[AI];omega),Aw he];simp only[ou,Jq];rw[ih e.kids (by omega) (by omega)];simp only[ou];rw[<- KI,DH _ _ 40 (by simp;omega) (by simp;omega),BE (by omega) (by omega),show ((i:Int)+1)=((i+1:Nat):Int) by omega];simp only[ou];rw[<- EM he];exact xH
  have:=key N 0 (pT _) (by omega);rw[qs,tk]at this;rw[this];rfl
theorem Yn {N:Nat}(hN:2000000<=N){k:List AD}(hs:CJ k<=1000):Hm N k=some k:=by
 unfold Hm;exact bF hN N k (by omega) hs
theorem ZE {N:Nat}(hN:2000000<=N){e:AD}(hs:CJ e.kids<=1000):Ic N e=some e:=by
 unfold Ic;rw[Yn hN hs];simp only[ou];rw[<- KI]
end RC
namespace RC
open Go
end RC
namespace RC
open Go
end RC
namespace RC
open Go
theorem cf {N:Nat}(hN:2000000<=N):∀(n:Nat) (e:AD),en e<=n->en e<=1000->Aj e->EG N n e 0 0=some e:=by
 intro n
 induction n with
 |zero=>intro e h;have:=Fi e;omega
 |succ n ih=>
  intro e hn hs hI;have hlen:=HF e.kids;have he:=Ft e;obtain⟨n1,n2⟩:=hI.num;rw[EG];unfold JA;have key:∀(M i:Nat),i<=e.kids.length->e.kids.length-i<M->Cn e 0 0 (EG N n) M i (e.kids.take i)=some e.kids:=by
   intro M i hi hM;refine BS e.kids.length (λM i=>Cn e 0 0 (EG N n) M i (e.kids.take i)=some e.kids) ?_ ?_ hi hM
   .intro m;rw[Cn,pJ (by simp[AI]),qq]
   .intro m i hi xH;obtain⟨c,hc,wH⟩:=Bi hi;have h1:=I3 wH;rw[Cn,pI (by simp[AI];omega),Aw hc];simp only[ou];rw[ih c (by omega) (by omega) (hI.kids c wH)];simp only[ou];rw[DH _ _ 40 (by simp;omega) (by simp;omega),BE (by omega) (by omega),show ((i:Int)+1)=((i+1:Nat):Int) by omega];simp only[ou];rw[<- EM hc];exact xH
  have:=key N 0 (pT _) (by omega);rw[qs,tk]at this;rw[this,Int.add_zero,BE (by omega) (by omega)];have hn:((
   Option.bind (
    if decide (e.op=12)=true then
     some (decide (0<=e.num))
    else
     some false
   ) λt25=>
   if t25=true then
    some e.num
   else
    some e.num
  ).bind λf3=>(some e.kids).bind λl11=>some (AD.mk e.op f3 l11))=some (AD.mk e.op e.num e.kids):=by
   by_cases h:e.op=12
   .rw[pI (by simpa using h)];simp
   .rw[pJ (by simpa using h)];simp
  rw[hn,<- KI]
theorem ZF {N:Nat}(hN:2000000<=N){e:AD}(hs:en e<=1000)(hI:Aj e):JH N e=some e:=by
 unfold JH Gs;rw[cf hN N e (by omega) hs hI];rfl
end RC
namespace RC
open Go
theorem Uy {N:Nat}(hN:2000000<=N){p:AJ}(hd:p.decls.length<=1048576)(hz :∀d∈p.decls,dz d<=1048576)(hf:p.funcs.length<=1048576)(hb :∀f∈p.funcs,f.params.length<=1048576/\en f.body<=1000/\Aj f.body):Hf N p=some p:=by
 unfold Hf;rw[X2 hd hz hN];simp only[ou];have key:∀(M i:Nat),i<=p.funcs.length->p.funcs.length-i<M->DT N p M i (p.funcs.take i)=some p.funcs:=by
  intro M i hi hM;refine BS p.funcs.length (λM i=>DT N p M i (p.funcs.take i)=some p.funcs) ?_ ?_ hi hM
  .intro m;rw[DT,pJ (by simp[AI]),qq]
  .intro m i hi ih;obtain⟨f,yM,hfm⟩:=Bi hi;obtain⟨b1,b2,b3⟩:=hb f hfm;rw[DT,pI (by simp[AI];omega),Aw yM];simp only[ou];have xZ:CN f.params=some f.params:=by
    unfold CN;rw[DH _ _ _ (by simp;omega) (by simp;omega)];rfl
   rw[xZ,ZF hN b2 b3];simp only[ou];rw[DH _ _ 72 (by simp;omega) (by simp;omega),BE (by omega) (by omega),show ((i:Int)+1)=((i+1:Nat):Int) by omega];simp only[ou];have e:AU.mk f.params f.result f.body=f:=by cases f;rfl
   rw[e,<- EM yM];exact ih
 have:=key N 0 (pT _) (by omega);rw[qs,tk]at this;rw[this];cases p;rfl
end RC
namespace RC
open Go
end RC
namespace RC
open Go
end RC
namespace RC
open Go
end RC
namespace RC
open Go
section
variable {p : AJ} {R1 : AJ -> List Int -> AD -> Option Int} {R2 : List Int -> BO -> AD -> Option Int} {T : List Int -> AD -> Int} {e : AD} {v : List Int} {N : Nat}
end
theorem jW {p:AJ}(S:Ds p){N:Nat}(hN:2000000<=N)(hv:BM N p=some true):FB p.decls p.funcs/\∃T,TT p N T/\∀f∈p.funcs,en f.body<=30/\IS p f.body f.params/\DZ p.decls f.result=true/\T f.params f.body=f.result:=by
 obtain⟨b,h1,_,h3⟩:=Gj S hN;rw[hv]at h1;cases h1;obtain⟨SO,zH⟩:=h3 rfl;obtain⟨T,hT⟩:=O3 SO hN 31;have hl:=S.J2;refine⟨SO,T,hT,λf hf=>?_⟩;obtain⟨q1,q2,q3⟩:=SO.NS f hf;have he:=zH f hf;have V:IS p f.body f.params:=⟨by omega,q2,by omega,(S.fin hf).body⟩
 have L1:=EH (l:=p.funcs) (Bl N p) (λ_ f=>HK p T f) (λn=>by rw[Bl,pJ (by simp[AI])]) (λn i f hi=>by
  have vk:=(pA.1 hi).1;have hf:=ov hi;obtain⟨q1,q2,q3⟩:=SO.NS f hf;have he:=zH f hf;have ty:KJ N p f.params f.body=some (T f.params f.body):=(hT f.params f.body (S.fin hf).body (by omega) (by omega) q2 N N (by omega) (by omega)).1;rw[Bl,pI (by simp[AI];omega),Aw hi];simp only[ou];rw[Gk (S.fz hf).2 hN,BE (by omega) (by omega),show ((i:Int)+1)=((i+1:Nat):Int) by omega];simp only[ou];unfold HK;rw[pI he,pJ (by simp),ty];by_cases hr:T f.params f.body=f.result<;>simp[he,hr]) (by omega:p.funcs.length<N)
 rw[GC]at L1;have hs:p.funcs.all (HK p T)=true:=by
  unfold BM at hv;rw[Nf S hN]at hv;simp only[ou]at hv;cases yj:Mg p with
  |false=>rw[yj]at hv;simp at hv
  |true=>
   rw[yj]at hv;simp only[qC,pD,pV]at hv;rw[L1,EN]at hv;cases hb:p.funcs.all (HK p T) with
   |true=>rfl
   |false=>rw[hb]at hv;simp at hv
 have hb:=pG.1 hs f hf;unfold HK at hb;simp only[pZ,pP]at hb;exact⟨he,V,q3,hb.2⟩
end RC
namespace RC
open Go
end RC
namespace RC
open Go
end RC
