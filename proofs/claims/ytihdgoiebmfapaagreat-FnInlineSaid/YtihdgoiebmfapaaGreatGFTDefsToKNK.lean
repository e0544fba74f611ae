import Derived.Test.YtihdgoiebmfapaaGreatGHADefsToNLDefs
set_option linter.all false
namespace RC
end RC
namespace RC
open Go
theorem BE {n:Int}(h1:-9223372036854775808<=n)(h2:n<=9223372036854775807):Sh.w n=n:=Abs.wrap_i64 h1 h2
theorem AI {α:Type}(l:List α):Sh.len l=(l.length:Int):=rfl
theorem Q9 {α:Type}(l:List α)(i:Nat):Sh.get l (i:Int)=l[i]?:=by
 unfold Sh.get;rw[pJ (sN i)];simp
theorem Ax {α:Type}{l:List α}{i:Nat}{x:α}(h:l[i]?=some x):Sh.get l (i:Int)=some x:=by rw[Q9,h]
theorem Oc {α:Type}{l:List α}{j:Int}(h0:0<=j)(h1:j<l.length):∃x,Sh.get l j=some x/\l[j.toNat]?=some x:=by
 have h:l[j.toNat]?=some (l[j.toNat]'(by omega)):=pG (by omega);exact⟨_,by unfold Sh.get;rw[pJ h0,h],h⟩
theorem ZL {α:Type}{l:List α}{j:Int}(h0:0<=j):Sh.get l j=l[j.toNat]?:=by unfold Sh.get;rw[pJ h0]
theorem Om {α:Type}(l:List α)(i:Nat)(x:α):Sh.put l (i:Int) x=l.set i x:=by simp[Sh.put]
theorem OJ {α:Type}(x:α)(n b:Nat)(h:n*b<=281474976710656)(h2:n<=9223372036854775807):Sh.mk x (n:Int) b=some (List.replicate n x):=by
 unfold Sh.mk;rw[pJ ⟨by omega,by rw[<- tI];omega,by omega⟩];simp
theorem DJ {α:Type}(l m:List α)(b:Nat)(h:(l.length+m.length)*b<=140737488355328)(h2:l.length+m.length<=9223372036854775807):Sh.app l m b=some (l++m):=by
 unfold Sh.app;rw[pJ ⟨h,h2⟩]
theorem kJ {α:Type}{l:List α}{j:Nat}(h:j<=l.length):Sh.hi l (j:Int)=some (l.take j):=by
 unfold Sh.hi;rw[pJ ⟨by omega,by omega⟩];simp
theorem BQ (len:Nat)(P:Nat->Nat->Prop)(h0 :∀n,P (n+1) len)(hs :∀n i,i<len->P n (i+1)->P (n+1) i):∀{N i:Nat},i<=len->len-i<N->P N i:=by
 intro N i hi hN;obtain⟨k,hk⟩ :∃k,len-i=k:=⟨_,rfl⟩
 induction k generalizing N i with
 |zero=>
  obtain⟨n,rfl⟩ :∃n,N=n+1:=⟨N-1,by omega⟩
  have:i=len:=by omega
  subst this;exact h0 n
 |succ k ih=>
  obtain⟨n,rfl⟩ :∃n,N=n+1:=⟨N-1,by omega⟩
  exact hs n i (by omega) (ih (by omega) (by omega) (by omega))
theorem Bh {α:Type}{l:List α}{i:Nat}(h:i<l.length):∃x,l[i]?=some x/\x∈l:=⟨l[i],pG h,rb h⟩
theorem EJ {α:Type}{l:List α}{j:Nat}{x:α}(h:l[j]?=some x):l.take (j+1)=l.take j++[x]:=by rw[List.take_add_one,h];rfl
theorem drop_cons {α:Type}{l:List α}{j:Nat}{x:α}(h:l[j]?=some x):l.drop j=x::l.drop (j+1):=by
 obtain⟨hj,rfl⟩:=pB.1 h;exact List.drop_eq_getElem_cons hj
def kG (h:List Cell):Nat:=(h.map λc=>c.fields.length).sum
def E9 (h:List Cell):Nat:=h.length+kG h
structure Hp (h:List Cell):Prop where
 size:E9 h<=1048576
 cells :∀c∈h,aW c
theorem gx {h:List Cell}{c:Cell}(hc:c∈h):c.fields.length<=kG h:=by
 induction h with
 |nil=>cases hc
 |cons d h ih=>
  simp only[kG,pd,rU]at ih⊢;rcases pL.1 hc with rfl|hc
  .omega
  .have:=ih hc;omega
theorem Hp.len {h:List Cell}(H:Hp h):h.length<=1048576:=by have:=H.size;unfold E9 at this;omega
theorem Hp.JL {h:List Cell}(H:Hp h){c:Cell}(hc:c∈h):c.fields.length<=1048576:=by have:=H.size;have:=gx hc;unfold E9 at *;omega
end RC
namespace RC
open Go
def FC {α:Type}(f:Nat->α->Bool):Nat->List α->Bool
 |_,[]=>true
 |k,x::r=>f k x&&FC f (k+1) r
theorem UT {α:Type}{f g:Nat->α->Bool}:∀(l:List α) (k:Nat),(∀(i:Nat) x,l[i]?=some x->f (k+i) x=g (k+i) x)->FC f k l=FC g k l
 | [],_,_=>rfl
 |x::r,k,h=>by
  have h0:=h 0 x rfl;rw[qp]at h0;have h1:=UT r (k+1) λi y hy=>(show k+(i+1)=k+1+i by omega)▸h (i+1) y hy;rw[FC,FC,h0,h1]
theorem GB {α:Type}{p:α->Bool}:∀(l:List α) (k:Nat),FC (λ_ x=>p x) k l=l.all p
 | [],_=>rfl
 |x::r,k=>by rw[FC,GB r (k+1),rR]
theorem EH {α:Type}{l:List α}(L:Nat->Int->Option (Bool⊕Unit))(f:Nat->α->Bool)(h0 :∀n,L (n+1) (l.length:Int)=some (.inr ()))
  (hs :∀n (i:Nat) x,l[i]?=some x->L (n+1) (i:Int)=if f i x=true then L n ((i+1:Nat):Int) else some (.inl false)) {N:Nat} (hN:l.length<N) :
  L N 0=some (if FC f 0 l=true then .inr () else .inl false):=by
 have key:∀{N i:Nat},i<=l.length->l.length-i<N->L N (i:Int)=some (if FC f i (l.drop i)=true then .inr () else .inl false):=by
  intro N i hi hN;refine BQ l.length (λN i=>L N (i:Int)=some (if FC f i (l.drop i)=true then .inr () else .inl false)) ?_ ?_ hi hN
  .intro n;rw[h0 n];simp[FC]
  .intro n i hi ih;obtain⟨x,hx,_⟩:=Bh hi;rw[hs n i x hx,ih,drop_cons hx,FC];cases h:f i x<;>simp
 have:=key (pT _) (by omega:l.length-0<N);simpa using this
theorem EM {β:Type}{b:Bool}{g:Bool->β}{K:Unit->Option β}:Sh.cont (some (if b=true then Sum.inr () else Sum.inl false)) g K=if b=true then K () else some (g false):=by
 cases b<;>rfl
theorem cb {α:Type}{l:List α}{j:Nat}(h:j<=l.length)(h2:l.length<=9223372036854775807):Sh.sl l 0 (j:Int)=some (l.take j):=by
 unfold Sh.sl;rw[pJ ⟨by omega,by omega,by omega⟩];simp
end RC
namespace RC
open Go
end RC
namespace RC
open Go
def mc (h:List Cell)(w:Int):Bool:=decide (1000<=w)&&(match h[(w-1000).toNat]? with|some c=>decide (0<c.count)|none=>false)
theorem Dn (a b c:Int):Cw a b c=some (decide (b<=a)&&decide (a<=c)):=by
 unfold Cw;by_cases h:b<=a<;>simp[h]
end RC
namespace RC
open Go
def Dc (D:List AL)(t:Int):Bool:=decide (0<=t)&&decide (t<=(D.length:Int))
theorem Nx {D:List AL}{x:Int}:Cw x 0 (Sh.len D)=some (Dc D x):=by rw[Dn];rfl
theorem N6 {D:List AL}{l:List Int}(hl:l.length<=1048576){N:Nat}(hN:l.length<N):Il N D l=some (l.all (Dc D)):=by
 unfold Il;rw[EH (l:=l) (Fg D l) (λ_ x=>Dc D x) (λn=>by rw[Fg,pK (by simp[AI])]) (λn i x hx=>?_) hN,EM,GB]
 .cases l.all (Dc D)<;>rfl
 .have hi:=(pB.1 hx).1;rw[Fg,pJ (by simp[AI];omega),Ax hx];simp only[ov];rw[Nx,BE (by omega) (by omega),show ((i:Int)+1)=((i+1:Nat):Int) by omega];simp only[ov];cases Dc D x<;>rfl
theorem Kf {D:List AL}{t:Int}:Hz D t=some (Dc D t):=by
 unfold Hz Dc;by_cases h:0<=t<;>by_cases h2:t<=(D.length:Int)<;>simp[h,h2,AI]
theorem LY {D:List AL}{l:List Int}(hl:l.length<=1048576){N:Nat}(hN:l.length<N):Hi N D l=some (l.all (Dc D)):=by
 unfold Hi;rw[EH (l:=l) (Ff D l) (λ_ x=>Dc D x) (λn=>by rw[Ff,pK (by simp[AI])]) (λn i x hx=>?_) hN,EM,GB]
 .cases l.all (Dc D)<;>rfl
 .have hi:=(pB.1 hx).1;rw[Ff,pJ (by simp[AI];omega),Ax hx];simp only[ov];rw[Kf,BE (by omega) (by omega),show ((i:Int)+1)=((i+1:Nat):Int) by omega];simp only[ov];cases Dc D x<;>rfl
def SL (D:List AL)(c:D6):Bool:=decide (c.fields.length<=3)&&c.fields.all (Dc D)
def IK (a b:AL):Bool:=decide (a.cons.length=0)&&(decide (a.from_=b.from_)&&decide (a.to=b.to))
def MX (D:List AL)(i:Nat)(d:AL):Bool:=
 if 0<d.cons.length then (decide (d.cons.length<=3)&&(decide (d.from_=0)&&decide (d.to=0)))&&d.cons.all (SL D)
 else (D.take i).all (λe=>!IK e d)&&(Dc D d.from_&&Dc D d.to)
def Ur (D:List AL)(i:Nat)(d:AL):Bool:=
 ((Dc D d.from_&&(Dc D d.to&&(decide (d.cons.length<=3)&&(!(decide (0<d.cons.length)&&(!decide (d.from_=0) || !decide (d.to=0)))))))&&d.cons.all (SL D))&&(D.take i).all (λe=>!(decide (d.cons.length=0)&&IK e d))
theorem fD (D:List AL)(i:Nat)(d:AL):Ur D i d=MX D i d:=by
 unfold Ur MX;by_cases h:0<d.cons.length
 .have h0:¬ d.cons.length=0:=by omega
  have ha:(D.take i).all (λe=>!(decide (d.cons.length=0)&&IK e d))=true:=by simp[h0]
  rw[pJ h,ha];by_cases h1:d.from_=0<;>by_cases h2:d.to=0<;>simp[h,h1,h2,Dc]
 .have h0:d.cons.length=0:=by omega
  have hc:d.cons=[]:=qN h0;rw[pK h];simp only[hc,h0,qj,List.all_nil,pX,sJ,tA];cases Dc D d.from_<;>cases Dc D d.to<;>simp
structure RU (D:List AL):Prop where
 len:D.length<=1048576
 cons :∀d∈D,d.cons.length<=1048576
 NJ :∀d∈D,∀c∈d.cons,c.fields.length<=1048576
theorem S7 {D:List AL}(hD:RU D){i:Nat}{d:AL}(hd:D[i]?=some d){N:Nat}(hN:2000000<=N):I8 N D i=some (MX D i d):=by
 have hm:=oz hd;have hi:=(pB.1 hd).1;have hlen:=hD.len;have hc:=hD.cons d hm;unfold I8 MX;rw[Ax hd];simp only[ov];by_cases h:0<d.cons.length
 .rw[pJ (by simp[AI];omega),pJ h];rw[EH (l:=d.cons) (FF N d D) (λ_ c=>SL D c) (λn=>by rw[FF,pK (by simp[AI])]) (λn j c hj=>?_) (by omega),EM,GB]
  .simp only[AI];by_cases h3:d.cons.length<=3
   .have e3:¬ (3:Int)<(d.cons.length:Int):=by omega
    generalize d.cons.all (SL D)=z;cases z<;>by_cases h1:d.from_=0<;>by_cases h2:d.to=0<;>simp[h1,h2,h3,e3]
   .have e3:(3:Int)<(d.cons.length:Int):=by omega
    simp[h3,e3]
  .have hj':=(pB.1 hj).1;have hf:=hD.NJ d hm c (oz hj);rw[FF,pJ (by simp[AI];omega),Ax hj];simp only[ov];rw[N6 hf (by omega),BE (by omega) (by omega),show ((j:Int)+1)=((j+1:Nat):Int) by omega];unfold SL;by_cases h3:c.fields.length<=3
   .have e3:¬ (3:Int)<(c.fields.length:Int):=by omega
    simp only[AI];cases c.fields.all (Dc D)<;>simp[h3,e3]
   .have e3:(3:Int)<(c.fields.length:Int):=by omega
    simp[h3,e3,AI]
 .have h0:d.cons.length=0:=by omega
  have e0:¬ decide ((0:Int)<Sh.len d.cons)=true:=by rw[AI,h0];simp
  rw[pK e0,pK h];have uV:(D.take i).length=i:=by simp;omega
  rw[EH (l:=D.take i) (FH d D i) (λ_ e=>!IK e d) (λn=>by rw[FH,pK (by simp;omega)]) (λn j e hj=>?_) (by omega),EM,GB]
  .rw[Nx,Nx];simp only[ov];cases (D.take i).all (λe=>!IK e d)<;>cases Dc D d.from_<;>simp
  .have hj':=(pB.1 hj).1;have hje:D[j]?=some e:=by rw[po]at hj;split at hj<;>first|exact hj|cases hj
   rw[FH,pJ (by simp;omega),Ax hje];simp only[ov];rw[BE (by omega) (by omega),show ((j:Int)+1)=((j+1:Nat):Int) by omega];unfold IK;simp only[AI];by_cases a0:e.cons.length=0<;>by_cases a1:e.from_=d.from_<;>by_cases a2:e.to=d.to<;>simp[a0,a1,a2]
def Nu (D:List AL):Bool:=decide (D.length<=4)&&FC (MX D) 0 D
theorem Ru {D:List AL}(hD:RU D){N:Nat}(hN:2000000<=N):Io N D=some (Nu D):=by
 have hlen:=hD.len;unfold Io Nu;rw[EH (l:=D) (Eo N D) (MX D) (λn=>by rw[Eo,pK (by simp[AI])]) (λn i d hd=>?_) (by omega),EM]
 .simp only[AI];by_cases h:D.length<=4
  .have e4:¬ (4:Int)<(D.length:Int):=by omega
   cases FC (MX D) 0 D<;>simp[h,e4]
  .have e4:(4:Int)<(D.length:Int):=by omega
   simp[h,e4]
 .have hi:=(pB.1 hd).1;rw[Eo,pJ (by simp[AI];omega),S7 hD hd hN];simp only[ov];rw[BE (by omega) (by omega),show ((i:Int)+1)=((i+1:Nat):Int) by omega];cases MX D i d<;>rfl
theorem Rl {D:List AL}(hD:RU D){N:Nat}(hN:2000000<=N):Ie N D=some (Nu D):=by
 have hlen:=hD.len;unfold Ie Nu;rw[<- UT (f:=Ur D) D 0 (λi d _=>fD D _ d)];rw[EH (l:=D) (Er N D) (Ur D) (λn=>by rw[Er,pK (by simp[AI])]) (λn i d hd=>?_) (by omega),EM]
 .simp only[AI];by_cases h:D.length<=4
  .have e4:¬ (4:Int)<(D.length:Int):=by omega
   cases FC (Ur D) 0 D<;>simp[h,e4]
  .have e4:(4:Int)<(D.length:Int):=by omega
   simp[h,e4]
 .have hi:=(pB.1 hd).1;have hm:=oz hd;have hc:=hD.cons d hm;have l2:ED N d D N 0=some (if d.cons.all (SL D)=true then .inr () else .inl false):=by
   rw[EH (l:=d.cons) (ED N d D) (λ_ c=>SL D c) (λn=>by rw[ED,pK (by simp[AI])]) (λn j c hj=>?_) (by omega),GB];have hj':=(pB.1 hj).1;have hf:=hD.NJ d hm c (oz hj);rw[ED,pJ (by simp[AI];omega),Ax hj];simp only[ov];rw[LY hf (by omega),BE (by omega) (by omega),show ((j:Int)+1)=((j+1:Nat):Int) by omega];unfold SL;by_cases h3:c.fields.length<=3
   .have e3:¬ (3:Int)<(c.fields.length:Int):=by omega
    simp only[AI];cases c.fields.all (Dc D)<;>simp[h3,e3]
   .have e3:(3:Int)<(c.fields.length:Int):=by omega
    simp[h3,e3,AI]
  have uV:(D.take i).length=i:=by simp;omega
  have l3:EB d (D.take i) N 0=some (if (D.take i).all (λe=>!(decide (d.cons.length=0)&&IK e d))=true then .inr () else .inl false):=by
   rw[EH (l:=D.take i) (EB d (D.take i)) (λ_ e=>!(decide (d.cons.length=0)&&IK e d)) (λn=>by rw[EB,pK (by simp[AI])]) (λn j e hj=>?_) (by omega),GB];have hj':=(pB.1 hj).1;rw[EB,pJ (by simp only[AI];simp;omega),Ax hj];simp only[ov];rw[BE (by omega) (by omega),show ((j:Int)+1)=((j+1:Nat):Int) by omega];unfold IK;simp only[AI];by_cases b0:d.cons.length=0<;>by_cases a0:e.cons.length=0<;>by_cases a1:e.from_=d.from_<;>by_cases a2:e.to=d.to<;>simp[a0,a1,a2,b0]
  rw[Er,pJ (by simp[AI];omega),Ax hd];simp only[ov];rw[Kf,Kf,l2,cb (by omega) (by omega),BE (by omega) (by omega),show ((i:Int)+1)=((i+1:Nat):Int) by omega];simp only[ov];rw[l3,EM,EM];unfold Ur;simp only[AI];generalize d.cons.all (SL D)=z1;generalize (D.take i).all (λe=>!(decide (d.cons.length=0)&&IK e d))=z2;by_cases h3:d.cons.length<=3
  .have e3:¬ (3:Int)<(d.cons.length:Int):=by omega
   by_cases h0:0<d.cons.length
   .have e0:(0:Int)<(d.cons.length:Int):=by omega
    cases Dc D d.from_<;>cases Dc D d.to<;>cases z1<;>cases z2<;>by_cases h1:d.from_=0<;>by_cases h2:d.to=0<;>simp[h1,h2,h3,e3,h0]
   .have e0:¬ (0:Int)<(d.cons.length:Int):=by omega
    cases Dc D d.from_<;>cases Dc D d.to<;>cases z1<;>cases z2<;>simp[h3,e3,h0]
  .have e3:(3:Int)<(d.cons.length:Int):=by omega
   cases Dc D d.from_<;>cases Dc D d.to<;>simp[h3,e3]
end RC
namespace RC
open Go
def Mh (ps ls:List Int)(i:Nat)(v:Int):Bool:=
 (decide (0<=v)&&decide (v<(ps.length:Int)))&&(!decide (ps[v.toNat]?=some 0)&&!(decide (0<i)&&decide (v<=(ls[i-1]?).getD 0)))
theorem gn {ls:List Int}{i:Nat}(h0:0<i)(hi:i<ls.length):∃x,ls[i-1]?=some x/\Sh.get ls (((i:Nat):Int)-1)=some x:=by
 obtain⟨x,hx,_⟩:=Bh (l:=ls) (i:=i-1) (by omega);exact⟨x,hx,by rw[show ((i:Int)-1)=((i-1:Nat):Int) by omega,Ax hx]⟩
theorem ZD {c:By}(hp:c.params.length<=1048576)(hl:c.Gb.length<=1048576){N:Nat}(hN:2000000<=N):EU c N 0=some (if FC (Mh c.params c.Gb) 0 c.Gb=true then .inr () else .inl false):=by
 refine EH (l:=c.Gb) (EU c) (Mh c.params c.Gb) (λn=>by rw[EU,pK (by simp[AI])]) (λn i v hv=>?_) (by omega);have hi:=(pB.1 hv).1;rw[EU,pJ (by simp[AI];omega),Ax hv];simp only[ov];rw[AI,BE (n:=(i:Int)+1) (by omega) (by omega),BE (n:=(i:Int)-1) (by omega) (by omega),show ((i:Int)+1)=((i+1:Nat):Int) by omega];unfold Mh;by_cases h0:0<=v
 .have yk:¬ v<0:=by omega
  by_cases h1:v<(c.params.length:Int)
  .have xH:¬ (c.params.length:Int)<=v:=by omega
   obtain⟨d,e1,e2⟩:=Oc h0 h1;rw[e1,e2];by_cases hi0:0<i
   .obtain⟨x,g1,g2⟩:=gn hi0 hi;rw[g1,g2];by_cases hc:d=0<;>by_cases hx:v<=x<;>simp[h0,yk,h1,xH,hc,hi0,hx]
   .by_cases hc:d=0<;>simp[h0,yk,h1,xH,hc,hi0]
  .have xH:(c.params.length:Int)<=v:=by omega
   simp[h0,yk,h1,xH]
 .have yk:v<0:=by omega
  simp[h0,yk]
def Oi (D:List AL)(ps:List Int)(r:Int):Bool:=decide (ps.length<=3)&&(ps.all (Dc D)&&Dc D r)
theorem U7 {p:AJ}(hf:p.funcs.length<=1048576)(hp :∀f∈p.funcs,f.params.length<=1048576){N:Nat}(hN:2000000<=N):EY N p N 0=some (if (p.funcs.all λf=>Oi p.decls f.params f.result)=true then .inr () else .inl false):=by
 rw[<- GB _ 0];refine EH (l:=p.funcs) (EY N p) (λ_ f=>Oi p.decls f.params f.result) (λn=>by rw[EY,pK (by simp[AI])]) (λn i f hi=>?_) (by omega);have xJ:=(pB.1 hi).1;have hpf:=hp f (oz hi);rw[EY,pJ (by simp[AI];omega),Ax hi];simp only[ov];rw[N6 hpf (by omega),Nx,BE (by omega) (by omega),show ((i:Int)+1)=((i+1:Nat):Int) by omega];unfold Oi;simp only[AI];by_cases h3:f.params.length<=3
 .have e3:¬ (3:Int)<(f.params.length:Int):=by omega
  generalize f.params.all (Dc p.decls)=z;cases z<;>cases Dc p.decls f.result<;>simp[h3,e3]
 .have e3:(3:Int)<(f.params.length:Int):=by omega
  simp[h3,e3]
theorem Uu {D:List AL}{l:List By}(hf:l.length<=1048576)(hp :∀f∈l,f.params.length<=1048576/\f.Gb.length<=1048576){N:Nat}(hN:2000000<=N):EX N D l N 0=some (if (l.all λf=>Oi D f.params f.result&&FC (Mh f.params f.Gb) 0 f.Gb)=true then .inr () else .inl false):=by
 rw[<- GB _ 0];refine EH (l:=l) (EX N D l) (λ_ f=>Oi D f.params f.result&&FC (Mh f.params f.Gb) 0 f.Gb) (λn=>by rw[EX,pK (by simp[AI])]) (λn i f hi=>?_) (by omega);have xJ:=(pB.1 hi).1;have hpf:=hp f (oz hi);rw[EX,pJ (by simp[AI];omega),Ax hi];simp only[ov];rw[LY hpf.1 (by omega),Kf,ZD hpf.1 hpf.2 hN,EM,BE (by omega) (by omega),show ((i:Int)+1)=((i+1:Nat):Int) by omega];unfold Oi;simp only[AI];generalize FC (Mh f.params f.Gb) 0 f.Gb=y;by_cases h3:f.params.length<=3
 .have e3:¬ (3:Int)<(f.params.length:Int):=by omega
  generalize f.params.all (Dc D)=z;cases z<;>cases Dc D f.result<;>cases y<;>simp[h3,e3]
 .have e3:(3:Int)<(f.params.length:Int):=by omega
  simp[h3,e3]
end RC
namespace RC
open Go
def Z1 (D:List (List Int×Int)):Bool:=match D with|[]=>false|(ps,r)::_=>decide (ps.length=0)&&decide (r=0)
def PZ (D:List AL)(l:List (List Int×Int)):Bool:=Nu D&&((decide (1<=l.length)&&decide (l.length<=4))&&(l.all (λs=>Oi D s.1 s.2)&&Z1 l))
theorem SQ {p:AJ}(hD:RU p.decls)(hf:p.funcs.length<=1048576)(hp :∀f∈p.funcs,f.params.length<=1048576){N:Nat}(hN:2000000<=N):Hs N p=some (PZ p.decls (p.funcs.map λf=>(f.params,f.result))):=by
 unfold Hs PZ;rw[Ru hD hN,U7 hf hp hN,EM,Dn];simp only[ov,pR,List.all_map,sw];cases Nu p.decls with
 |false=>simp
 |true=>
  cases hl:p.funcs with
  |nil=>simp[AI]
  |cons f r=>
   have e0:Sh.get (f::r) 0=some f:=rfl;rw[e0];generalize (f::r).all (λf=>Oi p.decls f.params f.result)=z;simp only[pd,Z1];have q1:decide ((1:Int)<=Sh.len (f::r))=true:=sU (by rw[AI,pq];omega);have q2:decide (1<=(f::r).length)=true:=by simp
   have q3:decide (Sh.len (f::r)<=4)=decide ((f::r).length<=4):=rh.2 (by rw[AI];omega);have q4:decide (Sh.len f.params=0)=decide (f.params.length=0):=rh.2 (by rw[AI];omega);simp only[q1,q2,q3,q4,ov];cases decide ((f::r).length<=4)<;>cases z<;>by_cases a1:f.params.length=0<;>by_cases a2:f.result=0<;>simp[a1,a2]
theorem SV {D:List AL}{l:List By}(hD:RU D)(hf:l.length<=1048576)(hp :∀f∈l,f.params.length<=1048576/\f.Gb.length<=1048576){N:Nat}(hN:2000000<=N):
  I6 N D l=some (PZ D (l.map λf=>(f.params,f.result))&&l.all (λf=>FC (Mh f.params f.Gb) 0 f.Gb)):=by
 unfold I6 PZ;rw[Rl hD hN,Uu hf hp hN,EM];have xl:(l.all λf=>Oi D f.params f.result&&FC (Mh f.params f.Gb) 0 f.Gb)=((l.all λf=>Oi D f.params f.result)&&(l.all λf=>FC (Mh f.params f.Gb) 0 f.Gb)):=by
  clear hf hp
  induction l with
  |nil=>rfl
  |cons f r ih=>
   simp only[rR,ih];cases Oi D f.params f.result<;>cases FC (Mh f.params f.Gb) 0 f.Gb<;>simp
 rw[xl];simp only[ov,pR,List.all_map,sw];cases Nu D with
 |false=>simp
 |true=>
  cases hl:l with
  |nil=>simp[AI]
  |cons f r=>
   have e0:Sh.get (f::r) 0=some f:=rfl;rw[e0];generalize (f::r).all (λf=>Oi D f.params f.result)=z;generalize (f::r).all (λf=>FC (Mh f.params f.Gb) 0 f.Gb)=y;simp only[pd,Z1];have q1:decide (Sh.len (f::r)<1)=false:=rI (by rw[AI,pq];omega);have q2:decide (1<=(f::r).length)=true:=by simp
   have q3:decide ((4:Int)<Sh.len (f::r))=!decide ((f::r).length<=4):=by rw[<- decide_not];exact rh.2 (by rw[AI];omega)
   have q4:decide ((0:Int)<Sh.len f.params)=!decide (f.params.length=0):=by rw[<- decide_not];exact rh.2 (by rw[AI];omega)
   simp only[q1,q2,q3,q4,ov];cases decide ((f::r).length<=4)<;>cases z<;>cases y<;>by_cases a1:f.params.length=0<;>by_cases a2:f.result=0<;>simp[a1,a2]
end RC
namespace RC
open Go
def nc (D:List AL):Nat:=(D.map (·.cons.length)).sum
theorem MP {D:List AL}{i:Nat}{d:AL}(h:D[i]?=some d):nc (D.take (i+1))=nc (D.take i)+d.cons.length:=by
 rw[EJ h];simp[nc]
theorem Tj {D:List AL}{i:Nat}{d:AL}(h:D[i]?=some d):nc (D.drop i)=d.cons.length+nc (D.drop (i+1)):=by
 rw[drop_cons h];simp[nc]
theorem Hn (D:List AL)(i:Nat):nc D=nc (D.take i)+nc (D.drop i):=by
 unfold nc;rw[<- List.sum_append_nat,<- qv,List.take_append_drop]
theorem Jd {D:List AL}(hD:D.length<=1048576)(hn:nc D<=1048576){i:Nat}(hi:i<=D.length){N:Nat}(hN:2000000<=N):Hg N D i=some (nc (D.take i):Int):=by
 unfold Hg;have key:∀{N j:Nat},j<=i->i-j<N->E4 D i N (nc (D.take j)) j=some (nc (D.take i):Int):=by
  intro N j hj hN;refine BQ i (λN j=>E4 D i N (nc (D.take j)) j=some (nc (D.take i):Int)) ?_ ?_ hj hN
  .intro n;rw[E4,pK (by simp)]
  .intro n j hj ih;obtain⟨d,hd,_⟩:=Bh (l:=D) (i:=j) (by omega);have hs:=Hn D (j+1);have ht:=MP hd;rw[E4,pJ (by simp;omega),Ax hd];simp only[ov];rw[AI,BE (n:=(j:Int)+1) (by omega) (by omega),BE (by omega) (by omega),show ((nc (D.take j):Int)+(d.cons.length:Int))=((nc (D.take (j+1)):Nat):Int) by omega,show ((j:Int)+1)=((j+1:Nat):Int) by omega];exact ih
 have:=key (pT _) (by omega:i-0<N);rw[show (((nc (D.take 0):Nat):Int))=0 from rfl,show (((0:Nat):Int))=0 from rfl]at this;rw[this];rfl
theorem Tg {D:List AL}(hD:D.length<=1048576)(hn:nc D<=1048576){N:Nat}(hN:2000000<=N):Ju N D=some (nc D:Int):=by
 unfold Ju;have key:∀{N j:Nat},j<=D.length->D.length-j<N->E3 D N (nc (D.take j)) j=some (nc D:Int):=by
  intro N j hj hN;refine BQ D.length (λN j=>E3 D N (nc (D.take j)) j=some (nc D:Int)) ?_ ?_ hj hN
  .intro n;rw[E3,pK (by simp[AI]),qs]
  .intro n j hj ih;obtain⟨d,hd,_⟩:=Bh hj;have hs:=Hn D (j+1);have ht:=MP hd;rw[E3,pJ (by simp[AI];omega),Ax hd];simp only[ov];rw[AI,BE (n:=(j:Int)+1) (by omega) (by omega),BE (by omega) (by omega),show ((nc (D.take j):Int)+(d.cons.length:Int))=((nc (D.take (j+1)):Nat):Int) by omega,show ((j:Int)+1)=((j+1:Nat):Int) by omega];exact ih
 have:=key (pT _) (by omega:D.length-0<N);rw[show (((nc (D.take 0):Nat):Int))=0 from rfl,show (((0:Nat):Int))=0 from rfl]at this;rw[this];rfl
def IM:List AL->Nat->Nat->Option (Nat×D6)
 | [],_,_=>none
 |d::r,k,c=>match d.cons[c]? with
  |some x=>some (k+1,x)
  |none=>IM r (k+1) (c-d.cons.length)
theorem QM {D:List AL}(hD:D.length<=1048576)(hn:nc D<=1048576){c:Nat}(hc:c<nc D){N:Nat}(hN:2000000<=N):∃t x,IM D 0 c=some (t,x)/\Ir N D c=some ((t:Int),x):=by
 have key:∀(m j N c:Nat),D.length-j=m->j<=D.length->m<N->c<nc (D.drop j)->∃t x,IM (D.drop j) j c=some (t,x)/\Fl D N c j=some (.inl ((t:Int),x)):=by
  intro m
  induction m with
  |zero=>
   intro j N c h1 h2 _ h3;rw[rT (by omega)]at h3;simp[nc]at h3
  |succ m ih=>
   intro j N c h1 h2 h3 h4;obtain⟨N,rfl⟩ :∃n,N=n+1:=⟨N-1,by omega⟩
   obtain⟨d,hd,_⟩:=Bh (l:=D) (i:=j) (by omega);have hs:=Hn D j;rw[Tj hd]at h4 hs;rw[drop_cons hd];unfold IM;rw[Fl,pJ (by simp[AI];omega),Ax hd];simp only[ov];rw[pJ (by simp),AI,BE (n:=(j:Int)+1) (by omega) (by omega),BE (by omega) (by omega)];cases hx:d.cons[c]? with
   |some x=>
    have uV:=(pB.1 hx).1;refine⟨j+1,x,rfl,?_⟩;have e:((c:Int)<(d.cons.length:Int)):=by omega
    simp[e,Ax hx]
   |none=>
    have hle:d.cons.length<=c:=by simpa using hx
    obtain⟨t,x,g1,g2⟩:=ih (j+1) N (c-d.cons.length) (by omega) (by omega) (by omega) (by omega);refine⟨t,x,g1,?_⟩;have e:¬ ((c:Int)<(d.cons.length:Int)):=by omega
    rw[<- g2,show ((c:Int)-(d.cons.length:Int))=((c-d.cons.length:Nat):Int) by omega,show ((j:Int)+1)=((j+1:Nat):Int) by omega];simp[e]
 obtain⟨t,x,g1,g2⟩:=key D.length 0 N c (by omega) (by omega) (by omega) (by simpa using hc);refine⟨t,x,by simpa using g1,?_⟩;unfold Ir;rw[show (((0:Nat):Int))=0 from rfl]at g2;rw[g2];rfl
end RC
namespace RC
open Go
theorem OX {D:List AL}(hD:D.length<=1048576)(hn:nc D<=1048576){c:Nat}(hc:c<nc D){N:Nat}(hN:2000000<=N):∃t x,IM D 0 c=some (t,x)/\Gw N D c=some (t:Int):=by
 have key:∀(m j M c:Nat),D.length-j=m->j<=D.length->m<M->c<nc (D.drop j)->∃t x,IM (D.drop j) j c=some (t,x)/\EI N D ((nc (D.take j)+c:Nat):Int) M j=some (.inl (t:Int)):=by
  intro m
  induction m with
  |zero=>
   intro j M c h1 h2 _ h3;rw[rT (by omega)]at h3;simp[nc]at h3
  |succ m ih=>
   intro j M c h1 h2 h3 h4;obtain⟨M,rfl⟩ :∃n,M=n+1:=⟨M-1,by omega⟩
   obtain⟨d,hd,_⟩:=Bh (l:=D) (i:=j) (by omega);have hs:=Hn D j;rw[Tj hd]at h4 hs;have ht:=MP hd;rw[drop_cons hd];unfold IM;rw[EI,pJ (by simp[AI];omega),Jd hD hn (by omega) hN,Ax hd];simp only[ov];rw[AI,BE (n:=(j:Int)+1) (by omega) (by omega),BE (n:=(nc (D.take j):Int)+(d.cons.length:Int)) (by omega) (by omega),BE (by omega) (by omega),Dn];simp only[ov];cases hx:d.cons[c]? with
   |some x=>
    have uV:=(pB.1 hx).1;refine⟨j+1,x,rfl,?_⟩;rw[pJ (by simp;omega)];rfl
   |none=>
    have hle:d.cons.length<=c:=by simpa using hx
    obtain⟨t,x,g1,g2⟩:=ih (j+1) M (c-d.cons.length) (by omega) (by omega) (by omega) (by omega);refine⟨t,x,g1,?_⟩;rw[pK (by simp;omega),<- g2,show nc (D.take j)+c=nc (D.take (j+1))+(c-d.cons.length) by omega];rfl
 obtain⟨t,x,g1,g2⟩:=key D.length 0 N c (by omega) (by omega) (by omega) (by simpa using hc);refine⟨t,x,by simpa using g1,?_⟩;unfold Gw;rw[show nc (D.take 0)+c=c by simp[nc],show (((0:Nat):Int))=0 from rfl]at g2;rw[g2];rfl
theorem TG {D:List AL}(hD:D.length<=1048576)(hn:nc D<=1048576){c:Int}(hc:c<0∨(nc D:Int)<=c){N:Nat}(hN:2000000<=N):Gw N D c=some (-1):=by
 unfold Gw;have key:∀{M j:Nat},j<=D.length->D.length-j<M->EI N D c M j=some (.inr ()):=by
  intro M j hj hM;refine BQ D.length (λM j=>EI N D c M j=some (.inr ())) ?_ ?_ hj hM
  .intro n;rw[EI,pK (by simp[AI])]
  .intro n j hj ih;obtain⟨d,hd,_⟩:=Bh hj;have hs:=Hn D (j+1);have ht:=MP hd;rw[EI,pJ (by simp[AI];omega),Jd hD hn (by omega) hN,Ax hd];simp only[ov];rw[AI,BE (n:=(j:Int)+1) (by omega) (by omega),BE (n:=(nc (D.take j):Int)+(d.cons.length:Int)) (by omega) (by omega),BE (by omega) (by omega),Dn];simp only[ov];rw[pK (by simp;omega)];exact ih
 have:=key (pT _) (by omega:D.length-0<N);rw[show (((0:Nat):Int))=0 from rfl]at this;rw[this];rfl
end RC
namespace RC
open Go
theorem fF {D:List AL}:∀(m j c t:Nat) (x:D6),D.length-j=m->j<=D.length->IM (D.drop j) j c=some (t,x)->∃d,1<=t/\D[t-1]?=some d/\nc (D.take (t-1))<=nc (D.take j)+c/\d.cons[nc (D.take j)+c-nc (D.take (t-1))]?=some x:=by
 intro m
 induction m with
 |zero=>
  intro j c t x h1 h2 h;rw[rT (by omega)]at h;simp[IM]at h
 |succ m ih=>
  intro j c t x h1 h2 h;obtain⟨d,hd,_⟩:=Bh (l:=D) (i:=j) (by omega);have ht:=MP hd;rw[drop_cons hd]at h;unfold IM at h;cases hx:d.cons[c]? with
  |some y=>
   rw[hx]at h;simp only[pD,rB]at h;obtain⟨rfl,rfl⟩:=h;exact⟨d,by omega,by simpa using hd,by simp,by simpa using hx⟩
  |none=>
   rw[hx]at h;have hle:d.cons.length<=c:=by simpa using hx
   obtain⟨e,g1,g2,g3,g4⟩:=ih (j+1) (c-d.cons.length) t x (by omega) (by omega) h;rw[show nc (D.take (j+1))+(c-d.cons.length)=nc (D.take j)+c by omega]at g3 g4;exact⟨e,g1,g2,g3,g4⟩
theorem Iu {D:List AL}(hD:D.length<=1048576)(hn:nc D<=1048576){c:Nat}(hc:c<nc D){N:Nat}(hN:2000000<=N):∃t x,IM D 0 c=some (t,x)/\Bt N D c=some x.fields:=by
 obtain⟨t,x,e1,e2⟩:=OX hD hn hc hN;obtain⟨d,g1,g2,g3,g4⟩:=fF (D:=D) D.length 0 c t x (by omega) (by omega) (by simpa using e1);have uV:=(pB.1 g2).1;have hs:=Hn D (t-1);rw[show nc (D.take 0)+c=c by simp[nc]]at g3 g4;refine⟨t,x,e1,?_⟩;unfold Bt;rw[e2];simp only[ov];rw[pK (by simp;omega),BE (n:=(t:Int)-1) (by omega) (by omega),show ((t:Int)-1)=((t-1:Nat):Int) by omega,Ax g2,Jd hD hn (by omega) hN];simp only[ov];rw[BE (by omega) (by omega),show ((c:Int)-(nc (D.take (t-1)):Int))=((c-nc (D.take (t-1)):Nat):Int) by omega,Ax g4];rfl
theorem T8 {D:List AL}(hD:D.length<=1048576)(hn:nc D<=1048576){c:Nat}(hc:c<nc D){N:Nat}(hN:2000000<=N):∃t x,IM D 0 c=some (t,x)/\Eg N D c=some x.fields:=by
 obtain⟨t,x,e1,e2⟩:=QM hD hn hc hN;exact⟨t,x,e1,by unfold Eg;rw[e2];rfl⟩
end RC
namespace RC
open Go
def CO (D:List AL)(t:Int):List Int:=
 if 1<=t/\t<=(D.length:Int) then (List.range ((D[(t-1).toNat]?).elim 0 (·.cons.length))).map λ(i:Nat)=>(nc (D.take (t-1).toNat):Int)+(i:Int) else []
theorem Vu {f:Nat->Int}{i:Nat}:(List.range (i+1)).map f=(List.range i).map f++[f i]:=by rw[List.range_succ,qv];rfl
theorem Ma {D:List AL}(hD:D.length<=1048576)(hn:nc D<=1048576){t:Int}{N:Nat}(hN:2000000<=N):G0 N D t=some (CO D t):=by
 unfold G0 CO;rw[Dn,AI];simp only[ov];by_cases h:1<=t/\t<=(D.length:Int)
 .obtain⟨a,ha⟩ :∃a:Nat,t=(a:Int)+1:=⟨(t-1).toNat,by omega⟩
  subst ha;obtain⟨d,hd,_⟩:=Bh (l:=D) (i:=a) (by omega);have hs:=Hn D (a+1);have ht:=MP hd;rw[pK (by simp;omega),pJ h,show (((a:Int)+1)-1).toNat=a by omega,hd];simp only[rf];have key:∀{M i:Nat},i<=d.cons.length->d.cons.length-i<M->Fy N D ((a:Int)+1) M i ((List.range i).map λ(i:Nat)=>(nc (D.take a):Int)+(i:Int))=some ((List.range d.cons.length).map λ(i:Nat)=>(nc (D.take a):Int)+(i:Int)):=by
   intro M i hi hM;refine BQ d.cons.length (λM i=>Fy N D ((a:Int)+1) M i ((List.range i).map λ(i:Nat)=>(nc (D.take a):Int)+(i:Int))=some ((List.range d.cons.length).map λ(i:Nat)=>(nc (D.take a):Int)+(i:Int))) ?_ ?_ hi hM
   .intro n;rw[Fy,BE (by omega) (by omega),show ((a:Int)+1-1)=((a:Nat):Int) by omega,Ax hd];simp only[ov];rw[pK (by simp[AI])]
   .intro n i hi ih;rw[Fy,BE (n:=(a:Int)+1-1) (by omega) (by omega),show ((a:Int)+1-1)=((a:Nat):Int) by omega,Ax hd];simp only[ov];rw[pJ (by simp[AI];omega),Jd hD hn (by omega) hN];simp only[ov];rw[DJ _ _ _ (by simp;omega) (by simp;omega),BE (n:=(i:Int)+1) (by omega) (by omega),BE (by omega) (by omega),show ((i:Int)+1)=((i+1:Nat):Int) by omega];simp only[ov];rw[<- ih,Vu]
  have:=key (pT _) (by omega:d.cons.length-0<N);rw[show (((0:Nat):Int))=0 from rfl,List.range_zero,qu]at this;rw[this];rfl
 .rw[pJ (by simp;omega),pK h]
theorem JE {D:List AL}(hD:D.length<=1048576)(hn:nc D<=1048576){t:Int}{N:Nat}(hN:2000000<=N):I0 N D t=some (CO D t):=by
 unfold I0 CO;rw[AI];by_cases h:1<=t/\t<=(D.length:Int)
 .obtain⟨a,ha⟩ :∃a:Nat,t=(a:Int)+1:=⟨(t-1).toNat,by omega⟩
  subst ha;obtain⟨d,hd,_⟩:=Bh (l:=D) (i:=a) (by omega);have hs:=Hn D (a+1);have hs0:=Hn D a;have ht:=MP hd;have e1:¬ ((a:Int)+1<1):=by omega
  have e2:¬ ((D.length:Int)<(a:Int)+1):=by omega
  rw[pJ h,show (((a:Int)+1)-1).toNat=a by omega,hd,BE (by omega) (by omega),show ((a:Int)+1-1)=((a:Nat):Int) by omega,cb (by omega) (by omega),Ax hd];simp only[rf,e1,e2,pa,pF,pV,ov];rw[Tg (by simp;omega) (by omega) hN];simp only[ov];have key:∀{M i:Nat},i<=d.cons.length->d.cons.length-i<M->Fz d (nc (D.take a):Int) M i ((List.range i).map λ(i:Nat)=>(nc (D.take a):Int)+(i:Int))=some ((List.range d.cons.length).map λ(i:Nat)=>(nc (D.take a):Int)+(i:Int)):=by
   intro M i hi hM;refine BQ d.cons.length (λM i=>Fz d (nc (D.take a):Int) M i ((List.range i).map λ(i:Nat)=>(nc (D.take a):Int)+(i:Int))=some ((List.range d.cons.length).map λ(i:Nat)=>(nc (D.take a):Int)+(i:Int))) ?_ ?_ hi hM
   .intro n;rw[Fz,pK (by simp[AI])]
   .intro n i hi ih;rw[Fz,pJ (by simp[AI];omega)];rw[DJ _ _ _ (by simp;omega) (by simp;omega),BE (n:=(i:Int)+1) (by omega) (by omega),BE (by omega) (by omega),show ((i:Int)+1)=((i+1:Nat):Int) by omega];simp only[ov];rw[<- ih,Vu]
  have:=key (pT _) (by omega:d.cons.length-0<N);rw[show (((0:Nat):Int))=0 from rfl,List.range_zero,qu]at this;rw[this];rfl
 .rw[pK h];by_cases e1:t<1
  .simp[e1]
  .have e2:(D.length:Int)<t:=by omega
   simp[e1,e2]
end RC
namespace RC
open Go
end RC
namespace RC
open Go
def mq (left:Int)(s:Nat):Int:=if left-s<0 then -1 else left-s
theorem Tu {left:Int}{s:Nat}(h:left-s<0):mq left s=-1:=pJ h
theorem XE {left:Int}{s:Nat}(h:¬ left-s<0):mq left s=left-s:=pK h
def cz (c:D6):Nat:=c.fields.length
def dz (d:AL):Nat:=d.cons.length+(d.cons.map cz).sum
end RC
namespace RC
open Go
end RC
namespace RC
open Go
end RC
namespace RC
open Go
def mr (op:Int):Bool:=(decide (0<=op)&&decide (op<=11)&&!decide (op=7)&&!decide (op=8)) || decide (op=18) || decide (op=19)
def preB (p:eK)(i:aK):Bool:=
 (decide (0<=i.dst)&&decide (i.dst<p.oM))&&(decide (i.dst=0) || mr i.op)&&(decide (i.cy=0) || decide (i.op=6))&&(decide (i.op=21) || decide (i.jumps.length=0))
end RC
namespace RC
open Go
section
variable {im : lI} {p : eK} {at_ : Nat} {i : aK} {N : Nat}
end
end RC
namespace RC
open Go
theorem MG {α:Type}(f:α->Nat){l:List α}{x:α}(h:x∈l):f x<=(l.map f).sum:=by
 induction l with
 |nil=>cases h
 |cons y r ih=>
  rw[pd,rU];rcases pL.1 h with rfl|h
  .omega
  .have:=ih h;omega
end RC
namespace RC
open Go
end RC
namespace RC
open Go
end RC
namespace RC
open Go
mutual
def en:AD->Nat|.mk _ _ k=>1+CL k
def CL:List AD->Nat|[]=>0|e::l=>en e+CL l
end
theorem Fs (e:AD):en e=1+CL e.kids:=by cases e;simp[en,AD.kids]
theorem Zc {k:List AD}{i:Nat}{e:AD}(h:k[i]?=some e):CL (k.drop i)=en e+CL (k.drop (i+1)):=by rw[drop_cons h];simp[CL]
theorem Fc (e:AD):1<=en e:=by rw[Fs];omega
theorem I9 {k:List AD}{e:AD}(h:e∈k):en e<=CL k:=by
 induction k with
 |nil=>cases h
 |cons c k ih=>
  simp only[CL];rcases pL.1 h with rfl|h
  .omega
  .have:=ih h;omega
theorem HL (k:List AD):k.length<=CL k:=by
 induction k with
 |nil=>simp
 |cons c k ih=>have:=Fc c;simp only[CL,pq];omega
theorem Ca {e k:AD}(h:k∈e.kids):en k<en e:=by have:=I9 h;rw[Fs e];omega
def aB (f:AU):Nat:=f.params.length+CL f.body.kids
def Un (p:AJ):Nat:=(p.decls.length+(p.decls.map dz).sum)+(p.funcs.length+(p.funcs.map aB).sum)
theorem WK {N:Nat}(hN:2000000<=N):∀(n:Nat) (e:AD) (left:Int),left<=1000->0<=left->left<n->CL e.kids<=1048576->Fe N n e left=some (mq left (en e)):=by
 intro n
 induction n with
 |zero=>intro e left _ _ h;omega
 |succ n ih=>
  intro e left h0 hl0 h1 hz;rw[Fe];unfold Jg;have hp:=Fs e;have hle:=HL e.kids;by_cases h2:left<1
  .rw[pJ (by simpa using h2),Tu (by omega)]
  .rw[pK (by simpa using h2),BE (by omega) (by omega)];have key:∀{M i:Nat},i<=e.kids.length->e.kids.length-i<M->∀l:Int,0<=l->l<left->Dw e (Fe N n) M l i=some (if l-(CL (e.kids.drop i):Int)<0 then .inl (-1) else .inr (l-(CL (e.kids.drop i):Int))):=by
    intro M i hi hM;refine BQ e.kids.length (λM i=>∀l:Int,0<=l->l<left->Dw e (Fe N n) M l i=some (if l-(CL (e.kids.drop i):Int)<0 then .inl (-1) else .inr (l-(CL (e.kids.drop i):Int)))) ?_ ?_ hi hM
    .intro m l l0 l1;rw[Dw,pK (by simp[AI])];simp[CL];omega
    .intro m i hi xI l l0 l1;obtain⟨x,hx,vx⟩:=Bh hi;have hz2:=I9 vx;have e1:=Fs x;rw[Dw,pJ (by simp[AI];omega),Ax hx];simp only[ov];rw[ih x l (by omega) l0 (by omega) (by omega),Zc hx];simp only[ov];by_cases h3:l-(en x:Int)<0
     .rw[Tu h3,pJ (by simp),pJ (by omega)]
     .rw[XE h3,pK (by simpa using h3),BE (by omega) (by omega),show ((i:Int)+1)=((i+1:Nat):Int) by omega,xI (l-(en x:Int)) (by omega) (by omega)];rw[show l-(en x:Int)-(CL (e.kids.drop (i+1)):Int)=l-((en x+CL (e.kids.drop (i+1)):Nat):Int) by omega]
   have:=key (pT _) (by omega:e.kids.length-0<N) (left-1) (by omega) (by omega);rw[tl,qK]at this;rw[this];by_cases h3:left-1-(CL e.kids:Int)<0
   .rw[pJ h3,Tu (by omega)];rfl
   .rw[pK h3,XE (by omega)];simp only[Sh.Ox];congr 1;omega
theorem Gm {e:AD}(hz:CL e.kids<=1048576){N:Nat}(hN:2000000<=N):HT N e=some (if en e<=30 then (en e:Int) else -1):=by
 unfold HT Mf;rw[WK hN N e 30 (by omega) (by omega) (by omega) hz];simp only[ov];by_cases h:en e<=30
 .rw[XE (by omega),pJ h,pK (by simp;omega),BE (by omega) (by omega)];congr 1;omega
 .rw[Tu (by omega),pK h];rfl
theorem Uq {N:Nat}(hN:2000000<=N):∀(n:Nat) (e:AD) (c:Nat),c<=30->31-c<n->CL e.kids<=1048576->FI N n c e=some (if c+en e<=30 then (true,((c+en e:Nat):Int)) else (false,31)):=by
 intro n
 induction n with
 |zero=>intro e c _ h;omega
 |succ n ih=>
  intro e c h0 h1 hz;rw[FI];unfold Iv;have hp:=Fs e;have hle:=HL e.kids;rw[BE (by omega) (by omega)];by_cases h2:c=30
  .subst h2;rw[pJ (by simp),pK (by omega)];rfl
  .rw[pK (by simp;omega)];have key:∀{M i:Nat},i<=e.kids.length->e.kids.length-i<M->∀d:Nat,c<d->d<=30->DU e (FI N n) M i d=some (if d+CL (e.kids.drop i)<=30 then .inr ((d+CL (e.kids.drop i):Nat):Int) else .inl (false,31)):=by
    intro M i hi hM;refine BQ e.kids.length (λM i=>∀d:Nat,c<d->d<=30->DU e (FI N n) M i d=some (if d+CL (e.kids.drop i)<=30 then .inr ((d+CL (e.kids.drop i):Nat):Int) else .inl (false,31))) ?_ ?_ hi hM
    .intro m d l0 l1;rw[DU,pK (by simp[AI])];simp[CL,l1]
    .intro m i hi xI d l0 l1;obtain⟨x,hx,vx⟩:=Bh hi;have hz2:=I9 vx;have e1:=Fs x;rw[DU,pJ (by simp[AI];omega),Ax hx];simp only[ov];rw[ih x d l1 (by omega) (by omega),Zc hx];simp only[ov];by_cases h3:d+en x<=30
     .rw[pJ h3];simp only[qD,pF,pV];rw[BE (by omega) (by omega),show ((i:Int)+1)=((i+1:Nat):Int) by omega,xI (d+en x) (by omega) h3,qe]
     .have h4:¬ (d+(en x+CL (List.drop (i+1) e.kids))<=30):=by omega
      rw[pK h3,pK h4];rfl
   have:=key (pT _) (by omega:e.kids.length-0<N) (c+1) (by omega) (by omega);rw[tl,qK,show ((c+1:Nat):Int)=(c:Int)+1 by omega]at this;rw[this];by_cases h3:c+1+CL e.kids<=30
   .rw[pJ h3,pJ (by omega)];simp only[Sh.Ox];rw[show c+1+CL e.kids=c+en e by omega]
   .rw[pK h3,pK (by omega)];rfl
theorem Ow {e:AD}(hz:CL e.kids<=1048576){N:Nat}(hN:2000000<=N):JR N e=some (if en e<=30 then (en e:Int) else -1):=by
 unfold JR Lr;have:=Uq hN N e 0 (by omega) (by omega) hz;rw[tl,qP]at this;rw[this];simp only[ov];by_cases h:en e<=30
 .rw[pJ h,pJ h];rfl
 .rw[pK h,pK h];rfl
end RC
namespace RC
open Go
theorem Qc {α:Type}{g:Nat->α->Bool}:∀(l:List α) (k:Nat),FC g k l=true↔∀(i:Nat) x,l[i]?=some x->g (k+i) x=true
 | [],_=>by simp[FC]
 |x::r,k=>by
  rw[FC,pb,Qc r (k+1)];constructor
  .rintro⟨h1,h2⟩ i y hy;cases i with
   |zero=>simp only[pj,pD]at hy;subst hy;exact h1
   |succ i=>have:=h2 i y hy;rw[show k+(i+1)=k+1+i by omega];exact this
  .intro h;exact⟨h 0 x rfl,λi y hy=>by have:=h (i+1) y hy;rw[show k+(i+1)=k+1+i by omega]at this;exact this⟩
theorem TO {a b:List Int}(h:a.length=b.length):FC (λi x=>decide (b[i]?=some x)) 0 a=decide (a=b):=by
 rw[Bool.eq_iff_iff,Qc,sP];constructor
 .intro g;refine qk λi=>?_;by_cases hi:i<a.length
  .obtain⟨x,hx,_⟩:=Bh hi;have:=g i x hx;rw[sP,qP]at this;rw[hx,this]
  .rw[qB (by omega),qB (by omega)]
 .rintro rfl i x hx;rw[sP,qP,hx]
theorem Ol {a b:List Int}(ha:a.length<=1048576){N:Nat}(hN:2000000<=N):DR N a b=some (decide (a=b)):=by
 unfold DR;by_cases h:a.length=b.length
 .rw[pK (by simp[AI,h]),EH (l:=a) (DC a b) (λi x=>decide (b[i]?=some x)) (λn=>by rw[DC,pK (by simp[AI])]) (λn i x hx=>?_) (by omega),EM,TO h]
  .cases decide (a=b)<;>rfl
  .have hi:=(pB.1 hx).1;obtain⟨y,hy,_⟩:=Bh (l:=b) (i:=i) (by omega);rw[DC,pJ (by simp[AI];omega),Ax hx];simp only[ov];rw[Ax hy,hy,BE (by omega) (by omega),show ((i:Int)+1)=((i+1:Nat):Int) by omega];simp only[ov];by_cases e:x=y
   .simp[e]
   .have e':¬ y=x:=λq=>e q.symm;simp[e,e']
 .have uu:¬ a=b:=λe=>h (by rw[e]);have h':¬ ((a.length:Int)=(b.length:Int)):=by omega
  simp[AI,h',uu]
structure FA (D:List AL) (F:List AU):Prop where
 P6:D.length<=4
 Vq :∀d∈D,d.cons.length<=3
 NJ :∀d∈D,∀c∈d.cons,c.fields.length<=3/\∀t∈c.fields,Dc D t=true
 kI :∀d∈D,Dc D d.from_=true/\Dc D d.to=true
 JL:F.length<=4
 NV :∀f∈F,f.params.length<=3/\(∀t∈f.params,Dc D t=true)/\Dc D f.result=true
theorem jC {D:List AL}(h :∀d∈D,d.cons.length<=3):nc D<=3*D.length:=by
 induction D with
 |nil=>simp[nc]
 |cons d r ih=>
  have h1:=h d (by simp);have h2:=ih λe he=>h e (by simp[he]);simp only[nc,pd,rU,pq]at h2⊢;omega
theorem FA.nc {D:List AL}{F:List AU}(S:FA D F):nc D<=12:=by have:=jC S.Vq;have:=S.P6;omega
theorem LL {D:List AL}{t:Int}(h:Dc D t=true):0<=t/\t<=(D.length:Int):=by
 unfold Dc at h;simpa using h
theorem FA.of {p:AJ}(h:PZ p.decls (p.funcs.map λf=>(f.params,f.result))=true):FA p.decls p.funcs:=by
 unfold PZ at h;simp only[pb,pR,List.all_map,pQ]at h;obtain⟨h1,⟨_,h2⟩,h3,_⟩:=h;unfold Nu at h1;simp only[pb,pQ]at h1;obtain⟨h4,h5⟩:=h1;rw[Qc]at h5;have hd:∀d∈p.decls,∃i,MX p.decls i d=true:=λd hd=>by
  obtain⟨i,hi⟩:=pZ.1 hd;exact⟨_,h5 i d hi⟩
 refine⟨h4,λd hm=>?_,λd hm c hc=>?_,λd hm=>?_,h2,λf hf=>?_⟩
 .obtain⟨i,hi⟩:=hd d hm;unfold MX at hi;split at hi
  .simp only[pb,pQ]at hi;exact hi.1.1
  .omega
 .obtain⟨i,hi⟩:=hd d hm;unfold MX at hi;split at hi
  .simp only[pb,pQ,pH]at hi;have:=hi.2 c hc;unfold SL at this;simp only[pb,pQ,pH]at this;exact this
  .have:=List.length_pos_of_mem hc;omega
 .obtain⟨i,hi⟩:=hd d hm;unfold MX at hi;split at hi
  .simp only[pb,pQ]at hi;rw[hi.1.2.1,hi.1.2.2];have:Dc p.decls 0=true:=by unfold Dc;simp
   exact⟨this,this⟩
  .simp only[pb]at hi;exact hi.2
 .have:=pH.1 h3 f hf;simp only[Function.comp,Oi,pb,pQ,pH]at this;exact this
def LC (p:AJ)(sg:BO)(R1:AJ->List Int->AD->Option Int)(R2:List Int->BO->AD->Option Int)(T:List Int->AD->Int)(m:Nat):Prop:=
 ∀(v:List Int) (e:AD),Ak e->en e<m->v.length+3*en e<=1000->(∀x∈v,Dc p.decls x=true)->R1 p v e=some (T v e)/\R2 v sg e=some (T v e)/\(T v e=-1∨Dc p.decls (T v e)=true)
section
variable {p : AJ} {sg : BO} {R1 : AJ -> List Int -> AD -> Option Int} {R2 : List Int -> BO -> AD -> Option Int} {T : List Int -> AD -> Int} {e : AD} {v : List Int} {N : Nat}
structure IW (p:AJ) (e:AD) (v:List Int):Prop where
 len:v.length+3*en e<=1000
 Jm :∀x∈v,Dc p.decls x=true
 small:en e<=340
 CT:Ak e
theorem IW.KF (V:IW p e v){k:AD}(hk:k∈e.kids):v.length+3*en k<=1000:=by have:=V.len;have:=Ca hk;omega
theorem IW.more (V:IW p e v){k:AD}(hk:k∈e.kids){m:List Int}(hm:m.length<=3):(v++m).length+3*en k<=1000:=by have:=V.len;have:=Ca hk;rw[pW];omega
theorem IW.X4 (V:IW p e v){m:List Int}(hm :∀x∈m,Dc p.decls x=true):∀x∈v++m,Dc p.decls x=true:=λx hx=>by
 rcases pY.1 hx with h|h
 .exact V.Jm x h
 .exact hm x h
theorem IW.Kc (V:IW p e v):e.kids.length<=340:=by have:=HL e.kids;have:=V.small;have:=Fs e;omega
theorem Vh (H:LC p sg R1 R2 T (en e))(V:IW p e v)(hN:2000000<=N)(m:Nat):JS N R1 p v e.kids m=some (decide (e.kids.map (T v)=List.replicate m 0)):=by
 unfold JS;have hk:=V.Kc;by_cases h:e.kids.length=m
 .subst h;rw[pK (by simp[AI]),EH (l:=e.kids) (GI p v e.kids e.kids.length R1) (λ_ x=>decide (T v x=0)) (λn=>by rw[GI,pK (by simp)]) (λn i x hx=>?_) (by omega),EM,GB]
  .have e1:e.kids.all (λx=>decide (T v x=0))=decide (e.kids.map (T v)=List.replicate e.kids.length 0):=by
    rw[Bool.eq_iff_iff,sP,pH,List.eq_replicate_iff];simp
   rw[e1];cases decide (e.kids.map (T v)=List.replicate e.kids.length 0)<;>rfl
  .have hi:=(pB.1 hx).1;have hm:=oz hx;rw[GI,pJ (by simp;omega),Ax hx];simp only[ov];rw[(H v x (V.CT.kids x hm) (Ca hm) (V.KF hm) V.Jm).1,BE (by omega) (by omega),show ((i:Int)+1)=((i+1:Nat):Int) by omega];simp only[ov];by_cases e1:T v x=0<;>simp[e1]
 .have h1:¬ ((e.kids.length:Int)=(m:Int)):=by omega
  have h2:¬ e.kids.map (T v)=List.replicate m 0:=λq=>h (by have:=qY List.length q;simpa using this);simp[AI,h1,h2]
theorem RS (H:LC p sg R1 R2 T (en e))(V:IW p e v)(hN:2000000<=N)(l:List Int):Jt N R1 p v e.kids l=some (decide (e.kids.map (T v)=l)):=by
 unfold Jt;have hk:=V.Kc;by_cases h:e.kids.length=l.length
 .rw[pK (by simp[AI,h]),EH (l:=l) (G1 p v e.kids l R1) (λi x=>decide ((e.kids.map (T v))[i]?=some x)) (λn=>by rw[G1,pK (by simp[AI])]) (λn i x hx=>?_) (by omega),EM,TO (by simp[h])]
  .by_cases q:l=e.kids.map (T v)
   .simp[q]
   .have q':¬ e.kids.map (T v)=l:=λz=>q z.symm;simp[q,q']
  .have hi:=(pB.1 hx).1;obtain⟨y,hy,hm⟩:=Bh (l:=e.kids) (i:=i) (by omega);rw[G1,pJ (by simp[AI];omega),Ax hy];simp only[ov];rw[(H v y (V.CT.kids y hm) (Ca hm) (V.KF hm) V.Jm).1,Ax hx,BE (by omega) (by omega),show ((i:Int)+1)=((i+1:Nat):Int) by omega];simp only[ov];rw[pC,hy,qG];by_cases e1:T v y=x<;>simp[e1]
 .have h1:¬ ((e.kids.length:Int)=(l.length:Int)):=by omega
  have h2:¬ e.kids.map (T v)=l:=λq=>h (by have:=qY List.length q;simpa using this);simp[AI,h1,h2]
theorem bG (H:LC p sg R1 R2 T (en e))(V:IW p e v)(hN:2000000<=N):
  CA v sg e R2 N 0 (List.replicate e.kids.length 0)=some (if (e.kids.map (T v)).any (λt=>decide (t<0))=true then .inl (-1) else .inr (e.kids.map (T v))):=by
 have hk:=V.Kc;have key:∀{N i:Nat},i<=e.kids.length->e.kids.length-i<N->∀m:List Int,m.length=e.kids.length->m.take i=(e.kids.map (T v)).take i->
   CA v sg e R2 N i m=some (if ((e.kids.map (T v)).drop i).any (λt=>decide (t<0))=true then .inl (-1) else .inr (e.kids.map (T v))):=by
  intro N i hi hN;refine BQ e.kids.length (λN i=>∀m:List Int,m.length=e.kids.length->m.take i=(e.kids.map (T v)).take i->
   CA v sg e R2 N i m=some (if ((e.kids.map (T v)).drop i).any (λt=>decide (t<0))=true then .inl (-1) else .inr (e.kids.map (T v)))) ?_ ?_ hi hN
  .intro n m a b;rw[CA,pK (by simp[AI])];rw[qJ (by omega),qJ (by simp)]at b;rw[b,sS (by simp)];simp
  .intro n i hi ih m a b;obtain⟨x,hx,vx⟩:=Bh hi;obtain⟨y,hy,_⟩:=Bh (l:=m) (i:=i) (by omega);have hx2:(e.kids.map (T v))[i]?=some (T v x):=by rw[pC,hx];rfl
   have xJ:(m.set i (T v x))[i]?=some (T v x):=by rw[pP (by omega)]
   rw[CA,pJ (by simp[AI];omega),Ax hx];simp only[ov];rw[(H v x (V.CT.kids x vx) (Ca vx) (V.KF vx) V.Jm).2.1,Ax hy];simp only[ov];rw[Om,Ax xJ,drop_cons hx2];simp only[ov,List.any_cons];by_cases h:T v x<0
   .simp[h]
   .rw[pK (by simpa using h),BE (by omega) (by omega),show ((i:Int)+1)=((i+1:Nat):Int) by omega,ih (m.set i (T v x)) (by simp[a]) (by rw[EJ xJ,EJ hx2,<- b,se (pM _)])];simp[h]
 have:=key (pT _) (by omega:e.kids.length-0<N) (List.replicate e.kids.length 0) (by simp) rfl;simpa using this
theorem Jp {a b:List Int}(ha:a.length<=1000)(hb:b.length<=1000):Ex a b=some (a++b):=by
 unfold Ex Fu;rw[DJ [] a 8 (by simp;omega) (by simp;omega)];simp only[ov,qT];rw[DJ a b 8 (by omega) (by omega)];rfl
theorem df {a b:List Int}(ha:a.length<=1000)(hb:b.length<=1000)(hN:2000000<=N):GU N [a,b]=some (a++b):=by
 obtain⟨n,rfl⟩ :∃n,N=n+3:=⟨N-3,by omega⟩
 unfold GU;have e1:Ch [a,b] (n+3) 0 0=some ((a.length+b.length:Nat):Int):=by
  rw[Ch,pJ (by simp[AI]),show Sh.get [a,b] 0=some a from rfl];simp only[ov];rw[AI,BE (n:=(0:Int)+1) (by omega) (by omega),BE (by omega) (by omega),pK (by rw[pQ];omega)];rw[Ch,pJ (by simp[AI]),show Sh.get [a,b] (0+1)=some b from rfl];simp only[ov];rw[AI,BE (n:=(0:Int)+1+1) (by omega) (by omega),BE (by omega) (by omega),pK (by rw[pQ];omega)];rw[Ch,pK (by simp[AI])];congr 1;omega
 have e2:Cg [a,b] (n+3) 0 []=some (a++b):=by
  rw[Cg,pJ (by simp[AI]),show Sh.get [a,b] 0=some a from rfl];simp only[ov];rw[DJ [] a 8 (by simp;omega) (by simp;omega),BE (n:=(0:Int)+1) (by omega) (by omega)];simp only[ov,qT];rw[Cg,pJ (by simp[AI]),show Sh.get [a,b] (0+1)=some b from rfl];simp only[ov];rw[DJ a b 8 (by omega) (by omega),BE (n:=(0:Int)+1+1) (by omega) (by omega)];simp only[ov];rw[Cg,pK (by simp[AI])]
 have e3:G2 ((a.length+b.length:Nat):Int)=some []:=by
  unfold G2;rw[pK (by simp;omega),BE (n:=(0:Int)-0) (by omega) (by omega),BE (by omega) (by omega)];by_cases h:0<a.length+b.length
  .rw[pJ (by simp;omega),show (((a.length+b.length:Nat):Int)-(0-0))=((a.length+b.length:Nat):Int) by omega,OJ _ _ _ (by omega) (by omega)];simp only[ov];have:=kJ (l:=List.replicate (a.length+b.length) (0:Int)) (j:=0) (by omega);rw[tl]at this;rw[this];rfl
  .rw[pK (by simp;omega)];rfl
 rw[e1];simp only[ov];rw[e3];simp only[ov];rw[e2];rfl
def MO:List Int->Int
 | []=>-1
 |t::r=>if r.all (λx=>decide (x=t))=true then t else -1
theorem Ky (H:LC p sg R1 R2 T (en e))(V:IW p e v)(hN:2000000<=N){ks:List AD}{ms:List (List Int)}(wq :∀k∈ks,k∈e.kids)(xz:ks.length<=340)(hl:ms.length=ks.length)(hm :∀m∈ms,m.length<=3/\∀x∈m,Dc p.decls x=true):
  Ej N R2 sg v ks ms=some (MO (List.zipWith (λm k=>T (v++m) k) ms ks)):=by
 unfold Ej;have hvl:v.length<=1000:=by have:=V.len;omega
 have step:∀(n i:Nat) (r:Int) k m,ks[i]?=some k->ms[i]?=some m->Bj N sg v ks ms R2 (n+1) r i=if T (v++m) k<0∨(0<i/\T (v++m) k≠r) then some (.inl (-1)) else Bj N sg v ks ms R2 n (T (v++m) k) ((i+1:Nat):Int):=by
  intro n i r k m hk hmm;have hi:=(pB.1 hk).1;have hmo:=hm m (oz hmm);have hke:=wq k (oz hk);rw[Bj,pJ (by simp[AI];omega),Ax hk];simp only[ov];rw[Ax hmm];simp only[ov];rw[df hvl (by omega) hN];simp only[ov];rw[(H (v++m) k (V.CT.kids k hke) (Ca hke) (V.more hke hmo.1) (V.X4 hmo.2)).2.1];simp only[ov];rw[BE (by omega) (by omega),show ((i:Int)+1)=((i+1:Nat):Int) by omega];by_cases h1:T (v++m) k<0
  .simp[h1]
  .by_cases h2:0<i
   .by_cases h3:T (v++m) k=r
    .have xH:¬ r<0:=h3▸h1;simp[xH,h2,h3]
    .simp[h1,h2,h3]
   .simp[h1,h2]
 have rest:∀(d i n:Nat) (r:Int),ks.length-i=d->0<i->i<=ks.length->d<n->Bj N sg v ks ms R2 n r i=some (if ((List.zipWith (λm k=>T (v++m) k) ms ks).drop i).all (λx=>decide (x=r))=true then (if ((List.zipWith (λm k=>T (v++m) k) ms ks).drop i).any (λx=>decide (x<0))=true then .inl (-1) else .inr r) else .inl (-1)):=by
  intro d
  induction d with
  |zero=>
   intro i n r h1 h2 h3 h4;obtain⟨n,rfl⟩ :∃q,n=q+1:=⟨n-1,by omega⟩
   rw[Bj,pK (by simp[AI];omega),sS (by simp;omega)];rfl
  |succ d ih=>
   intro i n r h1 h2 h3 h4;obtain⟨n,rfl⟩ :∃q,n=q+1:=⟨n-1,by omega⟩
   obtain⟨k,hk,_⟩:=Bh (l:=ks) (i:=i) (by omega);obtain⟨m,hmm,_⟩:=Bh (l:=ms) (i:=i) (by omega);have hz:(List.zipWith (λm k=>T (v++m) k) ms ks)[i]?=some (T (v++m) k):=by rw[rE,hk,hmm]
   rw[step n i r k m hk hmm,drop_cons hz,rR,List.any_cons];by_cases h5:T (v++m) k=r
   .by_cases h6:T (v++m) k<0
    .rw[pJ (.inl h6)];have h6':r<0:=h5▸h6;simp[h5,h6']
    .rw[pK (by rintro (h|h);exact h6 h;exact h.2 h5),ih (i+1) n _ (by omega) (by omega) (by omega) (by omega)];have h6':¬ r<0:=h5▸h6;simp[h5,h6']
   .rw[pJ (.inr ⟨h2,h5⟩)];simp[h5]
 cases hks0:ks with
 |nil=>
  obtain⟨n,rfl⟩ :∃q,N=q+1:=⟨N-1,by omega⟩
  rw[Bj,pK (by simp[AI])];simp[MO]
 |cons k r=>
  cases hms0:ms with
  |nil=>rw[hks0,hms0]at hl;simp at hl
  |cons m s=>
   rw[<- hks0,<- hms0];obtain⟨n,hn⟩ :∃q,N=q+1:=⟨N-1,by omega⟩
   have h0:=step n 0 (-1) k m (by rw[hks0];rfl) (by rw[hms0];rfl);rw[tl]at h0;have hke:=wq k (by rw[hks0];simp);have hmo:=hm m (by rw[hms0];simp);have hT:=(H (v++m) k (V.CT.kids k hke) (Ca hke) (V.more hke hmo.1) (V.X4 hmo.2)).2.2;rw[show Bj N sg v ks ms R2 N (-1) 0=Bj N sg v ks ms R2 (n+1) (-1) 0 by rw[<- hn],h0];have hzc:List.zipWith (λm k=>T (v++m) k) ms ks=T (v++m) k::List.zipWith (λm k=>T (v++m) k) s r:=by rw[hks0,hms0];rfl
   rw[hzc];unfold MO;by_cases h1:T (v++m) k<0
   .rw[pJ (.inl h1)];have:T (v++m) k=-1:=by
     rcases hT with h|h
     .exact h
     .have:=(LL h).1;omega
    rw[this];simp
   .rw[pK (by rintro (h|h);exact h1 h;omega),rest _ 1 n _ rfl (by omega) (by rw[hks0];simp) (by omega),hzc,List.drop_succ_cons,qK];by_cases h2:(List.zipWith (λm k=>T (v++m) k) s r).all (λx=>decide (x=T (v++m) k))=true
    .have h3:¬ (List.zipWith (λm k=>T (v++m) k) s r).any (λx=>decide (x<0))=true:=λh=>by
      obtain⟨x,hx,hx2⟩:=ra.1 h;have:=pH.1 h2 x hx;simp only[pQ]at this hx2;omega
     rw[pJ h2,pK h3];dsimp only;rw[pJ h2];rfl
    .rw[pK h2];dsimp only;rw[pK h2];rfl
end
end RC
namespace RC
open Go
theorem gF {n:Int}(h1:n < -9223372036854775808)(h2:-18446744073709551616<=n):Sh.w n=n+18446744073709551616:=by
 unfold Sh.w;rw[IntKind.wrap_i64];omega
theorem Wd {D:List AL}(hD:D.length<=1048576)(hn:nc D<=1048576){c:Int}(hI:HB c)(hc:c<0∨(nc D:Int)<=c){N:Nat}(hN:2000000<=N):Ir N D c=some (-1,⟨[]⟩):=by
 have key:∀(m j N:Nat) (c:Int),D.length-j=m->j<=D.length->m<N->HB c->(c<0∨(nc (D.drop j):Int)<=c)->Fl D N c j=some (.inr ()):=by
  intro m
  induction m with
  |zero=>
   intro j N c h1 h2 h3 _ _;obtain⟨N,rfl⟩ :∃n,N=n+1:=⟨N-1,by omega⟩
   rw[Fl,pK (by simp[AI];omega)]
  |succ m ih=>
   intro j N c h1 h2 h3 hI h4;obtain⟨N,rfl⟩ :∃n,N=n+1:=⟨N-1,by omega⟩
   obtain⟨d,hd,_⟩:=Bh (l:=D) (i:=j) (by omega);have hs:=Hn D j;rw[Tj hd]at h4 hs;rw[Fl,pJ (by simp[AI];omega),Ax hd];simp only[ov];have yQ:=hI.1;have hhi:=hI.2;have e1:¬ (0<=c/\c<(d.cons.length:Int)):=by omega
   have e2:(if decide (0<=c)=true then some (decide (c<Sh.len d.cons)) else some false)=some false:=by
    by_cases h0:0<=c
    .have:¬ c<(d.cons.length:Int):=by omega
     simp[h0,AI,this]
    .simp[h0]
   rw[BE (n:=(j:Int)+1) (by omega) (by omega),show ((j:Int)+1)=((j+1:Nat):Int) by omega,AI];rw[AI]at e2;by_cases h5:c-(d.cons.length:Int) < -9223372036854775808
   .have:=ih (j+1) N (Sh.w (c-(d.cons.length:Int))) (by omega) (by omega) (by omega) (by rw[gF h5 (by omega)];unfold HB;omega) (by rw[gF h5 (by omega)];omega);rw[e2];simp only[ov,pF,pV];exact this
   .have:=ih (j+1) N (Sh.w (c-(d.cons.length:Int))) (by omega) (by omega) (by omega) (by rw[BE (by omega) (by omega)];unfold HB;omega) (by rw[BE (by omega) (by omega)];omega);rw[e2];simp only[ov,pF,pV];exact this
 have:=key D.length 0 N c (by omega) (by omega) (by omega) hI (by simpa using hc);unfold Ir;rw[show (((0:Nat):Int))=0 from rfl]at this;rw[this];rfl
theorem RW:∀{D:List AL} {k c t:Nat} {x:D6},IM D k c=some (t,x)->k<t/\t<=k+D.length/\∃d∈D,x∈d.cons
 | [],_,_,_,_,h=>by simp[IM]at h
 |d::r,k,c,t,x,h=>by
  unfold IM at h;cases hx:d.cons[c]? with
  |some y=>
   rw[hx]at h;simp only[pD,rB]at h;obtain⟨rfl,rfl⟩:=h;exact⟨by omega,by simp,d,by simp,oz hx⟩
  |none=>
   rw[hx]at h;obtain⟨h1,h2,e,h3,h4⟩:=RW h;exact⟨by omega,by simp;omega,e,by simp[h3],h4⟩
def Uh (a b:Int)(d:AL):Bool:=decide (d.cons.length=0)&&(decide (d.from_=a)&&decide (d.to=b))
def JC (a b:Int):List AL->Nat->Int
 | [],_=>-1
 |d::r,k=>if Uh a b d=true then (k:Int)+1 else JC a b r (k+1)
theorem bz {a b:Int}:∀(l:List AL) (k:Nat),JC a b l k=-1∨((k:Int)<JC a b l k/\JC a b l k<=k+l.length)
 | [],_=>.inl rfl
 |d::r,k=>by
  unfold JC;by_cases h:Uh a b d=true
  .rw[pJ h];right;simp only[pq];omega
  .rw[pK h];rcases bz r (k+1) with h1|h1
   .exact .inl h1
   .right;simp only[pq];omega
theorem ZX {a b:Int}{d:AL}:(if decide ((Sh.len d.cons)=0)=true then if decide (d.from_=a)=true then some (decide (d.to=b)) else some false else some false)=some (Uh a b d):=by
 unfold Uh;by_cases h1:d.cons.length=0<;>by_cases h2:d.from_=a<;>simp[AI,h1,h2]
theorem O5 {D:List AL}(hD:D.length<=1048576){a b:Int}{N:Nat}(hN:2000000<=N):JT N D a b=some (JC a b D 0):=by
 unfold JT;have key:∀{M i:Nat},i<=D.length->D.length-i<M->Sh.cont (FP D a b M i) id (λ()=>some (-1))=some (JC a b (D.drop i) i):=by
  intro M i hi hM;refine BQ D.length (λM i=>Sh.cont (FP D a b M i) id (λ()=>some (-1))=some (JC a b (D.drop i) i)) ?_ ?_ hi hM
  .intro n;rw[FP,pK (by simp[AI])];simp[JC,Sh.cont]
  .intro n i hi ih;obtain⟨d,hd,_⟩:=Bh hi;rw[FP,pJ (by simp[AI];omega),Ax hd,drop_cons hd];simp only[ov];rw[ZX,BE (by omega) (by omega),show ((i:Int)+1)=((i+1:Nat):Int) by omega];simp only[ov,JC];by_cases h:Uh a b d=true
   .rw[pJ h,pJ h];simp[Sh.cont]
   .rw[pK h,pK h,ih]
 have:=key (pT _) (by omega:D.length-0<N);simpa using this
theorem U1 {D:List AL}(hD:D.length<=1048576){a b:Int}{N:Nat}(hN:2000000<=N):Ka N D a b=some (JC a b D 0):=by
 unfold Ka;have key:∀{M i:Nat},i<=D.length->D.length-i<M->Sh.cont (FO D a b M i) id (λ()=>some (-1))=some (JC a b (D.drop i) i):=by
  intro M i hi hM;refine BQ D.length (λM i=>Sh.cont (FO D a b M i) id (λ()=>some (-1))=some (JC a b (D.drop i) i)) ?_ ?_ hi hM
  .intro n;rw[FO,pK (by simp[AI])];simp[JC,Sh.cont]
  .intro n i hi ih;obtain⟨d,hd,_⟩:=Bh hi;rw[FO,pJ (by simp[AI];omega),Ax hd,drop_cons hd];simp only[ov];rw[ZX,BE (by omega) (by omega),show ((i:Int)+1)=((i+1:Nat):Int) by omega];simp only[ov,JC];by_cases h:Uh a b d=true
   .rw[pJ h,pJ h];simp[Sh.cont]
   .rw[pK h,pK h,ih]
 have:=key (pT _) (by omega:D.length-0<N);simpa using this
def SI (D:List AL)(t:Int):Option AL:=if 1<=t/\t<=(D.length:Int) then (D[(t-1).toNat]?).bind λd=>if d.cons.length=0 then some d else none else none
theorem Up {D:List AL}{t:Int}{d:AL}(h:SI D t=some d):d∈D/\1<=t/\t<=(D.length:Int)/\D[(t-1).toNat]?=some d:=by
 unfold SI at h;split at h
 .rename_i h1;obtain⟨e,he,h2⟩:=qA.1 h;split at h2
  .cases h2;exact⟨oz he,h1.1,h1.2,he⟩
  .cases h2
 .cases h
theorem VE {D:List AL}(hD:D.length<=1048576){t:Int}:KY D t=some ((SI D t).elim (⟨0,0,[]⟩,false) λd=>(d,true)):=by
 unfold KY SI;by_cases h:1<=t/\t<=(D.length:Int)
 .obtain⟨a,ha⟩ :∃a:Nat,t=(a:Int)+1:=⟨(t-1).toNat,by omega⟩
  subst ha;obtain⟨d,hd,_⟩:=Bh (l:=D) (i:=a) (by omega);have e1:¬ ((a:Int)+1<1):=by omega
  have e2:¬ ((D.length:Int)<(a:Int)+1):=by omega
  rw[pJ h,BE (by omega) (by omega),show ((a:Int)+1-1)=((a:Nat):Int) by omega,Ax hd,qQ,hd];by_cases h2:d.cons.length=0
  .have h2':d.cons=[]:=qN h2;simp[e1,e2,AI,h2']
  .have h3:0<d.cons.length:=by omega
   have h2':¬ d.cons=[]:=λq=>h2 (by rw[q];rfl);simp[e1,e2,AI,h2',h3]
 .rw[pK h];by_cases h1:t<1
  .simp[h1]
  .have h2:(D.length:Int)<t:=by omega
   simp[h1,AI,h2]
theorem KK {D:List AL}(hD:D.length<=1048576){t:Int}:HU D t=some (SI D t).isSome:=by
 unfold HU SI;rw[Dn];by_cases h:1<=t/\t<=(D.length:Int)
 .obtain⟨a,ha⟩ :∃a:Nat,t=(a:Int)+1:=⟨(t-1).toNat,by omega⟩
  subst ha;obtain⟨d,hd,_⟩:=Bh (l:=D) (i:=a) (by omega);have e1:((1:Int)<=(a:Int)+1):=by omega
  have e2:((a:Int)+1<=(D.length:Int)):=by omega
  rw[pJ h,BE (by omega) (by omega),show ((a:Int)+1-1)=((a:Nat):Int) by omega,Ax hd,qQ,hd];by_cases h2:d.cons=[]<;>simp[e1,e2,AI,h2]
 .rw[pK h];have:(decide (1<=t)&&decide (t<=Sh.len D))=false:=by
   rw[AI];by_cases h1:1<=t
   .have h2:¬ t<=(D.length:Int):=λq=>h ⟨h1,q⟩;simp[h1,h2]
   .simp[h1]
  simp[this]
section
variable {p : AJ} {sg : BO} {R1 : AJ -> List Int -> AD -> Option Int} {R2 : List Int -> BO -> AD -> Option Int} {T : List Int -> AD -> Int} {e : AD} {v : List Int} {N : Nat}
theorem F9 (H:LC p sg R1 R2 T (en e))(V:IW p e v)(hN:2000000<=N)(h1:¬ e.op=12)(h2:¬ e.op=13)(h3:¬ e.op=7)(h4:¬ e.op=8):
  Al N R2 v sg e=if (e.kids.map (T v)).any (λt=>decide (t<0))=true then some (-1) else (BH N sg e.op e.num (e.kids.map (T v))).bind λq=>if q.2=true then some q.1 else some (-1):=by
 unfold Al;have hk:=V.Kc;simp only[h1,h2,h3,h4,pa,pF,pV];rw[AI,OJ _ _ _ (by omega) (by omega)];simp only[ov];rw[bG H V hN];by_cases h:(e.kids.map (T v)).any (λt=>decide (t<0))=true
 .rw[pJ h,pJ h];rfl
 .rw[pK h,pK h];simp only[Sh.Ox];cases BH N sg e.op e.num (e.kids.map (T v)) with
  |none=>rfl
  |some q=>simp only[ov];cases q.2<;>rfl
theorem Lt (H:LC p sg R1 R2 T (en e))(V:IW p e v)(hN:2000000<=N)(h1:¬ e.op=12)(h2:¬ e.op=13)(h3:¬ e.op=7)(h4:¬ e.op=8){want:List Int}{c:Bool}{t:Int}(hw :∀x∈want,0<=x)
  (hs:BH N sg e.op e.num (e.kids.map (T v))=some (t,c&&decide (e.kids.map (T v)=want))) :
  Al N R2 v sg e=some (if c=true/\e.kids.map (T v)=want then t else -1):=by
 rw[F9 H V hN h1 h2 h3 h4,hs];by_cases h:e.kids.map (T v)=want
 .have:¬ (e.kids.map (T v)).any (λt=>decide (t<0))=true:=λq=>by
   obtain⟨x,hx,hx2⟩:=ra.1 q;have:=hw x (h▸hx);simp only[pQ]at hx2;omega
  rw[pK this];cases c<;>simp[h]
 .have hn:¬ (c=true/\e.kids.map (T v)=want):=λq=>h q.2;rw[pK hn];simp[h]
end
end RC
namespace RC
open Go
def FE (p:AJ):BO:=⟨p.decls,p.funcs.map λf=>⟨f.params,[],f.result⟩⟩
section
variable {p : AJ} {R1 : AJ -> List Int -> AD -> Option Int} {R2 : List Int -> BO -> AD -> Option Int} {T : List Int -> AD -> Int} {e : AD} {v : List Int} {N : Nat}
def Lm (p:AJ)(R1:AJ->List Int->AD->Option Int)(R2:List Int->BO->AD->Option Int)(N:Nat)(v:List Int)(e:AD):Prop:=
 ∃t,Bs N R1 p v e=some t/\Al N R2 v (FE p) e=some t/\(t=-1∨Dc p.decls t=true)
theorem ml {D:List AL}:Dc D 0=true:=by unfold Dc;simp
theorem len_nil {α:Type}{l:List α}:decide ((Sh.len l)=0)=decide (l=[]):=by
 cases l with
 |nil=>rfl
 |cons x r=>exact rh.2 (by rw[AI,pq];exact⟨λh=>by omega,λh=>nomatch h⟩)
theorem hZ (H:LC p (FE p) R1 R2 T (en e))(V:IW p e v)(hN:2000000<=N)(h:e.op=0):Lm p R1 R2 N v e:=by
 have h1:=Lt H V hN (by omega) (by omega) (by omega) (by omega) (want:=[]) (c:=decide (-999<=e.num)&&decide (e.num<=999)) (t:=0) (by simp) (by
  unfold BH;simp only[h,pX,pt,len_nil];by_cases a:-999<=e.num<;>by_cases b:e.num<=999<;>simp[a,b,Sh.cont])
 refine⟨_,?_,h1,?_⟩
 .unfold Bs;simp only[h,pX,pt,len_nil,Dn];by_cases a:-999<=e.num<;>by_cases b:e.num<=999<;>by_cases c:e.kids=[]<;>simp[a,b,c,Sh.cont]
 .split
  .exact .inr ml
  .exact .inl rfl
theorem cx (H:LC p (FE p) R1 R2 T (en e))(V:IW p e v)(hN:2000000<=N)(h:e.op=1∨e.op=2∨e.op=3∨e.op=4):Lm p R1 R2 N v e:=by
 have hk:=V.Kc;have h1:=Lt H V hN (by omega) (by omega) (by omega) (by omega) (want:=[0,0]) (c:=decide (e.num=0)) (t:=0) (by simp) (by
  unfold BH;have e3:DR N (e.kids.map (T v)) [0,0]=some (decide (e.kids.map (T v)=[0,0])):=Ol (by simp;omega) hN;rcases h with h|h|h|h<;>simp only[h,Int.reduceEq,pX,pa,pF,pt,pV,ov,Sh.Ox]<;>rw[e3]<;>by_cases a:e.num=0<;>simp[a])
 refine⟨_,?_,h1,?_⟩
 .unfold Bs;have e2:=Vh H V hN 2;rw[show ((2:Nat):Int)=2 from rfl,show List.replicate 2 (0:Int)=[0,0] from rfl]at e2;rcases h with h|h|h|h<;>simp only[h,Int.reduceEq,pX,pa,pF,pt,pV,ov]<;>rw[e2]<;>by_cases a:e.num=0<;>by_cases b:e.kids.map (T v)=[0,0]<;>simp[a,b,Sh.cont]
 .split
  .exact .inr ml
  .exact .inl rfl
theorem cv (H:LC p (FE p) R1 R2 T (en e))(V:IW p e v)(hN:2000000<=N)(h:e.op=5):Lm p R1 R2 N v e:=by
 have hk:=V.Kc;have h1:=Lt H V hN (by omega) (by omega) (by omega) (by omega) (want:=[0]) (c:=decide (e.num=0)) (t:=0) (by simp) (by
  unfold BH;simp only[h,Int.reduceEq,pX,pa,pF,pt,pV,ov,Sh.Ox];rw[Ol (by simp;omega) hN];by_cases a:e.num=0<;>simp[a])
 refine⟨_,?_,h1,?_⟩
 .unfold Bs;have e2:=Vh H V hN 1;rw[show ((1:Nat):Int)=1 from rfl,show List.replicate 1 (0:Int)=[0] from rfl]at e2;simp only[h,Int.reduceEq,pX,pa,pF,pt,pV,ov];rw[e2];by_cases a:e.num=0<;>by_cases b:e.kids.map (T v)=[0]<;>simp[a,b,Sh.cont]
 .split
  .exact .inr ml
  .exact .inl rfl
theorem iN (H:LC p (FE p) R1 R2 T (en e))(V:IW p e v)(S:FA p.decls p.funcs)(hN:2000000<=N)(h:e.op=6):Lm p R1 R2 N v e:=by
 have hk:=V.Kc;have hD:=S.P6;have hn:=S.nc;by_cases hr:0<=e.num/\e.num<(nc p.decls:Int)
 .obtain⟨c,hc⟩:=pc hr.1;have hc2:c<nc p.decls:=by omega
  obtain⟨t,x,e1,e2⟩:=OX (D:=p.decls) (by omega) (by omega) hc2 hN;obtain⟨t',x',e1',e3⟩:=Iu (D:=p.decls) (by omega) (by omega) hc2 hN;obtain⟨t'',x'',e1'',e4⟩:=QM (D:=p.decls) (by omega) (by omega) hc2 hN;rw[e1]at e1' e1'';cases e1';cases e1'';obtain⟨g1,g2,d,g3,g4⟩:=RW e1;have hx:=S.NJ d g3 x g4;have h1:=Lt H V hN (by omega) (by omega) (by omega) (by omega) (want:=x.fields) (c:=true) (t:=(t:Int)) (λy hy=>(LL (hx.2 y hy)).1) (by
   unfold BH;simp only[h,Int.reduceEq,pX,pa,pF,pt,pV,ov];rw[hc,show (FE p).decls=p.decls from rfl,e4];simp only[ov];rw[Ol (by simp;omega) hN,pJ (by simp)];simp[Sh.cont])
  refine⟨_,?_,h1,?_⟩
  .unfold Bs;simp only[h,Int.reduceEq,pX,pa,pF,pt,pV,ov];rw[hc,e2,e3];simp only[ov];rw[RS H V hN,pJ (by simp;omega)];by_cases b:e.kids.map (T v)=x.fields<;>simp[b,Sh.cont]
  .split
   .right;unfold Dc;simp;omega
   .exact .inl rfl
 .refine⟨-1,?_,?_,.inl rfl⟩
  .unfold Bs;simp only[h,Int.reduceEq,pX,pa,pF,pt,pV,ov];rw[TG (by omega) (by omega) (by omega) hN];simp[Sh.cont]
  .rw[F9 H V hN (by omega) (by omega) (by omega) (by omega)];unfold BH;simp only[h,Int.reduceEq,pX,pa,pF,pt,pV,ov];rw[show (FE p).decls=p.decls from rfl,Wd (by omega) (by omega) V.CT.num (by omega) hN];simp[Sh.cont]
theorem dS (H:LC p (FE p) R1 R2 T (en e))(V:IW p e v)(hN:2000000<=N)(h:e.op<0∨13<e.op):Lm p R1 R2 N v e:=by
 refine⟨-1,?_,?_,.inl rfl⟩
 .unfold Bs;simp only[show ¬ e.op=0 by omega,show ¬ e.op=12 by omega,show ¬ e.op=1 by omega,show ¬ e.op=2 by omega,show ¬ e.op=3 by omega,show ¬ e.op=4 by omega,show ¬ e.op=5 by omega,show ¬ e.op=6 by omega,show ¬ e.op=13 by omega,show ¬ e.op=7 by omega,show ¬ e.op=8 by omega,show ¬ e.op=9 by omega,show ¬ e.op=10 by omega,show ¬ e.op=11 by omega,pa,pF,pV,ov];simp[Sh.cont]
 .rw[F9 H V hN (by omega) (by omega) (by omega) (by omega)];unfold BH;simp only[show ¬ e.op=0 by omega,show ¬ e.op=12 by omega,show ¬ e.op=1 by omega,show ¬ e.op=2 by omega,show ¬ e.op=3 by omega,show ¬ e.op=4 by omega,show ¬ e.op=5 by omega,show ¬ e.op=6 by omega,show ¬ e.op=13 by omega,show ¬ e.op=7 by omega,show ¬ e.op=8 by omega,show ¬ e.op=9 by omega,show ¬ e.op=10 by omega,show ¬ e.op=11 by omega,pa,pF,pV,ov];simp[Sh.cont]
theorem iT (V:IW p e v)(h:e.op=12):Lm p R1 R2 N v e:=by
 have hv:v.length<=1000:=by have:=V.len;omega
 unfold Lm Bs Al;simp only[h,Int.reduceEq,pX,pa,pF,pt,pV,ov,len_nil,Dn];rw[AI,BE (by omega) (by omega)];cases wq:e.kids with
 |cons a r=>exact⟨-1,by simp[Sh.cont],by simp[AI],.inl rfl⟩
 |nil=>
  by_cases h1:0<=e.num
  .by_cases h2:e.num<(v.length:Int)
   .obtain⟨x,g1,g2⟩:=Oc h1 h2;have h3:e.num<=(v.length:Int)-1:=by omega
    have h4:¬ e.num<0:=by omega
    have h5:¬ (v.length:Int)<=e.num:=by omega
    refine⟨x,?_,?_,.inr (V.Jm x (oz g2))⟩
    .simp[h1,h3,g1,Sh.cont]
    .simp[h4,h5,g1,AI]
   .have h3:¬ e.num<=(v.length:Int)-1:=by omega
    have h4:¬ e.num<0:=by omega
    have h5:(v.length:Int)<=e.num:=by omega
    exact⟨-1,by simp[h1,h3,Sh.cont],by simp[h4,h5,AI],.inl rfl⟩
  .have h4:e.num<0:=by omega
   exact⟨-1,by simp[h1,Sh.cont],by simp[h4,AI],.inl rfl⟩
end
end RC
namespace RC
open Go
section
variable {p : AJ} {R1 : AJ -> List Int -> AD -> Option Int} {R2 : List Int -> BO -> AD -> Option Int} {T : List Int -> AD -> Int} {e : AD} {v : List Int} {N : Nat}
theorem iE (H:LC p (FE p) R1 R2 T (en e))(V:IW p e v)(h:e.op=13):Lm p R1 R2 N v e:=by
 have hv:v.length<=1000:=by have:=V.len;omega
 unfold Lm Bs Al;simp only[h,Int.reduceEq,pX,pa,pF,pt,pV,ov];by_cases hl:e.kids.length=2
 .obtain⟨a,b,hk⟩ :∃a b,e.kids=[a,b]:=by
   match hk:e.kids,hl with
   | [a,b],_=>exact⟨a,b,rfl⟩
  have vW:a∈e.kids:=by rw[hk];simp
  have yG:b∈e.kids:=by rw[hk];simp
  obtain⟨a1,a2,a3⟩:=H v a (V.CT.kids a vW) (Ca vW) (V.KF vW) V.Jm;have g0:Sh.get e.kids 0=some a:=by rw[hk];rfl
  have g1:Sh.get e.kids 1=some b:=by rw[hk];rfl
  rw[g0,g1];simp only[ov,AI,hl];rw[a1,a2];simp only[ov];by_cases hn:e.num=0
  .by_cases ht:0<=T v a
   .have ht':¬ T v a<0:=by omega
    have hty:Dc p.decls (T v a)=true:=by
     rcases a3 with q|q
     .omega
     .exact q
    obtain⟨b1,b2,b3⟩:=H (v++[T v a]) b (V.CT.kids b yG) (Ca yG) (V.more yG (by simp)) (V.X4 (by simp[hty]));refine⟨T (v++[T v a]) b,?_,?_,b3⟩
    .rw[Jp hv (by simp)];simp[hn,ht,b1,Sh.cont]
    .rw[DJ v [T v a] 8 (by simp;omega) (by simp;omega)];simp[hn,ht',b2]
   .have ht':T v a<0:=by omega
    exact⟨-1,by simp[hn,ht,Sh.cont],by simp[hn,ht'],.inl rfl⟩
  .exact⟨-1,by simp[hn,Sh.cont],by simp[hn],.inl rfl⟩
 .have yb:¬ ((e.kids.length:Int)=2):=by omega
  refine⟨-1,?_,?_,.inl rfl⟩
  .by_cases hn:e.num=0<;>simp[hn,AI,yb,Sh.cont]
  .simp[AI,yb]
theorem U5 (x y:Int):MO [x,y]=if y=x then x else -1:=by
 unfold MO;by_cases h:y=x<;>simp[h]
theorem ir (H:LC p (FE p) R1 R2 T (en e))(V:IW p e v)(hN:2000000<=N)(h:e.op=7):Lm p R1 R2 N v e:=by
 have hv:v.length<=1000:=by have:=V.len;omega
 unfold Lm Bs Al;simp only[h,Int.reduceEq,pX,pa,pF,pt,pV,ov];by_cases hl:e.kids.length=3
 .obtain⟨a,b,c,hk⟩ :∃a b c,e.kids=[a,b,c]:=by
   match hk:e.kids,hl with
   | [a,b,c],_=>exact⟨a,b,c,rfl⟩
  have vW:a∈e.kids:=by rw[hk];simp
  have yG:b∈e.kids:=by rw[hk];simp
  have hmc:c∈e.kids:=by rw[hk];simp
  obtain⟨a1,a2,a3⟩:=H v a (V.CT.kids a vW) (Ca vW) (V.KF vW) V.Jm;obtain⟨b1,b2,b3⟩:=H v b (V.CT.kids b yG) (Ca yG) (V.KF yG) V.Jm;obtain⟨c1,c2,c3⟩:=H v c (V.CT.kids c hmc) (Ca hmc) (V.KF hmc) V.Jm;have g0:Sh.get e.kids 0=some a:=by rw[hk];rfl
  have g1:Sh.get e.kids 1=some b:=by rw[hk];rfl
  have g2:Sh.get e.kids 2=some c:=by rw[hk];rfl
  have g3:Sh.sl e.kids 1 3=some [b,c]:=by rw[hk];rfl
  have o:=Ky (ks:=[b,c]) (ms:=[[],[]]) H V hN (by intro k hk;simp only[pL,pn,qc]at hk;rcases hk with rfl|rfl<;>assumption) (by simp) rfl (by simp);have mk2:Sh.mk ([]:List Int) 2 24=some [[],[]]:=OJ [] 2 24 (by omega) (by omega);rw[g0,g1,g2];simp only[ov,AI,hl];rw[a1,a2,b1,c1,show ((3:Nat):Int)=3 from rfl,g3,mk2];simp only[ov];rw[o];simp only[ov,List.zipWith,qS,U5];by_cases hn:e.num=0
  .by_cases ht:T v a=0
   .by_cases hq:T v c=T v b
    .exact⟨T v b,by simp[hn,ht,hq,Sh.cont],by simp[hn,ht,hq],b3⟩
    .exact⟨-1,by simp[hn,ht,hq,Sh.cont],by simp[hn,ht,hq],.inl rfl⟩
   .exact⟨-1,by simp[hn,ht,Sh.cont],by simp[hn,ht],.inl rfl⟩
  .exact⟨-1,by simp[hn,Sh.cont],by simp[hn],.inl rfl⟩
 .have yb:¬ ((e.kids.length:Int)=3):=by omega
  refine⟨-1,?_,?_,.inl rfl⟩
  .by_cases hn:e.num=0<;>simp[hn,AI,yb,Sh.cont]
  .simp[AI,yb]
theorem aa {n:Int}:(∃f,0<=n/\n<(p.funcs.length:Int)/\p.funcs[n.toNat]?=some f/\f∈p.funcs/\Sh.get p.funcs n=some f/\Sh.get (FE p).funcs n=some ⟨f.params,[],f.result⟩)∨(n<0∨(p.funcs.length:Int)<=n):=by
 by_cases h:0<=n/\n<(p.funcs.length:Int)
 .obtain⟨f,h1,h2⟩:=Oc h.1 h.2;refine .inl ⟨f,h.1,h.2,h2,oz h2,h1,?_⟩;rw[ZL h.1];show ((p.funcs.map λf=>(⟨f.params,[],f.result⟩:By)))[n.toNat]?=_;rw[pC,h2];rfl
 .exact .inr (by omega)
theorem N3:(FE p).funcs.length=p.funcs.length:=by show (p.funcs.map _).length=_;simp
theorem de (H:LC p (FE p) R1 R2 T (en e))(V:IW p e v)(S:FA p.decls p.funcs)(hN:2000000<=N)(h:e.op=9):Lm p R1 R2 N v e:=by
 have hk:=V.Kc;have hF:=S.JL;rcases aa (p:=p) (n:=e.num) with ⟨f,f0,f1,f2,f3,f4,f5⟩|hr
 .obtain⟨q1,q2,q3⟩:=S.NV f f3;have f0':¬ e.num<0:=by omega
  have f1':¬ (p.funcs.length:Int)<=e.num:=by omega
  have f1'':e.num<=(p.funcs.length:Int)-1:=by omega
  have h1:=Lt H V hN (by omega) (by omega) (by omega) (by omega) (want:=f.params) (c:=true) (t:=f.result) (λy hy=>(LL (q2 y hy)).1) (by
   unfold BH;simp only[h,Int.reduceEq,pX,pa,pF,pt,pV,ov,AI,N3,f0',f1'];rw[f5];simp only[ov];rw[Ol (by simp;omega) hN];simp[Sh.cont])
  refine⟨_,?_,h1,?_⟩
  .unfold Bs Fo;simp only[h,Int.reduceEq,pX,pa,pF,pt,pV,ov];rw[Dn,AI p.funcs,BE (n:=(p.funcs.length:Int)-1) (by omega) (by omega),f4];simp only[h,Int.reduceEq,pX,pa,pF,pt,pV,ov,f0,f1'',sI,qD];rw[RS H V hN];by_cases b:e.kids.map (T v)=f.params<;>simp[b,Sh.cont]
  .split
   .exact .inr q3
   .exact .inl rfl
 .refine⟨-1,?_,?_,.inl rfl⟩
  .unfold Bs Fo;simp only[h,Int.reduceEq,pX,pa,pF,pt,pV,ov];rw[Dn,AI p.funcs,BE (n:=(p.funcs.length:Int)-1) (by omega) (by omega)];have:(decide (0<=e.num)&&decide (e.num<=(p.funcs.length:Int)-1))=false:=by
    rw[rV,qZ,qZ];omega
   rw[this];simp only[h,Int.reduceEq,pX,pa,pF,pt,pV,ov];simp[Sh.cont]
  .rw[F9 H V hN (by omega) (by omega) (by omega) (by omega)];unfold BH;simp only[h,Int.reduceEq,pX,pa,pF,pt,pV,ov,AI,N3];rcases hr with hr|hr
   .simp[hr,Sh.cont]
   .have:¬ e.num<0:=by omega
    simp[hr,this,Sh.cont]
theorem dM {α:Type}{l:List α}{m:Nat}(h:m<=l.length):Sh.sl l 0 (m:Int)=some (l.take m):=by
 unfold Sh.sl;rw[pJ ⟨by omega,by omega,by omega⟩];simp
theorem cN (H:LC p (FE p) R1 R2 T (en e))(V:IW p e v)(S:FA p.decls p.funcs)(hN:2000000<=N)(h:e.op=10):Lm p R1 R2 N v e:=by
 have hk:=V.Kc;have hF:=S.JL;have hD:=S.P6;rcases aa (p:=p) (n:=e.num) with ⟨f,f0,f1,f2,f3,f4,f5⟩|hr
 .obtain⟨q1,q2,q3⟩:=S.NV f f3;have f0':¬ e.num<0:=by omega
  have f1':¬ (p.funcs.length:Int)<=e.num:=by omega
  have f1'':e.num<=(p.funcs.length:Int)-1:=by omega
  by_cases hp:f.params.length=0
  .have hp':f.params=[]:=qN hp;refine⟨-1,?_,?_,.inl rfl⟩
   .unfold Bs Fo;simp only[h,Int.reduceEq,pX,pa,pF,pt,pV,ov];rw[Dn,AI p.funcs,BE (n:=(p.funcs.length:Int)-1) (by omega) (by omega),f4];simp only[h,Int.reduceEq,pX,pa,pF,pt,pV,ov,f0,f1'',sI,qD,len_nil,hp'];simp[Sh.cont]
   .rw[F9 H V hN (by omega) (by omega) (by omega) (by omega)];unfold BH;simp only[h,Int.reduceEq,pX,pa,pF,pt,pV,ov,AI,N3,f0',f1'];rw[f5];simp only[ov,hp];rw[BE (by omega) (by omega)];simp[Sh.cont]
  .obtain⟨m,hm⟩ :∃m,f.params.length=m+1:=⟨f.params.length-1,by omega⟩
   obtain⟨x,hx,vx⟩:=Bh (l:=f.params) (i:=m) (by omega);have hp':¬ f.params=[]:=λq=>hp (by rw[q];rfl);have hw:Sh.w ((f.params.length:Int)-1)=(m:Int):=by rw[BE (by omega) (by omega)];omega
   have hm0:¬ ((m:Int)<0):=by omega
   have hty:JC x f.result p.decls 0=-1∨Dc p.decls (JC x f.result p.decls 0)=true:=by
    rcases bz (a:=x) (b:=f.result) p.decls 0 with q|q
    .exact .inl q
    .right;unfold Dc;simp;omega
   have h1:=Lt H V hN (by omega) (by omega) (by omega) (by omega) (want:=f.params.take m) (c:=decide (0<=JC x f.result p.decls 0)) (t:=JC x f.result p.decls 0) (λy hy=>(LL (q2 y (qd hy))).1) (by
    unfold BH;simp only[h,Int.reduceEq,pX,pa,pF,pt,pV,ov,AI,N3,f0',f1'];rw[f5];simp only[ov,hw,hm0,pa,pF,pV];rw[Ax hx];simp only[ov];rw[show (FE p).decls=p.decls from rfl,U1 (by omega) hN,dM (by omega)];simp only[ov];rw[Ol (by simp;omega) hN];by_cases z:0<=JC x f.result p.decls 0<;>simp[z,Sh.cont])
   refine⟨_,?_,h1,?_⟩
   .unfold Bs Fo;simp only[h,Int.reduceEq,pX,pa,pF,pt,pV,ov];rw[Dn,AI p.funcs,BE (n:=(p.funcs.length:Int)-1) (by omega) (by omega),f4];simp only[h,Int.reduceEq,pX,pa,pF,pt,pV,ov,f0,f1'',sI,qD,len_nil,hp'];rw[AI,hw,dM (by omega),Ax hx];simp only[ov];rw[RS H V hN,O5 (by omega) hN];by_cases b:e.kids.map (T v)=f.params.take m
    .by_cases z:0<=JC x f.result p.decls 0
     .simp[b,z,Sh.cont]
     .have:JC x f.result p.decls 0=-1:=by
       rcases hty with q|q
       .exact q
       .exact absurd (LL q).1 z
      simp[b,this,Sh.cont]
    .simp[b,Sh.cont]
   .split
    .exact hty
    .exact .inl rfl
 .refine⟨-1,?_,?_,.inl rfl⟩
  .unfold Bs Fo;simp only[h,Int.reduceEq,pX,pa,pF,pt,pV,ov];rw[Dn,AI p.funcs,BE (n:=(p.funcs.length:Int)-1) (by omega) (by omega)];have:(decide (0<=e.num)&&decide (e.num<=(p.funcs.length:Int)-1))=false:=by
    rw[rV,qZ,qZ];omega
   rw[this];simp only[h,Int.reduceEq,pX,pa,pF,pt,pV,ov];simp[Sh.cont]
  .rw[F9 H V hN (by omega) (by omega) (by omega) (by omega)];unfold BH;simp only[h,Int.reduceEq,pX,pa,pF,pt,pV,ov,AI,N3];rcases hr with hr|hr
   .simp[hr,Sh.cont]
   .have:¬ e.num<0:=by omega
    simp[hr,this,Sh.cont]
theorem bU (H:LC p (FE p) R1 R2 T (en e))(V:IW p e v)(S:FA p.decls p.funcs)(hN:2000000<=N)(h:e.op=11):Lm p R1 R2 N v e:=by
 have hk:=V.Kc;have hD:=S.P6;by_cases hl:e.kids.length=2
 .obtain⟨a,b,hk⟩ :∃a b,e.kids=[a,b]:=by
   match hk:e.kids,hl with
   | [a,b],_=>exact⟨a,b,rfl⟩
  have vW:a∈e.kids:=by rw[hk];simp
  have yG:b∈e.kids:=by rw[hk];simp
  obtain⟨a1,a2,a3⟩:=H v a (V.CT.kids a vW) (Ca vW) (V.KF vW) V.Jm;obtain⟨b1,b2,b3⟩:=H v b (V.CT.kids b yG) (Ca yG) (V.KF yG) V.Jm;have g0:Sh.get e.kids 0=some a:=by rw[hk];rfl
  have g1:Sh.get e.kids 1=some b:=by rw[hk];rfl
  have i1:Sh.get (e.kids.map (T v)) 0=some (T v a):=by rw[hk];rfl
  have i2:Sh.get (e.kids.map (T v)) 1=some (T v b):=by rw[hk];rfl
  have imp:Al N R2 v (FE p) e=some ((SI p.decls (T v a)).elim (-1) λd=>if T v b=d.from_/\e.num=0 then d.to else -1):=by
   rw[F9 H V hN (by omega) (by omega) (by omega) (by omega)];unfold BH;simp only[h,Int.reduceEq,pX,pa,pF,pt,pV,ov,AI,pR,hl];rw[i1,i2];simp only[ov];rw[show (FE p).decls=p.decls from rfl,VE (by omega)];simp only[ov];cases hA:SI p.decls (T v a) with
   |none=>simp[Sh.cont]
   |some d=>
    obtain⟨m1,m2,m3,m4⟩:=Up hA;have m5:=S.kI d m1;have n1:¬ T v a<0:=by omega
    by_cases c1:T v b=d.from_
    .have n2:¬ T v b<0:=by rw[c1];have:=(LL m5.1).1;omega
     have n3:¬ d.from_<0:=c1▸n2;by_cases c2:e.num=0<;>simp[hk,n1,c1,n3,c2,Sh.cont]
    .simp[c1,Sh.cont]
  refine⟨_,?_,imp,?_⟩
  .unfold Bs;simp only[h,Int.reduceEq,pX,pa,pF,pt,pV,ov,AI,hl];rw[g0,g1];simp only[ov];rw[a1];simp only[ov];rw[KK (by omega),b1];simp only[ov];cases hA:SI p.decls (T v a) with
   |none=>by_cases c2:e.num=0<;>simp[c2,Sh.cont]
   |some d=>
    obtain⟨m1,m2,m3,m4⟩:=Up hA;have g5:Sh.get p.decls (Sh.w (T v a-1))=some d:=by rw[BE (by omega) (by omega),ZL (by omega),m4]
    rw[g5];by_cases c2:e.num=0<;>by_cases c1:T v b=d.from_<;>simp[c1,c2,Sh.cont]
  .cases hA:SI p.decls (T v a) with
   |none=>exact .inl rfl
   |some d=>
    obtain⟨m1,_⟩:=Up hA;simp only[rf];split
    .exact .inr (S.kI d m1).2
    .exact .inl rfl
 .have yb:¬ ((e.kids.length:Int)=2):=by omega
  refine⟨-1,?_,?_,.inl rfl⟩
  .unfold Bs;simp only[h,Int.reduceEq,pX,pa,pF,pt,pV,ov,AI,yb];by_cases c2:e.num=0<;>simp[c2,Sh.cont]
  .rw[F9 H V hN (by omega) (by omega) (by omega) (by omega)];unfold BH;simp only[h,Int.reduceEq,pX,pa,pF,pt,pV,ov,AI,pR,yb];simp[Sh.cont]
end
end RC
namespace RC
open Go
def Gf (D:List AL)(c:Int):List Int:=(IM D 0 c.toNat).elim [] λx=>x.2.fields
theorem er {D:List AL}{t c:Int}(h:c∈CO D t):∃k:Nat,c=(k:Int)/\k<nc D:=by
 unfold CO at h;split at h
 .rename_i h1;obtain⟨a,ha⟩ :∃a:Nat,t=(a:Int)+1:=⟨(t-1).toNat,by omega⟩
  subst ha;obtain⟨d,hd,_⟩:=Bh (l:=D) (i:=a) (by omega);rw[show (((a:Int)+1)-1).toNat=a by omega,hd]at h;simp only[rf,pS,rF]at h;obtain⟨i,hi,rfl⟩:=h;have hs:=Hn D a;rw[Tj hd]at hs;exact⟨nc (D.take a)+i,by omega,by omega⟩
 .cases h
theorem Na {D:List AL}(h :∀d∈D,d.cons.length<=3)(t:Int):(CO D t).length<=3:=by
 unfold CO;split
 .rename_i h1;obtain⟨a,ha⟩ :∃a:Nat,t=(a:Int)+1:=⟨(t-1).toNat,by omega⟩
  subst ha;obtain⟨d,hd,hm⟩:=Bh (l:=D) (i:=a) (by omega);rw[show (((a:Int)+1)-1).toNat=a by omega,hd];simp only[rf,pR,List.length_range];exact h d hm
 .simp
theorem Ra {D:List AL}{F:List AU}(S:FA D F){t c:Int}(h:c∈CO D t){N:Nat}(hN:2000000<=N):Bt N D c=some (Gf D c)/\Eg N D c=some (Gf D c)/\(Gf D c).length<=3/\∀x∈Gf D c,Dc D x=true:=by
 obtain⟨k,rfl,hk⟩:=er h;have hD:=S.P6;have hn:=S.nc;obtain⟨t,x,e1,e2⟩:=Iu (D:=D) (by omega) (by omega) hk hN;obtain⟨t',x',e1',e3⟩:=T8 (D:=D) (by omega) (by omega) hk hN;rw[e1]at e1';cases e1';obtain⟨_,_,d,g3,g4⟩:=RW e1;have hf:Gf D (k:Int)=x.fields:=by unfold Gf;rw[qQ,e1];rfl
 rw[hf];exact⟨e2,e3,S.NJ d g3 x g4⟩
section
variable {p : AJ} {R1 : AJ -> List Int -> AD -> Option Int} {R2 : List Int -> BO -> AD -> Option Int} {T : List Int -> AD -> Int} {e : AD} {v : List Int} {N : Nat}
theorem Pc (S:FA p.decls p.funcs)(hN:2000000<=N){C:List Int}(hC:C.length<=3)(hc :∀c∈C,Eg N p.decls c=some (Gf p.decls c)):CB N (FE p) C N 0 (List.replicate C.length [])=some (C.map (Gf p.decls)):=by
 have key:∀{M i:Nat},i<=C.length->C.length-i<M->∀m:List (List Int),m.length=C.length->m.take i=(C.map (Gf p.decls)).take i->CB N (FE p) C M i m=some (C.map (Gf p.decls)):=by
  intro M i hi hM;refine BQ C.length (λM i=>∀m:List (List Int),m.length=C.length->m.take i=(C.map (Gf p.decls)).take i->CB N (FE p) C M i m=some (C.map (Gf p.decls))) ?_ ?_ hi hM
  .intro n m a b;rw[CB,pK (by simp[AI])];rw[qJ (by omega),qJ (by simp)]at b;rw[b]
  .intro n i hi ih m a b;obtain⟨x,hx,vx⟩:=Bh hi;obtain⟨y,hy,_⟩:=Bh (l:=m) (i:=i) (by omega);have hx2:(C.map (Gf p.decls))[i]?=some (Gf p.decls x):=by rw[pC,hx];rfl
   have xJ:(m.set i (Gf p.decls x))[i]?=some (Gf p.decls x):=by rw[pP (by omega)]
   rw[CB,pJ (by simp[AI];omega),Ax hx];simp only[ov];rw[show (FE p).decls=p.decls from rfl,hc x vx,Ax hy];simp only[ov];rw[Om,BE (by omega) (by omega),show ((i:Int)+1)=((i+1:Nat):Int) by omega];exact ih _ (by simp[a]) (by rw[EJ xJ,EJ hx2,<- b,se (pM _)])
 have:=key (pT _) (by omega:C.length-0<N) (List.replicate C.length []) (by simp) rfl;simpa using this
theorem cI (H:LC p (FE p) R1 R2 T (en e))(V:IW p e v)(S:FA p.decls p.funcs)(hN:2000000<=N)(h:e.op=8):Lm p R1 R2 N v e:=by
 have hk:=V.Kc;have hD:=S.P6;have hn:=S.nc;have hv:v.length<=1000:=by have:=V.len;omega
 have hCl:=Na S.Vq e.num;unfold Lm Bs Al Kj;simp only[h,Int.reduceEq,pX,pa,pF,pt,pV,ov];rw[show (FE p).decls=p.decls from rfl,Ma (by omega) (by omega) hN,JE (by omega) (by omega) hN];simp only[ov];generalize hCe:CO p.decls e.num=C at hCl;have hCm:∀c∈C,Bt N p.decls c=some (Gf p.decls c)/\Eg N p.decls c=some (Gf p.decls c)/\(Gf p.decls c).length<=3/\∀x∈Gf p.decls c,Dc p.decls x=true:=λc hc=>Ra S (hCe▸hc) hN;rw[AI C,AI e.kids,BE (n:=1+(C.length:Int)) (by omega) (by omega)];by_cases h0:C.length=0
 .exact⟨-1,by simp[h0,Sh.cont],by simp[h0],.inl rfl⟩
 .have yk:¬ ((C.length:Int)=0):=by omega
  have uu:¬ C=[]:=λq=>h0 (by rw[q];rfl);by_cases h1:e.kids.length=1+C.length
  .have xH:((e.kids.length:Int)=1+(C.length:Int)):=by omega
   obtain⟨a,r,wq⟩ :∃a r,e.kids=a::r:=by
    cases hq:e.kids with
    |nil=>rw[hq]at h1;simp at h1;omega
    |cons a r=>exact⟨a,r,rfl⟩
   have ye:r.length=C.length:=by rw[wq]at h1;simp at h1;omega
   have vW:a∈e.kids:=by rw[wq];simp
   have hmr:∀k∈r,k∈e.kids:=λk hk=>by rw[wq];simp[hk]
   obtain⟨a1,a2,a3⟩:=H v a (V.CT.kids a vW) (Ca vW) (V.KF vW) V.Jm;have g0:Sh.get e.kids 0=some a:=by rw[wq];rfl
   have gi:∀(i:Nat) k,r[i]?=some k->Sh.get e.kids ((1+i:Nat):Int)=some k:=λi k hk=>by
    rw[Q9,wq,Nat.add_comm];simpa using hk
   have g3:Sh.sl e.kids 1 (e.kids.length:Int)=some r:=by
    unfold Sh.sl;rw[pJ ⟨by omega,by omega,by omega⟩,wq];simp
   have mkC:Sh.mk ([]:List Int) (C.length:Int) 24=some (List.replicate C.length []):=OJ [] C.length 24 (by omega) (by omega);have o:=Ky (ks:=r) (ms:=C.map (Gf p.decls)) H V hN hmr (by omega) (by simp[ye]) (by
    intro m hm;obtain⟨c,hc,rfl⟩:=pS.1 hm;exact (hCm c hc).2.2)
   have F:=Pc (p:=p) S hN hCl λc hc=>(hCm c hc).2.1;generalize hts:List.zipWith (λm k=>T (v++m) k) (C.map (Gf p.decls)) r=ts at o;have tsl:ts.length=C.length:=by rw[<- hts];simp[ye]
   have tsi:∀(i:Nat),i<C.length->∃c k,C[i]?=some c/\r[i]?=some k/\ts[i]?=some (T (v++Gf p.decls c) k)/\Bt N p.decls c=some (Gf p.decls c)/\Ex v (Gf p.decls c)=some (v++Gf p.decls c)/\R1 p (v++Gf p.decls c) k=some (T (v++Gf p.decls c) k)/\(T (v++Gf p.decls c) k=-1∨Dc p.decls (T (v++Gf p.decls c) k)=true):=λi hi=>by
    obtain⟨c,hc,wI⟩:=Bh (l:=C) (i:=i) hi;obtain⟨k,hk2,xV⟩:=Bh (l:=r) (i:=i) (by omega);obtain⟨q1,q2,q3,q4⟩:=hCm c wI;obtain⟨z1,z2,z3⟩:=H (v++Gf p.decls c) k (V.CT.kids k (hmr k xV)) (Ca (hmr k xV)) (V.more (hmr k xV) q3) (V.X4 q4);refine⟨c,k,hc,hk2,?_,q1,Jp hv (by omega),z1,z3⟩;rw[<- hts,rE,pC,hc,hk2];rfl
   have L:∀(t:Int) {M i:Nat},i<=C.length->C.length-i<M->EV N p v e t C R1 M i=some (if (ts.drop i).all (λx=>decide (x=t))=true then .inr () else .inl (-1)):=by
    intro t M i hi hM;refine BQ C.length (λM i=>EV N p v e t C R1 M i=some (if (ts.drop i).all (λx=>decide (x=t))=true then .inr () else .inl (-1))) ?_ ?_ hi hM
    .intro n;rw[EV,pK (by simp[AI]),sS (by omega)];rfl
    .intro n i hi ih;obtain⟨c,k,q1,q2,q3,q4,q5,q6,q7⟩:=tsi i hi;rw[EV,pJ (by simp[AI];omega),Ax q1];simp only[ov];rw[q4];simp only[ov];rw[q5,BE (n:=(1:Int)+(i:Int)) (by omega) (by omega),show ((1:Int)+(i:Int))=((1+i:Nat):Int) by omega,gi i k q2];simp only[ov];rw[q6,BE (by omega) (by omega),show ((i:Int)+1)=((i+1:Nat):Int) by omega,drop_cons q3,rR];simp only[ov];by_cases z:T (v++Gf p.decls c) k=t
     .simp only[z,pX,qD,pF,pV,sJ];exact ih
     .simp[z]
   rw[g0,g3,mkC];simp only[ov];rw[a1,a2];simp only[ov];rw[F];simp only[ov];rw[o];obtain⟨c,k,q1,q2,q3,q4,q5,q6,q7⟩:=tsi 0 (by omega);have g1:=gi 0 k q2;have c0:Sh.get C 0=some c:=by rw[show (0:Int)=((0:Nat):Int) from rfl,Ax q1]
   rw[show ((1+0:Nat):Int)=1 from rfl]at g1;rw[c0];simp only[ov];rw[q4];simp only[ov];rw[q5,g1];simp only[ov];rw[q6];simp only[ov];have L1:=L (T (v++Gf p.decls c) k) (M:=N) (i:=1) (by omega) (by omega);rw[show ((1:Nat):Int)=1 from rfl]at L1;rw[L1];have hts2:ts=T (v++Gf p.decls c) k::ts.drop 1:=by
    have:=drop_cons q3;simpa using this
   by_cases z:T v a=e.num
   .by_cases y:(ts.drop 1).all (λx=>decide (x=T (v++Gf p.decls c) k))=true
    .have ho:MO ts=T (v++Gf p.decls c) k:=by rw[hts2];unfold MO;dsimp only;rw[if_pos y]
     refine⟨T (v++Gf p.decls c) k,?_,?_,q7⟩
     .rw[pJ y];simp[yk,uu,xH,z,Sh.cont]
     .rw[ho];simp[yk,uu,xH,z]
    .have ho:MO ts=-1:=by rw[hts2];unfold MO;dsimp only;rw[if_neg y]
     refine⟨-1,?_,?_,.inl rfl⟩
     .rw[pK y];simp[yk,uu,xH,z,Sh.cont]
     .rw[ho];simp[yk,uu,xH,z]
   .exact⟨-1,by simp[yk,uu,xH,z,Sh.cont],by simp[yk,uu,xH,z],.inl rfl⟩
  .have xH:¬ ((e.kids.length:Int)=1+(C.length:Int)):=by omega
   exact⟨-1,by simp[yk,uu,xH,Sh.cont],by simp[yk,uu,xH],.inl rfl⟩
theorem fA (H:LC p (FE p) R1 R2 T (en e))(V:IW p e v)(S:FA p.decls p.funcs)(hN:2000000<=N):Lm p R1 R2 N v e:=by
 by_cases h0:e.op=0
 .exact hZ H V hN h0
 by_cases h1:e.op=1∨e.op=2∨e.op=3∨e.op=4
 .exact cx H V hN h1
 by_cases h5:e.op=5
 .exact cv H V hN h5
 by_cases h6:e.op=6
 .exact iN H V S hN h6
 by_cases h7:e.op=7
 .exact ir H V hN h7
 by_cases h8:e.op=8
 .exact cI H V S hN h8
 by_cases h9:e.op=9
 .exact de H V S hN h9
 by_cases h10:e.op=10
 .exact cN H V S hN h10
 by_cases h11:e.op=11
 .exact bU H V S hN h11
 by_cases vr:e.op=12
 .exact iT V vr
 by_cases h13:e.op=13
 .exact iE H V h13
 exact dS H V hN (by omega)
end
theorem O3 {p:AJ}(S:FA p.decls p.funcs){N:Nat}(hN:2000000<=N):∀(n:Nat),∃T:List Int->AD->Int,∀(v:List Int) (e:AD),Ak e->en e<n->v.length+3*en e<=1000->(∀x∈v,Dc p.decls x=true)->
  ∀n1 n2,n<=n1->n<=n2->Ci N n1 p v e=some (T v e)/\Ba N n2 v (FE p) e=some (T v e)/\(T v e=-1∨Dc p.decls (T v e)=true):=by
 intro n
 induction n with
 |zero=>exact⟨λ_ _=>0,λv e _ h=>by omega⟩
 |succ n ih=>
  obtain⟨T,hT⟩:=ih;refine⟨λv e=>(Ci N (n+1) p v e).getD 0,λv e hi hn hl ht n1 n2 h1 h2=>?_⟩;have step:∀n1 n2,n<=n1->n<=n2->Lm p (Ci N n1) (Ba N n2) N v e:=λn1 n2 h1 h2=>
   fA (T:=T) (λv e a b c d=>hT v e a (by omega) c d n1 n2 h1 h2) ⟨hl,ht,by have:=hl;omega,hi⟩ S hN
  obtain⟨m1,rfl⟩ :∃m,n1=m+1:=⟨n1-1,by omega⟩
  obtain⟨m2,rfl⟩ :∃m,n2=m+1:=⟨n2-1,by omega⟩
  obtain⟨t,q1,q2,q3⟩:=step n n (pM _) (pM _);obtain⟨t',r1,r2,_⟩:=step n m2 (pM _) (by omega);obtain⟨t'',s1,s2,_⟩:=step m1 n (by omega) (pM _);have e1:t'=t:=by rw[q1]at r1;cases r1;rfl
  have e2:t''=t:=by rw[q2]at s2;cases s2;rfl
  subst e1;subst e2;have e3:(Ci N (n+1) p v e).getD 0=t'':=by rw[Ci,q1];rfl
  dsimp only;rw[e3];exact⟨by rw[Ci];exact s1,by rw[Ba];exact r2,q3⟩
end RC
namespace RC
open Go
structure Du (p:AJ):Prop where
 CT:cW p
 size:Un p<=1048576
theorem Du.decls {p:AJ}(S:Du p):RU p.decls:=by
 have h:=S.size;unfold Un at h;have hd:∀d∈p.decls,dz d<=1048576:=λd hd=>by have:=MG dz hd;omega
 refine⟨by omega,λd hm=>?_,λd hm c hc=>?_⟩
 .have:=hd d hm;unfold dz at this;omega
 .have:=hd d hm;unfold dz at this;have:=MG cz hc;show cz c<=_;omega
theorem Du.JL {p:AJ}(S:Du p):p.funcs.length<=1048576:=by have h:=S.size;unfold Un at h;omega
theorem Du.fz {p:AJ}(S:Du p){f:AU}(hf:f∈p.funcs):f.params.length<=1048576/\CL f.body.kids<=1048576:=by
 have h:=S.size;unfold Un at h;have h2:=MG aB hf;have h3:aB f=f.params.length+CL f.body.kids:=rfl;omega
theorem Du.fin {p:AJ}(S:Du p){f:AU}(hf:f∈p.funcs):Xe f:=S.CT.funcs.1 f hf
def Mg (p:AJ):Bool:=PZ p.decls (p.funcs.map λf=>(f.params,f.result))
theorem Nb {p:AJ}(S:Du p){N:Nat}(hN:2000000<=N):Hs N p=some (Mg p):=SQ S.decls S.JL (λf hf=>(S.fz hf).1) hN
theorem dy {p:AJ}(hl:p.funcs.length<=1048576){N:Nat}(hN:2000000<=N):D1 p N 0 []=some (FE p).funcs:=by
 have key:∀{N i:Nat},i<=p.funcs.length->p.funcs.length-i<N->D1 p N i ((FE p).funcs.take i)=some (FE p).funcs:=by
  intro N i hi hN;refine BQ p.funcs.length (λN i=>D1 p N i ((FE p).funcs.take i)=some (FE p).funcs) ?_ ?_ hi hN
  .intro n;rw[D1,pK (by simp[AI]),qJ (by rw[N3];omega)]
  .intro n i hi ih;obtain⟨f,hf,_⟩:=Bh hi;have hf2:(FE p).funcs[i]?=some ⟨f.params,[],f.result⟩:=by
    show (p.funcs.map _)[i]?=_;rw[pC,hf];rfl
   rw[D1,pJ (by simp[AI];omega),Ax hf];simp only[ov];rw[DJ _ _ _ (by simp;omega) (by simp;omega),BE (by omega) (by omega),show ((i:Int)+1)=((i+1:Nat):Int) by omega];simp only[ov];rw[<- ih,EJ hf2]
 have:=key (pT _) (by omega:p.funcs.length-0<N);simpa using this
theorem dg {p:AJ}(hl:p.funcs.length<=1048576){N:Nat}(hN:2000000<=N):Lc N p=some (FE p):=by
 have key:∀{N i:Nat},i<=p.funcs.length->p.funcs.length-i<N->Fx p N i ((FE p).funcs.take i)=some (FE p).funcs:=by
  intro N i hi hN;refine BQ p.funcs.length (λN i=>Fx p N i ((FE p).funcs.take i)=some (FE p).funcs) ?_ ?_ hi hN
  .intro n;rw[Fx,pK (by simp[AI]),qJ (by rw[N3];omega)]
  .intro n i hi ih;obtain⟨f,hf,_⟩:=Bh hi;have hf2:(FE p).funcs[i]?=some ⟨f.params,[],f.result⟩:=by
    show (p.funcs.map _)[i]?=_;rw[pC,hf];rfl
   rw[Fx,pJ (by simp[AI];omega),Ax hf];simp only[ov];rw[DJ _ _ _ (by simp;omega) (by simp;omega),BE (by omega) (by omega),show ((i:Int)+1)=((i+1:Nat):Int) by omega];simp only[ov];rw[<- ih,EJ hf2]
 have:=key (pT _) (by omega:p.funcs.length-0<N);rw[qt,tl]at this;unfold Lc;rw[this];rfl
theorem YU {p:AJ}(S:Du p){N:Nat}(hN:2000000<=N):Ho N p=some (Mg p):=by
 have hl:=S.JL;unfold Ho Mg;by_cases h4:p.funcs.length<=4
 .rw[pK (by rw[pQ,AI];omega),dy hl hN];simp only[ov];rw[SV S.decls (by rw[N3];exact hl) (λf hf=>by obtain⟨q,hq,rfl⟩:=pS.1 (show f∈p.funcs.map _ from hf);exact⟨(S.fz hq).1,by simp⟩) hN];have e1:((FE p).funcs.map λf=>(f.params,f.result))=p.funcs.map λf=>(f.params,f.result):=by
   show (p.funcs.map _).map _=_;rw[rG];rfl
  have e2:((FE p).funcs.all λf=>FC (Mh f.params f.Gb) 0 f.Gb)=true:=by
   rw[pH];intro f hf;obtain⟨q,hq,rfl⟩:=pS.1 (show f∈p.funcs.map _ from hf);rfl
  rw[e1,e2];simp
 .rw[pJ (by rw[pQ,AI];omega)];have:PZ p.decls (p.funcs.map λf=>(f.params,f.result))=false:=by
   unfold PZ;simp[h4]
  rw[this]
def HO (p:AJ)(T:List Int->AD->Int)(f:AU):Bool:=decide (en f.body<=30)&&decide (T f.params f.body=f.result)
theorem Gq {p:AJ}(S:Du p){N:Nat}(hN:2000000<=N):∃b,BM N p=some b/\Bz N p=some b/\(b=true->FA p.decls p.funcs/\∀f∈p.funcs,en f.body<=30):=by
 unfold BM Bz;rw[Nb S hN,YU S hN];simp only[ov];cases hs:Mg p with
 |false=>exact⟨false,rfl,rfl,λh=>nomatch h⟩
 |true=>
  have SO:=FA.of hs;have hl:=S.JL;obtain⟨T,hT⟩:=O3 SO hN 31;have hty:∀f∈p.funcs,en f.body<=30->KE N p f.params f.body=some (T f.params f.body)/\IU N f.params (FE p) f.body=some (T f.params f.body)/\(T f.params f.body=-1∨Dc p.decls (T f.params f.body)=true):=λf hf he=>by
   obtain⟨q1,q2,q3⟩:=SO.NV f hf;exact hT f.params f.body (S.fin hf).body (by omega) (by omega) q2 N N (by omega) (by omega)
  have xb:∀f∈p.funcs,CN f.params=some f.params:=λf hf=>by
   obtain⟨q1,q2,q3⟩:=SO.NV f hf;unfold CN;rw[DJ [] f.params 8 (by simp;omega) (by simp;omega)];rfl
  have L1:=EH (l:=p.funcs) (Bl N p) (λ_ f=>HO p T f) (λn=>by rw[Bl,pK (by simp[AI])]) (λn i f hi=>by
   have vh:=(pB.1 hi).1;have hf:=oz hi;rw[Bl,pJ (by simp[AI];omega),Ax hi];simp only[ov];rw[Gm (S.fz hf).2 hN,BE (by omega) (by omega),show ((i:Int)+1)=((i+1:Nat):Int) by omega];simp only[ov];unfold HO;by_cases he:en f.body<=30
   .rw[pJ he,pK (by simp),(hty f hf he).1];by_cases hr:T f.params f.body=f.result<;>simp[he,hr]
   .rw[pK he];simp[he]) (by omega:p.funcs.length<N)
  have L2:=EH (l:=p.funcs) (D7 N p) (λ_ f=>HO p T f) (λn=>by rw[D7,pK (by simp[AI])]) (λn i f hi=>by
   have vh:=(pB.1 hi).1;have hf:=oz hi;obtain⟨q1,q2,q3⟩:=SO.NV f hf;have q4:f.params.all (Dc p.decls)=true:=pH.2 q2;rw[D7,pJ (by simp[AI];omega),Ax hi];simp only[ov];unfold NC;rw[YU S hN,hs,Ow (S.fz hf).2 hN,LY (by omega) (by omega),q4,dg hl hN,xb f hf,BE (by omega) (by omega),show ((i:Int)+1)=((i+1:Nat):Int) by omega];simp only[ov];unfold HO;by_cases he:en f.body<=30
   .rw[pJ he,(hty f hf he).2.1];have he0:¬ ((en f.body:Int)<0):=by omega
    by_cases hr:T f.params f.body=f.result<;>simp[he,hr,he0]
   .rw[pK he];have hr:¬ ((-1:Int)=f.result):=λq=>by have:=(LL q3).1;omega
    simp[he,hr]) (by omega:p.funcs.length<N)
  rw[GB]at L1 L2;refine⟨p.funcs.all (HO p T),?_,?_,λh=>⟨SO,λf hf=>?_⟩⟩
  .simp only[qD,pF,pV];rw[L1,EM];cases p.funcs.all (HO p T)<;>rfl
  .simp only[qD,pF,pV];rw[L2,EM];cases p.funcs.all (HO p T)<;>rfl
  .have:=pH.1 h f hf;unfold HO at this;simp only[pb,pQ]at this;exact this.1
def Y9 (f:Int)(e:AD):Nat:=if e.op=9/\e.num=f then 1 else 0
mutual
def cse (f:Int):AD->Nat|.mk o n k=>(if o=9/\n=f then 1 else 0)+LF f k
def LF (f:Int):List AD->Nat|[]=>0|e::l=>cse f e+LF f l
end
theorem aL (f:Int)(e:AD):cse f e=Y9 f e+LF f e.kids:=by
 cases e;simp only[cse,Y9,AD.op,AD.num,AD.kids];congr 1
theorem ZP {f:Int}{k:List AD}{i:Nat}{e:AD}(h:k[i]?=some e):LF f (k.drop i)=cse f e+LF f (k.drop (i+1)):=by rw[drop_cons h];simp[LF]
theorem fp (f:Int)(e:AD):Y9 f e<=1:=by unfold Y9;split<;>omega
mutual
theorem fN (f:Int):∀e:AD,cse f e<=en e
 |.mk o n k=>by
  have:=Wo f k;simp only[cse,en];split<;>omega
theorem Wo (f:Int):∀l:List AD,LF f l<=CL l
 | []=>by simp[LF,CL]
 |e::l=>by
  have:=fN f e;have:=Wo f l;simp only[LF,CL];omega
end
theorem cU {e:AD}{f:Int}:(if decide (e.op=9)=true then some (decide (e.num=f)) else some false)=some (decide (e.op=9/\e.num=f)):=by
 by_cases h1:e.op=9<;>by_cases h2:e.num=f<;>simp[h1,h2]
theorem eF {N:Nat}(hN:2000000<=N){f:Int}:∀(n:Nat) (e:AD),en e<=1000->en e<=n->Hu N n e f=some (cse f e:Int):=by
 intro n
 induction n with
 |zero=>intro e _ h;have:=Fc e;omega
 |succ n ih=>
  intro e hz hn;have hk:e.kids.length<=1000:=by have:=HL e.kids;have:=Fs e;omega
  have hp:=Fs e;have xb:=Wo f e.kids;have h1:=fp f e;rw[Hu];unfold Pz;have key:∀{M i:Nat},i<=e.kids.length->e.kids.length-i<M->∀c:Nat,c+LF f (e.kids.drop i)<=2000->Gp e f (Hu N n) M c i=some ((c+LF f (e.kids.drop i):Nat):Int):=by
   intro M i hi hM;refine BQ e.kids.length (λM i=>∀c:Nat,c+LF f (e.kids.drop i)<=2000->Gp e f (Hu N n) M c i=some ((c+LF f (e.kids.drop i):Nat):Int)) ?_ ?_ hi hM
   .intro m c _;rw[Gp,pK (by simp[AI]),qq];simp[LF]
   .intro m i hi xI c hc;obtain⟨x,hx,vx⟩:=Bh hi;have hxe:=Ca vx;rw[ZP hx]at hc⊢;rw[Gp,pJ (by simp[AI];omega),Ax hx];simp only[ov];rw[ih x (by omega) (by omega)];simp only[ov];rw[BE (n:=(i:Int)+1) (by omega) (by omega),BE (by omega) (by omega),show ((i:Int)+1)=((i+1:Nat):Int) by omega,show ((c:Int)+(cse f x:Int))=((c+cse f x:Nat):Int) by omega,xI (c+cse f x) (by omega),qe]
  have:=key (pT _) (by omega:e.kids.length-0<N) (Y9 f e) (by rw[qK];omega);rw[qK,tl,<- aL]at this;rw[cU];simp only[ov];have e1:(if decide (e.op=9/\e.num=f)=true then some (1:Int) else some 0)=some ((Y9 f e:Nat):Int):=by
   unfold Y9;by_cases h:e.op=9/\e.num=f<;>simp[h]
  rw[e1];simp only[ov];rw[this];rfl
theorem ly {N:Nat}(hN:2000000<=N){f:Int}:∀(n:Nat) (e:AD) (c:Nat),en e<=1000->c+cse f e<=102000->en e<=n->H5 N n f c e=some (f,((c+cse f e:Nat):Int)):=by
 intro n
 induction n with
 |zero=>intro e _ _ _ h;have:=Fc e;omega
 |succ n ih=>
  intro e c hz hc hn;have hk:e.kids.length<=1000:=by have:=HL e.kids;have:=Fs e;omega
  have hp:=Fs e;have xb:=Wo f e.kids;have h1:=fp f e;have hce:=aL f e;rw[H5];unfold Mx JY;have key:∀{M i:Nat},i<=e.kids.length->e.kids.length-i<M->∀c:Nat,c<=102000->c+LF f (e.kids.drop i)<=102000->F8 e (H5 N n) M i f c=some (f,((c+LF f (e.kids.drop i):Nat):Int)):=by
   intro M i hi hM;refine BQ e.kids.length (λM i=>∀c:Nat,c<=102000->c+LF f (e.kids.drop i)<=102000->F8 e (H5 N n) M i f c=some (f,((c+LF f (e.kids.drop i):Nat):Int))) ?_ ?_ hi hM
   .intro m c _ _;rw[F8,pK (by simp[AI]),qq];simp[LF]
   .intro m i hi xI c wT hc;obtain⟨x,hx,vx⟩:=Bh hi;have hxe:=Ca vx;rw[ZP hx]at hc⊢;rw[F8,pJ (by simp[AI];omega),Ax hx];simp only[ov];rw[ih x c (by omega) (by omega) (by omega)];simp only[ov];rw[BE (n:=(i:Int)+1) (by omega) (by omega),show ((i:Int)+1)=((i+1:Nat):Int) by omega,xI (c+cse f x) (by omega) (by omega),qe]
  have:=key (pT _) (by omega:e.kids.length-0<N) (c+Y9 f e) (by omega) (by rw[qK];omega);rw[qK,tl,qe,<- aL]at this;rw[cU];simp only[ov];have e1:(if decide (e.op=9/\e.num=f)=true then some (Sh.w ((c:Int)+1)) else some (c:Int))=some ((c+Y9 f e:Nat):Int):=by
   unfold Y9;rw[BE (by omega) (by omega)];by_cases h:e.op=9/\e.num=f<;>simp[h]
  rw[e1];simp only[ov];rw[this];rfl
def LM (f:Int)(l:List AU):Nat:=(l.map λg=>cse f g.body).sum
theorem Zh {f:Int}{k:List AU}{i:Nat}{e:AU}(h:k[i]?=some e):LM f (k.drop i)=cse f e.body+LM f (k.drop (i+1)):=by rw[drop_cons h];simp[LM]
theorem lr {f:Int}{l:List AU}(h :∀g∈l,en g.body<=30):LM f l<=30*l.length:=by
 induction l with
 |nil=>simp[LM]
 |cons g r ih=>
  have h1:=h g (by simp);have h2:=ih λk hk=>h k (by simp[hk]);have h3:=fN f g.body;simp only[LM,pd,rU,pq]at h2⊢;omega
end RC
namespace RC
open Go
def Ae {α:Type}(x:Option α)(Q:α->Prop):Prop:=∃v,x=some v/\Q v
theorem Ae.some {α:Type}{v:α}{Q:α->Prop}(h:Q v):Ae (some v) Q:=⟨v,rfl,h⟩
theorem Ae.mono {α:Type}{x:Option α}{Q R:α->Prop}(h:Ae x Q)(g :∀v,Q v->R v):Ae x R:=
 let ⟨v,e,q⟩:=h;⟨v,e,g v q⟩
theorem Ae.bind {α β:Type}{x:Option α}{f:α->Option β}{R:α->Prop}{Q:β->Prop}(h:Ae x R)(k :∀v,R v->Ae (f v) Q):Ae (Option.bind x f) Q:=by
 obtain⟨v,rfl,hv⟩:=h;exact k v hv
theorem AR {α β:Type}{x:Option α}{f:α->Option β}{v:α}{Q:β->Prop}(h:x=Option.some v)(k:Ae (f v) Q):Ae (Option.bind x f) Q:=by
 subst h;exact k
theorem Cn {α:Type}{b:Bool}{x y:Option α}{Q:α->Prop}(h1:b=true->Ae x Q)(h2:b=false->Ae y Q):Ae (if b=true then x else y) Q:=by
 cases b
 .exact h2 rfl
 .exact h1 rfl
theorem BB {α:Type}{p:Prop}[Decidable p]{x y:Option α}{Q:α->Prop}(h1:p->Ae x Q)(h2:¬ p->Ae y Q):Ae (if decide p=true then x else y) Q:=by
 by_cases h:p
 .rw[pJ (by simpa using h)];exact h1 h
 .rw[pK (by simpa using h)];exact h2 h
theorem Ae.cont {ρ σ β:Type}{o:Option (ρ⊕σ)}{g:ρ->β}{f:σ->Option β}{R:ρ->Prop}{S:σ->Prop}{Q:β->Prop}(h:Ae o λv=>match v with|.inl r=>R r|.inr s=>S s)(h1 :∀r,R r->Q (g r))(h2 :∀s,S s->Ae (f s) Q):Ae (Sh.cont o g f) Q:=by
 obtain⟨v,rfl,hv⟩:=h;cases v with
 |inl r=>exact⟨g r,rfl,h1 r hv⟩
 |inr s=>exact h2 s hv
theorem Ae.get {α β:Type}{l:List α}{j:Int}{f:α->Option β}{Q:β->Prop}(h0:0<=j)(h1:j<l.length)(k :∀x,l[j.toNat]?=Option.some x->x∈l->Ae (f x) Q):Ae (Option.bind (Sh.get l j) f) Q:=by
 obtain⟨x,e,hx⟩:=Oc h0 h1;exact AR e (k x hx (oz hx))
theorem Ae.app {α β:Type}{l m:List α}{b:Nat}{f:List α->Option β}{Q:β->Prop}(h:(l.length+m.length)*b<=140737488355328)(h2:l.length+m.length<=9223372036854775807)(k:Ae (f (l++m)) Q):Ae (Option.bind (Sh.app l m b) f) Q:=AR (DJ l m b h h2) k
theorem dZ {n:Int}(h1:-9223372036854775808<=n)(h2:n<=9223372036854775807):Sh.wk .i64 n=n:=Abs.wrap_i64 h1 h2
theorem kf {a b:Int}(ha:0<=a)(ha':a<4611686018427387904)(hb:0<=b)(vG:b<4611686018427387904):0<=Sh.xor a b/\Sh.xor a b<4611686018427387904:=by
 obtain⟨x,rfl⟩:=pc ha;obtain⟨y,rfl⟩:=pc hb;have e:Sh.xor (x:Int) (y:Int)=((x ^^^ y:Nat):Int):=by
  unfold Sh.xor;have h1:(BitVec.ofInt 64 (x:Int) ^^^ BitVec.ofInt 64 (y:Int)).toNat=x ^^^ y:=by
   rw[BitVec.toNat_xor];simp only[BitVec.ofInt_natCast,BitVec.toNat_ofNat];rw[sC (by omega),sC (by omega)]
  rw[h1];have h2:x ^^^ y<2 ^ 62:=Nat.xor_lt_two_pow (by omega) (by omega);exact Abs.wrap_i64 (by omega) (by omega)
 have h2:x ^^^ y<2 ^ 62:=Nat.xor_lt_two_pow (by omega) (by omega);rw[e];omega
end RC
namespace RC
open Go
inductive av:Step->Prop where
 |mk {s:Step}:HB s.op->HB s.num->HB s.cy->Iz HB s.args->s.kids.length<=9223372036854775807->(∀b∈s.kids,b.steps.length<=9223372036854775807)->(∀b∈s.kids,HB b.result)->(∀b∈s.kids,∀t∈b.steps,av t)->av s
structure oH (b:Block):Prop where
 steps:Iz av b.steps
 result:HB b.result
def lf (left:Int)(s:Nat):Int:=if left-s<0 then -1 else left-s
end RC
namespace RC
open Go
end RC
namespace RC
open Go
def ny (o:Int):Bool:=decide (14<=o)&&decide (o<=17)
mutual
def us (v:Int):Step->Nat|.mk o _ _ a k=>if ny o then 0 else a.countP (λx=>decide (x=v))+uk v k
def uk (v:Int):List (MN Step)->Nat|[]=>0|b::k=>ub v b+uk v k
def ub (v:Int):MN Step->Nat|⟨ss,r⟩=>(if r=v then 1 else 0)+ul v ss
def ul (v:Int):List Step->Nat|[]=>0|s::l=>us v s+ul v l
end
def ua (v:Int)(a:List Int):Nat:=a.countP λx=>decide (x=v)
theorem oc (v:Int)(a:List Int):ua v a<=a.length:=List.countP_le_length
end RC
namespace RC
open Go
section
variable {D : List AL} {G : List By} {ks : List Int} {op num : Int} {N : Nat}
end
end RC
namespace RC
open Go
section
variable {n : JG} {R1 : JG -> List Int -> Block -> Option Int} {R2 : BO -> List Int -> Block -> Option Int} {T : List Int -> Block -> Int} {s : Step} {v : List Int} {N : Nat}
end
end RC
namespace RC
open Go
section
variable {n : JG} {R1 : JG -> List Int -> Block -> Option Int} {R2 : BO -> List Int -> Block -> Option Int} {T : List Int -> Block -> Int} {s : Step} {v : List Int} {N : Nat}
end
end RC
namespace RC
open Go
section
variable {n : JG} {R1 : JG -> List Int -> Block -> Option Int} {R2 : BO -> List Int -> Block -> Option Int} {T : List Int -> Block -> Int} {s : Step} {v : List Int} {N : Nat} {b : Bool}
end
end RC
namespace RC
open Go
section
variable {n : JG} {R1 : JG -> List Int -> Block -> Option Int} {R2 : BO -> List Int -> Block -> Option Int} {T : List Int -> Block -> Int} {s : Step} {v : List Int} {N : Nat} {b : Bool}
end
end RC
namespace RC
open Go
section
variable {n : JG} {R1 : JG -> List Int -> Block -> Option Int} {R2 : BO -> List Int -> Block -> Option Int} {T : List Int -> Block -> Int} {s : Step} {v : List Int} {N : Nat} {b : Bool}
end
end RC
namespace RC
open Go
section
variable {n : JG} {R1 : JG -> List Int -> Block -> Option Int} {R2 : BO -> List Int -> Block -> Option Int} {T : List Int -> Block -> Int} {b : Block} {v : List Int} {N : Nat}
end
end RC
namespace RC
open Go
end RC
namespace RC
open Go
end RC
namespace RC
open Go
theorem bc {α:Type}(A B:List α)(x:α):Sh.get (A++x::B) (A.length:Int)=some x:=Ax (by simp)
theorem bV {α:Type}(A B:List α)(x y:α):Sh.put (A++x::B) (A.length:Int) y=A++y::B:=by rw[Om];simp
theorem T7 {α:Type}{f g:α->Nat}{a b:Nat}:∀{l:List α},(∀x∈l,f x<=a+b*g x)->(l.map f).sum<=a*l.length+b*(l.map g).sum
 | [],_=>by simp
 |x::r,h=>by
  have h1:=h x (by simp);have h2:=T7 (l:=r) λy hy=>h y (by simp[hy]);simp only[pd,rU,pq,Nat.mul_add];omega
mutual
def ms:Step->Nat|.mk _ _ _ a k=>3+a.length+nw k
def nw:List (MN Step)->Nat|[]=>0|b::k=>mb b+nw k
def mb:MN Step->Nat|⟨ss,_⟩=>oP ss+1
def oP:List Step->Nat|[]=>0|s::l=>ms s+oP l
end
end RC
namespace RC
open Go
theorem ZR {α β:Type}{l:List α}(L:Nat->Int->List β->Option (List β))(g:α->β)(h0 :∀n acc,L (n+1) ((l.length:Nat):Int) acc=some acc)
  (hs :∀n i x acc,l[i]?=some x->acc.length=i->L (n+1) ((i:Nat):Int) acc=L n ((i+1:Nat):Int) (acc++[g x])) {N:Nat} (hN:l.length<N):L N 0 []=some (l.map g):=by
 have key:∀{N i:Nat},i<=l.length->l.length-i<N->L N (i:Int) ((l.take i).map g)=some (l.map g):=by
  intro N i hi hN;refine BQ l.length (λN i=>L N (i:Int) ((l.take i).map g)=some (l.map g)) ?_ ?_ hi hN
  .intro n;rw[h0,qs]
  .intro n i hi ih;obtain⟨x,hx,_⟩:=Bh hi;rw[hs n i x _ hx (by simp;omega),<- ih,EJ hx,qv];rfl
 have:=key (pT _) (by omega:l.length-0<N);simpa using this
theorem Zs {α:Type}{l:List α}(L:Nat->Int->List α->Option (List α))(g:α->α)(h0 :∀n acc,L (n+1) ((l.length:Nat):Int) acc=some acc)
  (hs :∀n (A:List α) (x:α) (C:List α),A.length+C.length<l.length->l[A.length]?=some x->L (n+1) ((A.length:Nat):Int) (A++x::C)=L n ((A.length+1:Nat):Int) (A++g x::C)) {N:Nat} (hN:l.length<N):L N 0 l=some (l.map g):=by
 have key:∀(C A:List α) (n:Nat),C.length<n->A.length<=l.length->C=l.drop A.length->L n ((A.length:Nat):Int) (A++C)=some (A++C.map g):=by
  intro C
  induction C with
  |nil=>
   intro A n hn h1 h2;obtain⟨n,rfl⟩ :∃m,n=m+1:=⟨n-1,by simp at hn;omega⟩
   have h3:=qY List.length h2;simp at h3;rw[show A.length=l.length by omega,h0];simp
  |cons x C ih=>
   intro A n hn h1 h2;have h3:=qY List.length h2;simp only[pq,re]at hn h3;obtain⟨n,rfl⟩ :∃m,n=m+1:=⟨n-1,by omega⟩
   have hx:l[A.length]?=some x:=by
    have:=qY (λz=>z[0]?) h2;simpa using this.symm
   rw[hs n A x C (by omega) hx];have:=ih (A++[g x]) n (by omega) (by simp;omega) (by
    rw[drop_cons hx]at h2;simpa using (List.cons.inj h2).2)
   simpa using this
 have:=key l [] N hN (by simp) (by simp);simpa using this
theorem aw {i:Nat}(h:i<=1048576):Sh.w ((i:Int)+1)=((i+1:Nat):Int):=by rw[BE (by omega) (by omega)];rfl
theorem oe {l:List Int}(hl:l.length<=1048576):Fu l=some l:=by
 unfold Fu;rw[DJ [] l 8 (by simp;omega) (by simp;omega)];rfl
theorem od {l:List Int}(hl:l.length<=1048576):CN l=some l:=by
 unfold CN;rw[DJ [] l 8 (by simp;omega) (by simp;omega)];rfl
theorem Ys {D:List AL}{i:Nat}{d:AL}(hd:D[i]?=some d)(hz:dz d<=1048576){N:Nat}(hN:2000000<=N):EZ i D N 0 []=some d.cons:=by
 unfold dz at hz;rw[ZR (l:=d.cons) (EZ i D) id (λn acc=>by rw[EZ,Ax hd];simp only[ov];rw[pK (by simp[AI])]) (λn j c acc hc ha=>?_) (by omega)]
 .simp
 .have hj:=(pB.1 hc).1;have hcz:=MG cz (oz hc);rw[EZ,Ax hd];simp only[ov];rw[pJ (by simp[AI];omega),Ax hc];simp only[ov];rw[oe (show cz c<=1048576 by omega)];simp only[ov];rw[DJ acc _ 24 (by simp;omega) (by simp;omega)];simp only[ov];rw[aw (by omega)];rfl
theorem Ym {D:List AL}(hl:D.length<=1048576)(hz :∀d∈D,dz d<=1048576){N:Nat}(hN:2000000<=N):I7 N D=some D:=by
 unfold I7;rw[ZR (l:=D) (FG N D) id (λn acc=>by rw[FG,pK (by simp[AI])]) (λn j c acc hc ha=>?_) (by omega)]
 .simp
 .have hj:=(pB.1 hc).1;rw[FG,pJ (by simp[AI];omega),Ys hc (hz c (oz hc)) hN,Ax hc];simp only[ov];rw[DJ acc _ 40 (by simp;omega) (by simp;omega)];simp only[ov];rw[aw (by omega)];rfl
theorem Ya {D:List AL}(hl:D.length<=1048576)(hz :∀d∈D,dz d<=1048576){N:Nat}(hN:2000000<=N):IX N D=some D:=by
 unfold IX Db;rw[DJ [] D 40 (by simp;omega) (by simp;omega)];simp only[ov,qT];rw[Zs (l:=D) (Em N (Sh.len D)) id (λn acc=>by rw[Em,pK (by simp[AI])]) (λn A d C hA hd=>?_) (by omega)]
 .simp
 .have h1:=hz d (oz hd);unfold dz at h1;rw[Em,pJ (by simp[AI];omega),bc];simp only[ov];unfold C9;rw[DJ [] d.cons 24 (by simp;omega) (by simp;omega)];simp only[ov,qT];rw[Zs (l:=d.cons) (Ep d.cons) id (λn acc=>by rw[Ep,pK (by simp[AI])]) (λn B c E hB hc=>?_) (by omega)]
  .simp only[ov,bV,qo];rw[aw (by omega)];rfl
  .have hcz:=MG cz (oz hc);have hl:=(pB.1 hc).1;rw[Ep,pJ (by simp[AI];omega),Ax hc];simp only[ov];rw[od (show cz c<=1048576 by omega),bc];simp only[ov];rw[bV,aw (by omega)];rfl
end RC
namespace RC
open Go
end RC
namespace RC
end RC
namespace RC
open Go
def ins:List Int->Int->List Int
 | [],x=>[x]
 |a::r,x=>if x<=a then (if x<a then x::a::r else a::r) else a::ins r x
def OB:List Int->Int->Bool
 | [],_=>false
 |a::r,x=>if x<=a then true else OB r x
def P4 (l:List Int)(x:Int):List Int:=if OB l x then ins l x else l
theorem ix:∀(l:List Int) (x:Int),ins l x=if OB l x then P4 l x else P4 l x++[x]
 | [],x=>by simp[ins,OB,P4]
 |a::r,x=>by
  have ih:=ix r x;simp only[P4,OB,ins]at ih⊢;by_cases h:x<=a
  .simp[h]
  .simp only[h,pV]at ih⊢;by_cases hd:OB r x=true
   .simp[hd]
   .simp only[hd,pV]at ih⊢;simp[ih]
theorem WT {l:List Int}{x:Int}(hl:l.length<=1048576){N i:Nat}(hi:i<=l.length)(hN:l.length-i<N):∀acc:List Int,acc.length<=1048576+i->Dl l x N true (i:Int) acc=some (true,acc++l.drop i):=by
 refine BQ l.length (λN i=>∀acc:List Int,acc.length<=1048576+i->Dl l x N true (i:Int) acc=some (true,acc++l.drop i)) ?_ ?_ hi hN
 .intro n acc _;rw[Dl,pK (by simp[AI])];simp
 .intro n i hi ih acc ha;obtain⟨y,hy,_⟩:=Bh hi;rw[Dl,pJ (by simp[AI];omega),Ax hy];simp only[qD,pF,pV,ov];rw[DJ _ _ 8 (by simp;omega) (by simp;omega)];simp only[ov];rw[BE (by omega) (by omega),show ((i:Int)+1)=((i+1:Nat):Int) by omega,ih _ (by simp;omega),drop_cons hy];simp
theorem Yy {l:List Int}{x:Int}(hl:l.length<=1048576){N i:Nat}(hi:i<=l.length)(hN:l.length-i<N):∀acc:List Int,acc.length<=i->Dl l x N false (i:Int) acc=some (OB (l.drop i) x,acc++P4 (l.drop i) x):=by
 refine BQ l.length (λN i=>l.length-i<N->∀acc:List Int,acc.length<=i->Dl l x N false (i:Int) acc=some (OB (l.drop i) x,acc++P4 (l.drop i) x)) ?_ ?_ hi hN hN
 .intro n _ acc _;rw[Dl,pK (by simp[AI])];simp[OB,P4]
 .intro n i hi ih hf acc ha;obtain⟨y,hy,_⟩:=Bh hi;have ih:=ih (by omega);rw[Dl,pJ (by simp[AI];omega),Ax hy];simp only[Bool.not_false,pt,ov];rw[BE (n:=(i:Int)+1) (by omega) (by omega),show ((i:Int)+1)=((i+1:Nat):Int) by omega,drop_cons hy];have done:=WT (l:=l) (x:=x) hl (N:=n) (i:=i+1) (by omega) (by omega);by_cases h:x<=y
  .simp only[h,pX,pt];by_cases h2:x<y
   .simp only[h2,pX,pt];rw[DJ acc [x] 8 (by simp;omega) (by simp;omega)];simp only[ov];rw[DJ _ _ 8 (by simp;omega) (by simp;omega)];simp only[ov];rw[done _ (by simp;omega)];simp[OB,P4,ins,h,h2]
   .simp only[h2,pa,pF,pV,ov];rw[DJ _ _ 8 (by simp;omega) (by simp;omega)];simp only[ov];rw[done _ (by simp;omega)];simp[OB,P4,ins,h,h2]
  .simp only[h,pa,pF,pV,ov];rw[DJ _ _ 8 (by simp;omega) (by simp;omega)];simp only[ov];rw[ih _ (by simp;omega)];simp only[OB,P4,ins,h,pV,qf,rv];cases OB (l.drop (i+1)) x<;>simp
theorem WE {l:List Int}{x:Int}(hl:l.length<=1048576){N:Nat}(hN:2000000<=N):IE N l x=some (ins l x):=by
 unfold IE;have:=Yy (l:=l) (x:=x) hl (pT _) (by omega:l.length-0<N) [] (by simp);rw[tl,qK]at this;rw[this];simp only[ov,qT];rw[ix];cases hd:OB l x with
 |true=>simp
 |false=>
  simp only[Bool.not_false,pt,pF,pV];have e:P4 l x=l:=by simp[P4,hd]
  rw[e,DJ _ _ 8 (by simp;omega) (by simp;omega)];rfl
mutual
def vs:Step->List Int|.mk o _ _ a k=>if ny o then [] else a++nx k
def nx:List (MN Step)->List Int|[]=>[]|b::k=>oW b++nx k
def oW:MN Step->List Int|⟨ss,r⟩=>ng ss++[r]
def ng:List Step->List Int|[]=>[]|s::l=>vs s++ng l
end
end RC
namespace RC
open Go
def rowOf {α:Type}(n:Nat)(f:Nat->α):List α:=(List.range n).map f
theorem Kn {α:Type}{n:Nat}{f:Nat->α}:(rowOf n f).length=n:=by simp[rowOf]
theorem Kt {α:Type}{n:Nat}{f:Nat->α}{j:Nat}(h:j<n):(rowOf n f)[j]?=some (f j):=by simp[rowOf,h]
theorem aO {α:Type}{n:Nat}{f g:Nat->α}(h :∀j,j<n->f j=g j):rowOf n f=rowOf n g:=ph λj hj=>h j (rF.1 hj)
theorem dT {α:Type}{n:Nat}{f:Nat->α}{j:Nat}{v:α}:(rowOf n f).set j v=rowOf n (λk=>if k=j then v else f k):=by
 apply qk;intro k;rw[List.getElem?_set];by_cases hk:k<n
 .rw[Kt hk,Kt hk,Kn];by_cases e:j=k
  .subst e;simp[hk]
  .have e':¬ k=j:=λh=>e h.symm;simp[e,e']
 .rw[qB (by rw[Kn];omega),qB (by rw[Kn];omega),Kn];by_cases e:j=k
  .subst e;simp[hk]
  .simp[e]
def na (h:List Cell)(j:Nat)(w:Int):Bool:=mc h w&&decide ((w-1000).toNat=j)
def oa (h:List Cell)(ws:List Int)(j:Nat):Nat:=ws.countP (na h j)
theorem nf (h:List Cell)(j:Nat):oa h [] j=0:=rfl
def Ed (l:List Nat):List Int:=List.map (λn:Nat=>(n:Int)) l
end RC
namespace RC
open Go
theorem bN (a b:List Nat):Ed (a++b)=Ed a++Ed b:=by simp[Ed]
theorem Ls (a:List Nat):(Ed a).length=a.length:=by simp[Ed]
def mk (m:Nat->Bool)(n i:Nat):List Nat:=(List.range' i (n-i)).filter m
theorem lg (m:Nat->Bool)(n:Nat):mk m n n=[]:=by simp[mk]
theorem Ql {m:Nat->Bool}{n i:Nat}(hi:i<n):mk m n i=(if m i then [i] else [])++mk m n (i+1):=by
 unfold mk;obtain⟨k,hk⟩ :∃k,n-i=k+1:=⟨n-i-1,by omega⟩
 rw[hk,List.range'_succ,List.filter_cons,show n-(i+1)=k by omega];cases m i<;>simp
theorem RQ {m:Nat->Bool}{n j:Nat}:j∈mk m n 0↔j<n/\m j=true:=by simp[mk]
theorem T4 (m:Nat->Bool)(n i:Nat):(mk m n i).length<=n-i:=by
 have:=List.length_filter_le m (List.range' i (n-i));simpa [mk] using this
theorem dm {l:List Int}{x:Int}(hl:l.length<=1048576){N i:Nat}(hi:i<=l.length)(hN:l.length-i<N):Ek l x N i=some (if x∈l.drop i then Sum.inl true else Sum.inr ()):=by
 refine BQ l.length (λN i=>Ek l x N i=some (if x∈l.drop i then Sum.inl true else Sum.inr ())) ?_ ?_ hi hN
 .intro n;rw[Ek,pK (by simp[AI])];simp
 .intro n i hi ih;obtain⟨y,hy,_⟩:=Bh hi;rw[Ek,pJ (by simp[AI];omega),Ax hy];simp only[ov];rw[BE (by omega) (by omega),show ((i:Int)+1)=((i+1:Nat):Int) by omega,ih,drop_cons hy];by_cases e:y=x
  .subst e;simp
  .have e':¬ x=y:=λh=>e h.symm;simp[e,e']
theorem dp {l:List Int}{x:Int}(hl:l.length<=1048576){N:Nat}(hN:2000000<=N):HA N l x=some (decide (x∈l)):=by
 unfold HA;have:=dm (x:=x) hl (pT _) (by omega:l.length-0<N);rw[tl,qK]at this;rw[this];by_cases h:x∈l<;>simp[h]
def Ee (m:Nat->Bool)(j:Nat):Nat->Bool:=λk=>m k || decide (k=j)
theorem iI {m:Nat->Bool}{n i:Nat}{y:Int}(h:y∈Ed (mk m n i)):(i:Int)<=y:=by
 obtain⟨k,hk,rfl⟩:=pS.1 h;simp only[mk,List.mem_filter,List.mem_range']at hk;omega
theorem et {l:List Int}{x:Int}(h :∀y∈l,x<y):ins l x=x::l:=by
 cases l with
 |nil=>rfl
 |cons a r=>
  have:=h a (by simp);simp only[ins];rw[pJ (by omega),pJ this]
theorem mk_congr {m m':Nat->Bool}{n i:Nat}(h :∀k,i<=k->k<n->m k=m' k):mk m n i=mk m' n i:=by
 unfold mk;refine List.filter_congr λk hk=>?_;simp only[List.mem_range']at hk;obtain⟨q,hq,rfl⟩:=hk;exact h _ (by omega) (by omega)
theorem S3 (a:Nat)(l:List Nat):Ed (a::l)=(a:Int)::Ed l:=rfl
theorem aY {m:Nat->Bool}{n j:Nat}(hj:j<n):∀(d i:Nat),j-i=d->i<=j->ins (Ed (mk m n i)) (j:Int)=Ed (mk (Ee m j) n i)
 |0,i,hd,hi=>by
  have:i=j:=by omega
  subst this;rw[Ql hj,Ql (m:=Ee m i) hj,mk_congr (m:=Ee m i) (m':=m) (i:=i+1) (λk h1 h2=>by
   have:k≠i:=by omega
   simp[Ee,this])]
  have ha:∀y∈Ed (mk m n (i+1)),(i:Int)<y:=λy hy=>by have:=iI hy;omega
  have hw:Ee m i i=true:=by simp[Ee]
  rw[hw];cases m i with
  |true=>
   simp only[pt,rv,S3,ins];rw[pJ (tK _),pK (by omega)]
  |false=>
   simp only[pF,pV,pt,qT,rv,S3];exact et ha
 |d+1,i,hd,hi=>by
  have ih:=aY (m:=m) hj d (i+1) (by omega) (by omega);rw[Ql (by omega),Ql (m:=Ee m j) (i:=i) (by omega)];have hw:Ee m j i=m i:=by
   have:i≠j:=by omega
   simp[Ee,this]
  rw[hw];cases m i with
  |true=>
   simp only[pt,rv,S3,ins];rw[pK (by omega),ih]
  |false=>
   simp only[pF,pV,qT];exact ih
theorem YE {m:Nat->Bool}{n j:Nat}(hn:n<=1048576)(hj:j<n){N:Nat}(hN:2000000<=N):IE N (Ed (mk m n 0)) (j:Int)=some (Ed (mk (Ee m j) n 0)):=by
 rw[WE (by rw[Ls];have:=T4 m n 0;omega) hN,aY hj j 0 (by omega) (by omega)]
def E8 (m:Nat->Bool)(l:List Int):Nat->Bool:=λk=>m k || decide ((k:Int)∈l)
theorem Kq (m:Nat->Bool):E8 m []=m:=by funext k;simp[E8]
theorem Q3 (m:Nat->Bool)(j:Nat)(l:List Int):E8 m ((j:Int)::l)=E8 (Ee m j) l:=by
 funext k;simp only[E8,Ee,pL,Bool.decide_or,Bool.or_assoc];congr 2;exact rh.2 (by omega)
theorem YC {m:Nat->Bool}{n j:Nat}(hn:n<=1048576)(hj:j<n){N:Nat}(hN:2000000<=N):HA N (Ed (mk m n 0)) (j:Int)=some (m j):=by
 rw[dp (by rw[Ls];have:=T4 m n 0;omega) hN];congr 1;have:((j:Int)∈Ed (mk m n 0))↔j∈mk m n 0:=by
  constructor
  .intro h;obtain⟨k,hk,e⟩:=pS.1 h;have:k=j:=by omega
   subst this;exact hk
  .intro h;exact pS.2 ⟨j,h,rfl⟩
 cases hm:m j with
 |true=>exact sU (this.2 (RQ.2 ⟨hj,hm⟩))
 |false=>exact rI λh=>by have:=(RQ.1 (this.1 h)).2;rw[hm]at this;cases this
theorem Uf {m:Nat->Bool}{n0:Nat}(hl:n0<=1048576){N i:Nat}(hi:i<=n0)(hN:n0-i<N):∀acc:List Nat,acc.length<=i->Eb (rowOf n0 m) N i (Ed acc)=some (Ed (acc++mk m n0 i)):=by
 refine BQ n0 (λN i=>∀acc:List Nat,acc.length<=i->Eb (rowOf n0 m) N i (Ed acc)=some (Ed (acc++mk m n0 i))) ?_ ?_ hi hN
 .intro n acc _;rw[Eb,pK (by simp[AI,Kn]),lg,qS]
 .intro n i hi ih acc ha;rw[Eb,pJ (by simp[AI,Kn];omega),Ax (Kt hi)];simp only[ov];rw[BE (by omega) (by omega),show ((i:Int)+1)=((i+1:Nat):Int) by omega,Ql hi];cases m i with
  |false=>simp only[pF,pV,ov,qT];exact ih acc (by omega)
  |true=>
   simp only[pt];rw[DJ _ _ 8 (by rw[Ls];simp;omega) (by rw[Ls];simp;omega)];simp only[ov];have:=ih (acc++[i]) (by simp;omega);rw[bN,qf]at this;exact this
theorem Qk {m:Nat->Bool}{n:Nat}(hn:n<=1048576){N:Nat}(hN:2000000<=N):Gd N (rowOf n m)=some (Ed (mk m n 0)):=by
 unfold Gd;have:=Uf (m:=m) hn (pT n) (by omega:n-0<N) [] (by simp);rw[tl,show Ed []=[] from rfl]at this;rw[this];rfl
theorem PV (m:Nat->Bool)(a b:List Int):E8 (E8 m a) b=E8 m (a++b):=by
 funext k;simp only[E8,pY,Bool.decide_or,Bool.or_assoc]
mutual
def HZ:AD->List Int|.mk o n k=>(if o=9∨o=10 then [n] else [])++Fk k
def Fk:List AD->List Int|[]=>[]|e::l=>HZ e++Fk l
end
def Mm (e:AD):List Int:=if e.op=9∨e.op=10 then [e.num] else []
theorem H0 (e:AD):HZ e=Mm e++Fk e.kids:=by
 obtain⟨o,n,k⟩:=e;by_cases h:o=9∨o=10
 .have h':(AD.mk o n k).op=9∨(AD.mk o n k).op=10:=h;unfold HZ Mm;rw[pJ h,pJ h'];rfl
 .have h':¬ ((AD.mk o n k).op=9∨(AD.mk o n k).op=10):=h;unfold HZ Mm;rw[pK h,pK h'];rfl
theorem Vz {k:List AD}{i:Nat}{e:AD}(h:k[i]?=some e):Fk (k.drop i)=HZ e++Fk (k.drop (i+1)):=by rw[drop_cons h];simp[Fk]
theorem XV {k:List AD}{e:AD}(h:e∈k){x:Int}(hx:x∈HZ e):x∈Fk k:=by
 induction k with
 |nil=>cases h
 |cons a r ih=>
  simp only[Fk,pY];rcases pL.1 h with rfl|h
  .exact .inl hx
  .exact .inr (ih h)
theorem ZT {e:AD}:(if decide (e.op=9)=true then some true else some (decide (e.op=10)))=some (decide (e.op=9∨e.op=10)):=by
 by_cases h:e.op=9<;>simp[h]
def VT (F:Nat)(l:List Int):Prop:=∀x∈l,0<=x/\x<(F:Int)
theorem bL {N:Nat}(hN:2000000<=N){F:Nat}(hF:F<=1000):∀(n:Nat) (e:AD) (m:Nat->Bool),en e<=1000->en e<=n->VT F (HZ e)->Fh N n e (Ed (mk m F 0))=some (Ed (mk (E8 m (HZ e)) F 0)):=by
 intro n
 induction n with
 |zero=>intro e _ _ h;have:=Fc e;omega
 |succ n ih=>
  intro e m hz hn vR;have hk:e.kids.length<=1000:=by have:=HL e.kids;have:=Fs e;omega
  rw[Fh];unfold Jf;have key:∀{M i:Nat},i<=e.kids.length->e.kids.length-i<M->∀m:Nat->Bool,Dp e (Fh N n) M (Ed (mk m F 0)) i=some (Ed (mk (E8 m (Fk (e.kids.drop i))) F 0)):=by
   intro M i hi hM;refine BQ e.kids.length (λM i=>∀m:Nat->Bool,Dp e (Fh N n) M (Ed (mk m F 0)) i=some (Ed (mk (E8 m (Fk (e.kids.drop i))) F 0))) ?_ ?_ hi hM
   .intro q m;rw[Dp,pK (by simp[AI]),qq];simp[Fk,Kq]
   .intro q i hi xI m;obtain⟨x,hx,vx⟩:=Bh hi;have hxe:=Ca vx;rw[Vz hx,Dp,pJ (by simp[AI];omega),Ax hx];simp only[ov];rw[ih x m (by omega) (by omega) (λy hy=>vR y (by rw[H0];exact qa _ (XV vx hy)))];simp only[ov];rw[BE (n:=(i:Int)+1) (by omega) (by omega),show ((i:Int)+1)=((i+1:Nat):Int) by omega,xI,PV]
  rw[ZT];simp only[ov];have e1:(if decide (e.op=9∨e.op=10)=true then (IE N (Ed (mk m F 0)) e.num).bind λwW=>some wW else some (Ed (mk m F 0)))=some (Ed (mk (E8 m (Mm e)) F 0)):=by
   unfold Mm;by_cases h:e.op=9∨e.op=10
   .rw[pJ (by simpa using h),pJ h];have:=vR e.num (by rw[H0];simp[Mm,h]);obtain⟨j,hj⟩:=pc this.1;rw[hj,YE (by omega) (by omega) hN,Q3,Kq];rfl
   .rw[pK (by simpa using h),pK h,Kq]
  rw[e1];simp only[ov];have:=key (pT _) (by omega:e.kids.length-0<N) (E8 m (Mm e));rw[qK,tl,PV,<- H0]at this;rw[this];rfl
theorem YR {F j:Nat}{m:Nat->Bool}:Sh.put (rowOf F m) (j:Int) true=rowOf F (Ee m j):=by
 rw[Om,dT];refine aO λk _=>?_;by_cases h:k=j<;>simp[Ee,h]
theorem jL {N:Nat}(hN:2000000<=N){F:Nat}(hF:F<=1000):∀(n:Nat) (e:AD) (m:Nat->Bool),en e<=1000->en e<=n->VT F (HZ e)->G4 N n (rowOf F m) e=some (rowOf F (E8 m (HZ e))):=by
 intro n
 induction n with
 |zero=>intro e _ _ h;have:=Fc e;omega
 |succ n ih=>
  intro e m hz hn vR;have hk:e.kids.length<=1000:=by have:=HL e.kids;have:=Fs e;omega
  rw[G4];unfold Lb JX;have key:∀{M i:Nat},i<=e.kids.length->e.kids.length-i<M->∀m:Nat->Bool,E2 e (G4 N n) M i (rowOf F m)=some (rowOf F (E8 m (Fk (e.kids.drop i)))):=by
   intro M i hi hM;refine BQ e.kids.length (λM i=>∀m:Nat->Bool,E2 e (G4 N n) M i (rowOf F m)=some (rowOf F (E8 m (Fk (e.kids.drop i))))) ?_ ?_ hi hM
   .intro q m;rw[E2,pK (by simp[AI]),qq];simp[Fk,Kq]
   .intro q i hi xI m;obtain⟨x,hx,vx⟩:=Bh hi;have hxe:=Ca vx;rw[Vz hx,E2,pJ (by simp[AI];omega),Ax hx];simp only[ov];rw[ih x m (by omega) (by omega) (λy hy=>vR y (by rw[H0];exact qa _ (XV vx hy)))];simp only[ov];rw[BE (n:=(i:Int)+1) (by omega) (by omega),show ((i:Int)+1)=((i+1:Nat):Int) by omega,xI,PV]
  rw[ZT];simp only[ov];have e1:(if decide (e.op=9∨e.op=10)=true then (Sh.get (rowOf F m) e.num).bind λ_=>some (Sh.put (rowOf F m) e.num true) else some (rowOf F m))=some (rowOf F (E8 m (Mm e))):=by
   unfold Mm;by_cases h:e.op=9∨e.op=10
   .rw[pJ (by simpa using h),pJ h];have:=vR e.num (by rw[H0];simp[Mm,h]);obtain⟨j,hj⟩:=pc this.1;rw[hj,Ax (Kt (by omega)),YR,Q3,Kq];rfl
   .rw[pK (by simpa using h),pK h,Kq]
  rw[e1];simp only[ov];have:=key (pT _) (by omega:e.kids.length-0<N) (E8 m (Mm e));rw[qK,tl,PV,<- H0]at this;rw[this];rfl
end RC
namespace RC
open Go
def pop (m:Nat->Bool):Nat->Nat|0=>0|n+1=>pop m n+(if m n then 1 else 0)
theorem W5 (m:Nat->Bool):∀n,pop m n<=n
 |0=>pM _
 |n+1=>by have:=W5 m n;simp only[pop];split<;>omega
theorem RV {m m':Nat->Bool}:∀{n:Nat},(∀k,k<n->m k=true->m' k=true)->pop m n<=pop m' n
 |0,_=>pM _
 |n+1,h=>by
  have ih:=RV (n:=n) λk hk=>h k (by omega);have h1:=h n (by omega);simp only[pop];cases hm:m n with
  |false=>simp only[pF,pV];omega
  |true=>rw[h1 hm];simp only[pt];omega
theorem fT {m m':Nat->Bool}{j:Nat}(h0:m j=false)(h1:m' j=true):∀{n:Nat},j<n->(∀k,k<n->m k=true->m' k=true)->pop m n+1<=pop m' n
 |0,hj,_=>by omega
 |n+1,hj,h=>by
  simp only[pop];by_cases e:j=n
  .subst e;have:=RV (n:=j) λk hk=>h k (by omega);rw[h0,h1];simp only[pF,pV,pt];omega
  .have ih:=fT h0 h1 (n:=n) (by omega) λk hk=>h k (by omega);have h2:=h n (by omega);cases hm:m n with
   |false=>simp only[pF,pV];omega
   |true=>rw[h2 hm];simp only[pt];omega
theorem PW {m:Nat->Bool}{j:Nat}(h0:m j=false):∀{n:Nat},j<n->pop (Ee m j) n=pop m n+1
 |0,hj=>by omega
 |n+1,hj=>by
  simp only[pop];by_cases e:j=n
  .subst e;have a:∀n,n<=j->pop (Ee m j) n=pop m n:=by
    intro n
    induction n with
    |zero=>intro _;rfl
    |succ n ih=>
     intro hn;have:n≠j:=by omega
     simp[pop,ih (by omega),Ee,this]
   rw[a j (pM _)];simp[Ee,h0]
  .have ih:=PW h0 (n:=n) (by omega);have:n≠j:=λh=>e h.symm;rw[ih];simp[Ee,this];omega
def push:List Int->(Nat->Bool)->List Int->(Nat->Bool)×List Int
 | [],m,w=>(m,w)
 |x::q,m,w=>if m x.toNat then push q m w else push q (Ee m x.toNat) (w++[x])
structure lJ (F:Nat) (q:List Int) (m:Nat->Bool) (w:List Int) (m':Nat->Bool) (w':List Int):Prop where
 new :∃v,w'=w++v/\VT F v/\(∀x∈v,m' x.toNat=true)/\(∀k,k<F->m' k=true->m k=true∨(k:Int)∈v)/\v.length+pop m F=pop m' F
 mono :∀k,m k=true->m' k=true
 all :∀x∈q,m' x.toNat=true
 only :∀k,m' k=true->m k=true∨(k:Int)∈q
theorem X2 {F:Nat}:∀(q:List Int) (m:Nat->Bool) (w:List Int),VT F q->lJ F q m w (push q m w).1 (push q m w).2
 | [],m,w,_=>⟨⟨[],by simp[push],λ_ h=>(by cases h),λ_ h=>(by cases h),λ_ _ h=>.inl h,by simp[push]⟩,λ_ h=>h,λ_ h=>(by cases h),λ_ h=>.inl h⟩
 |x::q,m,w,hq=>by
  have hx:=hq x (by simp);have zU:VT F q:=λy hy=>hq y (by simp[hy]);simp only[push];cases hm:m x.toNat with
  |true=>
   simp only[pt];obtain⟨a,b,c,d⟩:=X2 q m w zU;refine⟨a,b,λy hy=>?_,λk hk=>(d k hk).imp id λh=>by simp[h]⟩;rcases pL.1 hy with rfl|hy
   .exact b _ hm
   .exact c y hy
  |false=>
   simp only[pF,pV];obtain⟨⟨v,a1,a2,a3,a4,a5⟩,b,c,d⟩:=X2 q (Ee m x.toNat) (w++[x]) zU;have h1:∀k,m k=true->Ee m x.toNat k=true:=λk hk=>by simp[Ee,hk]
   have wR:Ee m x.toNat x.toNat=true:=by simp[Ee]
   refine⟨⟨x::v,by rw[a1];simp,λy hy=>?_,λy hy=>?_,λk hkF hk=>?_,?_⟩,λk hk=>b k (h1 k hk),λy hy=>?_,λk hk=>?_⟩
   .rcases pL.1 hy with rfl|hy
    .exact hx
    .exact a2 y hy
   .rcases pL.1 hy with rfl|hy
    .exact b _ wR
    .exact a3 y hy
   .rcases a4 k hkF hk with h|h
    .simp only[Ee,sK,pQ]at h;rcases h with h|h
     .exact .inl h
     .exact .inr (by simp only[pL];left;omega)
    .exact .inr (by simp[h])
   .have:=PW hm (n:=F) (by omega);simp only[pq];omega
   .rcases pL.1 hy with rfl|hy
    .exact b _ wR
    .exact c y hy
   .rcases d k hk with h|h
    .simp only[Ee,sK,pQ]at h;rcases h with h|h
     .exact .inl h
     .exact .inr (by simp only[pL];left;omega)
    .exact .inr (by simp[h])
theorem kW {F:Nat}(hF:F<=1000){q:List Int}(hq:VT F q)(hql:q.length<=1000){N i:Nat}(hi:i<=q.length)(hN:q.length-i<N):∀(m:Nat->Bool) (w:List Int),w.length+(q.length-i)<=5000->
  Dm q N i (rowOf F m) w=some (rowOf F (push (q.drop i) m w).1,(push (q.drop i) m w).2):=by
 refine BQ q.length (λN i=>∀(m:Nat->Bool) (w:List Int),w.length+(q.length-i)<=5000->Dm q N i (rowOf F m) w=some (rowOf F (push (q.drop i) m w).1,(push (q.drop i) m w).2)) ?_ ?_ hi hN
 .intro n m w _;rw[Dm,pK (by simp[AI]),qq];rfl
 .intro n i hi ih m w hw;obtain⟨x,hx,vx⟩:=Bh hi;have hxi:=hq x vx;obtain⟨j,rfl⟩:=pc hxi.1;rw[Dm,pJ (by simp[AI];omega),Ax hx];simp only[ov];rw[Ax (Kt (by omega)),BE (n:=(i:Int)+1) (by omega) (by omega),show ((i:Int)+1)=((i+1:Nat):Int) by omega,drop_cons hx];simp only[ov,push,qQ];cases hm:m j with
  |true=>simp only[qD,pF,pV,pt,ov];exact ih m w (by omega)
  |false=>
   simp only[Bool.not_false,pt,pF,pV];rw[DJ _ _ 8 (by simp;omega) (by simp;omega),YR];simp only[ov];exact ih _ _ (by simp;omega)
end RC
namespace RC
open Go
structure PO (p:AJ) (F:Nat):Prop where
 len:p.funcs.length=F
 le:F<=4
 sz :∀f∈p.funcs,en f.body<=30
 me :∀f∈p.funcs,VT F (HZ f.body)
def MJ (p:AJ)(k:Nat):List Int:=match p.funcs[k]? with|some f=>HZ f.body|none=>[]
theorem TE {p:AJ}{F:Nat}(P:PO p F)(k:Nat):VT F (MJ p k):=by
 unfold MJ;cases h:p.funcs[k]? with
 |none=>intro x hx;cases hx
 |some f=>exact P.me f (oz h)
inductive Re (p:AJ) (F:Nat) (c:Nat):Nat->Prop
 |refl:Re p F c c
 |step {k:Nat} {x:Int}:Re p F c k->x∈MJ p k->Re p F c x.toNat
def Mc:Nat->Bool:=λ_=>false
def cl (p:AJ)(F k:Nat):List Int:=Ed (mk (E8 Mc (MJ p k)) F 0)
theorem PF {p:AJ}{F k:Nat}(P:PO p F)(x:Int):x∈cl p F k↔x∈MJ p k:=by
 unfold cl;constructor
 .intro h;obtain⟨j,hj,rfl⟩:=pS.1 h;have:=(RQ.1 hj).2;simpa [E8,Mc] using this
 .intro h;have vR:=TE P k x h;obtain⟨j,rfl⟩:=pc vR.1;exact pS.2 ⟨j,RQ.2 ⟨by omega,by simpa [E8,Mc] using h⟩,rfl⟩
theorem Sz {p:AJ}{F k:Nat}(P:PO p F):VT F (cl p F k):=λx hx=>TE P k x ((PF P x).1 hx)
theorem Wx {p:AJ}{F k:Nat}:(cl p F k).length<=F:=by unfold cl;rw[Ls];have:=T4 (E8 Mc (MJ p k)) F 0;omega
theorem OT {p:AJ}{F k:Nat}(P:PO p F){f:AU}(hf:p.funcs[k]?=some f){N:Nat}(hN:2000000<=N):JB N f.body []=some (cl p F k):=by
 have hm:=oz hf;have hs:=P.sz f hm;have hF:=P.le;have:=bL hN (F:=F) (by omega) N f.body Mc (by omega) (by omega) (P.me f hm);have e:Ed (mk Mc F 0)=[]:=by simp[mk,Ed,Mc]
 rw[e]at this;unfold JB;rw[this];unfold cl MJ;rw[hf]
theorem cf (F:Nat):List.replicate F false=rowOf F Mc:=by
 apply qk;intro k;by_cases h:k<F
 .rw[Kt h,List.getElem?_replicate,pJ h];rfl
 .rw[qB (by simp;omega),qB (by rw[Kn];omega)]
theorem OU {p:AJ}{F k:Nat}(P:PO p F){f:AU}(hf:p.funcs[k]?=some f){N:Nat}(hN:2000000<=N):Hq N p (k:Int)=some (rowOf F (E8 Mc (MJ p k))):=by
 have hm:=oz hf;have hs:=P.sz f hm;have hF:=P.le;unfold Hq;rw[AI,P.len,OJ _ F 1 (by omega) (by omega),cf,Ax hf];simp only[ov];unfold Pm;rw[jL hN (by omega) N f.body Mc (by omega) (by omega) (P.me f hm)];unfold MJ;rw[hf];rfl
theorem Qe {p:AJ}{F k:Nat}(P:PO p F){N:Nat}(hN:2000000<=N):Gd N (rowOf F (E8 Mc (MJ p k)))=some (cl p F k):=Qk (by have:=P.le;omega) hN
def Sub (p:AJ)(F c:Nat)(m:Nat->Bool):Prop:=∀k,k<F->m k=true->Re p F c k
def Cl (p:AJ)(F:Nat)(m:Nat->Bool):Prop:=∀k,k<F->m k=true->∀x∈MJ p k,m x.toNat=true
theorem jx {p:AJ}{F c:Nat}(P:PO p F){m:Nat->Bool}(h0:m c=true)(hc:Cl p F m)(hcF:c<F):∀{k},Re p F c k->k<F/\m k=true:=by
 intro k h
 induction h with
 |refl=>exact⟨hcF,h0⟩
 |step h hx ih=>have:=TE P _ _ hx;exact⟨by omega,hc _ ih.1 ih.2 _ hx⟩
theorem ij {p:AJ}{F c:Nat}(P:PO p F){N0:Nat}(hN0:2000000<=N0):∀(N:Nat) (m:Nat->Bool) (w:List Int),w.length+(F-pop m F)<N->VT F w->(∀x∈w,m x.toNat=true)->Sub p F c m->(w.length<=4)->
  (∀k,k<F->m k=true->(k:Int)∈w∨∀x∈MJ p k,m x.toNat=true)->w.length+(F-pop m F)<=4->
  ∃m',FD N0 p N (rowOf F m) w=some (rowOf F m')/\(∀k,m k=true->m' k=true)/\Sub p F c m'/\Cl p F m':=by
 intro N
 induction N with
 |zero=>intro m w h;omega
 |succ N ih=>
  intro m w hN hw hwm hs hw4 xb hme;rw[FD];cases w with
  |nil=>
   rw[pK (by simp[AI])];exact⟨m,rfl,λ_ h=>h,hs,λk hk h=>(xb k hk h).resolve_left (by simp)⟩
  |cons x w=>
   have hF:=P.le;have hx:=hw x (by simp);obtain⟨j,rfl⟩:=pc hx.1;obtain⟨f,hf,_⟩:=Bh (l:=p.funcs) (i:=j) (by rw[P.len];omega);have hg:Sh.get ((j:Int)::w) 0=some (j:Int):=rfl;rw[pJ (by simp[AI]),hg];simp only[ov];rw[OU P hf hN0];simp only[ov];rw[Qe P hN0];simp only[ov];have hl:=Wx (p:=p) (F:=F) (k:=j);have e:=kW (F:=F) (by omega) (Sz P (k:=j)) (by omega) (pT _) (by omega:(cl p F j).length-0<N0) m ((j:Int)::w) (by omega);rw[qK,tl]at e;rw[e];simp only[ov];obtain⟨⟨v,a1,a2,a3,a4,a5⟩,b,cc,d⟩:=X2 (F:=F) (cl p F j) m ((j:Int)::w) (Sz P);generalize push (cl p F j) m ((j:Int)::w)=pw at a1 a3 a4 a5 b cc d⊢;rw[a1];have hsl:Sh.sl ((j:Int)::w++v) 1 (Sh.len ((j:Int)::w++v))=some (w++v):=by
    unfold Sh.sl Sh.len;rw[pJ ⟨by omega,by simp;omega,by omega⟩,qQ,qs];rfl
   rw[hsl];simp only[ov];have hp1:=W5 pw.1 F;simp only[pq]at hN hw4 hme;have q1:VT F (w++v):=λy hy=>by
    rcases pY.1 hy with hy|hy
    .exact hw y (by simp[hy])
    .exact a2 y hy
   have q2:∀y∈w++v,pw.1 y.toNat=true:=λy hy=>by
    rcases pY.1 hy with hy|hy
    .exact b _ (hwm y (by simp[hy]))
    .exact a3 y hy
   have q3:Sub p F c pw.1:=λk hk h=>by
    rcases d k h with h|h
    .exact hs k hk h
    .have:=Re.step (hs j (by omega) (by simpa using hwm (j:Int) (by simp))) ((PF P _).1 h);simpa using this
   have q4:∀k,k<F->pw.1 k=true->(k:Int)∈w++v∨∀x∈MJ p k,pw.1 x.toNat=true:=λk hk h=>by
    rcases a4 k hk h with h|h
    .rcases xb k hk h with h|h
     .rcases pL.1 h with h|h
      .have:k=j:=by omega
       subst this;exact .inr λy hy=>cc y ((PF P y).2 hy)
      .exact .inl (by simp[h])
     .exact .inr λy hy=>b _ (h y hy)
    .exact .inl (by simp[h])
   obtain⟨m',r1,r2,r3,r4⟩:=ih pw.1 (w++v) (by simp;omega) q1 q2 q3 (by simp;omega) q4 (by simp;omega);exact⟨m',r1,λk h=>r2 k (b k h),r3,r4⟩
end RC
namespace RC
open Go
theorem kr {m m':Nat->Bool}{F:Nat}(h :∀k,k<F->m k=true->m' k=true)(he:pop m' F<=pop m F):∀k,k<F->m' k=true->m k=true:=λk hk h1=>by
 cases h0:m k with
 |true=>rfl
 |false=>have:=fT h0 h1 hk h;omega
theorem iH {F:Nat}(hF:F<=1000){q:List Int}(hq:VT F q)(hql:q.length<=1000){N0:Nat}(hN0:2000000<=N0){N i:Nat}(hi:i<=q.length)(hN:q.length-i<N):∀m:Nat->Bool,
  Dq N0 q N i (Ed (mk m F 0))=some (Ed (mk (E8 m (q.drop i)) F 0)):=by
 refine BQ q.length (λN i=>∀m:Nat->Bool,Dq N0 q N i (Ed (mk m F 0))=some (Ed (mk (E8 m (q.drop i)) F 0))) ?_ ?_ hi hN
 .intro n m;rw[Dq,pK (by simp[AI]),qq,Kq]
 .intro n i hi ih m;obtain⟨x,hx,vx⟩:=Bh hi;have hxi:=hq x vx;obtain⟨j,rfl⟩:=pc hxi.1;rw[Dq,pJ (by simp[AI];omega),Ax hx];simp only[ov];rw[YE (by omega) (by omega) hN0,BE (n:=(i:Int)+1) (by omega) (by omega),show ((i:Int)+1)=((i+1:Nat):Int) by omega,drop_cons hx,Q3];simp only[ov];exact ih _
structure oN (p:AJ) (F c i:Nat) (m m':Nat->Bool):Prop where
 mono :∀k,m k=true->m' k=true
 sub:Sub p F c m->Sub p F c m'
 still:Cl p F m->∀k,k<F->m' k=true->m k=true
 closed:pop m' F<=pop m F->∀k,i<=k->k<F->m k=true->∀x∈MJ p k,m x.toNat=true
theorem gS {p:AJ}{F c:Nat}(P:PO p F){N0:Nat}(hN0:2000000<=N0){N i:Nat}(hi:i<=F)(hN:F-i<N):∀m:Nat->Bool,
  ∃m',Dy N0 p N i (Ed (mk m F 0))=some (Ed (mk m' F 0))/\oN p F c i m m':=by
 have hF:=P.le;refine BQ F (λN i=>∀m:Nat->Bool,∃m',Dy N0 p N i (Ed (mk m F 0))=some (Ed (mk m' F 0))/\oN p F c i m m') ?_ ?_ hi hN
 .intro n m;refine⟨m,by rw[Dy,pK (by simp[AI,P.len])],λ_ h=>h,λh=>h,λ_ _ _ h=>h,λ_ k h1 h2=>by omega⟩
 .intro n i hi ih m;rw[Dy,pJ (by simp[AI,P.len];omega),YC (by omega) hi hN0];simp only[ov];rw[BE (n:=(i:Int)+1) (by omega) (by omega),show ((i:Int)+1)=((i+1:Nat):Int) by omega];cases hm:m i with
  |false=>
   simp only[pF,pV,ov];obtain⟨m',h1,h2⟩:=ih m;refine⟨m',h1,h2.mono,h2.sub,h2.still,λhe k hk hkF hmk=>?_⟩;by_cases e:k=i
   .subst e;rw[hm]at hmk;cases hmk
   .exact h2.closed he k (by omega) hkF hmk
  |true=>
   obtain⟨f,hf,_⟩:=Bh (l:=p.funcs) (i:=i) (by rw[P.len];omega);simp only[pt];rw[Ax hf];simp only[ov];rw[OT P hf hN0];simp only[ov];have hl:=Wx (p:=p) (F:=F) (k:=i);have e:=iH (F:=F) (by omega) (Sz P (k:=i)) (by omega) hN0 (pT _) (by omega:(cl p F i).length-0<N0) m;rw[qK,tl]at e;rw[e];simp only[ov];obtain⟨m',h1,h2⟩:=ih (E8 m (cl p F i));have g0:∀k,m k=true->E8 m (cl p F i) k=true:=λk hk=>by simp[E8,hk]
   have g1:∀k,E8 m (cl p F i) k=true->m k=true∨(k:Int)∈MJ p i:=λk hk=>by
    simp only[E8,sK,pQ]at hk;exact hk.imp id λh=>(PF P _).1 h
   have g2:∀x∈MJ p i,E8 m (cl p F i) x.toNat=true:=λx hx=>by
    have:=TE P i x hx;have e:((x.toNat:Nat):Int)=x:=by omega
    simp only[E8,e,(PF P x).2 hx,pX,Bool.or_true]
   refine⟨m',h1,λk hk=>h2.mono k (g0 k hk),λhs=>h2.sub λk hk h=>?_,λhc k hk h=>?_,λhe k hk hkF hmk x hx=>?_⟩
   .rcases g1 k h with h|h
    .exact hs k hk h
    .have:=Re.step (hs i hi hm) h;simpa using this
   .have same:∀k,k<F->E8 m (cl p F i) k=true->m k=true:=λk _ h=>by
     rcases g1 k h with h|h
     .exact h
     .have:=hc i hi hm _ h;simpa using this
    exact same k hk (h2.still (λk hk h x hx=>g0 _ (hc k hk (same k hk h) x hx)) k hk h)
   .have p1:=RV (n:=F) λk _=>g0 k;have p2:=RV (n:=F) λk _=>h2.mono k;have same:=kr (λk _=>g0 k) (by omega:pop (E8 m (cl p F i)) F<=pop m F);have hxF:=TE P k x hx;by_cases e:k=i
    .subst e;exact same _ (by omega) (g2 x hx)
    .exact same _ (by omega) (h2.closed (by omega) k (by omega) hkF (g0 k hmk) x hx)
theorem gZ {p:AJ}{F c:Nat}(P:PO p F){N0:Nat}(hN0:2000000<=N0){N r:Nat}(hr:r<=F)(hN:F-r<N):∀m:Nat->Bool,Sub p F c m->m c=true->(r+1<=pop m F∨Cl p F m)->
  ∃m',Dt N0 p N r (Ed (mk m F 0))=some (Ed (mk m' F 0))/\Sub p F c m'/\m' c=true/\Cl p F m':=by
 have hF:=P.le;refine BQ F (λN r=>∀m:Nat->Bool,Sub p F c m->m c=true->(r+1<=pop m F∨Cl p F m)->∃m',Dt N0 p N r (Ed (mk m F 0))=some (Ed (mk m' F 0))/\Sub p F c m'/\m' c=true/\Cl p F m') ?_ ?_ hr hN
 .intro n m hs hc h;refine⟨m,by rw[Dt,pK (by simp[AI,P.len])],hs,hc,h.resolve_left λh=>by have:=W5 m F;omega⟩
 .intro n r hr ih m hs hc h;rw[Dt,pJ (by simp[AI,P.len];omega)];obtain⟨m1,h1,h2⟩:=gS (c:=c) P hN0 (pT F) (by omega:F-0<N0) m;rw[tl]at h1;rw[h1];simp only[ov];rw[BE (n:=(r:Int)+1) (by omega) (by omega),show ((r:Int)+1)=((r+1:Nat):Int) by omega];have key:Cl p F m->Cl p F m1:=λxb k hk hm x hx=>h2.mono _ (xb k hk (h2.still xb k hk hm) x hx);refine ih m1 (h2.sub hs) (h2.mono c hc) ?_;by_cases he:pop m1 F<=pop m F
  .exact .inr (key λk hk=>h2.closed he k (pT _) hk)
  .rcases h with h|h
   .exact .inl (by omega)
   .exact .inr (key h)
end RC
namespace RC
open Go
theorem cw {F c:Nat}(hc:c<F):[(c:Int)]=Ed (mk (Ee Mc c) F 0):=by
 have h:=aY (m:=Mc) (n:=F) hc c 0 (by omega) (pT _);have e:Ed (mk Mc F 0)=[]:=by simp[mk,Ed,Mc]
 rw[e]at h;exact h
theorem S0 {c k:Nat}(h:Ee Mc c k=true):k=c:=by simpa [Ee,Mc] using h
theorem P7 {p:AJ}{F c:Nat}(P:PO p F)(hc:c<F){N:Nat}(hN:2000000<=N):∃m,IG N p (c:Int)=some (Ed (mk m F 0))/\∀k,k<F->(m k=true↔Re p F c k):=by
 have hF:=P.le;have h1:Ee Mc c c=true:=by simp[Ee]
 have hp:0+1<=pop (Ee Mc c) F:=by
  have:=PW (m:=Mc) (j:=c) rfl hc;omega
 obtain⟨m,a1,a2,a3,a4⟩:=gZ (c:=c) P hN (pT F) (by omega:F-0<N) (Ee Mc c) (λk _ hk=>by rw[S0 hk];exact .refl) h1 (.inl hp);refine⟨m,?_,λk hk=>⟨a2 k hk,λh=>(jx P a3 a4 hc h).2⟩⟩;unfold IG;rw[cw hc];rw[tl]at a1;rw[a1];rfl
theorem Pw {p:AJ}{F c:Nat}(P:PO p F)(hc:c<F){N:Nat}(hN:2000000<=N)(hv:Bz N p=some true):∃m,IC N p (c:Int)=some (Ed (mk m F 0))/\∀k,k<F->(m k=true↔Re p F c k):=by
 have hF:=P.le;have h1:Ee Mc c c=true:=by simp[Ee]
 have hpc:=PW (m:=Mc) (j:=c) rfl hc;have hple:=W5 (Ee Mc c) F;obtain⟨m,a1,a2,a3,a4⟩:=ij (c:=c) P hN N (Ee Mc c) [(c:Int)] (by simp;omega) (λx hx=>by simp at hx;omega) (λx hx=>by simp at hx;subst hx;simpa using h1) (λk _ hk=>by rw[S0 hk];exact .refl) (by simp) (λk _ hk=>.inl (by rw[S0 hk];simp)) (by simp;omega);refine⟨m,?_,λk hk=>⟨a3 k hk,λh=>(jx P (a2 c h1) a4 hc h).2⟩⟩;unfold IC;rw[hv];have b1:decide ((c:Int)<0)=false:=rI (by omega);have b2:decide (((F:Nat):Int)<=(c:Int))=false:=rI (by omega);simp only[ov,qD,pF,pV,b1,AI,P.len,b2];rw[OJ _ F 1 (by omega) (by omega),cf];simp only[ov];rw[Ax (Kt hc),YR];simp only[ov];rw[a1];simp only[ov];rw[Qk (by omega) hN];rfl
theorem iW {l:List Int}{x:Int}(hl:l.length<=1000){N i:Nat}(hi:i<=l.length)(hN:l.length-i<N):(x∈l.drop i->∃j:Nat,CP l x N i=some (.inl (j:Int)))/\(x ∉ l.drop i->CP l x N i=some (.inr ())):=by
 refine BQ l.length (λN i=>(x∈l.drop i->∃j:Nat,CP l x N i=some (.inl (j:Int)))/\(x ∉ l.drop i->CP l x N i=some (.inr ()))) ?_ ?_ hi hN
 .intro n;rw[qq];exact⟨λh=>(by cases h),λ_=>by rw[CP,pK (by simp[AI])]⟩
 .intro n i hi ih;obtain⟨y,hy,_⟩:=Bh hi;rw[drop_cons hy,CP,pJ (by simp[AI];omega),Ax hy];simp only[ov,pL,not_or];rw[BE (n:=(i:Int)+1) (by omega) (by omega),show ((i:Int)+1)=((i+1:Nat):Int) by omega];by_cases e:x=y
  .rw[pJ (by simpa using e)];exact⟨λ_=>⟨i,rfl⟩,λh=>absurd e h.1⟩
  .rw[pK (by simpa using e)];exact⟨λh=>ih.1 (h.resolve_left e),λh=>ih.2 h.2⟩
theorem UP {l:List Int}{x:Int}(hl:l.length<=1000){N:Nat}(hN:2000000<=N):Fm N l x=some (decide (x∈l)):=by
 have h:=iW (x:=x) hl (pT _) (by omega:l.length-0<N);rw[qK,tl]at h;unfold Fm Hk;by_cases hx:x∈l
 .obtain⟨j,hj⟩:=h.1 hx;rw[hj];have:(0:Int)<=(j:Int):=by omega
  simp[Sh.cont,hx]
 .rw[h.2 hx];simp[Sh.cont,hx]
theorem mem_mk {m:Nat->Bool}{F k:Nat}(hk:k<F):((k:Int)∈Ed (mk m F 0))↔m k=true:=by
 constructor
 .intro h;obtain⟨j,hj,e⟩:=pS.1 h;have:j=k:=by omega
  subst this;exact (RQ.1 hj).2
 .intro h;exact pS.2 ⟨k,RQ.2 ⟨hk,h⟩,rfl⟩
open Classical in
theorem ZH {p:AJ}{F:Nat}(P:PO p F){f:Int}{N:Nat}(hN:2000000<=N)(hs:BM N p=some true)(hv:Bz N p=some true):∃b,GA N p f=some b/\DI N p f=some b:=by
 have hF:=P.le;unfold GA DI Dk;rw[hs,hv];simp only[ov,pt,qD,pF,pV,AI,P.len];rw[Dn,BE (n:=(F:Int)-1) (by omega) (by omega)];simp only[ov];by_cases h1:f<1
 .have:¬ (1<=f):=by omega
  exact⟨false,by simp[this],by simp[h1]⟩
 .by_cases h2:(F:Int)<=f
  .have:¬ (f<=(F:Int)-1):=by omega
   exact⟨false,by simp[this],by simp[h2]⟩
  .obtain⟨k,rfl⟩:=pc (by omega:0<=f);have hk:k<F:=by omega
   obtain⟨g,hg,_⟩:=Bh (l:=p.funcs) (i:=k) (by rw[P.len];omega);have c1:(1:Int)<=(k:Int):=by omega
   have c2:(k:Int)<=(F:Int)-1:=by omega
   have hl:=Wx (p:=p) (F:=F) (k:=k);have L1:=EH (l:=cl p F k) (DO N p (k:Int) (cl p F k)) (λ_ c=>decide (¬ Re p F c.toNat k)) (λn=>by rw[DO,pK (by simp[AI])]) (λn i c hc=>by
    have vh:=(pB.1 hc).1;have hcF:=Sz P c (oz hc);obtain⟨j,rfl⟩:=pc hcF.1;obtain⟨m,a1,a2⟩:=P7 P (c:=j) (by omega) hN;rw[DO,pJ (by simp[AI];omega),Ax hc];simp only[ov];rw[a1];simp only[ov];rw[YC (by omega) hk hN,BE (n:=(i:Int)+1) (by omega) (by omega),show ((i:Int)+1)=((i+1:Nat):Int) by omega];simp only[ov,qQ];have:=a2 k hk;by_cases hr:Re p F j k
    .simp[this.2 hr,hr]
    .have:m k=false:=by
      cases hm:m k with
      |false=>rfl
      |true=>exact absurd (this.1 hm) hr
     simp[this,hr]) (by omega:(cl p F k).length<N)
   have L2:=EH (l:=cl p F k) (DN N p (k:Int) (cl p F k)) (λ_ c=>decide (¬ Re p F c.toNat k)) (λn=>by rw[DN,pK (by simp[AI])]) (λn i c hc=>by
    have vh:=(pB.1 hc).1;have hcF:=Sz P c (oz hc);obtain⟨j,rfl⟩:=pc hcF.1;obtain⟨m,a1,a2⟩:=Pw P (c:=j) (by omega) hN hv;rw[DN,pJ (by simp[AI];omega),Ax hc];simp only[ov];rw[a1];simp only[ov];rw[UP (by rw[Ls];have:=T4 m F 0;omega) hN,BE (n:=(i:Int)+1) (by omega) (by omega),show ((i:Int)+1)=((i+1:Nat):Int) by omega];simp only[ov,qQ,mem_mk hk];have:=a2 k hk;by_cases hr:Re p F j k
    .simp[this.2 hr,hr]
    .have:m k=false:=by
      cases hm:m k with
      |false=>rfl
      |true=>exact absurd (this.1 hm) hr
     simp[this,hr]) (by omega:(cl p F k).length<N)
   have hco:G9 N p (k:Int)=some (cl p F k):=by
    unfold G9;rw[hv];have b1:decide ((k:Int)<0)=false:=rI (by omega);have b2:decide ((F:Int)<=(k:Int))=false:=rI (by omega);simp only[ov,qD,pF,pV,b1,AI,P.len,b2];rw[OU P hg hN];simp only[ov];rw[Qe P hN];rfl
   refine⟨FC (λ_ c=>decide (¬ Re p F c.toNat k)) 0 (cl p F k),?_,?_⟩
   .simp only[c1,c2,pX,tA,qD,pF,pV];rw[Ax hg];simp only[ov];rw[OT P hg hN];simp only[ov];rw[L1,EM];cases FC (λ(_:Nat) (c:Int)=>decide (¬ Re p F c.toNat k)) 0 (cl p F k)<;>rfl
   .simp only[h1,h2,pa,pF,pV,ov];rw[hco];simp only[ov];rw[L2,EM];cases FC (λ(_:Nat) (c:Int)=>decide (¬ Re p F c.toNat k)) 0 (cl p F k)<;>rfl
end RC
namespace RC
open Go
section
variable {p : AJ} {R1 : AJ -> List Int -> AD -> Option Int} {R2 : List Int -> BO -> AD -> Option Int} {T : List Int -> AD -> Int} {e : AD} {v : List Int} {N : Nat}
theorem ky (S:FA p.decls p.funcs){t:Int}(hB:Bs N R1 p v e=some t)(ht:t≠-1)(h:e.op=9∨e.op=10):0<=e.num/\e.num<(p.funcs.length:Int):=by
 have hF:=S.JL;by_cases hr:0<=e.num/\e.num<=(p.funcs.length:Int)-1
 .omega
 .exfalso;apply ht;have hb:(decide (0<=e.num)&&decide (e.num<=(p.funcs.length:Int)-1))=false:=by
   rw[<- Bool.decide_and];exact rI hr
  unfold Bs Fo at hB;rcases h with h|h;all_goals
   simp only[h,Int.reduceEq,pX,pa,pF,pt,pV,ov]at hB;rw[Dn,AI p.funcs,BE (n:=(p.funcs.length:Int)-1) (by omega) (by omega),hb]at hB;simpa [Sh.cont] using hB.symm
theorem Ux {l:List Int}(h:MO l≠-1):∀x∈l,x≠-1:=by
 cases l with
 |nil=>exact absurd rfl h
 |cons a r=>
  simp only[MO]at h;by_cases hr:r.all (λx=>decide (x=a))=true
  .rw[pJ hr]at h;intro x hx;rcases pL.1 hx with rfl|hx
   .exact h
   .have:=pH.1 hr x hx;simp only[pQ]at this;rw[this];exact h
  .rw[pK hr]at h;exact absurd rfl h
theorem bt (H:LC p (FE p) R1 R2 T (en e))(V:IW p e v)(S:FA p.decls p.funcs)(hN:2000000<=N){t:Int}(hB:Al N R2 v (FE p) e=some t)(ht:t≠-1):
  ∀k∈e.kids,∃m:List Int,m.length<=3/\(∀x∈m,Dc p.decls x=true)/\T (v++m) k≠-1:=by
 have hv:v.length<=1000:=by have:=V.len;omega
 have nil:∀k,T v k≠-1->∃m:List Int,m.length<=3/\(∀x∈m,Dc p.decls x=true)/\T (v++m) k≠-1:=λk h=>⟨[],by simp,λx hx=>(by cases hx),by simpa using h⟩;by_cases vr:e.op=12
 .unfold Al at hB;simp only[vr,pX,pt]at hB;intro k hk;have:0<Sh.len e.kids:=by rw[AI];have:=List.length_pos_of_mem hk;omega
  simp only[this,pX,pt,ov,pD]at hB;exact absurd hB.symm ht
 by_cases h13:e.op=13
 .unfold Al at hB;simp only[h13,Int.reduceEq,pX,pa,pF,pt,pV]at hB;by_cases hl:e.kids.length=2
  .obtain⟨a,b,hk⟩ :∃a b,e.kids=[a,b]:=by
    match hk:e.kids,hl with
    | [a,b],_=>exact⟨a,b,rfl⟩
   have vW:a∈e.kids:=by rw[hk];simp
   have yG:b∈e.kids:=by rw[hk];simp
   obtain⟨a1,a2,a3⟩:=H v a (V.CT.kids a vW) (Ca vW) (V.KF vW) V.Jm;have g0:Sh.get e.kids 0=some a:=by rw[hk];rfl
   have g1:Sh.get e.kids 1=some b:=by rw[hk];rfl
   rw[g0,g1]at hB;simp only[ov,AI,hl]at hB;rw[a2]at hB;simp only[ov]at hB;by_cases hn:e.num=0
   .by_cases h0:T v a<0
    .simp[hn,h0]at hB;exact absurd hB.symm ht
    .have hty:Dc p.decls (T v a)=true:=a3.resolve_left (by omega);obtain⟨b1,b2,b3⟩:=H (v++[T v a]) b (V.CT.kids b yG) (Ca yG) (V.more yG (by simp)) (V.X4 (by simp[hty]));rw[DJ v [T v a] 8 (by simp;omega) (by simp;omega)]at hB;simp only[ov,b2]at hB;simp[hn,h0]at hB;intro k xV;rw[hk]at xV;simp only[pL,pn,qc]at xV;rcases xV with rfl|rfl
     .exact nil _ (by omega)
     .exact⟨[T v a],by simp,by simp[hty],by rw[hB];exact ht⟩
   .simp[hn]at hB;exact absurd hB.symm ht
  .have:¬ ((e.kids.length:Int)=2):=by omega
   simp[AI,this]at hB;exact absurd hB.symm ht
 by_cases h7:e.op=7
 .unfold Al at hB;simp only[h7,Int.reduceEq,pX,pa,pF,pt,pV]at hB;by_cases hl:e.kids.length=3
  .obtain⟨a,b,c,hk⟩ :∃a b c,e.kids=[a,b,c]:=by
    match hk:e.kids,hl with
    | [a,b,c],_=>exact⟨a,b,c,rfl⟩
   have vW:a∈e.kids:=by rw[hk];simp
   have yG:b∈e.kids:=by rw[hk];simp
   have hmc:c∈e.kids:=by rw[hk];simp
   obtain⟨a1,a2,a3⟩:=H v a (V.CT.kids a vW) (Ca vW) (V.KF vW) V.Jm;have g0:Sh.get e.kids 0=some a:=by rw[hk];rfl
   have g3:Sh.sl e.kids 1 3=some [b,c]:=by rw[hk];rfl
   have o:=Ky (ks:=[b,c]) (ms:=[[],[]]) H V hN (by intro k hk;simp only[pL,pn,qc]at hk;rcases hk with rfl|rfl<;>assumption) (by simp) rfl (by simp);have mk2:Sh.mk ([]:List Int) 2 24=some [[],[]]:=OJ [] 2 24 (by omega) (by omega);rw[g0]at hB;simp only[ov,AI,hl]at hB;rw[a2,show ((3:Nat):Int)=3 from rfl,g3,mk2]at hB;simp only[ov]at hB;rw[o]at hB;by_cases hn:e.num=0
   .by_cases h0:T v a=0
    .simp[hn,h0]at hB;have hal:=Ux (l:=[T v b,T v c]) (by rw[hB];exact ht);intro k xV;rw[hk]at xV;simp only[pL,pn,qc]at xV;rcases xV with rfl|rfl|rfl
     .exact nil _ (by omega)
     .exact nil _ (hal _ (by simp))
     .exact nil _ (hal _ (by simp))
    .simp[hn,h0]at hB;exact absurd hB.symm ht
   .simp[hn]at hB;exact absurd hB.symm ht
  .have:¬ ((e.kids.length:Int)=3):=by omega
   simp[AI,this]at hB;exact absurd hB.symm ht
 by_cases h8:e.op=8
 .have xz:=V.Kc;have hD:=S.P6;have hn:=S.nc;have hCl:=Na S.Vq e.num;unfold Al at hB;simp only[h8,Int.reduceEq,pX,pa,pF,pt,pV]at hB;rw[show (FE p).decls=p.decls from rfl,JE (by omega) (by omega) hN]at hB;simp only[ov]at hB;generalize hCe:CO p.decls e.num=C at hCl hB;have hCm:∀c∈C,Bt N p.decls c=some (Gf p.decls c)/\Eg N p.decls c=some (Gf p.decls c)/\(Gf p.decls c).length<=3/\∀x∈Gf p.decls c,Dc p.decls x=true:=λc hc=>Ra S (hCe▸hc) hN;rw[AI C,AI e.kids,BE (n:=1+(C.length:Int)) (by omega) (by omega)]at hB;by_cases h0:C.length=0
  .simp[h0]at hB;exact absurd hB.symm ht
  .have yk:¬ ((C.length:Int)=0):=by omega
   have uu:¬ C=[]:=λq=>h0 (by rw[q];rfl);by_cases h1:e.kids.length=1+C.length
   .have xH:((e.kids.length:Int)=1+(C.length:Int)):=by omega
    obtain⟨a,r,wq⟩ :∃a r,e.kids=a::r:=by
     cases hq:e.kids with
     |nil=>rw[hq]at h1;simp at h1;omega
     |cons a r=>exact⟨a,r,rfl⟩
    have ye:r.length=C.length:=by rw[wq]at h1;simp at h1;omega
    have vW:a∈e.kids:=by rw[wq];simp
    have hmr:∀k∈r,k∈e.kids:=λk hk=>by rw[wq];simp[hk]
    obtain⟨a1,a2,a3⟩:=H v a (V.CT.kids a vW) (Ca vW) (V.KF vW) V.Jm;have g0:Sh.get e.kids 0=some a:=by rw[wq];rfl
    have g3:Sh.sl e.kids 1 (e.kids.length:Int)=some r:=by
     unfold Sh.sl;rw[pJ ⟨by omega,by omega,by omega⟩,wq];simp
    have mkC:Sh.mk ([]:List Int) (C.length:Int) 24=some (List.replicate C.length []):=OJ [] C.length 24 (by omega) (by omega);have o:=Ky (ks:=r) (ms:=C.map (Gf p.decls)) H V hN hmr (by omega) (by simp[ye]) (by
     intro m hm;obtain⟨c,hc,rfl⟩:=pS.1 hm;exact (hCm c hc).2.2)
    have FL:=Pc (p:=p) S hN hCl λc hc=>(hCm c hc).2.1;rw[g0,g3,mkC]at hB;simp only[ov]at hB;rw[a2,FL]at hB;simp only[ov]at hB;rw[o]at hB;by_cases hta:T v a=e.num
    .simp[uu,xH,hta]at hB;have hal:=Ux (by rw[hB];exact ht);intro k xV;rw[wq]at xV;rcases pL.1 xV with rfl|xV
     .refine nil _ λhq=>?_;have hneg:e.num=-1:=by rw[<- hta];exact hq
      rw[hneg]at hCe;exact h0 (by rw[<- hCe];simp[CO])
     .obtain⟨i,hi⟩:=pZ.1 xV;have vh:=(pB.1 hi).1;obtain⟨c,hc,wI⟩:=Bh (l:=C) (i:=i) (by omega);refine⟨Gf p.decls c,(hCm c wI).2.2.1,(hCm c wI).2.2.2,hal _ (pZ.2 ⟨i,?_⟩)⟩;rw[rE,pC,hc,hi];rfl
    .simp[uu,xH,hta]at hB;exact absurd hB.symm ht
   .have xH:¬ ((e.kids.length:Int)=1+(C.length:Int)):=by omega
    simp[uu,xH]at hB;exact absurd hB.symm ht
 rw[F9 H V hN vr h13 h7 h8]at hB;by_cases h:(e.kids.map (T v)).any (λt=>decide (t<0))=true
 .rw[pJ h]at hB;simp at hB;exact absurd hB.symm ht
 .intro k hk;refine nil k λhq=>h ?_;exact ra.2 ⟨T v k,rD hk,by rw[hq];rfl⟩
end
end RC
namespace RC
open Go
theorem ZV {x:Int}:∀{l:List AD},x∈Fk l->∃k∈l,x∈HZ k
 | [],h=>by cases h
 |a::r,h=>by
  simp only[Fk,pY]at h;rcases h with h|h
  .exact⟨a,by simp,h⟩
  .obtain⟨k,hk,hx⟩:=ZV h;exact⟨k,by simp[hk],hx⟩
def TT (p:AJ)(N:Nat)(T:List Int->AD->Int):Prop:=∀(v:List Int) (e:AD),Ak e->en e<31->v.length+3*en e<=1000->(∀x∈v,Dc p.decls x=true)->
  ∀n1 n2,31<=n1->31<=n2->Ci N n1 p v e=some (T v e)/\Ba N n2 v (FE p) e=some (T v e)/\(T v e=-1∨Dc p.decls (T v e)=true)
theorem jZ {p:AJ}(S:FA p.decls p.funcs){N:Nat}(hN:2000000<=N){T:List Int->AD->Int}(hT:TT p N T):∀(n:Nat) (e:AD) (v:List Int),en e<=n->n<=30->IW p e v->T v e≠-1->VT p.funcs.length (HZ e):=by
 intro n
 induction n with
 |zero=>intro e _ h;have:=Fc e;omega
 |succ n ih=>
  intro e v he hn V ht x hx;have H:LC p (FE p) (Ci N 31) (Ba N 31) T (en e):=λv e a b c d=>hT v e a (by omega) c d 31 31 (pM _) (pM _);obtain⟨q1,q2,_⟩:=hT v e V.CT (by omega) V.len V.Jm 32 32 (by omega) (by omega);rw[Ci]at q1;rw[Ba]at q2;rw[H0,pY]at hx;rcases hx with hx|hx
  .unfold Mm at hx;by_cases h:e.op=9∨e.op=10
   .rw[pJ h]at hx;have:x=e.num:=by simpa using hx
    rw[this];exact ky S q1 ht h
   .rw[pK h]at hx;cases hx
  .obtain⟨k,hk,hxk⟩:=ZV hx;have hke:=Ca hk;obtain⟨m,m1,m2,m3⟩:=bt H V S hN q2 ht k hk;exact ih k (v++m) (by omega) (by omega) ⟨V.more hk m1,V.X4 m2,by omega,V.CT.kids k hk⟩ m3 x hxk
theorem VI {p:AJ}(S:Du p){N:Nat}(hN:2000000<=N)(hv:BM N p=some true):PO p p.funcs.length:=by
 obtain⟨b,h1,_,h3⟩:=Gq S hN;rw[hv]at h1;cases h1;obtain⟨SO,zI⟩:=h3 rfl;obtain⟨T,hT⟩:=O3 SO hN 31;have hl:=S.JL;refine⟨rfl,SO.JL,zI,λf hf=>?_⟩;obtain⟨q1,q2,q3⟩:=SO.NV f hf;have he:=zI f hf;have V:IW p f.body f.params:=⟨by omega,q2,by omega,(S.fin hf).body⟩
 have L1:=EH (l:=p.funcs) (Bl N p) (λ_ f=>HO p T f) (λn=>by rw[Bl,pK (by simp[AI])]) (λn i f hi=>by
  have vh:=(pB.1 hi).1;have hf:=oz hi;obtain⟨q1,q2,q3⟩:=SO.NV f hf;have he:=zI f hf;have ty:KE N p f.params f.body=some (T f.params f.body):=(hT f.params f.body (S.fin hf).body (by omega) (by omega) q2 N N (by omega) (by omega)).1;rw[Bl,pJ (by simp[AI];omega),Ax hi];simp only[ov];rw[Gm (S.fz hf).2 hN,BE (by omega) (by omega),show ((i:Int)+1)=((i+1:Nat):Int) by omega];simp only[ov];unfold HO;rw[pJ he,pK (by simp),ty];by_cases hr:T f.params f.body=f.result<;>simp[he,hr]) (by omega:p.funcs.length<N)
 rw[GB]at L1;have hs:p.funcs.all (HO p T)=true:=by
  unfold BM at hv;rw[Nb S hN]at hv;simp only[ov]at hv;cases yj:Mg p with
  |false=>rw[yj]at hv;simp at hv
  |true=>
   rw[yj]at hv;simp only[qD,pF,pV]at hv;rw[L1,EM]at hv;cases hb:p.funcs.all (HO p T) with
   |true=>rfl
   |false=>rw[hb]at hv;simp at hv
 have hb:=pH.1 hs f hf;unfold HO at hb;simp only[pb,pQ]at hb;exact jZ SO hN hT 30 f.body f.params he (pM _) V (by rw[hb.2];have:=(LL q3).1;omega)
theorem WS {p:AJ}(S:Du p){f:Int}{N:Nat}(hN:2000000<=N):∃b,GA N p f=some b/\DI N p f=some b:=by
 obtain⟨b,h1,h2,_⟩:=Gq S hN;cases b with
 |true=>exact ZH (VI S hN h1) hN h1 h2
 |false=>
  unfold GA DI;rw[h1,h2];exact⟨false,by simp,by simp⟩
end RC
namespace RC
open Go
def ob (o n:Int):List AD->AD
 |c::d::k=>if o=11/\c.op=10 then .mk 9 c.num (c.kids++[d]) else .mk o n (c::d::k)
 |k=>.mk o n k
mutual
def kn:AD->AD|.mk o n k=>ob o n (nU k)
def nU:List AD->List AD|[]=>[]|e::l=>kn e::nU l
end
def K2 (e:AD):Prop:=e.op=11->2<=e.kids.length
theorem bJ {N:Nat}(hN:2000000<=N):∀(n:Nat) (k:List AD),CL k<n->CL k<=1000->DL N n k=some k:=by
 intro n
 induction n with
 |zero=>intro k h;omega
 |succ n ih=>
  intro k hk hs;have hlen:=HL k;rw[DL];unfold Hv;have key:∀(M i:Nat),i<=k.length->k.length-i<M->CV k (DL N n) M i (k.take i)=some k:=by
   intro M i hi hM;refine BQ k.length (λM i=>CV k (DL N n) M i (k.take i)=some k) ?_ ?_ hi hM
   .intro m;rw[CV,pK (by simp[AI]),qs]
   .intro m i hi xI;obtain⟨e,he,hem⟩:=Bh hi;have h1:=I9 hem;have h2:=Fs e;rw[CV,pJ (by simp[AI];omega),Ax he];simp only[ov,Jw];rw[ih e.kids (by omega) (by omega)];simp only[ov];rw[<- KG,DJ _ _ 40 (by simp;omega) (by simp;omega),BE (by omega) (by omega),show ((i:Int)+1)=((i+1:Nat):Int) by omega];simp only[ov];rw[<- EJ he];exact xI
  have:=key N 0 (pT _) (by omega);rw[qt,tl]at this;rw[this];rfl
theorem Yv {N:Nat}(hN:2000000<=N){k:List AD}(hs:CL k<=1000):Ht N k=some k:=by
 unfold Ht;exact bJ hN N k (by omega) hs
theorem Yh {N:Nat}(hN:2000000<=N){e:AD}(hs:CL e.kids<=1000):IS N e=some e:=by
 unfold IS;rw[Yv hN hs];simp only[ov];rw[<- KG]
end RC
namespace RC
open Go
end RC
namespace RC
open Go
end RC
namespace RC
open Go
theorem dA {N:Nat}(hN:2000000<=N):∀(n:Nat) (e:AD),en e<=n->en e<=1000->Ak e->EG N n e 0 0=some e:=by
 intro n
 induction n with
 |zero=>intro e h;have:=Fc e;omega
 |succ n ih=>
  intro e hn hs hI;have hlen:=HL e.kids;have he:=Fs e;obtain⟨n1,n2⟩:=hI.num;rw[EG];unfold I1;have key:∀(M i:Nat),i<=e.kids.length->e.kids.length-i<M->Co e 0 0 (EG N n) M i (e.kids.take i)=some e.kids:=by
   intro M i hi hM;refine BQ e.kids.length (λM i=>Co e 0 0 (EG N n) M i (e.kids.take i)=some e.kids) ?_ ?_ hi hM
   .intro m;rw[Co,pK (by simp[AI]),qs]
   .intro m i hi xI;obtain⟨c,hc,wI⟩:=Bh hi;have h1:=I9 wI;rw[Co,pJ (by simp[AI];omega),Ax hc];simp only[ov];rw[ih c (by omega) (by omega) (hI.kids c wI)];simp only[ov];rw[DJ _ _ 40 (by simp;omega) (by simp;omega),BE (by omega) (by omega),show ((i:Int)+1)=((i+1:Nat):Int) by omega];simp only[ov];rw[<- EJ hc];exact xI
  have:=key N 0 (pT _) (by omega);rw[qt,tl]at this;rw[this,Int.add_zero,BE (by omega) (by omega)];have hn:((
   Option.bind (
    if decide (e.op=12)=true then
     some (decide (0<=e.num))
    else
     some false
   ) λt25=>
   if t25=true then
    some e.num
   else
    some e.num
  ).bind λf3=>(some e.kids).bind λl11=>some (AD.mk e.op f3 l11))=some (AD.mk e.op e.num e.kids):=by
   by_cases h:e.op=12
   .rw[pJ (by simpa using h)];simp
   .rw[pK (by simpa using h)];simp
  rw[hn,<- KG]
theorem Yr {N:Nat}(hN:2000000<=N){e:AD}(hs:en e<=1000)(hI:Ak e):I4 N e=some e:=by
 unfold I4 Gv;rw[dA hN N e (by omega) hs hI];rfl
end RC
namespace RC
open Go
theorem U0 {N:Nat}(hN:2000000<=N){p:AJ}(hd:p.decls.length<=1048576)(hz :∀d∈p.decls,dz d<=1048576)(hf:p.funcs.length<=1048576)(hb :∀f∈p.funcs,f.params.length<=1048576/\en f.body<=1000/\Ak f.body):Hf N p=some p:=by
 unfold Hf;rw[Ya hd hz hN];simp only[ov];have key:∀(M i:Nat),i<=p.funcs.length->p.funcs.length-i<M->DS N p M i (p.funcs.take i)=some p.funcs:=by
  intro M i hi hM;refine BQ p.funcs.length (λM i=>DS N p M i (p.funcs.take i)=some p.funcs) ?_ ?_ hi hM
  .intro m;rw[DS,pK (by simp[AI]),qs]
  .intro m i hi ih;obtain⟨f,yL,hfm⟩:=Bh hi;obtain⟨b1,b2,b3⟩:=hb f hfm;rw[DS,pJ (by simp[AI];omega),Ax yL];simp only[ov];have xb:CN f.params=some f.params:=by
    unfold CN;rw[DJ _ _ _ (by simp;omega) (by simp;omega)];rfl
   rw[xb,Yr hN b2 b3];simp only[ov];rw[DJ _ _ 72 (by simp;omega) (by simp;omega),BE (by omega) (by omega),show ((i:Int)+1)=((i+1:Nat):Int) by omega];simp only[ov];have e:AU.mk f.params f.result f.body=f:=by cases f;rfl
   rw[e,<- EJ yL];exact ih
 have:=key N 0 (pT _) (by omega);rw[qt,tl]at this;rw[this];cases p;rfl
end RC
namespace RC
open Go
end RC
namespace RC
open Go
end RC
namespace RC
open Go
end RC
namespace RC
open Go
section
variable {p : AJ} {R1 : AJ -> List Int -> AD -> Option Int} {R2 : List Int -> BO -> AD -> Option Int} {T : List Int -> AD -> Int} {e : AD} {v : List Int} {N : Nat}
end
theorem jO {p:AJ}(S:Du p){N:Nat}(hN:2000000<=N)(hv:BM N p=some true):FA p.decls p.funcs/\∃T,TT p N T/\∀f∈p.funcs,en f.body<=30/\IW p f.body f.params/\Dc p.decls f.result=true/\T f.params f.body=f.result:=by
 obtain⟨b,h1,_,h3⟩:=Gq S hN;rw[hv]at h1;cases h1;obtain⟨SO,zI⟩:=h3 rfl;obtain⟨T,hT⟩:=O3 SO hN 31;have hl:=S.JL;refine⟨SO,T,hT,λf hf=>?_⟩;obtain⟨q1,q2,q3⟩:=SO.NV f hf;have he:=zI f hf;have V:IW p f.body f.params:=⟨by omega,q2,by omega,(S.fin hf).body⟩
 have L1:=EH (l:=p.funcs) (Bl N p) (λ_ f=>HO p T f) (λn=>by rw[Bl,pK (by simp[AI])]) (λn i f hi=>by
  have vh:=(pB.1 hi).1;have hf:=oz hi;obtain⟨q1,q2,q3⟩:=SO.NV f hf;have he:=zI f hf;have ty:KE N p f.params f.body=some (T f.params f.body):=(hT f.params f.body (S.fin hf).body (by omega) (by omega) q2 N N (by omega) (by omega)).1;rw[Bl,pJ (by simp[AI];omega),Ax hi];simp only[ov];rw[Gm (S.fz hf).2 hN,BE (by omega) (by omega),show ((i:Int)+1)=((i+1:Nat):Int) by omega];simp only[ov];unfold HO;rw[pJ he,pK (by simp),ty];by_cases hr:T f.params f.body=f.result<;>simp[he,hr]) (by omega:p.funcs.length<N)
 rw[GB]at L1;have hs:p.funcs.all (HO p T)=true:=by
  unfold BM at hv;rw[Nb S hN]at hv;simp only[ov]at hv;cases yj:Mg p with
  |false=>rw[yj]at hv;simp at hv
  |true=>
   rw[yj]at hv;simp only[qD,pF,pV]at hv;rw[L1,EM]at hv;cases hb:p.funcs.all (HO p T) with
   |true=>rfl
   |false=>rw[hb]at hv;simp at hv
 have hb:=pH.1 hs f hf;unfold HO at hb;simp only[pb,pQ]at hb;exact⟨he,V,q3,hb.2⟩
end RC
namespace RC
open Go
end RC
namespace RC
open Go
end RC
