import Derived.Test.YtccficmcdkcpnaaGreatGXNGToYGD
set_option linter.all false
namespace RC
open Go
section
variable {D : List AI} {F : List Ar}
theorem ZJ (C:CX D F){b:List Int}(Bb:Bk b){M:Nat}(hM:2000000<=M){f:Nat}(hf:f<F.length){g:Ar}(hg:F[f]?=some g)(hg1:0<g.params.length){p:Int}(h0:0<=p)(h1:p<=200000):Af (Kg M b p F D f) (GE 1000 3000 p):=by
 have yP:=C.fl;have zu:=pt hg;have hp3:=C.par g zu;unfold Kg;have vi:∀{n:Int},0<=n->n<=100->BF ⟨12,n,[]⟩:=λa c=>Gf ⟨by omega,by omega⟩ ⟨by omega,by omega⟩;refine AN (Av hg) ?_;rw[AK,Co (n:=(g.params.length:Int)+2) (by omega) (by omega)];refine AN rfl (AN rfl ?_);have key:∀{N i:Nat},i<=g.params.length->g.params.length-i<N->∀(x y:List AG),x.length=i->y.length=i->(∀e∈x,BF e)->(∀e∈y,BF e)->CN x<=i->CN y<=i->
   Af (Fq g N i x y) λr=>r.1.length<=3/\r.2.length<=3/\(∀e∈r.1,BF e)/\(∀e∈r.2,BF e)/\CN r.1<=3/\CN r.2<=3:=by
  intro N i hi hN;refine Bm g.params.length (λN i=>∀(x y:List AG),x.length=i->y.length=i->(∀e∈x,BF e)->(∀e∈y,BF e)->CN x<=i->CN y<=i->
   Af (Fq g N i x y) λr=>r.1.length<=3/\r.2.length<=3/\(∀e∈r.1,BF e)/\(∀e∈r.2,BF e)/\CN r.1<=3/\CN r.2<=3) ?_ ?_ hi hN
  ·intro n x y g1 g2 g3 g4 g5 g6;rw[Fq,qG (by simp[AK])];exact Af.some ⟨by show x.length<=3;omega,by show y.length<=3;omega,g3,g4,by show CN x<=3;omega,by show CN y<=3;omega⟩
  ·intro n i hi ih x y g1 g2 g3 g4 g5 g6;rw[Fq,qF (by rw[qJ,AK];omega),Co (n:=(i:Int)+1) (by omega) (by omega),show ((i:Int)+1)=((i+1:Nat):Int) by omega];have hm:∀(l:List AG),(∀e∈l,BF e)->∀e∈l++[AG.mk 12 (i:Int) []],BF e:=λl hl e he=>by
    rcases qb.1 he with h5|h5
    ·exact hl e h5
    ·rw[qO]at h5;rw[h5];exact vi (by omega) (by omega)
   refine AN rfl (Af.app (by simp;omega) (by simp;omega) (AN rfl (Af.app (by simp;omega) (by simp;omega) ?_)));exact ih _ _ (by simp;omega) (by simp;omega) (hm x g3) (hm y g4) (by rw[J7,It,Ml];omega) (by rw[J7,It,Ml];omega)
 have k:=key (i:=1) (by omega) (by omega:g.params.length-1<M) [⟨12,(g.params.length:Int),[]⟩] [⟨12,(g.params.length:Int)+2,[]⟩] rfl rfl
  (λe he=>by rw[qO]at he;rw[he];exact vi (by omega) (by omega)) (λe he=>by rw[qO]at he;rw[he];exact vi (by omega) (by omega)) (by rw[It,Ml];omega) (by rw[It,Ml];omega)
 rw[show ((1:Nat):Int)=1 from rfl]at k;refine Af.bind k ?_;rintro⟨wM,l15⟩ ⟨a1,a2,a3,a4,a5,a6⟩;dsimp only at a1 a2 a3 a4 a5 a6⊢;have i18:BF ⟨9,f,wM⟩:=LR (Dz (by omega) (by omega)) (Dz (by omega) (by omega)) a3 (by omega);have i20:BF ⟨9,f,l15⟩:=LR (Dz (by omega) (by omega)) (Dz (by omega) (by omega)) a4 (by omega);have e18:en ⟨9,(f:Int),wM⟩<=4:=by rw[Hi];omega
 have e20:en ⟨9,(f:Int),l15⟩<=4:=by rw[Hi];omega
 have hvl:(g.params++[(3:Int),0,3]).length<=100:=by simp;omega
 refine AN rfl (AN rfl (AN (I6 (by omega) (by simp)) ?_));refine Af.bind (Kq C Bb hM (d:=4) (by omega) hvl 0 (p:=p) (by omega) (by omega)) λwX hq=>?_;have c1:=hq.size;have c2:=hq.lo;have c3:=hq.hi;rw[cG]at c1;rw[fB]at c3;refine AN rfl (AN rfl ?_);refine Af.bind (R:=GQ 200 1000 p) ?_ ?_
 ·refine BB (λ_=>?_) λ_=>Af.some ⟨?_,(XS ⟨by omega,by omega⟩ ⟨by omega,by omega⟩ i18 (XS ⟨by omega,by omega⟩ ⟨by omega,by omega⟩ hq.Ch i20):BF ⟨1,0,[⟨9,(f:Int),wM⟩,⟨1,0,[wX.1,⟨9,(f:Int),l15⟩]⟩]⟩),by show p<=wX.2;omega,by show wX.2<=_;omega⟩
  ·refine AN (I6 (by omega) (by simp)) ?_;refine Af.bind (Kq C Bb hM (d:=4) (by omega) hvl 0 (p:=wX.2) (by omega) (by omega)) λzJ hq2=>?_;have d1:=hq2.size;have d2:=hq2.lo;have d3:=hq2.hi;rw[cG]at d1;rw[fB]at d3;refine AN rfl (AN rfl (Af.some ⟨?_,(ja ⟨by omega,by omega⟩ ⟨by omega,by omega⟩ i18 hq2.Ch (vi (by omega) (by omega)):BF ⟨6,3,[⟨9,(f:Int),wM⟩,zJ.1,⟨12,(g.params.length:Int)+2,[]⟩]⟩),by show p<=zJ.2;omega,by show zJ.2<=_;omega⟩));show en ⟨6,3,[⟨9,(f:Int),wM⟩,zJ.1,⟨12,(g.params.length:Int)+2,[]⟩]⟩<=200;rw[iL,Ml];omega
  ·show en ⟨1,0,[⟨9,(f:Int),wM⟩,⟨1,0,[wX.1,⟨9,(f:Int),l15⟩]⟩]⟩<=200;rw[Xm,Xm];omega
 ·rintro⟨f20,o,m,k⟩ g20;have b1:=g20.size;have b2:=g20.lo;have b3:=g20.hi;have b4:=g20.Ch;dsimp only at b1 b2 b3 b4⊢;refine AN rfl ?_;refine Af.bind (Kq C Bb hM (d:=4) (by omega) (vars:=g.params) (by omega) g.result (p:=f20) (by omega) (by omega)) λq hq=>?_;have c1:=hq.size;have c2:=hq.lo;have c3:=hq.hi;rw[cG]at c1;rw[fB]at c3;refine AN rfl (Af.some ⟨by rw[iL,Ml];omega,ja ⟨by omega,by omega⟩ ⟨by omega,by omega⟩ (vi (by omega) (by omega)) hq.Ch b4,by show p<=q.2;omega,by show q.2<=_;omega⟩)
theorem Yh (C:CX D F){b:List Int}(Bb:Bk b){M:Nat}(hM:2000000<=M){f:Nat}(hf:f<F.length){g:Ar}(hg:F[f]?=some g)(hg1:0<g.params.length){p:Int}(h0:0<=p)(h1:p<=200000):Af (Ko M b p F D f) (GE 1000 3000 p):=by
 have yP:=C.fl;have zu:=pt hg;have hp3:=C.par g zu;unfold Ko;have vi:∀{n:Int},0<=n->n<=100->BF ⟨12,n,[]⟩:=λa c=>Gf ⟨by omega,by omega⟩ ⟨by omega,by omega⟩;have li:∀{n:Int},0<=n->n<=100->BF ⟨0,n,[]⟩:=λa c=>Gf ⟨by omega,by omega⟩ ⟨by omega,by omega⟩;refine AN (Av hg) (AN rfl (AN rfl (AN rfl ?_)));have key:∀{N i:Nat},i<=g.params.length->g.params.length-i<N->∀(q:Int) (acc:List AG),p<=q->q<=p+30*i->acc.length=i->(∀e∈acc,BF e)->CN acc<=4*i->
   Af (Fw M g b F D N i q acc) λr=>p<=r.1/\r.1<=p+90/\r.2.length<=3/\(∀e∈r.2,BF e)/\CN r.2<=12:=by
  intro N i hi hN;refine Bm g.params.length (λN i=>∀(q:Int) (acc:List AG),p<=q->q<=p+30*i->acc.length=i->(∀e∈acc,BF e)->CN acc<=4*i->
   Af (Fw M g b F D N i q acc) λr=>p<=r.1/\r.1<=p+90/\r.2.length<=3/\(∀e∈r.2,BF e)/\CN r.2<=12) ?_ ?_ hi hN
  ·intro n q acc g1 g2 g3 g4 g5;rw[Fw,qG (by simp[AK])];exact Af.some ⟨g1,by show q<=_;omega,by show acc.length<=3;omega,g4,by show CN acc<=12;omega⟩
  ·intro n i hi ih q acc g1 g2 g3 g4 g5;obtain⟨t,ht,_⟩:=Ba hi;rw[Fw,qF (by rw[qJ,AK];omega),Co (n:=(i:Int)+1) (by omega) (by omega),show ((i:Int)+1)=((i+1:Nat):Int) by omega];refine AN (Av ht) ?_;refine Af.bind (ON C Bb hM (by omega) t (p:=q) (by omega) (by omega)) λs hs=>?_;have s1:=hs.size;have s2:=hs.lo;have s3:=hs.hi;refine Af.app (by simp;omega) (by simp;omega) ?_;refine ih s.2 (acc++[s.1]) (by omega) (by omega) (by simp;omega) (λe he=>?_) (by rw[J7,It];omega);rcases qb.1 he with h5|h5
   ·exact g4 e h5
   ·rw[qO]at h5;rw[h5];exact hs.Ch
 have k:=key (i:=1) (by omega) (by omega:g.params.length-1<M) p [⟨2,0,[⟨12,0,[]⟩,⟨0,1,[]⟩]⟩] (by omega) (by omega) rfl (λe he=>by rw[qO]at he;rw[he];exact XS ⟨by omega,by omega⟩ ⟨by omega,by omega⟩ (vi (by omega) (by omega)) (li (by omega) (by omega))) (by rw[It,Xm,Ml,Ml];omega);rw[show ((1:Nat):Int)=1 from rfl]at k;refine Af.bind k ?_;rintro⟨f13,wM⟩ ⟨a1,a2,a3,a4,a5⟩;dsimp only at a1 a2 a3 a4 a5⊢;have again:BF ⟨9,f,wM⟩:=LR (Dz (by omega) (by omega)) (Dz (by omega) (by omega)) a4 (by omega);have ea:en ⟨9,(f:Int),wM⟩<=13:=by rw[Hi];omega
 refine AN rfl ?_;refine Af.bind (R:=GQ 200 1000 p) ?_ ?_
 ·refine BB (λ_=>?_) λ_=>Af.some ⟨by show en ⟨9,(f:Int),wM⟩<=200;omega,again,by show p<=f13;omega,by show f13<=_;omega⟩;refine Af.bind (Kq C Bb hM (d:=3) (by omega) (vars:=g.params) (by omega) 0 (p:=f13) (by omega) (by omega)) λxY hq=>?_;have c1:=hq.size;have c2:=hq.lo;have c3:=hq.hi;rw[pW]at c1;rw[pZ]at c3;refine AN rfl (Af.some ⟨?_,(XS ⟨by omega,by omega⟩ ⟨by omega,by omega⟩ hq.Ch again:BF ⟨6,1,[xY.1,⟨9,(f:Int),wM⟩]⟩),by show p<=xY.2;omega,by show xY.2<=_;omega⟩);show en ⟨6,1,[xY.1,⟨9,(f:Int),wM⟩]⟩<=200;rw[Xm];omega
 ·rintro⟨f20,o,m,k⟩ g20;have b1:=g20.size;have b2:=g20.lo;have b3:=g20.hi;have b4:=g20.Ch;dsimp only at b1 b2 b3 b4⊢;refine AN rfl (AN rfl (AN rfl ?_));refine Af.bind (Kq C Bb hM (d:=4) (by omega) (vars:=g.params) (by omega) g.result (p:=f20) (by omega) (by omega)) λq hq=>?_;have c1:=hq.size;have c2:=hq.lo;have c3:=hq.hi;rw[cG]at c1;rw[fB]at c3;refine AN rfl (Af.some ⟨by rw[iL,Xm,Ml,Ml];omega,ja ⟨by omega,by omega⟩ ⟨by omega,by omega⟩ (XS ⟨by omega,by omega⟩ ⟨by omega,by omega⟩ (li (by omega) (by omega)) (vi (by omega) (by omega))) b4 hq.Ch,by show p<=q.2;omega,by show q.2<=_;omega⟩)
theorem Ul (C:CX D F){b:List Int}(Bb:Bk b){M:Nat}(hM:2000000<=M){vars:List Int}(hv:vars.length<=100)(t:Int){B:Nat}(hB:B<=18){p:Int}(h0:0<=p)(h1:p<=200000):Af (J0 M b p F D vars t (B:Int)) (GE 200 3000 p):=by
 have szle:∀d,d<=18->HI d<=157:=λd h=>by unfold HI;split<;>omega
 have pkle:∀d,d<=18->Ew d<=1395:=λd h=>by unfold Ew;split<;>omega
 have key:∀(B N:Nat) (f o m:Int) (k:List AG),B<N->B<=18->p<=f->f+80*B<=p+2900->BF ⟨o,m,k⟩->en ⟨o,m,k⟩<=200->Af (G4 M b F D vars t N B f o m k) (GQ 200 3000 p):=by
  intro B
  induction B using Nat.strongRecOn with
  | _ B ih=>
   intro N f o m k hN hB g1 g2 g3 g4;obtain⟨N,rfl⟩ :∃m,N=m+1:=⟨N-1,by omega⟩
   rw[G4];refine Af.bind (R:=λc=>c=true->2<B) ?_ λc hc=>Cy (λh=>?_) λ_=>Af.some ⟨g4,g3,g1,by show f<=_;omega⟩
   ·refine AN (LD (by have:=Hi o m k;show CN k<=_;omega) hM) (BB (λ_=>Af.some λh=>by rw[qJ]at h;omega) λ_=>Af.some λh=>by cases h)
   ·have hB2:=hc h;have ed:Int.tdiv (B:Int) 2=((B / 2:Nat):Int):=rfl;have hd:2*(B / 2)<=B:=by omega
    have hd1:1<=B / 2:=by omega
    have hd3:B / 2<B:=by omega
    rw[ed];generalize B / 2=d at hd hd1 hd3⊢;have zH:Ew d<=80*d:=by unfold Ew;rw[qG (by omega)];omega
    rw[Co (n:=(d:Int)) (by omega) (by omega)];refine Af.bind (Kq C Bb hM (d:=d) (by omega) hv t (p:=f) (by omega) (by omega)) λq hq=>?_;have q1:=hq.lo;have q2:=hq.hi;have q3:=hq.size;have q4:=szle d (by omega);have q5:=hq.parts;exact ih d hd3 N q.2 q.1.op q.1.num q.1.kids (by omega) (by omega) (by omega) (by omega) q5.Ch (by have:=q5.size;dsimp only at this;omega)
 unfold J0;refine Af.bind (Kq C Bb hM (d:=B) (by omega) hv t (p:=p) (by omega) (by omega)) λq hq=>?_;have q1:=hq.lo;have q2:=hq.hi;have q3:=hq.size;have q4:=szle B hB;have q6:=pkle B hB;have q5:=hq.parts;refine Af.bind (key B M q.2 q.1.op q.1.num q.1.kids (by omega) hB (by omega) (by omega) q5.Ch (by have:=q5.size;dsimp only at this;omega)) ?_;rintro⟨f,o,m,k⟩ g;exact Af.some ⟨g.size,g.Ch,g.lo,g.hi⟩
theorem bI {l:List Int}(hl:l.length<=3){x:Int}{M:Nat}(hM:2000000<=M):Af (Lc M l x) λr=>r=-1∨(0<=r/\r<(l.length:Int)):=by
 have key:∀{N i:Nat},i<=l.length->l.length-i<N->Af (GV l x N i) λv=>match v with|.inl r=>0<=r/\r<(l.length:Int)|.inr _=>True:=by
  intro N i hi hN;refine Bm l.length (λN i=>Af (GV l x N i) λv=>match v with|.inl r=>0<=r/\r<(l.length:Int)|.inr _=>True) ?_ ?_ hi hN
  ·intro n;rw[GV,qG (by simp[AK])];exact Af.some pw
  ·intro n i hi ih;obtain⟨y,hy,_⟩:=Ba hi;rw[GV,qF (by rw[qJ,AK];omega),Co (n:=(i:Int)+1) (by omega) (by omega),show ((i:Int)+1)=((i+1:Nat):Int) by omega];refine AN (Av hy) (BB (λ_=>Af.some (show 0<=(i:Int)/\(i:Int)<_ by omega)) λ_=>ih)
 unfold Lc;have k:=key (qd _) (by omega:l.length-0<M);rw[uS]at k;refine Af.cont (R:=λr=>0<=r/\r<(l.length:Int)) (S:=λ_=>True) (k.mono λv hv=>by cases v<;>exact hv) (λr hr=>.inr hr) λ_ _=>Af.some (.inl rfl)
theorem cM (C:CX D F){b:List Int}(Bb:Bk b){M:Nat}(hM:2000000<=M){f:Nat}(hf:f<F.length){p:Int}(h0:0<=p)(h1:p<=150000):Af (MP M b p F D f) (GE 1000 7000 p):=by
 have yP:=C.fl;obtain⟨g,hg,zu⟩:=Ba hf;have hp3:=C.par g zu;unfold MP;refine AN (Av hg) ?_;refine Af.bind (bI hp3 hM) λa ha=>?_;refine AN rfl ?_;refine Af.bind (Cm Bb ⟨by omega,by omega⟩) λwL hq=>?_;have q1:=hq.pos;have fin:∀{x:Option (AG×Int)},Af x (GE 1000 3000 wL.2)->Af (Option.bind x λwW=>some (wW.2,wW.1.op,wW.1.num,wW.1.kids)) (GQ 1000 3500 p):=λhx=>
  Af.bind hx λr hr=>Af.some (by
   have:=hr.parts;exact⟨this.size,this.Ch,by have:=this.lo;dsimp only at this⊢;omega,by have:=this.hi;dsimp only at this⊢;omega⟩)
 refine Af.bind (R:=GQ 1000 3500 p) ?_ ?_
 ·refine Af.bind (R:=λ_=>True) (BB (λ_=>Af.some pw) λ_=>Af.some pw) λt25 _=>Cy (λ_=>fin (Yi C Bb hM (by omega) (by omega))) λ_=>?_;refine Af.bind (R:=λt=>t=true->0<=a) ?_ λt30 ht30=>Cy (λh=>?_) λ_=>?_
  ·refine BB (λ_=>BB (λh=>?_) λ_=>Af.some λh=>by cases h) λ_=>Af.some λh=>by cases h
   exact BB (λ_=>Af.some λ_=>h) λ_=>Af.some λ_=>h
  ·have ha0:=ht30 h;obtain⟨an,rfl⟩:=qu ha0;exact fin (Yr C Bb hM hf (by omega) (by omega) (by omega))
  have pos:∀(z:Int),Af (if decide (wL.1<3)=true then
      if (decide (0<(Sh.len g.params)))=true then
       (Sh.get g.params 0).bind λc52=>
       if (decide (c52=z))=true then
        if (decide (g.result=0))=true then
         some true
        else
         some (decide (g.result=(if z=3 then 3 else 1)))
       else
        some false
      else
       some false
     else
      some false) λt=>t=true->0<g.params.length:=by
   intro z;refine BB (λ_=>BB (λh=>?_) λ_=>Af.some λh=>by cases h) λ_=>Af.some λh=>by cases h
   rw[AK]at h;refine Af.get (by omega) (by omega) λc _ _=>?_;refine BB (λ_=>BB (λ_=>Af.some λ_=>by omega) λ_=>Af.some λ_=>by omega) λ_=>Af.some λh=>by cases h
  refine Af.bind (pos 3) λt35 ht35=>Cy (λh=>fin (ZJ C Bb hM hf hg (ht35 h) (by omega) (by omega))) λ_=>?_;refine Af.bind (pos 0) λt40 ht40=>Cy (λh=>fin (Yh C Bb hM hf hg (ht40 h) (by omega) (by omega))) λ_=>?_;have:=Ul C Bb hM (vars:=g.params) (by omega) g.result (B:=18) (by omega) (p:=wL.2) (by omega) (by omega);exact fin (this.mono λr hr=>hr.up (by omega) (by omega))
 ·rintro⟨f12,o,m,k⟩ g12;have b1:=g12.size;have b2:=g12.lo;have b3:=g12.hi;have b4:=g12.Ch;dsimp only at b1 b2 b3 b4⊢;refine AN (LD (by have:=Hi o m k;show CN k<=_;omega) hM) (BB (λ_=>?_) λ_=>Af.some ⟨b1,b4,b2,by show f12<=_;omega⟩);have:=Ul C Bb hM (vars:=g.params) (by omega) g.result (B:=12) (by omega) (p:=f12) (by omega) (by omega);refine Af.bind this λr hr=>Af.some ⟨by have:=hr.size;show en r.1<=_;omega,hr.Ch,by have:=hr.lo;show p<=r.2;omega,by have:=hr.hi;show r.2<=_;omega⟩
end
end RC
namespace RC
open Go
theorem nm (n:Int):JC (Sh.w n):=by
 unfold Sh.w JC;rw[IntKind.wrap_i64];omega
def cn (l:List Int):EK:=⟨l⟩
def gD:List AI:=[⟨0,0,[⟨[]⟩,⟨[0,1]⟩]⟩,⟨0,0,[]⟩,⟨0,0,[⟨[]⟩,⟨[3,0,3]⟩]⟩]
def gL:List AI:=[⟨0,0,[⟨[1,3]⟩]⟩,⟨1,0,[]⟩,⟨0,0,[⟨[1,1,0]⟩,⟨[0]⟩,⟨[3]⟩]⟩,⟨0,1,[]⟩]
def GD (D:List AI):Prop:=D=gD∨∃d∈gL,D=gD++[d]
theorem Rn {b:List Int}(Bb:Bk b){p:Int}(h0:0<=p)(h1:p<=500000):Af (IT b p) λq=>GD q.1/\q.2=p+1:=by
 unfold IT;refine AN rfl (AN rfl (AN rfl (AN rfl (AN rfl (AN rfl (AN rfl (AN rfl ?_)))))));refine Af.bind (Cm Bb ⟨by omega,by omega⟩) λq hq=>?_;have q1:=hq.pos;have q2:=hq.nn;have q3:=hq.lt (by omega);refine Af.bind (R:=GD) ?_ λl hl=>Af.some ⟨hl,q1⟩;refine BB (λ_=>?_) λ_=>Af.some (.inl rfl);refine Af.get q2 (by simp;omega) λc _ hc=>?_;refine Af.app (by simp) (by simp) (Af.some (.inr ⟨c,?_,rfl⟩));exact hc
structure ou (F:List Ar):Prop where
 fl:F.length<=4
 jk:1<=F.length
 par :∀f∈F,f.params.length<=3
 cl :∀f∈F,(∀x∈f.params,x=0∨x=1∨x=3)∨(f.params=[2,1]/\f.result=1)
theorem CX.of {D:List AI}{F:List Ar}(hD:GD D)(S:ou F):CX D F:=by
 have all:∀{D:List AI},D.length<=4->nc D<=7->(∀d∈D,d.cons.length<=3)->(∀d∈D,∀c∈d.cons,c.fields.length<=3/\∀x∈c.fields,x=0∨x=1∨x=3)->CB D 1=[0,1]->CB D 3=[2,3]->
   I8 D 0 0=some (1,⟨[]⟩)->I8 D 0 1=some (1,⟨[0,1]⟩)->I8 D 0 2=some (3,⟨[]⟩)->I8 D 0 3=some (3,⟨[3,0,3]⟩)->HW 1 1 D 0=-1->CX D F:=λa b c d e f g h i j k=>
  ⟨a,b,c,d,e,f,⟨_,g⟩,⟨_,h⟩,⟨_,i⟩,⟨_,j⟩,k,S.fl,S.jk,S.par,S.cl⟩
 rcases hD with rfl|⟨d,hd,rfl⟩
 ·exact all (by decide) (by decide) (by decide) (by decide) (by decide) (by decide) rfl rfl rfl rfl (by decide)
 ·simp only[gL,qH,qi,rI]at hd;rcases hd with rfl|rfl|rfl|rfl;all_goals exact all (by decide) (by decide) (by decide) (by decide) (by decide) (by decide) rfl rfl rfl rfl (by decide)
structure oM (f:Ar):Prop where
 Ch:XL f
 par:f.params.length<=4
 size:en f.body<=1001
theorem XD {l:List Int}(hl:l.length<=4)(h :∀x∈l,-1000000<=x/\x<=1000000):IJ JC l:=⟨λx hx=>Dz (h x hx).1 (h x hx).2,by omega⟩
structure dH (F:List Ar):Prop where
 sg:ou F
 ok :∀f∈F,oM f
 sz :∀f∈F,en f.body<=1000
theorem Nj {α:Type}{l:List α}{i:Int}{x y:α}(h:y∈Sh.put l i x):y∈l∨y=x:=rB h
theorem dH.put {F:List Ar}(P:dH F){i:Int}{g:Ar}(hg:g∈F){e:AG}(he:BF e)(hs:en e<=1000):dH (Sh.put F i ⟨g.params,g.result,e⟩):=by
 have hl:(Sh.put F i ⟨g.params,g.result,e⟩).length=F.length:=by unfold Sh.put;simp
 have G:=P.ok g hg;refine⟨⟨by rw[hl];exact P.sg.fl,by rw[hl];exact P.sg.jk,λf hf=>?_,λf hf=>?_⟩,λf hf=>?_,λf hf=>?_⟩
 ·rcases Nj hf with h|rfl
  ·exact P.sg.par f h
  ·exact P.sg.par g hg
 ·rcases Nj hf with h|rfl
  ·exact P.sg.cl f h
  ·exact P.sg.cl g hg
 ·rcases Nj hf with h|rfl
  ·exact P.ok f h
  ·exact⟨⟨G.Ch.params,G.Ch.result,he⟩,G.par,by show en e<=_;omega⟩
 ·rcases Nj hf with h|rfl
  ·exact P.sz f h
  ·exact hs
theorem VJ {b:List Int}(Bb:Bk b){M:Nat}(hM:2000000<=M){p:Int}(h0:0<=p)(h1:p<=1000):Af (IX M b p) λq=>GD q.1.decls/\dH q.1.funcs/\0<=q.2/\q.2<=100000:=by
 unfold IX;refine Af.bind (Rn Bb h0 (by omega)) λq3 ⟨hD,hq3⟩=>?_;iterate 17 refine AN rfl ?_
 have sigs:∀(l:List Ar),(∀f∈l,f.body=⟨0,0,[]⟩/\f.params.length<=3/\(∀x∈f.params,0<=x/\x<=3)/\(0<=f.result/\f.result<=3)/\((∀x∈f.params,x=0∨x=1∨x=3)∨(f.params=[2,1]/\f.result=1)))->l.length<=4->1<=l.length->dH l:=λl h h4 h5=>
  ⟨⟨h4,h5,λf hf=>(h f hf).2.1,λf hf=>(h f hf).2.2.2.2⟩,λf hf=>by
   obtain⟨b1,b2,b3,b4,_⟩:=h f hf;exact⟨⟨XD (by omega) λx hx=>by have:=b3 x hx;omega,Dz (by omega) (by omega),by rw[b1];exact Gf ⟨by omega,by omega⟩ ⟨by omega,by omega⟩⟩,by omega,by rw[b1,Ml];omega⟩,λf hf=>by rw[(h f hf).1,Ml];omega⟩
 have pg:∀{l:List Ar} {f:Int×Int->Ar->Option (AP×Int)} {s:Int} {Q:AP×Int->Prop},1<=l.length->0<=s->s<=900000->(∀(q:Int×Int) c,q.2=s+1->c∈l->Af (f q c) Q)->Af ((Ay b s (Sh.len l)).bind λxI=>(Sh.get l xI.1).bind λze=>f xI ze) Q:=λhl hs0 hs1 k=>by
  rw[AK];refine Af.bind (Cm Bb ⟨hs0,by omega⟩) λq hq=>?_;exact Af.get hq.nn (hq.lt (by omega)) λc _ hc=>k q c hq.pos hc
 refine pg (by simp) (by omega) (by omega) λxI ze hq25 hc26=>?_;refine pg (by simp) (by omega) (by omega) λxc c28 hq27 hc28=>?_;refine pg (by simp) (by omega) (by omega) λza c30 hq29 hc30=>?_;refine Af.bind (Hf Bb ⟨by omega,by omega⟩ (by simp) (by simp)) λxb hq32=>?_;have o1:=hq32.pos;have o2:=hq32.mem;simp only[qH,qi,rI]at o2;obtain⟨n,hn⟩:=qu (by omega:0<=xb.1);rw[hn];refine AN (de (by simp;omega)) ?_;generalize hl:([Ar.mk [] 0 (AG.mk 0 0 []),ze,c28,c30].take n)=l34;have hlen:l34.length=n:=by rw[<- hl];simp;omega
 have wY:∀f∈l34,f.body=⟨0,0,[]⟩/\f.params.length<=3/\(∀x∈f.params,0<=x/\x<=3)/\(0<=f.result/\f.result<=3)/\((∀x∈f.params,x=0∨x=1∨x=3)∨(f.params=[2,1]/\f.result=1)):=by
  intro f hf;rw[<- hl]at hf;have:=rO hf;simp only[qH,qi,rI]at this hc26 hc28 hc30;rcases this with rfl|rfl|rfl|rfl
  ·simp
  ·rcases hc26 with rfl|rfl|rfl|rfl|rfl|rfl<;>simp
  ·rcases hc28 with rfl|rfl|rfl|rfl|rfl|rfl<;>simp
  ·rcases hc30 with rfl|rfl|rfl|rfl<;>simp
 have P0:=sigs l34 wY (by omega) (by omega);have key:∀(k N:Nat) (z p':Int) (l:List Ar),z=(k:Int)-1->k<N->k<=4->k<=l.length->dH l->0<=p'->p'+7000*k<=50000->Af (E6 M b q3 N z p' l) λr=>dH r.2/\0<=r.1/\r.1<=60000:=by
  intro k
  induction k with
  | zero=>
   intro N z p' l hz hN _ _ hP g0 g1;obtain⟨N,rfl⟩ :∃m,N=m+1:=⟨N-1,by omega⟩
   rw[E6,qG (by rw[qJ];omega)];exact Af.some ⟨hP,g0,by show p'<=_;omega⟩
  | succ k ih=>
   intro N z p' l hz hN h4 xu hP g0 g1;obtain⟨N,rfl⟩ :∃m,N=m+1:=⟨N-1,by omega⟩
   have hzk:z=(k:Int):=by omega
   subst hzk;rw[E6,qF (by rw[qJ];omega)];have C:=CX.of hD hP.sg;refine Af.bind (cM C Bb hM (f:=k) (by omega) (p:=p') g0 (by omega)) λr hr=>?_;have r1:=hr.lo;have r2:=hr.hi;obtain⟨g,hg,zu⟩:=Ba (l:=l) (i:=k) (by omega);refine AN (Av hg) ?_;refine ih N (Sh.w ((k:Int)-1)) r.2 _ (Co (by omega) (by omega)) (by omega) (by omega) (by unfold Sh.put;simp;omega) (hP.put zu hr.Ch hr.size) (by omega) (by omega)
 have k:=key n M (Sh.w ((n:Int)-1)) xb.2 l34 (Co (by omega) (by omega)) (by omega) (by omega) (by omega) P0 (by omega) (by omega);refine Af.bind k ?_;rintro⟨f40,l41⟩ ⟨a1,a2,a3⟩;exact Af.some ⟨hD,a1,a2,by show f40<=_;dsimp only at a3;omega⟩
theorem TU {M:Nat}(hM:2000000<=M):∀(n:Nat) (l:List AG),CN l<n->CN l<=100000->Fk M n l=some l:=by
 intro n
 induction n with
 | zero=>intro l h;omega
 | succ n ih=>
  intro l hn hs;rw[Fk];unfold KH;have hl:=LZ l;have key:∀{N i:Nat},i<=l.length->l.length-i<N->ES l (Fk M n) N i (l.take i)=some l:=by
   intro N i hi hN;refine Bm l.length (λN i=>ES l (Fk M n) N i (l.take i)=some l) ?_ ?_ hi hN
   ·intro m;rw[ES,qG (by simp[AK]),ri]
   ·intro m i hi ih2;obtain⟨e,he,hem⟩:=Ba hi;have h1:=Kk hem;have h2:=LL e;rw[ES,qF (by rw[qJ,AK];omega),Av he];unfold MQ;simp only[po];rw[ih e.kids (by omega) (by omega)];simp only[po];rw[Cp _ _ 40 (by simp;omega) (by simp;omega),Co (by omega) (by omega),show ((i:Int)+1)=((i+1:Nat):Int) by omega];simp only[po];have:(⟨e.op,e.num,e.kids⟩:AG)=e:=by cases e;rfl
    rw[this,<- Gg he];exact ih2
  have:=key (qd _) (by omega:l.length-0<M);rw[tV,uS]at this;rw[this];rfl
theorem dP:∀(l:List AG) (i:Nat) (e x:AG),l[i]?=some e->CN (l.set i x)+en e=CN l+en x
 | [],i,e,x,h=>by simp at h
 | a::l,0,e,x,h=>by
  simp only[qg,pz]at h;subst h;simp only[tU,CN];omega
 | a::l,i+1,e,x,h=>by
  have:=dP l i e x (by simpa using h);simp only[List.set_cons_succ,CN];omega
theorem lX {b:List Int}(Bb:Bk b){M:Nat}(hM:2000000<=M):∀(n:Nat) (e:AG) (p:Int),en e<n->en e<=1001->BF e->0<=p->p+5*en e<=300000->Af (Kz M n b p e) λq=>en q.1<=en e+1/\BF q.1/\p<=q.2/\q.2<=p+5*en e:=by
 intro n
 induction n with
 | zero=>intro e p h;have:=Qb e;omega
 | succ n ih=>
  intro e p hn hs wE h0 h1;have hee:=LL e;have xu:=LZ e.kids;rw[Kz];unfold OE;refine Af.bind (R:=λq:Bool×Int=>(q.1=true->0<e.kids.length)/\p<=q.2/\q.2<=p+1) ?_ ?_
  ·refine BB (λh=>?_) λ_=>Af.some ⟨(λh=>by cases h),by show p<=p;omega,by show p<=_;omega⟩;rw[AK]at h;exact Af.bind (Cm Bb ⟨by omega,by omega⟩) λq hq=>Af.some ⟨λ_=>by omega,by have:=hq.pos;show p<=q.2;omega,by have:=hq.pos;show q.2<=_;omega⟩
  ·rintro⟨t4,f5⟩ ⟨g1,g2,g3⟩;dsimp only at g1 g2 g3⊢;refine Cy (λh=>?_) λ_=>?_
   ·have hk:=g1 h;refine AN (TU hM M e.kids (by omega) (by omega)) ?_;rw[AK];refine Af.bind (Cm Bb ⟨by omega,by omega⟩) λq hq=>?_;have q1:=hq.pos;have q2:=hq.nn;have q3:=hq.lt (by omega);refine Af.get q2 q3 λc hc xH=>?_;have yp:=Kk xH;refine Af.bind (ih c q.2 (by omega) (by omega) (wE.kids c xH) (by omega) (by omega)) λr ⟨r1,r2,r3,r4⟩=>?_;have yX:=dP e.kids q.1.toNat c r.1 hc;refine AN rfl (Af.some ⟨?_,?_,by show p<=r.2;omega,by show r.2<=_;omega⟩)
    ·show en ⟨e.op,e.num,Sh.put e.kids q.1 r.1⟩<=_;unfold Sh.put;rw[Hi];omega
    ·show BF ⟨e.op,e.num,Sh.put e.kids q.1 r.1⟩;refine LR wE.op wE.num (λx hx=>?_) (by unfold Sh.put;simp;omega);rcases Nj hx with h3|rfl
     ·exact wE.kids x h3
     ·exact r2
   ·refine Af.bind (Cm Bb ⟨by omega,by omega⟩) λwR hq19=>?_;have a1:=hq19.pos;have a2:=hq19.nn;have a3:=hq19.lt (by omega);have hp:=Qb e;have same:∀{o m:Int},JC o->JC m->BF ⟨o,m,e.kids⟩:=λho hm=>LR ho hm wE.kids (by omega);refine BB (λ_=>?_) λ_=>?_
    ·refine Af.bind (Cm Bb ⟨by omega,by omega⟩) λq hq=>?_;have c1:=hq.pos;have c2:=hq.nn;have c3:=hq.lt (by omega);refine AN rfl (Af.some ⟨?_,same (Dz (by omega) (by omega)) wE.num,by show p<=q.2;omega,by show q.2<=_;omega⟩);show en ⟨q.1,e.num,e.kids⟩<=_;rw[Hi];omega
    refine BB (λ_=>?_) λ_=>?_
    ·refine Af.bind (Hf Bb ⟨by omega,by omega⟩ (by simp) (by simp)) λq hq=>?_;have c1:=hq.pos;refine AN rfl (Af.some ⟨?_,same wE.op (nm _),by show p<=q.2;omega,by show q.2<=_;omega⟩);show en ⟨e.op,Sh.w (e.num+q.1),e.kids⟩<=_;rw[Hi];omega
    refine BB (λ_=>?_) λ_=>?_
    ·refine AN (TU hM M e.kids (by omega) (by omega)) (AN rfl ?_);refine Af.app (by simp;omega) (by simp;omega) (AN rfl (Af.some ⟨?_,?_,by show p<=wR.2;omega,by show wR.2<=_;omega⟩))
     ·show en ⟨e.op,e.num,e.kids++[⟨0,1,[]⟩]⟩<=_;rw[Hi,J7,It,Ml];omega
     ·show BF ⟨e.op,e.num,e.kids++[⟨0,1,[]⟩]⟩;refine .mk wE.op wE.num (by show (e.kids++_).length<=_;simp;omega) λx hx=>?_;rcases qb.1 (show x∈e.kids++[⟨0,1,[]⟩] from hx) with h3|h3
      ·exact wE.kids x h3
      ·rw[qO]at h3;rw[h3];exact Gf ⟨by omega,by omega⟩ ⟨by omega,by omega⟩
    refine BB (λ_=>?_) λ_=>?_
    ·refine Af.bind (Hf Bb ⟨by omega,by omega⟩ (by simp) (by simp)) λq hq=>?_;have c1:=hq.pos;have c2:=hq.mem;simp only[qH,qi,rI]at c2;refine AN rfl (Af.some ⟨?_,Gf ⟨by omega,by omega⟩ ⟨by omega,by omega⟩,by show p<=q.2;omega,by show q.2<=_;omega⟩);show en ⟨12,q.1,[]⟩<=_;rw[Ml];omega
    ·refine Af.bind (Hf Bb ⟨by omega,by omega⟩ (by simp) (by simp)) λq hq=>?_;have c1:=hq.pos;have c2:=hq.mem;simp only[qH,qi,rI]at c2;refine AN rfl (Af.some ⟨?_,Gf ⟨by omega,by omega⟩ ⟨by omega,by omega⟩,by show p<=q.2;omega,by show q.2<=_;omega⟩);show en ⟨0,q.1,[]⟩<=_;rw[Ml];omega
structure ZA (D:List AI):Prop where
 len:D.length<=6
 Ch :∀d∈D,NX d
 size :∀d∈D,dz d<=20
theorem lg {f t:Int}{cs:List EK}(hf:-1000000<=f/\f<=1000000)(ht:-1000000<=t/\t<=1000000)(hl:cs.length<=4)(h :∀c∈cs,c.fields.length<=4/\∀x∈c.fields,-1000000<=x/\x<=1000000):NX ⟨f,t,cs⟩:=
 ⟨Dz hf.1 hf.2,Dz ht.1 ht.2,λc hc=>⟨XD (h c hc).1 (h c hc).2⟩,by show cs.length<=_;omega⟩
theorem nq {f t:Int}{cs:List EK}(hl:cs.length<=4)(h :∀c∈cs,c.fields.length<=4):dz ⟨f,t,cs⟩<=20:=by
 have :∀l:List EK,(∀c∈l,c.fields.length<=4)->(l.map cz).sum<=4*l.length:=λl=>by
  induction l with
  | nil=>simp
  | cons c l ih=>
   intro h;have h1:=h c (by simp);have h2:=ih λc hc=>h c (by simp[hc]);simp only[qj,sn,qa];have:cz c=c.fields.length:=rfl;omega
 have h2:=this cs h;show cs.length+(cs.map cz).sum<=20;omega
theorem XM {f t:Int}{cs:List EK}(hf:-1000000<=f/\f<=1000000)(ht:-1000000<=t/\t<=1000000)(hl:cs.length<=4)(h :∀c∈cs,c.fields.length<=4/\∀x∈c.fields,-1000000<=x/\x<=1000000):NX ⟨f,t,cs⟩/\dz ⟨f,t,cs⟩<=20:=
 ⟨lg hf ht hl h,nq hl λc hc=>(h c hc).1⟩
theorem WC {D:List AI}(h:GD D):ZA D/\3<=D.length/\D.length<=4:=by
 have wY:∀d∈gD++gL,NX d/\dz d<=20:=by
  intro d hd;simp only[gD,gL,se,rN,qH,qi,rI]at hd;rcases hd with rfl|rfl|rfl|rfl|rfl|rfl|rfl<;>exact XM (by decide) (by decide) (by decide) (by decide)
 rcases h with rfl|⟨d,hd,rfl⟩
 ·exact⟨⟨by decide,λd hd=>(wY d (rE _ hd)).1,λd hd=>(wY d (rE _ hd)).2⟩,by decide,by decide⟩
 ·have hm:∀x∈gD++[d],x∈gD++gL:=λx hx=>by
   rcases qb.1 hx with h|h
   ·exact rE _ h
   ·rw[qO]at h;rw[h];exact sO _ hd
  exact⟨⟨by simp[gD],λx hx=>(wY x (hm x hx)).1,λx hx=>(wY x (hm x hx)).2⟩,by simp[gD],by simp[gD]⟩
theorem ZA.put {D:List AI}(h:ZA D){i:Int}{d:AI}(hd:NX d/\dz d<=20):ZA (Sh.put D i d):=
 ⟨by unfold Sh.put;simp;exact h.len,λx hx=>(Nj hx).elim (λh3=>h.Ch x h3) (λe=>by rw[e];exact hd.1),λx hx=>(Nj hx).elim (λh3=>h.size x h3) (λe=>by rw[e];exact hd.2)⟩
theorem ZA.app {D E:List AI}(h:ZA D)(hl:D.length+E.length<=6)(hE :∀d∈E,NX d/\dz d<=20):ZA (D++E):=
 ⟨by simp;omega,λx hx=>(qb.1 hx).elim (λh3=>h.Ch x h3) (λh3=>(hE x h3).1),λx hx=>(qb.1 hx).elim (λh3=>h.size x h3) (λh3=>(hE x h3).2)⟩
theorem pe {α:Type}{l:List α}{i:Nat}(h:i<=l.length):Sh.sl l (i:Int) (Sh.len l)=some (l.drop i):=by
 unfold Sh.sl;rw[AK,qF (by omega)];simp
theorem Y4 {b:List Int}(Bb:Bk b){p:Int}(h0:0<=p)(h1:p<=300000):Af (Kc b p) λq=>ZA q.1/\p<=q.2/\q.2<=p+10:=by
 unfold Kc;refine Af.bind (Rn Bb h0 (by omega)) λq3 ⟨hD,hq3⟩=>?_;obtain⟨O,l3,l4⟩:=WC hD;rw[AK];refine Af.bind (Cm Bb ⟨by omega,by omega⟩) λq5 hq5=>?_;have a1:=hq5.pos;have a2:=hq5.nn;have a3:=hq5.lt (by omega);refine Af.bind (R:=λr:Int×List AI=>ZA r.2/\p<=r.1/\r.1<=p+10) ?_ λr hr=>Af.some ⟨hr.1,hr.2⟩;refine Af.bind (Cm Bb ⟨by omega,by omega⟩) λwJ hq12=>?_;have b1:=hq12.pos;refine BB (λ_=>?_) λ_=>?_
 ·refine Af.bind (Hf Bb ⟨by omega,by omega⟩ (by simp) (by simp)) λx hx=>?_;have x1:=hx.pos;have x2:=hx.mem;refine Af.bind (Hf Bb ⟨by omega,by omega⟩ (by simp) (by simp)) λy hy=>?_;have y1:=hy.pos;have y2:=hy.mem;simp only[qH,qi,rI]at x2 y2;exact Af.get a2 a3 λc _ _=>Af.some ⟨O.put (XM (by omega) (by omega) (by decide) (by simp)),by show p<=y.2;omega,by show y.2<=_;omega⟩
 refine BB (λ_=>?_) λ_=>?_
 ·refine Af.bind (Hf Bb ⟨by omega,by omega⟩ (by simp) (by simp)) λx hx=>?_;have x1:=hx.pos;have x2:=hx.mem;simp only[qH,qi,rI]at x2;refine AN rfl (AN rfl (AN rfl ?_));refine Af.get a2 a3 λc _ _=>Af.some ⟨O.put (XM (by omega) (by omega) (by simp) ?_),by show p<=x.2;omega,by show x.2<=_;omega⟩;intro c hc;simp only[qH,qi,rI]at hc;rcases hc with rfl|rfl|rfl
  ·exact⟨by simp,λz hz=>by rw[qO]at hz;omega⟩
  ·exact⟨by simp,by simp⟩
  ·exact⟨by simp,by simp⟩
 refine BB (λ_=>?_) λ_=>?_
 ·refine AN rfl ?_;rw[Co (n:=q5.1+1) (by omega) (by omega)];refine Af.get a2 a3 λc _ _=>Af.some ⟨O.put (XM (by omega) (by omega) (by simp) ?_),by show p<=wJ.2;omega,by show wJ.2<=_;omega⟩;intro c hc;rw[qO]at hc;rw[hc];exact⟨by simp,λz hz=>by rw[qO]at hz;omega⟩
 refine BB (λ_=>?_) λ_=>?_
 ·refine Af.bind (Hf Bb ⟨by omega,by omega⟩ (by simp) (by simp)) λx hx=>?_;have x1:=hx.pos;have x2:=hx.mem;simp only[qH,qi,rI]at x2;refine Af.app (by simp;omega) (by simp;omega) (Af.some ⟨O.app (by simp;omega) λd hd=>?_,by show p<=x.2;omega,by show x.2<=_;omega⟩);rw[qO]at hd;rw[hd];exact XM (by omega) (by omega) (by simp) (by simp)
 refine BB (λ_=>?_) λ_=>?_
 ·refine Af.bind (Cm Bb ⟨by omega,by omega⟩) λx hx=>?_;have x1:=hx.pos;have x2:=hx.nn;have x3:=hx.lt (by omega);refine AN rfl (AN rfl (AN rfl (AN rfl ?_)));refine Af.bind (Cm Bb ⟨by omega,by omega⟩) λy hy=>?_;have y1:=hy.pos;have y2:=hy.nn;have y3:=hy.lt (by omega);obtain⟨k,hk⟩:=qu y2;rw[hk];refine AN (pe (by simp;omega)) ?_;refine Af.get a2 a3 λc _ _=>Af.some ⟨O.put (XM (by omega) (by omega) (by simp) ?_),by show p<=y.2;omega,by show y.2<=_;omega⟩;intro c hc;have:=re hc;simp only[qH,qi,rI]at this;rcases this with rfl|rfl|rfl|rfl<;>exact⟨by simp,by simp⟩
 refine BB (λ_=>?_) λ_=>?_
 ·refine Af.app (by simp;omega) (by simp;omega) (Af.some ⟨O.app (by simp;omega) λd hd=>?_,by show p<=wJ.2;omega,by show wJ.2<=_;omega⟩);simp only[qH,qi,rI]at hd;rcases hd with rfl|rfl<;>exact XM (by omega) (by omega) (by simp) (by simp)
 ·exact Af.some ⟨O,by show p<=wJ.2;omega,by show wJ.2<=_;omega⟩
structure PD (p:AP):Prop where
 decls:ZA p.decls
 Na:p.funcs.length<=5
 ng :∀f∈p.funcs,oM f
theorem R9 {α:Type}{f:α->Nat}{a:Nat}:∀(l:List α),(∀x∈l,f x<=a)->(l.map f).sum<=a*l.length
 | [],_=>by simp
 | x::l,h=>by
  have h1:=h x (by simp);have h2:=R9 l λy hy=>h y (by simp[hy]);simp only[qj,sn,qa];rw[Nat.mul_add];omega
theorem PD.small {p:AP}(P:PD p):Hh p:=by
 refine⟨⟨⟨P.decls.Ch,by have:=P.decls.len;omega⟩,λf hf=>(P.ng f hf).Ch,by have:=P.Na;omega⟩,?_⟩;have h1:=R9 p.decls P.decls.size;have h2:=R9 (f:=lV) (a:=1010) p.funcs λf hf=>by
  have:=(P.ng f hf).par;have:=(P.ng f hf).size;have h3:=LL f.body;show f.params.length+CN f.body.kids<=_;omega
 have h3:=P.decls.len;have h4:=P.Na;unfold dG;omega
theorem U1 {b:List Int}(Bb:Bk b){M:Nat}(hM:2000000<=M){D:List AI}{F:List Ar}(hD:GD D)(P:dH F){p:Int}(h0:0<=p)(h1:p<=100000):Af (IC M b p F D) λq=>PD q.1/\0<=q.2/\q.2<=200000:=by
 obtain⟨O,l3,l4⟩:=WC hD;have hF:=P.sg.fl;have hF1:=P.sg.jk;unfold IC;rw[AK];refine Af.bind (Cm Bb ⟨by omega,by omega⟩) λq3 hq3=>?_;have a1:=hq3.pos;have a2:=hq3.nn;have a3:=hq3.lt (by omega);refine Af.get a2 a3 λc5 _ hc5=>?_;have G:=P.ok c5 hc5;have P0:PD ⟨D,F⟩:=⟨O,by show F.length<=5;omega,P.ok⟩
 have putF:∀{g:Ar},oM g->PD ⟨D,Sh.put F q3.1 g⟩:=λhg=>⟨O,by show (Sh.put F _ _).length<=5;unfold Sh.put;simp;omega,λf hf=>(Nj hf).elim (λh=>P.ok f h) (λe=>by rw[e];exact hg)⟩;refine Af.bind (R:=λr:Int×List Ar×List AI=>PD ⟨r.2.2,r.2.1⟩/\0<=r.1/\r.1<=200000) ?_ λr hr=>Af.some ⟨hr.1,hr.2⟩;refine Af.bind (Cm Bb ⟨by omega,by omega⟩) λvv hq13=>?_;have b1:=hq13.pos;refine BB (λ_=>?_) λ_=>?_
 ·unfold TX;have hs:=P.sz c5 hc5;exact Af.bind (lX Bb hM M c5.body vv.2 (by omega) (by omega) G.Ch.body (by omega) (by omega)) λr ⟨r1,r2,r3,r4⟩=>Af.some ⟨putF ⟨⟨G.Ch.params,G.Ch.result,r2⟩,G.par,by show en r.1<=_;omega⟩,by show 0<=r.2;omega,by show r.2<=_;omega⟩
 refine BB (λ_=>?_) λ_=>?_
 ·refine Af.bind (Hf Bb ⟨by omega,by omega⟩ (by simp) (by simp)) λx hx=>?_;have x1:=hx.pos;have x2:=hx.mem;simp only[qH,qi,rI]at x2;have hp:=P.sg.par c5 hc5;refine AN (I6 (by omega) (by simp)) (Af.some ⟨putF ⟨⟨⟨λy hy=>?_,by show (c5.params++[x.1]).length<=_;simp;omega⟩,G.Ch.result,G.Ch.body⟩,by show (c5.params++[x.1]).length<=4;simp;omega,G.size⟩,by show 0<=x.2;omega,by show x.2<=_;omega⟩);rcases qb.1 (show y∈c5.params++[x.1] from hy) with h|h
  ·exact G.Ch.params.1 y h
  ·rw[qO]at h;rw[h];exact Dz (by omega) (by omega)
 refine BB (λ_=>?_) λ_=>?_
 ·refine Af.bind (Hf Bb ⟨by omega,by omega⟩ (by simp) (by simp)) λx hx=>?_;have x1:=hx.pos;have x2:=hx.mem;simp only[qH,qi,rI]at x2;exact Af.some ⟨putF ⟨⟨G.Ch.params,(Dz (by omega) (by omega):JC x.1),G.Ch.body⟩,G.par,G.size⟩,by show 0<=x.2;omega,by show x.2<=_;omega⟩
 refine BB (λ_=>?_) λ_=>?_
 ·refine Af.bind (Y4 Bb (p:=vv.2) (by omega) (by omega)) λr ⟨r1,r2,r3⟩=>Af.some ⟨⟨r1,by show F.length<=5;omega,P.ok⟩,by show 0<=r.2;omega,by show r.2<=_;omega⟩
 refine BB (λ_=>?_) λ_=>Af.some ⟨P0,by show 0<=vv.2;omega,by show vv.2<=_;omega⟩;refine Af.app (by simp;omega) (by simp;omega) (Af.some ⟨⟨O,by show (F++[c5]).length<=5;simp;omega,λf hf=>?_⟩,by show 0<=vv.2;omega,by show vv.2<=_;omega⟩);rcases qb.1 (show f∈F++[c5] from hf) with h|h
 ·exact P.ok f h
 ·rw[qO]at h;rw[h];exact G
theorem Wi {b:List Int}(Bb:Bk b){M:Nat}(hM:2000000<=M){p:Int}(h0:0<=p)(h1:p<=1000):Af (JB M b p) λq=>PD q.1/\0<=q.2/\q.2<=200000:=by
 unfold JB;refine Af.bind (VJ Bb hM h0 h1) λq ⟨q1,q2,q3,q4⟩=>?_;refine Af.bind (U1 Bb hM q1 q2 q3 q4) λr hr=>Af.some hr
end RC
namespace RC
open Go
theorem YE {l:List Int}(hl:l.length<=1048576){N:Nat}(hN:2000000<=N):GC N l l=some true:=by
 have key:∀{N i:Nat},i<=l.length->l.length-i<N->FO l l N i=some (Sum.inr ()):=by
  intro N i hi hN;refine Bm l.length (λN i=>FO l l N i=some (Sum.inr ())) ?_ ?_ hi hN
  ·intro n;rw[FO,qG (by simp[AK])]
  ·intro n i hi ih;obtain⟨x,hx,_⟩:=Ba hi;rw[FO,qF (by simp[AK];omega),Av hx];simp only[po];rw[Co (by omega) (by omega),show ((i:Int)+1)=((i+1:Nat):Int) by omega];simpa using ih
 unfold GC;have:=key (qd _) (by omega:l.length-0<N);rw[uS]at this;simp[this]
theorem gP {ds:List AI}(hl:ds.length<=1048576)(hc :∀d∈ds,dz d<=1048576){N:Nat}(hN:2000000<=N):Hv N ds ds=some true:=by
 have inner:∀{k:Nat} {d:AI},ds[k]?=some d->∀{M i:Nat},i<=d.cons.length->d.cons.length-i<M->Er N (k:Int) ds ds M i=some (Sum.inr ()):=by
  intro k d hd M i hi hM;have hz:=hc d (pt hd);have hz2:=hz;unfold dz at hz2;refine Bm d.cons.length (λM i=>Er N (k:Int) ds ds M i=some (Sum.inr ())) ?_ ?_ hi hM
  ·intro n;rw[Er,Av hd];simp only[po];rw[qG (by simp[AK])]
  ·intro n i hi ih;obtain⟨c,hx,hm⟩:=Ba hi;have h1:=Jl cz hm;have h3:c.fields.length<=cz c:=by unfold cz;omega
   have h2:c.fields.length<=1048576:=by omega
   rw[Er,Av hd];simp only[po];rw[qF (by simp[AK];omega),Av hx];simp only[po];rw[YE h2 hN,Co (by omega) (by omega),show ((i:Int)+1)=((i+1:Nat):Int) by omega];simpa using ih
 have key:∀{M i:Nat},i<=ds.length->ds.length-i<M->Ep N ds ds M i=some (Sum.inr ()):=by
  intro M i hi hM;refine Bm ds.length (λM i=>Ep N ds ds M i=some (Sum.inr ())) ?_ ?_ hi hM
  ·intro n;rw[Ep,qG (by simp[AK])]
  ·intro n i hi ih;obtain⟨d,hx,hm⟩:=Ba hi;have hz:=hc d hm;unfold dz at hz;have h2:=inner hx (qd _) (by omega:d.cons.length-0<N);rw[uS]at h2;rw[Ep,qF (by simp[AK];omega),Av hx];simp only[po,qN,rA,py,qR];rw[h2,Co (by omega) (by omega),show ((i:Int)+1)=((i+1:Nat):Int) by omega];simpa using ih
 unfold Hv;have:=key (qd _) (by omega:ds.length-0<N);rw[uS]at this;simp[this]
end RC
namespace RC
open Go
section
variable {p : AP} {N : Nat}
theorem fF (S:Hh p)(hN:2000000<=N):(IV N p=some (⟨[],[]⟩,false)/\IN N p=some (⟨[],[]⟩,false))∨(IV N p=some (Oa p,true)/\IN N p=some (Oa p,true)/\JZ (Oa p)/\Ez N (Oa p)=some true/\I4 N (Oa p)=some true/\p.funcs.length<=4/\∀f∈p.funcs,f.params.length<=3):=by
 obtain⟨b,h1,h2,_⟩:=O1 S hN;unfold IV IN;rw[h1,h2];simp only[po];cases b with
 | false=>exact .inl ⟨rfl,rfl⟩
 | true=>
  right;obtain⟨T,SO,hT,hF⟩:=Y5 S hN h1;have hs:=dY S hN h1;obtain⟨v1,v2⟩:=fc S SO hN hT hs hF;have DS:=S.decls;have hd:∀d∈p.decls,dz d<=1048576:=λd hd=>by
   have h:=S.size;unfold dG at h;have:=Jl dz hd;omega
  have hdl:=SO.MY;refine⟨?_,?_,YB S SO hN hT hF,v1,v2,SO.Na,λf hf=>(SO.Nf f hf).1⟩
  ·unfold Lr;simp only[rA,py,qR];rw[ZG (by omega) hd hN,po,eV S SO hN hT hF];rfl
  ·simp only[rA,py,qR];rw[XJ (by omega) hd hN,po,ep S SO hN hT hF];rfl
end
theorem oD {N:Nat}(hN:2000000<=N){s:Step}(hz:YI s<=1048576){rec:Block->Block->Option Bool}(hr :∀b∈s.kids,rec b b=some true):Jr N rec s s=some true:=by
 rw[Sf]at hz;have key:∀{M i:Nat},i<=s.kids.length->s.kids.length-i<M->FB s s rec M i=some (Sum.inr ()):=by
  intro M i hi hM;refine Bm s.kids.length (λM i=>FB s s rec M i=some (Sum.inr ())) ?_ ?_ hi hM
  ·intro n;rw[FB,G7]
  ·intro n i hi ih;obtain⟨x,hx,hm⟩:=Ba hi;rw[FB,Gp,Av hx];simp only[po];rw[hr x hm,wI,show ((i:Int)+1)=((i+1:Nat):Int) by omega];simpa using ih
 have h0:=key (qd _) (by omega:s.kids.length-0<N);rw[uS]at h0;unfold Jr;rw[YE (by omega) hN,h0];simp[Sh.cont]
theorem jJ {N:Nat}(hN:2000000<=N):∀(m:Nat) (b:Block),Qw b<m->Qw b<=1048576->FC N m b b=some true:=by
 intro m
 induction m with
 | zero=>intro b h;omega
 | succ m ih=>
  intro b h hb;have hbe:=aP b;have key:∀{M i:Nat},i<=b.steps.length->b.steps.length-i<M->EA N b b (FC N m) M i=some (Sum.inr ()):=by
   intro M i hi hM;refine Bm b.steps.length (λM i=>EA N b b (FC N m) M i=some (Sum.inr ())) ?_ ?_ hi hM
   ·intro n;rw[EA,G7]
   ·intro n i hi ih2;obtain⟨s,hx,hm⟩:=Ba hi;have h1:=UT hm;rw[EA,Gp,Av hx];simp only[po];rw[oD hN (by omega) (λc hc=>by
     have h2:=gV hc;have h3:=Sf s;exact ih c (by omega) (by omega)),wI,show ((i:Int)+1)=((i+1:Nat):Int) by omega]
    simpa using ih2
  have h0:=key (qd _) (by omega:b.steps.length-0<N);rw[uS]at h0;rw[FC,JY,h0];simp[Sh.cont]
theorem bb {n:Ax}(S:JZ n){N:Nat}(hN:2000000<=N):HR N n n=some true:=by
 have hl:=S.TK;have vY:=S.size;unfold dg at vY;have key:∀{M i:Nat},i<=n.AU.length->n.AU.length-i<M->EW N n n M i=some (Sum.inr ()):=by
  intro M i hi hM;refine Bm n.AU.length (λM i=>EW N n n M i=some (Sum.inr ())) ?_ ?_ hi hM
  ·intro q;rw[EW,G7]
  ·intro q i hi ih;obtain⟨r,hx,hm⟩:=Ba hi;obtain⟨a1,a2,a3⟩:=S.rz hm;have hq:Mn N r.body r.body=some true:=jJ hN N r.body (by unfold Bs at a3;omega) a3;rw[EW,Gp,Av hx];simp only[po];rw[YE a1 hN,YE a2 hN,hq,wI,show ((i:Int)+1)=((i+1:Nat):Int) by omega];simpa using ih
 have h0:=key (qd _) (by omega:n.AU.length-0<N);rw[uS]at h0;unfold HR;rw[gP (by omega) (λd hd=>by have:=Jl dz hd;omega) hN,h0];simp[Sh.cont]
end RC
