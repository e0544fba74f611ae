import Derived.Test.YtfkncfjpobjbjaaMEC
set_option linter.all false
namespace RC
def GA (A:List Nat)(w:Int):Option Int:=if 1000<=w then (C9 A (w-1000)).map λ(i:Nat)=>1000+(i:Int) else some w
theorem L3 {A:List Nat}{x:Int}{i:Nat}(h:C9 A x=some i):i<A.length:=by
 obtain⟨b,h1,_⟩:=D5 h;exact (Rq.1 h1).1
theorem NV {A:List Nat}(hA:A.length<=1048576){w:Int}(hw:Bh w){N:Nat}(hN:2000000<=N):Dq N (A.map Int.ofNat) w=some (match GA A w with|some v=>(v,true)|none=>(999,false)):=by
 unfold Dq BV GA;have h1:=hw.1;have h2:=hw.2;by_cases h:1000<=w
 ·rw[Rp,R0 (by simp[h]),R1 h,Ao (n:=w-1000) (by omega) (by omega),Ie hA _ hN,Rp];cases hp:C9 A (w-1000) with
  | none=>simp;exact Ao (by omega) (by omega)
  | some i=>
   have:=L3 hp;simp only[SG];rw[Ao (by omega) (by omega)];simp
 ·rw[Rp,R1 (by simp[h]),R0 h]
def gW (W:List Int)(A:List Nat)(a:Nat)(w:Int):Option Int:=match GA A w with|some v=>if wd W a=0/\v≠0 then none else some v|none=>none
def Cu (W:List Int)(A:List Nat)(a:Nat):List Int->Option (List Int)
 | []=>some []
 | w::r=>(gW W A a w).bind λv=>(Cu W A a r).map (v::·)
theorem JR {W:List Int}{A:List Nat}(hW:W.length<=1048576)(hI :∀x∈W,Bh x)(hA:A.length<=1048576){a:Nat}(G:EZ W a){N:Nat}(hN:2000000<=N):
  ∀(n i:Nat) (p:List Int),i<=Cq W a->Cq W a-i<n->p.length<=i->Bw N (a:Int) W (A.map Int.ofNat) n (i:Int) p=some (match Cu W A a ((CJ W a).drop i) with|some q=>Sum.inr (p++q)|none=>Sum.inl ([],false))
 | 0,_,_,_,h,_=>by omega
 | n+1,i,p,hi,hn,hp=>by
  have h2:=G.h2;have Wf:=G.fit;have hz:=FA G.c1;rw[Bw,Fc hW G.h2 G.c1,Rp];by_cases h:i<Cq W a
  ·rw[R1 (by simp only[SJ];omega),Ao (n:=(a:Int)+2) (by omega) (by omega),Ao (n:=(a:Int)+2+(i:Int)) (by omega) (by omega),show (a:Int)+2+(i:Int)=((a+2+i:Nat):Int) by omega,gw (by omega),Rp];have hw:Bh (wd W (a+2+i)):=hI _ (Ro (E2 (by omega)));have hf:(CJ W a)[i]?=some (wd W (a+2+i)):=by
    unfold CJ;rw[SB,R1 h,SX];exact E2 (by omega)
   rw[NV hA hw hN,Rp,drop_cons hf,Cu,gW];cases hm:GA A (wd W (a+2+i)) with
   | none=>simp
   | some v=>
    simp only[Sw,R4,Sa];rw[gw (by omega),Rp];by_cases h0:wd W a=0
    ·rw[R1 (by simpa using h0),Rp];by_cases hv:v=0
     ·subst hv;rw[R0 (by simp),Df _ _ _ (by simp;omega) (by simp;omega),Rp,Ao (n:=(i:Int)+1) (by omega) (by omega),show (i:Int)+1=((i+1:Nat):Int) by omega,JR hW hI hA G hN n (i+1) (p++[0]) (by omega) (by omega) (by simp;omega)];cases Cu W A a ((CJ W a).drop (i+1))<;>simp
     ·rw[R1 (by simpa using hv)];simp[h0,hv]
    ·rw[R0 (by simpa using h0),Rp,R0 (by simp),Df _ _ _ (by simp;omega) (by simp;omega),Rp,Ao (n:=(i:Int)+1) (by omega) (by omega),show (i:Int)+1=((i+1:Nat):Int) by omega,JR hW hI hA G hN n (i+1) (p++[v]) (by omega) (by omega) (by simp;omega)];cases Cu W A a ((CJ W a).drop (i+1))<;>simp[h0]
  ·rw[R0 (by simp only[SJ];omega),Sk (by rw[G.GS];omega)];simp[Cu]
def IY (W:List Int)(A:List Nat)(a:Nat):Option Cell:=(Cu W A a (CJ W a)).map λfs=>if wd W a=0 then ⟨0,0,[]⟩ else ⟨wd W a,Int.tdiv (wd W (a+1)) 4,fs⟩
def B5 (W:List Int)(A:List Nat):List Nat->Option (List Cell)
 | []=>some []
 | a::r=>(IY W A a).bind λc=>(B5 W A r).map (c::·)
theorem ML {W:List Int}{A:List Nat}(H:GC W A)(hI :∀x∈W,Bh x){N:Nat}(hN:2000000<=N):
  ∀(n i:Nat) (p:List Cell),i<=A.length->A.length-i<n->p.length<=i->Bx N W (A.map Int.ofNat) n (i:Int) p=some (match B5 W A (A.drop i) with|some q=>Sum.inr (p++q)|none=>Sum.inl ([],false))
 | 0,_,_,_,h,_=>by omega
 | n+1,i,p,hi,hn,hp=>by
  have hW:=H.size;have X3:=H.len;rw[Bx];by_cases h:i<A.length
  ·obtain⟨a,ha,hm⟩:=BL h;have G:=H.Cf a hm;have h2:=G.h2;rw[R1 (show decide ((i:Int)<Sh.len (A.map Int.ofNat))=true by simpa [AT] using h),As (show (A.map Int.ofNat)[i]?=some (a:Int) by rw[Rs,ha];rfl),Rp];have h0:=JR hW hI (by omega) G hN N 0 [] (by omega) (by have:=FA G.c1;omega) (by simp) (A:=A);rw[UI,SL]at h0;rw[h0,drop_cons ha,B5,IY];cases hq:Cu W A a (CJ W a) with
   | none=>simp[Sh.cont]
   | some fs=>
    simp only[Sh.cont,Rp,S4,SG];rw[gw (by omega),Rp];have ih:=λc=>ML H hI hN n (i+1) (p++[c]) (by omega) (by omega) (by simp;omega);by_cases hc:wd W a=0
    ·rw[R1 (by simpa using hc),Df _ _ _ (by simp;omega) (by simp;omega),Rp];simp only[id,Sh.cont,Rp];rw[Ao (n:=(i:Int)+1) (by omega) (by omega),show (i:Int)+1=((i+1:Nat):Int) by omega,ih,R1 hc];cases B5 W A (A.drop (i+1))<;>simp
    ·have ga:=hI _ (Ro (E2 (W:=W) (i:=a+1) (by omega)));have aL:=G.c1;have hd:Sh.w (Int.tdiv (wd W (a+1)) 4)=Int.tdiv (wd W (a+1)) 4:=by
      have h1:=ga.1;have h2:=ga.2;rw[S9 aL];exact Ao (by omega) (by omega)
     rw[R0 (by simpa using hc),Ao (n:=(a:Int)+1) (by omega) (by omega),show (a:Int)+1=((a+1:Nat):Int) by omega,gw (by omega),Rp,hd,Df _ _ _ (by simp;omega) (by simp;omega),Rp];simp only[id,Sh.cont,Rp];rw[Ao (n:=(i:Int)+1) (by omega) (by omega),show (i:Int)+1=((i+1:Nat):Int) by omega,ih,R0 hc];cases B5 W A (A.drop (i+1))<;>simp
  ·rw[R0 (show ¬ decide ((i:Int)<Sh.len (A.map Int.ofNat))=true by simpa [AT] using h),Sk (by omega)];simp[B5]
theorem MA {W:List Int}{A:List Nat}(H:GC W A)(hI :∀x∈W,Bh x){N:Nat}(hN:2000000<=N):DX N W (A.map Int.ofNat)=some (match B5 W A A with|some C=>(C,true)|none=>([],false)):=by
 unfold DX;have X3:=H.len;have hW:=H.size;have h0:=ML H hI hN N 0 [] (by omega) (by omega) (by simp);rw[UI,SL]at h0;rw[h0];cases B5 W A A<;>simp[Sh.cont]
def Hx (h:List Cell):Nat->Nat
 | 0=>0
 | n+1=>match h[n]? with|some c=>if c.count=0 then Hx h n else n+1|none=>Hx h n
def KH (h:List Cell):List Cell:=h.take (Hx h h.length)
theorem I0 (h:List Cell):∀n,Hx h n<=n
 | 0=>R3 _
 | n+1=>by
  rw[Hx];have:=I0 h n;split
  ·split
   ·omega
   ·omega
  ·omega
theorem KU {h:List Cell}:∀{n i:Nat} {c:Cell},i<n->h[i]?=some c->c.count≠0->i<Hx h n
 | 0,_,_,h0,_,_=>by omega
 | n+1,i,c,h0,hc,hn=>by
  rw[Hx];by_cases e:i=n
  ·subst e;rw[hc];simp[hn]
  ·have:=KU (n:=n) (by omega) hc hn;split
   ·split
    ·exact this
    ·omega
   ·exact this
theorem OC {h:List Cell}{i:Nat}{c:Cell}(hc:h[i]?=some c)(hn:c.count≠0):(KH h)[i]?=some c:=by
 have h1:=(Rq.1 hc).1;unfold KH;rw[SB,R1 (KU h1 hc hn)];exact hc
theorem PZ {h:List Cell}{i:Nat}{c:Cell}(hc:(KH h)[i]?=some c):h[i]?=some c:=by
 unfold KH at hc;rw[SB]at hc;split at hc
 ·exact hc
 ·cases hc
theorem Kr {h:List Cell}(hl:h.length<=1048576):∀(n N:Nat),n<=h.length->n<N->CD h N (n:Int)=some ((Hx h n:Nat):Int)
 | 0,N,_,hN=>by
  obtain⟨N',rfl⟩ :∃N',N=N'+1:=⟨N-1,by omega⟩
  simp[CD,Hx]
 | n+1,N,hn,hN=>by
  obtain⟨N',rfl⟩ :∃N',N=N'+1:=⟨N-1,by omega⟩
  obtain⟨c,hc,_⟩:=BL (l:=h) (i:=n) (by omega);rw[CD,R1 (by simp),Ao (by omega) (by omega),show (((n+1:Nat):Int)-1)=((n:Nat):Int) by omega,As hc,Hx,hc];simp only[Rp];by_cases h0:c.count=0
  ·rw[R1 (by simpa using h0),R1 h0];exact Kr hl n N' (by omega) (by omega)
  ·rw[R0 (by simpa using h0),R0 h0]
theorem Kt {h:List Cell}(hl:h.length<=1048576):∀(n N:Nat),n<=h.length->n<N->BT h N (n:Int)=some ((Hx h n:Nat):Int)
 | 0,N,_,hN=>by
  obtain⟨N',rfl⟩ :∃N',N=N'+1:=⟨N-1,by omega⟩
  simp[BT,Hx]
 | n+1,N,hn,hN=>by
  obtain⟨N',rfl⟩ :∃N',N=N'+1:=⟨N-1,by omega⟩
  obtain⟨c,hc,_⟩:=BL (l:=h) (i:=n) (by omega);rw[BT,R1 (by simp),Ao (by omega) (by omega),show (((n+1:Nat):Int)-1)=((n:Nat):Int) by omega,As hc,Hx,hc];simp only[Rp];by_cases h0:c.count=0
  ·rw[R1 (by simpa using h0),R1 h0];exact Kt hl n N' (by omega) (by omega)
  ·rw[R0 (by simpa using h0),R0 h0]
theorem Q6 {α:Type}{l:List α}{n:Nat}(h:n<=l.length):Sh.sl l 0 (n:Int)=some (l.take n):=by
 unfold Sh.sl;rw[R1 ⟨by omega,by omega,by omega⟩];simp
theorem OG {h:List Cell}(hl:h.length<=1048576){N:Nat}(hN:2000000<=N):Ew N h=some (KH h):=by
 unfold Ew;rw[AT,Kr hl _ _ (R3 _) (by omega),Rp,Q6 (I0 _ _)];rfl
theorem N6 {h:List Cell}(hl:h.length<=1048576){x:List (Int×Int)}{N:Nat}(hN:2000000<=N):BR N ⟨h,x⟩=some (KH h):=by
 unfold BR De;rw[AT,Kt hl _ _ (R3 _) (by omega),Rp,Q6 (I0 _ _)];rfl
end RC
