import Derived.Test.YtfkncfjpobjbjaaMEC
set_option linter.all false
namespace RC
def F7 (A:List Nat)(w:Int):Option Int:=if 1000<=w then (DD A (w-1000)).map λ(i:Nat)=>1000+(i:Int) else some w
theorem MU {A:List Nat}{x:Int}{i:Nat}(h:DD A x=some i):i<A.length:=by
 obtain⟨b,h1,_⟩:=Em h;exact (Rm.1 h1).1
theorem NK {A:List Nat}(hA:A.length<=1048576){w:Int}(hw:Bl w){N:Nat}(hN:2000000<=N):Dy N (A.map Int.ofNat) w=some (match F7 A w with|some v=>(v,true)|none=>(999,false)):=by
 unfold Dy Bo F7;have h1:=hw.1;have h2:=hw.2;by_cases h:1000<=w
 ·rw[Rl,Rx (by simp[h]),Ry h,Ao (n:=w-1000) (by omega) (by omega),L7 hA _ hN,Rl];cases hp:DD A (w-1000) with
  | none=>simp;exact Ao (by omega) (by omega)
  | some i=>
   have:=MU hp;simp only[SC];rw[Ao (by omega) (by omega)];simp
 ·rw[Rl,Ry (by simp[h]),Rx h]
def gW (W:List Int)(A:List Nat)(a:Nat)(w:Int):Option Int:=match F7 A w with|some v=>if wd W a=0/\v≠0 then none else some v|none=>none
def Cq (W:List Int)(A:List Nat)(a:Nat):List Int->Option (List Int)
 | []=>some []
 | w::r=>(gW W A a w).bind λv=>(Cq W A a r).map (v::·)
theorem JP {W:List Int}{A:List Nat}(hW:W.length<=1048576)(hI :∀x∈W,Bl x)(hA:A.length<=1048576){a:Nat}(G:EO W a){N:Nat}(hN:2000000<=N):
  ∀(n i:Nat) (p:List Int),i<=Cm W a->Cm W a-i<n->p.length<=i->By N (a:Int) W (A.map Int.ofNat) n (i:Int) p=some (match Cq W A a ((CH W a).drop i) with|some q=>Sum.inr (p++q)|none=>Sum.inl ([],false))
 | 0,_,_,_,h,_=>by omega
 | n+1,i,p,hi,hn,hp=>by
  have h2:=G.h2;have WV:=G.fit;have hz:=E1 G.c1;rw[By,Fj hW G.h2 G.c1,Rl];by_cases h:i<Cm W a
  ·rw[Ry (by simp only[SF];omega),Ao (n:=(a:Int)+2) (by omega) (by omega),Ao (n:=(a:Int)+2+(i:Int)) (by omega) (by omega),show (a:Int)+2+(i:Int)=((a+2+i:Nat):Int) by omega,gw (by omega),Rl];have hw:Bl (wd W (a+2+i)):=hI _ (Rk (E7 (by omega)));have hf:(CH W a)[i]?=some (wd W (a+2+i)):=by
    unfold CH;rw[R6,Ry h,SS];exact E7 (by omega)
   rw[NK hA hw hN,Rl,drop_cons hf,Cq,gW];cases hm:F7 A (wd W (a+2+i)) with
   | none=>simp
   | some v=>
    simp only[S0,R1,SX];rw[gw (by omega),Rl];by_cases h0:wd W a=0
    ·rw[Ry (by simpa using h0),Rl];by_cases hv:v=0
     ·subst hv;rw[Rx (by simp),De _ _ _ (by simp;omega) (by simp;omega),Rl,Ao (n:=(i:Int)+1) (by omega) (by omega),show (i:Int)+1=((i+1:Nat):Int) by omega,JP hW hI hA G hN n (i+1) (p++[0]) (by omega) (by omega) (by simp;omega)];cases Cq W A a ((CH W a).drop (i+1))<;>simp
     ·rw[Ry (by simpa using hv)];simp[h0,hv]
    ·rw[Rx (by simpa using h0),Rl,Rx (by simp),De _ _ _ (by simp;omega) (by simp;omega),Rl,Ao (n:=(i:Int)+1) (by omega) (by omega),show (i:Int)+1=((i+1:Nat):Int) by omega,JP hW hI hA G hN n (i+1) (p++[v]) (by omega) (by omega) (by simp;omega)];cases Cq W A a ((CH W a).drop (i+1))<;>simp[h0]
  ·rw[Rx (by simp only[SF];omega),Sf (by rw[G.GR];omega)];simp[Cq]
def IN (W:List Int)(A:List Nat)(a:Nat):Option Cell:=(Cq W A a (CH W a)).map λfs=>if wd W a=0 then ⟨0,0,[]⟩ else ⟨wd W a,Int.tdiv (wd W (a+1)) 4,fs⟩
def B4 (W:List Int)(A:List Nat):List Nat->Option (List Cell)
 | []=>some []
 | a::r=>(IN W A a).bind λc=>(B4 W A r).map (c::·)
theorem MP {W:List Int}{A:List Nat}(H:F8 W A)(hI :∀x∈W,Bl x){N:Nat}(hN:2000000<=N):
  ∀(n i:Nat) (p:List Cell),i<=A.length->A.length-i<n->p.length<=i->Bu N W (A.map Int.ofNat) n (i:Int) p=some (match B4 W A (A.drop i) with|some q=>Sum.inr (p++q)|none=>Sum.inl ([],false))
 | 0,_,_,_,h,_=>by omega
 | n+1,i,p,hi,hn,hp=>by
  have hW:=H.size;have YU:=H.len;rw[Bu];by_cases h:i<A.length
  ·obtain⟨a,ha,hm⟩:=BN h;have G:=H.C4 a hm;have h2:=G.h2;rw[Ry (show decide ((i:Int)<Sh.len (A.map Int.ofNat))=true by simpa [AT] using h),As (show (A.map Int.ofNat)[i]?=some (a:Int) by rw[Ro,ha];rfl),Rl];have h0:=JP hW hI (by omega) G hN N 0 [] (by omega) (by have:=E1 G.c1;omega) (by simp) (A:=A);rw[UI,SH]at h0;rw[h0,drop_cons ha,B4,IN];cases hq:Cq W A a (CH W a) with
   | none=>simp[Sh.cont]
   | some fs=>
    simp only[Sh.cont,Rl,Sx,SC];rw[gw (by omega),Rl];have ih:=λc=>MP H hI hN n (i+1) (p++[c]) (by omega) (by omega) (by simp;omega);by_cases hc:wd W a=0
    ·rw[Ry (by simpa using hc),De _ _ _ (by simp;omega) (by simp;omega),Rl];simp only[id,Sh.cont,Rl];rw[Ao (n:=(i:Int)+1) (by omega) (by omega),show (i:Int)+1=((i+1:Nat):Int) by omega,ih,Ry hc];cases B4 W A (A.drop (i+1))<;>simp
    ·have gQ:=hI _ (Rk (E7 (W:=W) (i:=a+1) (by omega)));have aD:=G.c1;have hd:Sh.w (Int.tdiv (wd W (a+1)) 4)=Int.tdiv (wd W (a+1)) 4:=by
      have h1:=gQ.1;have h2:=gQ.2;rw[S5 aD];exact Ao (by omega) (by omega)
     rw[Rx (by simpa using hc),Ao (n:=(a:Int)+1) (by omega) (by omega),show (a:Int)+1=((a+1:Nat):Int) by omega,gw (by omega),Rl,hd,De _ _ _ (by simp;omega) (by simp;omega),Rl];simp only[id,Sh.cont,Rl];rw[Ao (n:=(i:Int)+1) (by omega) (by omega),show (i:Int)+1=((i+1:Nat):Int) by omega,ih,Rx hc];cases B4 W A (A.drop (i+1))<;>simp
  ·rw[Rx (show ¬ decide ((i:Int)<Sh.len (A.map Int.ofNat))=true by simpa [AT] using h),Sf (by omega)];simp[B4]
theorem Mc {W:List Int}{A:List Nat}(H:F8 W A)(hI :∀x∈W,Bl x){N:Nat}(hN:2000000<=N):DW N W (A.map Int.ofNat)=some (match B4 W A A with|some C=>(C,true)|none=>([],false)):=by
 unfold DW;have YU:=H.len;have hW:=H.size;have h0:=MP H hI hN N 0 [] (by omega) (by omega) (by simp);rw[UI,SH]at h0;rw[h0];cases B4 W A A<;>simp[Sh.cont]
def Hf (h:List Cell):Nat->Nat
 | 0=>0
 | n+1=>match h[n]? with|some c=>if c.count=0 then Hf h n else n+1|none=>Hf h n
def J7 (h:List Cell):List Cell:=h.take (Hf h h.length)
theorem Iz (h:List Cell):∀n,Hf h n<=n
 | 0=>Rz _
 | n+1=>by
  rw[Hf];have:=Iz h n;split
  ·split
   ·omega
   ·omega
  ·omega
theorem KX {h:List Cell}:∀{n i:Nat} {c:Cell},i<n->h[i]?=some c->c.count≠0->i<Hf h n
 | 0,_,_,h0,_,_=>by omega
 | n+1,i,c,h0,hc,hn=>by
  rw[Hf];by_cases e:i=n
  ·subst e;rw[hc];simp[hn]
  ·have:=KX (n:=n) (by omega) hc hn;split
   ·split
    ·exact this
    ·omega
   ·exact this
theorem OB {h:List Cell}{i:Nat}{c:Cell}(hc:h[i]?=some c)(hn:c.count≠0):(J7 h)[i]?=some c:=by
 have h1:=(Rm.1 hc).1;unfold J7;rw[R6,Ry (KX h1 hc hn)];exact hc
theorem PG {h:List Cell}{i:Nat}{c:Cell}(hc:(J7 h)[i]?=some c):h[i]?=some c:=by
 unfold J7 at hc;rw[R6]at hc;split at hc
 ·exact hc
 ·cases hc
theorem Kj {h:List Cell}(hl:h.length<=1048576):∀(n N:Nat),n<=h.length->n<N->CB h N (n:Int)=some ((Hf h n:Nat):Int)
 | 0,N,_,hN=>by
  obtain⟨N',rfl⟩ :∃N',N=N'+1:=⟨N-1,by omega⟩
  simp[CB,Hf]
 | n+1,N,hn,hN=>by
  obtain⟨N',rfl⟩ :∃N',N=N'+1:=⟨N-1,by omega⟩
  obtain⟨c,hc,_⟩:=BN (l:=h) (i:=n) (by omega);rw[CB,Ry (by simp),Ao (by omega) (by omega),show (((n+1:Nat):Int)-1)=((n:Nat):Int) by omega,As hc,Hf,hc];simp only[Rl];by_cases h0:c.count=0
  ·rw[Ry (by simpa using h0),Ry h0];exact Kj hl n N' (by omega) (by omega)
  ·rw[Rx (by simpa using h0),Rx h0]
theorem Ka {h:List Cell}(hl:h.length<=1048576):∀(n N:Nat),n<=h.length->n<N->BT h N (n:Int)=some ((Hf h n:Nat):Int)
 | 0,N,_,hN=>by
  obtain⟨N',rfl⟩ :∃N',N=N'+1:=⟨N-1,by omega⟩
  simp[BT,Hf]
 | n+1,N,hn,hN=>by
  obtain⟨N',rfl⟩ :∃N',N=N'+1:=⟨N-1,by omega⟩
  obtain⟨c,hc,_⟩:=BN (l:=h) (i:=n) (by omega);rw[BT,Ry (by simp),Ao (by omega) (by omega),show (((n+1:Nat):Int)-1)=((n:Nat):Int) by omega,As hc,Hf,hc];simp only[Rl];by_cases h0:c.count=0
  ·rw[Ry (by simpa using h0),Ry h0];exact Ka hl n N' (by omega) (by omega)
  ·rw[Rx (by simpa using h0),Rx h0]
theorem Q9 {α:Type}{l:List α}{n:Nat}(h:n<=l.length):Sh.sl l 0 (n:Int)=some (l.take n):=by
 unfold Sh.sl;rw[Ry ⟨by omega,by omega,by omega⟩];simp
theorem N0 {h:List Cell}(hl:h.length<=1048576){N:Nat}(hN:2000000<=N):Ev N h=some (J7 h):=by
 unfold Ev;rw[AT,Kj hl _ _ (Rz _) (by omega),Rl,Q9 (Iz _ _)];rfl
theorem OR {h:List Cell}(hl:h.length<=1048576){x:List (Int×Int)}{N:Nat}(hN:2000000<=N):BR N ⟨h,x⟩=some (J7 h):=by
 unfold BR Db;rw[AT,Ka hl _ _ (Rz _) (by omega),Rl,Q9 (Iz _ _)];rfl
end RC
