import Derived.Test.YtfkncfjpobjbjaaGPlainAToHMF
set_option linter.all false
namespace RC
def wd (W:List Int)(i:Nat):Int:=W.getD i 0
def Cm (W:List Int)(a:Nat):Nat:=(Int.tmod (wd W (a+1)) 4).toNat
def GZ (W:List Int)(a:Nat):Bool:=decide (W.length<a+2) || decide (wd W a<0) || decide (wd W (a+1)<0) || decide (W.length<a+2+Cm W a)
def par (W:List Int):Nat->Nat->Option (List Nat)
  | 0,_=>none
  | n+1,a=>if a<W.length then (if GZ W a then none else (par W n (a+2+Cm W a)).map (a::·)) else some []
theorem E7 {W:List Int}{i:Nat}(h:i<W.length):W[i]?=some (wd W i):=by
  unfold wd;rw[Rp h,TH,Rp h];rfl
theorem gw {W:List Int}{i:Nat}(h:i<W.length):Sh.get W (i:Int)=some (wd W i):=As (E7 h)
theorem Of {x:Int}(h:0<=x):0<=Int.tmod x 4/\Int.tmod x 4<4:=⟨Int.tmod_nonneg _ h,Int.tmod_lt_of_pos _ (by omega)⟩
theorem Gm {W:List Int}{a:Nat}(h:0<=wd W (a+1)):((Cm W a:Nat):Int)=Int.tmod (wd W (a+1)) 4:=Int.toNat_of_nonneg (Of h).1
theorem E1 {W:List Int}{a:Nat}(h:0<=wd W (a+1)):Cm W a<=3:=by have:=Gm h;have:=(Of h).2;omega
structure EO (W:List Int) (a:Nat):Prop where
  h2:a+2<=W.length
  c0:0<=wd W a
  c1:0<=wd W (a+1)
  fit:a+2+Cm W a<=W.length
theorem Js {W:List Int}{a:Nat}(h:GZ W a=false):EO W a:=by
  simp only[GZ,Bool.or_eq_false_iff,TT]at h;obtain⟨⟨⟨h1,h2⟩,h3⟩,h4⟩:=h;exact⟨by omega,by omega,by omega,by omega⟩
theorem Fj {W:List Int}{a:Nat}(hW:W.length<=1048576)(h:a+2<=W.length)(h1:0<=wd W (a+1)):CA W (a:Int)=some ((Cm W a:Nat):Int):=by
  unfold CA;rw[Ao (by omega) (by omega),show ((a:Int)+1)=((a+1:Nat):Int) by omega,gw (by omega),Gm h1];rfl
theorem NH {W:List Int}{a:Nat}(hW:W.length<=1048576)(ha:a<W.length):
    (if (decide ((Sh.len W)<(Sh.w ((a:Int)+2))))=true then some true
     else (Sh.get W (a:Int)).bind λZK=>if (decide (ZK<0))=true then some true
       else (Sh.get W (Sh.w ((a:Int)+1))).bind λbG=>if (decide (bG<0))=true then some true
         else (CA W (a:Int)).bind λbH=>some (decide ((Sh.len W)<(Sh.w ((Sh.w ((a:Int)+2))+bH)))))=some (GZ W a):=by
  rw[AT,Ao (n:=(a:Int)+2) (by omega) (by omega),Ao (n:=(a:Int)+1) (by omega) (by omega)];unfold GZ;by_cases h1:W.length<a+2
  · simp[h1,show ((W.length:Int)<a+2) by omega]
  · rw[Rx (by simp;omega),gw ha,Rl];by_cases h2:wd W a<0
    · simp[h2]
    · rw[Rx (by simpa using h2),show ((a:Int)+1)=((a+1:Nat):Int) by omega,gw (by omega),Rl];by_cases h3:wd W (a+1)<0
      · simp[h3]
      · rw[Rx (by simpa using h3),Fj hW (by omega) (by omega),Rl];have:=E1 (W:=W) (a:=a) (by omega);rw[Ao (by omega) (by omega)];simp only[h1,h2,h3,decide_false,Bool.false_or];congr 1;exact decide_eq_decide.2 (by omega)
theorem G0 {W:List Int}(hW:W.length<=1048576):∀(n a:Nat) (P:List Nat),a<=W.length->W.length-a<n->P.length<=a->BU W n (a:Int) (P.map Int.ofNat)=some (match par W n a with|some B=>Sum.inr ((P++B).map Int.ofNat)|none=>Sum.inl ([],false))
  | 0,_,_,_,h,_=>by omega
  | n+1,a,P,ha,hn,hP=>by
    rw[BU,par];by_cases h:a<W.length
    · rw[Ry (by simpa [AT] using h),Ry h,NH hW h,Rl];cases hb:GZ W a with
      | true=>simp
      | false=>
        have G:=Js hb;have:=E1 G.c1;have WV:=G.fit;rw[Rx (by simp),Rx (by simp),De _ _ _ (by simp;omega) (by simp;omega),Rl,Fj hW G.h2 G.c1,Rl,Ao (n:=(a:Int)+2) (by omega) (by omega),Ao (by omega) (by omega)];have e1:(a:Int)+2+((Cm W a:Nat):Int)=((a+2+Cm W a:Nat):Int):=by omega
        have e2:P.map Int.ofNat++[(a:Int)]=(P++[a]).map Int.ofNat:=by simp
        rw[e1,e2,G0 hW n (a+2+Cm W a) (P++[a]) (by omega) (by omega) (by simp;omega)];cases par W n (a+2+Cm W a)<;>simp
    · rw[Rx (by simpa [AT] using h),Rx h];simp
def Ip (W:List Int):Option (List Nat):=par W 2000000 0
theorem IK {W:List Int}:∀(n m a:Nat),W.length-a<n->W.length-a<m->par W n a=par W m a
  | 0,_,_,h,_=>by omega
  | _,0,_,_,h=>by omega
  | n+1,m+1,a,h1,h2=>by
    simp only[par];by_cases h:a<W.length
    · rw[Ry h,Ry h,IK n m _ (by omega) (by omega)]
    · rw[Rx h,Rx h]
theorem Iq {W:List Int}(hW:W.length<=1048576){N:Nat}(hN:2000000<=N):CO N W=some (match Ip W with|some A=>(A.map Int.ofNat,true)|none=>([],false)):=by
  unfold CO;have:=G0 hW N 0 [] (by omega) (by omega) (by simp);rw[UI,show ([]:List Nat).map Int.ofNat=[] from rfl]at this;rw[this,IK N 2000000 0 (by omega) (by omega)];unfold Ip;cases par W 2000000 0<;>simp[Sh.cont]
theorem H2 {W:List Int}:∀(n a:Nat) {A:List Nat},par W n a=some A->(∀b∈A,a<=b/\EO W b)/\A.Pairwise (·<·)
  | 0,_,_,h=>by simp[par]at h
  | n+1,a,A,h=>by
    rw[par]at h;split at h
    · split at h
      · cases h
      · rename_i hb;obtain⟨B,hB,rfl⟩:=Rr.1 h;obtain⟨h1,h2⟩:=H2 n _ hB;refine⟨λb UO=>?_,List.pairwise_cons.2 ⟨λb UO=>by have:=(h1 b UO).1;omega,h2⟩⟩;rcases SA.1 UO with rfl|UO
        · exact⟨Rz _,Js (by simpa using hb)⟩
        · exact⟨by have:=(h1 b UO).1;omega,(h1 b UO).2⟩
    · cases h;exact⟨by simp,by simp⟩
structure F8 (W:List Int) (A:List Nat):Prop where
  size:W.length<=1048576
  C4 :∀b∈A,EO W b
  Qs:A.Pairwise (·<·)
theorem H6 {W:List Int}(hW:W.length<=1048576){A:List Nat}(h:Ip W=some A):F8 W A:=⟨hW,λb hb=>((H2 _ _ h).1 b hb).2,(H2 _ _ h).2⟩
theorem F8.nodup {W:List Int}{A:List Nat}(h:F8 W A):A.Nodup:=h.Qs.imp λh=>Nat.ne_of_lt h
theorem MF {n:Nat}:∀(A:List Nat) (lo:Nat),A.Pairwise (·<·)->(∀b∈A,lo<=b/\b<n)->A.length<=n-lo
  | [],_,_,_=>by simp
  | a::A,lo,h1,h2=>by
    obtain⟨h3,h4⟩:=List.pairwise_cons.1 h1;have:=MF A (a+1) h4 λb hb=>⟨h3 b hb,(h2 b (by simp[hb])).2⟩;have:=h2 a (by simp);simp only[Si];omega
theorem F8.len {W:List Int}{A:List Nat}(h:F8 W A):A.length<=W.length:=by
  have:=MF (n:=W.length) A 0 h.Qs λb hb=>⟨R5 _,by have:=(h.C4 b hb).h2;omega⟩;omega
end RC
