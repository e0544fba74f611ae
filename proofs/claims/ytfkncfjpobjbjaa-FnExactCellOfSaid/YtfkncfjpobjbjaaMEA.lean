import Derived.Test.YtfkncfjpobjbjaaGPlainAToHMF
set_option linter.all false
namespace RC
def wd (W:List Int)(i:Nat):Int:=W.getD i 0
def Cq (W:List Int)(a:Nat):Nat:=(Int.tmod (wd W (a+1)) 4).toNat
def Gf (W:List Int)(a:Nat):Bool:=decide (W.length<a+2) || decide (wd W a<0) || decide (wd W (a+1)<0) || decide (W.length<a+2+Cq W a)
def par (W:List Int):Nat->Nat->Option (List Nat)
  | 0,_=>none
  | n+1,a=>if a<W.length then (if Gf W a then none else (par W n (a+2+Cq W a)).map (a::·)) else some []
theorem E2 {W:List Int}{i:Nat}(h:i<W.length):W[i]?=some (wd W i):=by
  unfold wd;rw[Rt h,TL,Rt h];rfl
theorem gw {W:List Int}{i:Nat}(h:i<W.length):Sh.get W (i:Int)=some (wd W i):=As (E2 h)
theorem O9 {x:Int}(h:0<=x):0<=Int.tmod x 4/\Int.tmod x 4<4:=⟨Int.tmod_nonneg _ h,Int.tmod_lt_of_pos _ (by omega)⟩
theorem Gy {W:List Int}{a:Nat}(h:0<=wd W (a+1)):((Cq W a:Nat):Int)=Int.tmod (wd W (a+1)) 4:=Int.toNat_of_nonneg (O9 h).1
theorem FA {W:List Int}{a:Nat}(h:0<=wd W (a+1)):Cq W a<=3:=by have:=Gy h;have:=(O9 h).2;omega
structure EZ (W:List Int) (a:Nat):Prop where
  h2:a+2<=W.length
  c0:0<=wd W a
  c1:0<=wd W (a+1)
  fit:a+2+Cq W a<=W.length
theorem Jf {W:List Int}{a:Nat}(h:Gf W a=false):EZ W a:=by
  simp only[Gf,Bool.or_eq_false_iff,TX]at h;obtain⟨⟨⟨h1,h2⟩,h3⟩,h4⟩:=h;exact⟨by omega,by omega,by omega,by omega⟩
theorem Fc {W:List Int}{a:Nat}(hW:W.length<=1048576)(h:a+2<=W.length)(h1:0<=wd W (a+1)):CB W (a:Int)=some ((Cq W a:Nat):Int):=by
  unfold CB;rw[Ao (by omega) (by omega),show ((a:Int)+1)=((a+1:Nat):Int) by omega,gw (by omega),Gy h1];rfl
theorem Mz {W:List Int}{a:Nat}(hW:W.length<=1048576)(ha:a<W.length):
    (if (decide ((Sh.len W)<(Sh.w ((a:Int)+2))))=true then some true
     else (Sh.get W (a:Int)).bind λZN=>if (decide (ZN<0))=true then some true
       else (Sh.get W (Sh.w ((a:Int)+1))).bind λbK=>if (decide (bK<0))=true then some true
         else (CB W (a:Int)).bind λbL=>some (decide ((Sh.len W)<(Sh.w ((Sh.w ((a:Int)+2))+bL)))))=some (Gf W a):=by
  rw[AT,Ao (n:=(a:Int)+2) (by omega) (by omega),Ao (n:=(a:Int)+1) (by omega) (by omega)];unfold Gf;by_cases h1:W.length<a+2
  · simp[h1,show ((W.length:Int)<a+2) by omega]
  · rw[R0 (by simp;omega),gw ha,Rp];by_cases h2:wd W a<0
    · simp[h2]
    · rw[R0 (by simpa using h2),show ((a:Int)+1)=((a+1:Nat):Int) by omega,gw (by omega),Rp];by_cases h3:wd W (a+1)<0
      · simp[h3]
      · rw[R0 (by simpa using h3),Fc hW (by omega) (by omega),Rp];have:=FA (W:=W) (a:=a) (by omega);rw[Ao (by omega) (by omega)];simp only[h1,h2,h3,decide_false,Bool.false_or];congr 1;exact decide_eq_decide.2 (by omega)
theorem G4 {W:List Int}(hW:W.length<=1048576):∀(n a:Nat) (P:List Nat),a<=W.length->W.length-a<n->P.length<=a->BU W n (a:Int) (P.map Int.ofNat)=some (match par W n a with|some B=>Sum.inr ((P++B).map Int.ofNat)|none=>Sum.inl ([],false))
  | 0,_,_,_,h,_=>by omega
  | n+1,a,P,ha,hn,hP=>by
    rw[BU,par];by_cases h:a<W.length
    · rw[R1 (by simpa [AT] using h),R1 h,Mz hW h,Rp];cases hb:Gf W a with
      | true=>simp
      | false=>
        have G:=Jf hb;have:=FA G.c1;have Wf:=G.fit;rw[R0 (by simp),R0 (by simp),Df _ _ _ (by simp;omega) (by simp;omega),Rp,Fc hW G.h2 G.c1,Rp,Ao (n:=(a:Int)+2) (by omega) (by omega),Ao (by omega) (by omega)];have e1:(a:Int)+2+((Cq W a:Nat):Int)=((a+2+Cq W a:Nat):Int):=by omega
        have e2:P.map Int.ofNat++[(a:Int)]=(P++[a]).map Int.ofNat:=by simp
        rw[e1,e2,G4 hW n (a+2+Cq W a) (P++[a]) (by omega) (by omega) (by simp;omega)];cases par W n (a+2+Cq W a)<;>simp
    · rw[R0 (by simpa [AT] using h),R0 h];simp
def Hg (W:List Int):Option (List Nat):=par W 2000000 0
theorem IT {W:List Int}:∀(n m a:Nat),W.length-a<n->W.length-a<m->par W n a=par W m a
  | 0,_,_,h,_=>by omega
  | _,0,_,_,h=>by omega
  | n+1,m+1,a,h1,h2=>by
    simp only[par];by_cases h:a<W.length
    · rw[R1 h,R1 h,IT n m _ (by omega) (by omega)]
    · rw[R0 h,R0 h]
theorem GB {W:List Int}(hW:W.length<=1048576){N:Nat}(hN:2000000<=N):Bm N W=some (match Hg W with|some A=>(A.map Int.ofNat,true)|none=>([],false)):=by
  unfold Bm;have:=G4 hW N 0 [] (by omega) (by omega) (by simp);rw[UI,show ([]:List Nat).map Int.ofNat=[] from rfl]at this;rw[this,IT N 2000000 0 (by omega) (by omega)];unfold Hg;cases par W 2000000 0<;>simp[Sh.cont]
theorem IZ {W:List Int}:∀(n a:Nat) {A:List Nat},par W n a=some A->(∀b∈A,a<=b/\EZ W b)/\A.Pairwise (·<·)
  | 0,_,_,h=>by simp[par]at h
  | n+1,a,A,h=>by
    rw[par]at h;split at h
    · split at h
      · cases h
      · rename_i hb;obtain⟨B,hB,rfl⟩:=Rv.1 h;obtain⟨h1,h2⟩:=IZ n _ hB;refine⟨λb US=>?_,List.pairwise_cons.2 ⟨λb US=>by have:=(h1 b US).1;omega,h2⟩⟩;rcases SE.1 US with rfl|US
        · exact⟨R3 _,Jf (by simpa using hb)⟩
        · exact⟨by have:=(h1 b US).1;omega,(h1 b US).2⟩
    · cases h;exact⟨by simp,by simp⟩
structure GC (W:List Int) (A:List Nat):Prop where
  size:W.length<=1048576
  Cf :∀b∈A,EZ W b
  Q3:A.Pairwise (·<·)
theorem Gu {W:List Int}(hW:W.length<=1048576){A:List Nat}(h:Hg W=some A):GC W A:=⟨hW,λb hb=>((IZ _ _ h).1 b hb).2,(IZ _ _ h).2⟩
theorem GC.nodup {W:List Int}{A:List Nat}(h:GC W A):A.Nodup:=h.Q3.imp λh=>Nat.ne_of_lt h
theorem MR {n:Nat}:∀(A:List Nat) (lo:Nat),A.Pairwise (·<·)->(∀b∈A,lo<=b/\b<n)->A.length<=n-lo
  | [],_,_,_=>by simp
  | a::A,lo,h1,h2=>by
    obtain⟨h3,h4⟩:=List.pairwise_cons.1 h1;have:=MR A (a+1) h4 λb hb=>⟨h3 b hb,(h2 b (by simp[hb])).2⟩;have:=h2 a (by simp);simp only[Sm];omega
theorem GC.len {W:List Int}{A:List Nat}(h:GC W A):A.length<=W.length:=by
  have:=MR (n:=W.length) A 0 h.Q3 λb hb=>⟨SA _,by have:=(h.Cf b hb).h2;omega⟩;omega
end RC
