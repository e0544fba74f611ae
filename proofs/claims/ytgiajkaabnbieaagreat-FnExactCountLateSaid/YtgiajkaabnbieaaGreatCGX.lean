import Derived.Test.YtgiajkaabnbieaaGreatProg
import Derived.Test.YtgiajkaabnbieaaGreatGAbsZQToAbsZS
import Derived.Test.YtgiajkaabnbieaaGreatGHADefsToCTDefs
import Derived.Test.YtgiajkaabnbieaaGreatCatC
set_option linter.all false
namespace RC
open Go
def WO {α:Type}(z:α)(p1:Int):Option (List α):=
  if (decide (p1<0))=true then
    none
  else
    (
      if (decide (0<(Sh.w (p1-(Sh.w (0-0))))))=true then
        (Sh.mk z (Sh.w (p1-(Sh.w (0-0)))) 72).bind λwe=>
        (Sh.hi we 0).bind λuF=>
        some uF
      else
        some []
    ).bind λl6=>
    some l6
def LG {α:Type}(p0:(List (List α))):Nat->Int->(List α)->Option (List α)
  | 0,_,_=>none
  | n+1,t13,uM=>
    if (decide (t13<(Sh.len p0)))=true then
      (Sh.get p0 t13).bind λzw=>
      (Sh.app uM zw 72).bind λxx=>
      LG p0 n (Sh.w (t13+1)) xx
    else
      some uM
def Kj {α:Type}(p0:(List (List α))):Nat->Int->Int->Option (Int)
  | 0,_,_=>none
  | n+1,sP,t6=>
    if (decide (t6<(Sh.len p0)))=true then
      (Sh.get p0 t6).bind λvH=>
      if (decide ((Sh.w (sP+(Sh.len vH)))<0))=true then
        none
      else
        Kj p0 n (Sh.w (sP+(Sh.len vH))) (Sh.w (t6+1))
    else
      some sP
def cV {α:Type}(z:α)(N:Nat)(p0:(List (List α))):Option (List α):=
  (Kj p0 N 0 0).bind λtl=>
  (WO z tl).bind λtD=>
  (LG p0 N 0 tD).bind λvX=>
  some vX
end RC
namespace Go.Proofs.YtgiajkaabnbieaaGreat.Cg
open Go Go.Abs RC
attribute [local irreducible] Go.Abs.Di
set_option maxRecDepth 100000
set_option maxHeartbeats 4000000
def tb:LM Tryz.prog where
 t:=[(50,false,1)]
 f:=[]
 v:=[]
 b:=[]
 s:=[165,50]
 ht:=by kernel_rfl
 hf:=by kernel_rfl
 hv:=by kernel_rfl
 hb:=by kernel_rfl
 hs:=by kernel_rfl
theorem Y1:Cj Tryz.prog 165=some ⟨50,1,24,[.sl []]⟩:=by kernel_rfl
theorem DT:Cj Tryz.prog 50=some ⟨97,5,72,[.int .i64 0,.int .i64 0,.int .i64 0,.sl [],.sl []]⟩:=by kernel_rfl
theorem kX:Er Tryz.prog 138=true:=by kernel_rfl
theorem kF:Program.underlying Tryz.prog 3=some (.int .i64):=by kernel_rfl
theorem X4:CY Tryz.prog 50=true:=by kernel_rfl
theorem ea {α:Type}{en:α->List AV}{z:α}(hz:en z=[.int .i64 0,.int .i64 0,.int .i64 0,.sl [],.sl []])(hl :∀a,(en a).length=5)(hp :∀a,(en a).all simple=true){p1:Int}{r:(List α)}(h0:WO z p1=some r):AS Tryz.prog 138 [.zc,i64 p1] [] (λv st=>v=(ow 0 0 r)/\st=[ro 0 97 5 en r]):=by
 unfold WO at h0;refine ai Tryz.func138 rfl rfl rfl rfl ?_;refine zr tb rfl rfl ?_;refine AD λK2 yF=>?_;refine zr tb rfl rfl ?_;refine ci h0 rfl ?_ ?_<;>clear h0
 ·intro b4 h0;refine AF (by rfl) ?_;cases h0
 ·intro b4 h0;refine AG (yF _ ?_);refine AD λK5 yG=>?_;obtain⟨o7,h1,h0⟩:=Sh.bind_some h0;have M7:∀(l6:(List α)),o7=l6->∀s,Wk 0 s ⟨27,AN [(0,ow 0 0 l6)],[ro 0 97 5 en l6]⟩->K5 s:=by
   intro l6 hq s hw;subst o7;try dsimp only at h0
   refine yG _ (AJ hw ?_);refine zr tb rfl rfl ?_;replace h0:=Sh.AB h0;subst r;exact BG (xr (Ao (L:=[(4,ow 0 0 l6)]) ⟨.rfl,mD⟩))
  refine sr rfl λK9 hK9=>?_;refine zm tb 2 rfl ?_;refine Su X4 rfl ?_;refine zq tb rfl ?_;refine zz (i64 0) (Sr X4 rfl) rfl ?_;refine zm tb 3 rfl ?_;refine dn hK9 rfl ?_;refine zr tb rfl rfl ?_;refine ci h1 rfl ?_ ?_<;>clear h1
  ·intro b11 h1;refine AF (by rfl) ?_;refine zm tb 2 rfl ?_;refine Su X4 rfl ?_;refine ca DT rfl rfl ?_;refine zq tb rfl ?_;obtain⟨we,gl12,h1⟩:=Sh.bind_some h1;refine aB (u:=z) (enc:=en) (m:=0) (st':=[ro 0 97 5 en we]) DT kF rfl rfl b11 hz gl12 rfl rfl ?_;refine zq tb rfl ?_;refine zz (i64 0) (Sr X4 rfl) rfl ?_;obtain⟨uF,gl13,h1⟩:=Sh.bind_some h1;refine cn AR DT rfl rfl rfl rfl gl13 rfl ?_;refine zq tb rfl ?_;exact AE (M7 uF (Sh.AB h1).symm _ (CJ (L:=[(0,ow 0 0 uF)]) (st':=[ro 0 97 5 en uF]) (.pure (AK hp) .nil) ⟨.rfl,mD⟩))
  ·intro b11 h1;exact AG (M7 [] (Sh.AB h1).symm _ ((FG (t:=0) rfl 97 (size:=5) (by decide)).trans (Ao (L:=[(0,.own 0 0 (List.length ([]:List α)))]) ⟨.rfl,mD⟩)))
theorem fv {α:Type}{en:α->List AV}{z:α}(hz:en z=[.int .i64 0,.int .i64 0,.int .i64 0,.sl [],.sl []])(hl :∀a,(en a).length=5)(hp :∀a,(en a).all simple=true){N:Nat}{p0:(List (List α))}{r:(List α)}(h0:cV z N p0=some r):AS Tryz.prog 101 [ls (eS en) p0] [] (λv st=>v=(ow 0 0 r)/\st=[ro 0 97 5 en r]):=by
 unfold cV at h0;refine ai Tryz.func101 rfl rfl rfl rfl ?_;iterate 2 refine zr tb rfl rfl ?_
 refine AD λK3 xU=>?_;refine sr rfl λK4 hK4=>?_;refine zq tb rfl ?_;refine zl tb rfl rfl ?_;refine zq tb rfl ?_;refine dn hK4 rfl ?_;obtain⟨o8,h1,h0⟩:=Sh.bind_some h0;have M8:∀(tl:Int),o8=tl->∀s,Wk 0 s ⟨36,AN [(0,ls (eS en) p0),(3,i64 tl)],[]⟩->K3 s:=by
  intro tl hq s hw;subst o8;try dsimp only at h0
  refine xU _ (AJ hw ?_);refine sr rfl λK9 hK9=>?_;refine zq tb rfl ?_;obtain⟨tD,gq10,h0⟩:=Sh.bind_some h0;refine BE (v':=(ow 0 0 tD)) AR kX (ea hz hl hp gq10) rfl rfl ⟨Ay hp,mD⟩ rfl rfl ?_;refine zq tb rfl ?_;refine dn hK9 rfl ?_;refine AD λK11 hK11=>?_;refine sr rfl λK12 hK12=>?_;refine zq tb rfl ?_;refine zl tb rfl rfl ?_;refine zq tb rfl ?_;refine dn hK12 rfl ?_;obtain⟨o16,h1,h0⟩:=Sh.bind_some h0;have M16:∀(vX:(List α)),o16=vX->∀s,Wk 0 s ⟨36,AN [(6,ow 0 0 vX)],[ro 0 97 5 en vX]⟩->K11 s:=by
   intro vX hq s hw;subst o16;try dsimp only at h0
   refine hK11 _ (AJ hw ?_);refine zr tb rfl rfl ?_;replace h0:=Sh.AB h0;subst r;exact BG (xr (Ao (L:=[(2,ow 0 0 vX)]) ⟨.rfl,mD⟩))
  refine AL (Af (σ:=Int×(List α)) (λn v=>LG p0 n v.1 v.2=some o16) (λ(t13,uM)=>⟨36,AN [(6,ow 0 0 uM),(25,ls (eS en) p0),(26,i64 (Sh.len p0)),(27,i64 t13)],[ro 0 97 5 en uM]⟩) N (0,tD) h1 (AI rfl) (λ_ hv=>by rw[LG]at hv;cases hv) ?_);rintro n ⟨t13,uM⟩ h1;try dsimp only at h1⊢
  rw[LG]at h1;refine zr tb rfl rfl ?_;refine AD λK19 hK19=>?_;refine ci h1 rfl ?_ ?_<;>clear h1
  ·intro b20 h1;refine AG (hK19 _ ?_);refine AD λK21 hK21=>?_;refine AL ?_;refine sr rfl λK22 hK22=>?_;obtain⟨zw,gc23,h1⟩:=Sh.bind_some h1;refine zx Y1 gc23 rfl rfl rfl ?_;refine zm tb 2 rfl ?_;refine dn hK22 rfl ?_;refine AF (by rfl) ?_;refine zm tb 2 rfl ?_;obtain⟨xx,gl24,h1⟩:=Sh.bind_some h1;refine Cd (l2:=zw) AR DT rfl rfl rfl rfl Nq hl gl24 rfl ?_;refine zq tb rfl ?_;refine dn hK21 rfl ?_;refine AF (by rfl) ?_;refine zm tb 2 rfl ?_;exact AE (xi (Sh.w (t13+1),xx) h1 (CJ (L:=[(6,ow 0 0 xx),(25,ls (eS en) p0),(26,i64 (Sh.len p0)),(27,i64 (Sh.w (t13+1)))]) (st':=[ro 0 97 5 en xx]) (.pure (AK hp) .nil) ⟨.rfl,.rfl,.rfl,.rfl,mD⟩))
  ·intro b20 h1;exact Ah (M16 uM (Sh.AB h1).symm _ (AI rfl))
 refine AL (Af (σ:=Int×Int) (λn v=>Kj p0 n v.1 v.2=some o8) (λ(sP,t6)=>⟨36,AN [(0,ls (eS en) p0),(3,i64 sP),(9,ls (eS en) p0),(10,i64 (Sh.len p0)),(11,i64 t6)],[]⟩) N (0,0) h1 (AI rfl) (λ_ hv=>by rw[Kj]at hv;cases hv) ?_);rintro n ⟨sP,t6⟩ h1;try dsimp only at h1⊢
 rw[Kj]at h1;refine zr tb rfl rfl ?_;refine AD λK26 hK26=>?_;refine ci h1 rfl ?_ ?_<;>clear h1
 ·intro b27 h1;refine AG (hK26 _ ?_);refine AD λK28 hK28=>?_;refine AL ?_;refine sr rfl λK29 hK29=>?_;obtain⟨vH,gc30,h1⟩:=Sh.bind_some h1;refine zx Y1 gc30 rfl rfl rfl ?_;refine zm tb 2 rfl ?_;refine dn hK29 rfl ?_;refine sr rfl λK31 hK31=>?_;refine zm tb 2 rfl ?_;refine zl tb rfl rfl ?_;refine zm tb 2 rfl ?_;refine dn hK31 rfl ?_;refine zr tb rfl rfl ?_;refine ci h1 rfl ?_ ?_<;>clear h1
  ·intro zB h1;refine AF (by rfl) ?_;cases h1
  ·intro zB h1;refine AG (hK28 _ ?_);refine AF (by rfl) ?_;refine zm tb 2 rfl ?_;exact AE (xi (Sh.w (sP+(Sh.len vH)),Sh.w (t6+1)) h1 (AI rfl))
 ·intro b27 h1;exact Ah (M8 sP (Sh.AB h1).symm _ (AI rfl))
theorem Rk {β:Type}{p:β->Prop}:∀{l:List β},(∀x∈l,p x)->∃l':List {x:β // p x},l'.map Subtype.val=l
  | [],_=>⟨[],rfl⟩
  | a::r,h=>by
    obtain⟨l',h'⟩:=Rk (l:=r) λx hx=>h x (by simp[hx]);exact⟨⟨a,h a (by simp)⟩::l',by simp[h']⟩
theorem UT {n:Int}(h1:-9223372036854775808<=n)(h2:n<=9223372036854775807):Sh.w n=n:=Abs.wrap_i64 h1 h2
theorem Nn {β:Type}(l:List β):Sh.len l=(l.length:Int):=rfl
theorem cv {β:Type}(l m:List β)(h:l.length+m.length<=1000000):Sh.app l m 72=some (l++m):=by
  unfold Sh.app;rw[mI ⟨by omega,by omega⟩]
theorem di {α:Type}{z:α}{a b:List α}(h:a.length+b.length<=1000000):cV z 3 [a,b]=some (a++b):=by
  unfold cV;have e1:Kj [a,b] 3 0 0=some ((a.length+b.length:Nat):Int):=by
    rw[Kj,mI (by simp[Nn]),show Sh.get [a,b] 0=some a from rfl];simp only[mA];rw[Nn,UT (n:=(0:Int)+1) (by omega) (by omega),UT (by omega) (by omega),mJ (by rw[mX];omega)];rw[Kj,mI (by simp[Nn]),show Sh.get [a,b] (0+1)=some b from rfl];simp only[mA];rw[Nn,UT (n:=(0:Int)+1+1) (by omega) (by omega),UT (by omega) (by omega),mJ (by rw[mX];omega)];rw[Kj,mJ (by simp[Nn])];congr 1;omega
  have e2:LG [a,b] 3 0 []=some (a++b):=by
    rw[LG,mI (by simp[Nn]),show Sh.get [a,b] 0=some a from rfl];simp only[mA];rw[cv [] a (by simp;omega),UT (n:=(0:Int)+1) (by omega) (by omega)];simp only[mA,nV];rw[LG,mI (by simp[Nn]),show Sh.get [a,b] (0+1)=some b from rfl];simp only[mA];rw[cv a b h,UT (n:=(0:Int)+1+1) (by omega) (by omega)];simp only[mA];rw[LG,mJ (by simp[Nn])]
  have e3:WO z ((a.length+b.length:Nat):Int)=some []:=by
    unfold WO;rw[mJ (by simp;omega),UT (n:=(0:Int)-0) (by omega) (by omega),UT (by omega) (by omega)];by_cases h:0<a.length+b.length
    · rw[mI (by simp;omega),show (((a.length+b.length:Nat):Int)-(0-0))=((a.length+b.length:Nat):Int) by omega];unfold Sh.mk;rw[mI ⟨by omega,by omega,by omega⟩];simp only[mA];unfold Sh.hi;rw[mI ⟨by omega,by omega⟩];simp
    · rw[mJ (by simp;omega)];rfl
  rw[e1];simp only[mA];rw[e3];simp only[mA];rw[e2];rfl
theorem RH {la lb r:List Step}(h:Fw la lb=some r):jT Tryz.prog 101 97 5 la.length lb.length/\r=la++lb:=by
  unfold Fw at h;split at h
  case isFalse=>cases h
  rename_i hb;simp only[mE]at h;refine⟨λxs ys hx hy h1 h2=>?_,h.symm⟩;have hs:∀z:List AV,XQ 5 z->z.length=5/\z.all simple=true:=λz hz=>⟨hz.1,mL.2 λc hc=>by obtain⟨v,rfl⟩:=hz.2 c hc;rfl⟩;obtain⟨xs',rfl⟩:=Rk (p:=λz:List AV=>z.length=5/\z.all simple=true) λz hz=>hs z (h1 z hz);obtain⟨ys',rfl⟩:=Rk (p:=λz:List AV=>z.length=5/\z.all simple=true) λz hz=>hs z (h2 z hz);have g:=di (z:=(⟨[.int .i64 0,.int .i64 0,.int .i64 0,.sl [],.sl []],rfl,rfl⟩:{z:List AV // z.length=5/\z.all simple=true})) (a:=xs') (b:=ys') (by simp at hx hy;omega);have w:=fv (en:=Subtype.val) rfl (λa=>a.2.1) (λa=>a.2.2) g;refine AS.mono w ?_;rintro v st ⟨rfl,rfl⟩;exact⟨by simp,by rw[<- mu]⟩
end Go.Proofs.YtgiajkaabnbieaaGreat.Cg
