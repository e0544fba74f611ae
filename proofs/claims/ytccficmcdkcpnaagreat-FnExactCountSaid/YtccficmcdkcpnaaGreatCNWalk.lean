import Derived.Test.YtccficmcdkcpnaaGreatCNWalkP5
set_option linter.all false
namespace Go.Proofs.YtccficmcdkcpnaaGreat
open Go Go.Abs RC
attribute [local irreducible] Go.Abs.DX
set_option maxRecDepth 100000
set_option maxHeartbeats 4000000
theorem tn:Cn Tryz.prog 28=true:=by kernel_rfl
theorem tj:Cn Tryz.prog 46=true:=by kernel_rfl
theorem Ww {N:Nat}{za:Block->Block->Option (Bool)}(hrec_laws_eqBlock :∀{p0:Block} {p1:Block} {r:Bool},za p0 p1=some r->BH 149 [DN p0,DN p1] [] (.bool r) []){p0:(List Step)}{p1:(List Step)}{r:Bool}(h0:N9 N za p0 p1=some r):BH 212 [ls Ba p0,ls Ba p1] [] (.bool r) []:=by
 unfold N9 at h0;refine Bb Tryz.func212 AA (AS AA (AB λI m=>Ab λJ o=>AK AA (Bd AA (AK AA (Bd AA (AK AA (AR o ?_)))))));refine An h0 ?_ ?_<;>intro x h0
 ·have K:decide ((Sh.len p0)=(Sh.len p1))=false:=by simpa using x
  refine AS AA ?_;cases h0;exact rt [(4,.bool false)]
 ·have L:decide ((Sh.len p0)=(Sh.len p1))=true:=by simpa using x
  refine AG (m _ (AB λz p=>AS AA ?_));obtain⟨b,a,h0⟩:=Sh.BG h0;have q:JJ b (.inr ()) ⟨27,AJ [],[]⟩ z:=by
   rintro⟨⟩ s A;refine p _ (AH A (AS AA ?_));cases h0;exact rt [(4,.bool true)]
  refine AI (LN (GQ N p0 p1 za) (λc=>⟨27,AJ [(0,ls Ba p0),(1,ls Ba p1),(5,i64 c)],[]⟩) N 0 a Ag ?_);intro n c a;rw[GQ]at a;refine AB λB e=>Ab λC f=>AM 2 AA (Bd AA (AK AA (AR f ?_)));refine An a ?_ ?_<;>intro D a
  ·refine AG (e _ (AB λE g=>AI (AB λF h=>Cu (by kernel_rfl) (by kernel_rfl) (by rfl) ?_)));iterate 2 refine yq tb rfl ?_
   refine bs a λt i a=>yz (H4 t) (E1 Cb AA AA i (CE _) rfl) rfl ?_;iterate 3 refine yq tb rfl ?_
   refine bs a λu j a=>yz (H4 u) (E1 Cb AA AA j (CE _) rfl) rfl (yq tb AA (bs a λd k a=>Og (YX hrec_laws_eqBlock k) (yq tb AA (Bl (h _ ?_)))));refine An a ?_ ?_<;>intro l a
   ·have G:d=false:=by simpa using l
    refine AS AA ?_;cases a;cases h0;exact rt [(4,.bool false)]
   ·have H:d=true:=by simpa using l
    exact AG (g _ (AE AA (AM 3 AA (AD (xi (Sh.w (c+1)) a Ag)))))
  ·exact Af (q a Ag)
theorem U9 {N:Nat}{za:Block->Block->Option (Bool)}(hrec_laws_eqBlock :∀{p0:Block} {p1:Block} {r:Bool},za p0 p1=some r->BH 149 [DN p0,DN p1] [] (.bool r) []){p0 p1:Block}{r:Bool}(h0:MI N za p0 p1=some r):BH 149 [DN p0,DN p1] [] (.bool r) []:=by
 unfold MI at h0;refine Bb Tryz.func149 AA (Ab λk b=>CY 0 AA (CY 1 AA (AK AA (AR b (AB λl c=>Ab λn d=>AM 4 AA (bs h0 λg e h0=>CR (hb 212) (Ww hrec_laws_eqBlock e) rfl (AK AA (AR d ?_))))))));refine An h0 ?_ ?_<;>intro h h0
 ·have o:g=false:=by simpa using h
  refine AS AA ?_;cases h0;exact rd [(4,.bool false)]
 ·have p:g=true:=by simpa using h
  refine AG (c _ (AB λq f=>AS AA ?_));refine An h0 ?_ ?_<;>intro a h0
  ·have i:decide (p0.result=p1.result)=false:=by simpa using a
   refine AS AA ?_;cases h0;exact rd [(4,.bool false)]
  ·have j:decide (p0.result=p1.result)=true:=by simpa using a
   refine AG (f _ (AS AA ?_));cases h0;exact rd [(4,.bool true)]
theorem VA {N:Nat}:∀(n:Nat),∀{p0:Block} {p1:Block} {r:Bool},Hw N n p0 p1=some r->BH 149 [DN p0,DN p1] [] (.bool r) []:=by
 intro n
 induction n with
 | zero=>intro p0 p1 r a;cases a
 | succ n ih=>
  intro p0 p1 r a;rw[Hw]at a;exact U9 (λh=>ih h) a
theorem XO {N:Nat}:∀{p0:Block} {p1:Block} {r:Bool},Nz N p0 p1=some r->BH 149 [DN p0,DN p1] [] (.bool r) []:=by
 intro p0 p1 r a;exact VA N a
theorem Up {N:Nat}{p0 p1:Ad}{r:Bool}(h0:KG N p0 p1=some r):BH 82 [Z5 p0,Z5 p1] [] (.bool r) []:=by
 unfold KG at h0;refine Bb Tryz.func82 AA (Ab λF l=>CY 0 AA (CY 1 AA (AK AA (AR l (AB λG n=>Ab λH o=>AM 4 AA (bs h0 λs p h0=>CR (hb 148) (MN p) rfl (AK AA (AR o ?_))))))));refine An h0 ?_ ?_<;>intro t h0
 ·have I:s=false:=by simpa using t
  refine AS AA ?_;cases h0;exact rd [(4,.bool false)]
 ·have J:s=true:=by simpa using t
  refine AG (n _ (AB λK q=>Ab λu a=>AM 4 AA (bs h0 λb c h0=>CR (hb 148) (MN c) rfl (AK AA (AR a ?_)))));refine An h0 ?_ ?_<;>intro d h0
  ·have w:b=false:=by simpa using d
   refine AS AA ?_;cases h0;exact rd [(4,.bool false)]
  ·have x:b=true:=by simpa using d
   refine AG (q _ (AB λy e=>AS AA ?_));refine An h0 ?_ ?_<;>intro f h0
   ·have z:decide (p0.result=p1.result)=false:=by simpa using f
    refine AS AA ?_;cases h0;exact rd [(4,.bool false)]
   ·have A:decide (p0.result=p1.result)=true:=by simpa using f
    refine AG (e _ (AB λB g=>Ab λC h=>AM 4 AA (bs h0 λi j h0=>CR (hb 149) (XO j) rfl (AK AA (AR h ?_)))));refine An h0 ?_ ?_<;>intro k h0
    ·have D:i=false:=by simpa using k
     refine AS AA ?_;cases h0;exact rd [(4,.bool false)]
    ·have E:i=true:=by simpa using k
     refine AG (g _ (AS AA ?_));cases h0;exact rd [(4,.bool true)]
theorem UY {N:Nat}{p0:(List Ad)}{p1:(List Ad)}{r:Bool}(h0:Jt N p0 p1=some r):BH 37 [ls Al p0,ls Al p1] [] (.bool r) []:=by
 unfold Jt at h0;refine Bb Tryz.func37 AA (AS AA (AB λI m=>Ab λJ o=>AK AA (Bd AA (AK AA (Bd AA (AK AA (AR o ?_)))))));refine An h0 ?_ ?_<;>intro t h0
 ·have K:decide ((Sh.len p0)=(Sh.len p1))=false:=by simpa using t
  refine AS AA ?_;cases h0;exact rt [(4,.bool false)]
 ·have L:decide ((Sh.len p0)=(Sh.len p1))=true:=by simpa using t
  refine AG (m _ (AB λx p=>AS AA ?_));obtain⟨b,a,h0⟩:=Sh.BG h0;have q:JJ b (.inr ()) ⟨27,AJ [],[]⟩ x:=by
   rintro⟨⟩ s y;refine p _ (AH y (AS AA ?_));cases h0;exact rt [(4,.bool true)]
  refine AI (LN (Ff N p0 p1) (λc=>⟨27,AJ [(0,ls Al p0),(1,ls Al p1),(5,i64 c)],[]⟩) N 0 a Ag ?_);intro n c a;rw[Ff]at a;refine AB λz e=>Ab λA f=>AM 2 AA (Bd AA (AK AA (AR f ?_)));refine An a ?_ ?_<;>intro B a
  ·refine AG (e _ (AB λC g=>AI (AB λD h=>Cu (by kernel_rfl) (by kernel_rfl) (by rfl) ?_)));iterate 2 refine yq tb rfl ?_
   refine bs a λE i a=>Lw Hg i AA ?_;iterate 3 refine yq tb rfl ?_
   refine bs a λF j a=>Lw Hg j AA (yq tb AA (bs a λd k a=>Og (Up k) (yq tb AA (Bl (h _ ?_)))));refine An a ?_ ?_<;>intro l a
   ·have G:d=false:=by simpa using l
    refine AS AA ?_;cases a;cases h0;exact rt [(4,.bool false)]
   ·have H:d=true:=by simpa using l
    exact AG (g _ (AE AA (AM 3 AA (AD (xi (Sh.w (c+1)) a Ag)))))
  ·exact Af (q a Ag)
theorem Kk {N:Nat}{p0 p1:AL}{r:Bool}(h0:Hf N p0 p1=some r):BH 11 [Gz p0,Gz p1] [] (.bool r) []:=by
 unfold Hf at h0;refine Bb Tryz.func11 AA (Ab λp e=>CY 0 AA (CY 1 AA (AK AA (AR e (AB λq f=>Ab λs g=>AM 4 AA (bs h0 λj h h0=>CR (hb 36) (Wq h) rfl (AK AA (AR g ?_))))))));refine An h0 ?_ ?_<;>intro k h0
 ·have t:j=false:=by simpa using k
  refine AS AA ?_;cases h0;exact rd [(4,.bool false)]
 ·have u:j=true:=by simpa using k
  refine AG (f _ (AB λw i=>Ab λl a=>AM 4 AA (bs h0 λb c h0=>CR (hb 37) (UY c) rfl (AK AA (AR a ?_)))));refine An h0 ?_ ?_<;>intro d h0
  ·have n:b=false:=by simpa using d
   refine AS AA ?_;cases h0;exact rd [(4,.bool false)]
  ·have o:b=true:=by simpa using d
   refine AG (i _ (AS AA ?_));cases h0;exact rd [(4,.bool true)]
theorem Ko {N:Nat}{s0:(List Int)}{p1:Int}{r:Int×(List Int)}(h0:He N s0 p1=some r):BH 84 (Vu s0 p1) [As s0] (i64 r.1) [As r.2]:=by
 unfold He at h0;refine Bb Tryz.func84 AA (AS AA (AB λp k=>AS AA (bs h0 λl a h0=>?_)));have q:∀j m,l=(j,m)->∀s,Wk 1 s ⟨19,AJ [(1,i64 j)],[As m]⟩->p s:=by
  rintro j m rfl s t;refine k _ (AH t (AS AA ?_));cases h0;exact rt [(4,i64 j)]
 refine AI (Vl (Gw ) (λb d e=>⟨19,AJ [(0,ow 0 0 e),(1,i64 b),(5,i64 d)],[ro 0 3 1 eI e]⟩) N p1 0 s0 a Ag ?_);intro n b d e a;rw[Gw]at a;refine AB λu f=>Ab λx g=>AM 2 AA (zz (Dc e) (Ec Hq AA AA AA) rfl (AK AA (AR g ?_)));refine An a ?_ ?_<;>intro y a
 ·refine AG (f _ (AB λz h=>AI (Ab λA i=>AM 3 AA (bs a λB c a=>zz (Vk d) (Ls Ay AA c) rfl (N5 (u':=b) BJ JR AA AA c AA AA AA zC rfl AA (AR i (AE AA (AM 3 AA (AR h (AE AA (AM 3 AA ?_)))))))))));exact AD (xi (Sh.w (b+1),Sh.w (d+1),Sh.put e d b) a (DY [(0,.own 0 0 (List.length (Sh.put e d b))),(1,i64 (Sh.w (b+1))),(5,i64 (Sh.w (d+1)))] ⟨(.len (by simp only[Sh.BE])),.rfl,.rfl,uM⟩))
 ·exact Af (q b e (Bm a) _ Ag)
theorem WO {N:Nat}{s0:(List Bw)}{p1:Int}{r:Int×(List Bw)}(h0:LD N s0 p1=some r):BH 83 (Vu s0 p1) [gM s0] (i64 r.1) [gM r.2]:=by
 unfold LD at h0;refine Bb Tryz.func83 AA (AS AA (AB λD t=>AS AA (bs h0 λx d h0=>?_)));have E:∀q y,x=(q,y)->∀s,Wk 1 s ⟨20,AJ [(1,i64 q)],[gM y]⟩->D s:=by
  rintro q y rfl s F;refine t _ (AH F (AS AA ?_));cases h0;exact rt [(4,i64 q)]
 refine AI (Vl (Gr N) (λz f g=>⟨20,AJ [(0,ow 0 0 g),(1,i64 z),(5,i64 f)],[ro 0 106 1 (DT 3) g]⟩) N p1 0 s0 d Ag ?_);intro n z f g d;rw[Gr]at d;refine AB λG k=>Ab λH l=>AM 2 AA (zz (Dc g) (Ec Qa AA AA AA) rfl (AK AA (AR l ?_)));refine An d ?_ ?_<;>intro I d
 ·refine AG (k _ (AB λJ o=>AI (AE AA (AM 2 AA (bs d λb e d=>zz (Vk f) (Ls Jl AA e) rfl (AK AA (Ac (J6 (id:=0) (j:=0) (i:=f) (c:=b) (ys:=b.fields) (encY:=eI) rfl e AA AA AA AA AA) (zz (ow 1 0 b.fields) (De Kl AA AA (Lc e) rfl) rfl (AK AA (bs d λa p d=>Gx (rowsP:=[⟨0,3,1,List.map eI b.fields⟩]) (rows0:=[⟨0,3,1,List.map eI b.fields⟩]) (rows1:=[QR a.2]) (rows2:=[]) (rows1':=[QR a.2]) (rows2':=[]) (st':=[⟨0,106,1,hole g (DT 3) f [.own 1 0 (List.length b.fields)]⟩,QR a.2]) (v':=(i64 a.1)) [1] BJ (hb 84) (Ko p) rfl (by decide) rfl AA (.pure BB .nil) rfl AA (.pure BB .nil) .nil AA AA (λA=>?_)))))))))));have C:List.length a.2=List.length b.fields:=by simpa only[uZ] using A 0 _ _ rfl rfl rfl
  refine Ac (Wk.take (id:=0) (m:=1) (j:=0) (i:=f) (c:=b) (ys:=a.2) (encY:=eI) rfl e AA AA (by first|(simp only[Sh.BE];done)|(simp only[Sh.BE];omega)|omega) (by decide) zA DA AA AA) ?_;refine Ac (FT (id:=0) (i:=f) (u:=(Bw.mk a.2)) rfl AA AA) ?_;generalize hg901:Sh.put g f (Bw.mk a.2)=lg901 at d⊢;have h:=vI List.length hg901;simp only[Sh.BE]at h;refine AK AA (AR o (AE AA (AM 3 AA ?_)));exact AD (xi (a.1,Sh.w (f+1),lg901) d (by refine Wk.trans (Bf (L:=[(0,.own 0 0 (List.length g)),(1,i64 a.1),(5,i64 (Sh.w (f+1)))]) (st':=[⟨0,106,1,List.map (DT 3) lg901⟩]) [0] (.deep Bi .nil) ⟨.rfl,.rfl,.rfl,uM⟩) ?_;exact DY [(0,.own 0 0 (List.length lg901)),(1,i64 a.1),(5,i64 (Sh.w (f+1)))] ⟨(.len (by first|(simp only[Sh.BE];done)|(simp only[Sh.BE];omega)|omega)),.rfl,.rfl,uM⟩))
 ·exact Af (E z g (Bm d) _ Ag)
theorem VW {N:Nat}{s0:(List AP)}{p1:Int}{r:Int×(List AP)}(h0:KO N s0 p1=some r):BH 38 (Vu s0 p1) [JB s0] (i64 r.1) [JB r.2]:=by
 unfold KO at h0;refine Bb Tryz.func38 AA (AS AA (AB λM F=>AS AA (bs h0 λG d h0=>?_)));have O:∀E H,G=(E,H)->∀s,Wk 1 s ⟨34,AJ [(1,i64 E)],[JB H]⟩->M s:=by
  rintro E H rfl s P;refine F _ (AH P (AS AA ?_));cases h0;exact rt [(4,i64 E)]
 refine AI (Vl (GJ N) (λo e p=>⟨34,AJ [(0,ow 0 0 p),(1,i64 o),(5,i64 e)],[ro 0 104 3 (BO 106 3) p]⟩) N p1 0 s0 d Ag ?_);intro n o e p d;rw[GJ]at d;refine AB λQ y=>Ab λR z=>AM 2 AA (zz (Dc p) (Ec WG AA AA AA) rfl (AK AA (AR z ?_)));refine An d ?_ ?_<;>intro S d
 ·refine AG (y _ (AB λT A=>AI (Ab λU B=>AM 3 AA (bs d λg k d=>zz (Vk e) (Ls EZ AA k) rfl (AK AA (N5 (u':=(AP.mk o g.to g.cons)) BJ JR AA AA k AA AA AA (show 0+1<=3 by decide) rfl AA ?_))))));generalize hg901:Sh.put p e (AP.mk o g.to g.cons)=lg901 at d⊢;have q:=vI List.length hg901;simp only[Sh.BE]at q;refine AR B (AS AA (Ab λV C=>AM 3 AA (bs d λh l d=>?_)));refine zz (.ptr 0 0 (Int.toNat e) 0) (L7 EZ AA AA AA (by first|(simp only[Sh.BE];done)|omega) l) rfl ?_;refine AK AA (N5 (u':=(AP.mk h.from_ (Sh.w (o+1)) h.cons)) BJ JR AA AA l AA AA AA (show 1+1<=3 by decide) rfl AA ?_);generalize hg902:Sh.put lg901 e (AP.mk h.from_ (Sh.w (o+1)) h.cons)=lg902 at d⊢;have t:=vI List.length hg902;simp only[Sh.BE]at t;refine AR C (AS AA (AE AA (AM 2 AA (bs d λa f d=>?_))));refine zz (.ptr 0 0 (Int.toNat e) 0) (L7 EZ AA AA AA (by first|(simp only[Sh.BE];done)|omega) f) rfl ?_;refine AK AA (Ac (J6 (id:=0) (j:=2) (i:=e) (c:=a) (ys:=a.cons) (encY:=(DT 3)) rfl f AA AA AA AA AA) (zz (ow 1 0 a.cons) (De QP AA AA (Lc f) rfl) rfl (AK AA (bs d λb D d=>Gx (rowsP:=[⟨0,106,1,List.map (DT 3) a.cons⟩]) (rows0:=[⟨0,106,1,List.map (DT 3) a.cons⟩]) (rows1:=[⟨0,106,1,List.map (DT 3) b.2⟩]) (rows2:=[]) (rows1':=[⟨0,106,1,List.map (DT 3) b.2⟩]) (rows2':=[]) (st':=[⟨0,104,3,hole lg902 (BO 106 3) e [i64 a.from_,i64 a.to,.own 1 0 (List.length a.cons)]⟩,⟨0,106,1,List.map (DT 3) b.2⟩]) (v':=(i64 b.1)) [1] BJ (hb 83) (WO D) rfl (by decide) rfl AA (.deep Bi .nil) rfl AA (.deep Bi .nil) .nil AA AA (λI=>?_)))));have K:List.length b.2=List.length a.cons:=by simpa only[uZ] using I 0 _ _ rfl rfl rfl
  refine Ac (Wk.take (id:=0) (m:=1) (j:=2) (i:=e) (c:=a) (ys:=b.2) (encY:=(DT 3)) rfl f AA AA (by first|(simp only[Sh.BE];done)|(simp only[Sh.BE];omega)|omega) (by decide) zA DA AA AA) ?_;refine Ac (FT (id:=0) (i:=e) (u:=(AP.mk a.from_ a.to b.2)) rfl AA AA) ?_;generalize hg903:Sh.put lg902 e (AP.mk a.from_ a.to b.2)=lg903 at d⊢;have x:=vI List.length hg903;simp only[Sh.BE]at x;refine AK AA (AR A (AE AA (AM 3 AA ?_)));exact AD (xi (b.1,Sh.w (e+1),lg903) d (by refine Wk.trans (Bf (L:=[(0,.own 0 0 (List.length p)),(1,i64 b.1),(5,i64 (Sh.w (e+1)))]) (st':=[⟨0,104,3,List.map (BO 106 3) lg903⟩]) [0] (.deep Bi .nil) ⟨.rfl,.rfl,.rfl,uM⟩) ?_;exact DY [(0,.own 0 0 (List.length lg903)),(1,i64 b.1),(5,i64 (Sh.w (e+1)))] ⟨(.len (by first|(simp only[Sh.BE];done)|(simp only[Sh.BE];omega)|omega)),.rfl,.rfl,uM⟩))
 ·exact Af (O o p (Bm d) _ Ag)
theorem UE {N:Nat}{zj:(List Step)->Int->Option (Int×(List Step))}(hrec_laws_markStepS :∀{s0:(List Step)} {p1:Int} {r:Int×(List Step)},zj s0 p1=some r->BH 85 (Vu s0 p1) [I0 s0] (i64 r.1) [I0 r.2]){s0:(List Block)}{p1:Int}{r:Int×(List Block)}(h0:Jw N zj s0 p1=some r):BH 150 (Vu s0 p1) [IT s0] (i64 r.1) [IT r.2]:=by
 unfold Jw at h0;refine Bb Tryz.func150 AA (AS AA (AB λI B=>AS AA (bs h0 λC d h0=>?_)));have J:∀A D,C=(A,D)->∀s,Wk 1 s ⟨27,AJ [(1,i64 A)],[IT D]⟩->I s:=by
  rintro A D rfl s K;refine B _ (AH K (AS AA ?_));cases h0;exact rt [(4,i64 A)]
 refine AI (Vl (FY zj) (λE f g=>⟨27,AJ [(0,ow 0 0 g),(1,i64 E),(5,i64 f)],[ro 0 48 2 (Bv 3 48 80) g]⟩) N p1 0 s0 d Ag ?_);intro n E f g d;rw[FY]at d;refine AB λM o=>Ab λO p=>AM 2 AA (zz (Dc g) (Ec aQ AA AA AA) rfl (AK AA (AR p ?_)));refine An d ?_ ?_<;>intro P d
 ·refine AG (o _ (AB λQ q=>AI (Ab λR t=>AM 2 AA (bs d λb e d=>zz (Vk f) (Ls Kq AA e) rfl (AK AA (Ac (J6 (id:=0) (j:=0) (i:=f) (c:=b) (ys:=b.steps) (encY:=(BV 3 48 80)) rfl e AA AA AA AA AA) (zz (ow 1 0 b.steps) (De R8 AA AA (Lc e) rfl) rfl (AK AA (bs d λa x d=>Gx (rowsP:=[⟨0,80,5,List.map (BV 3 48 80) b.steps⟩]) (rows0:=[⟨0,80,5,List.map (BV 3 48 80) b.steps⟩]) (rows1:=[mY a.2]) (rows2:=[]) (rows1':=[mY a.2]) (rows2':=[]) (st':=[⟨0,48,2,hole g (Bv 3 48 80) f [.own 1 0 (List.length b.steps),i64 b.result]⟩,mY a.2]) (v':=(i64 a.1)) [1] BJ (hb 85) (hrec_laws_markStepS x) rfl (by decide) rfl AA (.deep (AT AN) .nil) rfl AA (.deep (AT AN) .nil) .nil AA AA (λF=>?_))))))))));have H:List.length a.2=List.length b.steps:=by simpa only[uZ] using F 0 _ _ rfl rfl rfl
  refine Ac (Wk.take (id:=0) (m:=1) (j:=0) (i:=f) (c:=b) (ys:=a.2) (encY:=(BV 3 48 80)) rfl e AA AA (by first|(simp only[Sh.BE];done)|(simp only[Sh.BE];omega)|omega) (by decide) zA Le AA AA) ?_;refine Ac (FT (id:=0) (i:=f) (u:=(Block.mk a.2 b.result)) rfl AA AA) ?_;generalize hg901:Sh.put g f (Block.mk a.2 b.result)=lg901 at d⊢;have k:=vI List.length hg901;simp only[Sh.BE]at k;refine AK AA (AR t (Ab λS y=>AM 3 AA (bs d λz h d=>?_)));refine zz (.ptr 0 0 (Int.toNat f) 0) (L7 Kq AA AA AA (by first|(simp only[Sh.BE];done)|(simp only[Sh.BE];omega)|omega) h) rfl ?_;refine AK AA (N5 (u':=(Block.mk z.steps a.1)) BJ JR AA AA h AA AA AA (show 1+1<=2 by decide) rfl AA ?_);generalize hg902:Sh.put lg901 f (Block.mk z.steps a.1)=lg902 at d⊢;have l:=vI List.length hg902;simp only[Sh.BE]at l;refine AR y (AE AA (AM 3 AA (AR q (AE AA (AM 3 AA ?_)))));exact AD (xi (Sh.w (a.1+1),Sh.w (f+1),lg902) d (by refine Wk.trans (Bf (L:=[(0,.own 0 0 (List.length g)),(1,i64 (Sh.w (a.1+1))),(5,i64 (Sh.w (f+1)))]) (st':=[⟨0,48,2,List.map (Bv 3 48 80) lg902⟩]) [0] (.deep Bi .nil) ⟨.rfl,.rfl,.rfl,uM⟩) ?_;exact DY [(0,.own 0 0 (List.length lg902)),(1,i64 (Sh.w (a.1+1))),(5,i64 (Sh.w (f+1)))] ⟨(.len (by first|(simp only[Sh.BE];done)|(simp only[Sh.BE];omega)|omega)),.rfl,.rfl,uM⟩))
 ·exact Af (J E g (Bm d) _ Ag)
theorem Tk {N:Nat}{zj:(List Step)->Int->Option (Int×(List Step))}(hrec_laws_markStepS :∀{s0:(List Step)} {p1:Int} {r:Int×(List Step)},zj s0 p1=some r->BH 85 (Vu s0 p1) [I0 s0] (i64 r.1) [I0 r.2]){s0:(List Step)}{p1:Int}{r:Int×(List Step)}(h0:Ks N zj s0 p1=some r):BH 85 (Vu s0 p1) [I0 s0] (i64 r.1) [I0 r.2]:=by
 unfold Ks at h0;refine Bb Tryz.func85 AA (AS AA (AB λY S=>AS AA (bs h0 λT d h0=>?_)));have Z:∀R U,T=(R,U)->∀s,Wk 1 s ⟨48,AJ [(1,i64 R)],[I0 U]⟩->Y s:=by
  rintro R U rfl s hw;refine S _ (AH hw (AS AA ?_));cases h0;exact rt [(4,i64 R)]
 refine AI (Vl (FD N zj) (λq f z=>⟨48,AJ [(0,ow 0 0 z),(1,i64 q),(5,i64 f)],[ro 0 80 5 (BV 3 48 80) z]⟩) N p1 0 s0 d Ag ?_);intro n q f z d;rw[FD]at d;refine AB λb0 G=>Ab λb1 H=>AM 2 AA (zz (Dc z) (Ec tj AA AA AA) rfl (AK AA (AR H ?_)));refine An d ?_ ?_<;>intro b2 d
 ·refine AG (G _ (AB λb3 I=>AI (Ab λb4 J=>AM 3 AA (bs d λh t d=>zz (Vk f) (Ls Cb AA t) rfl (AK AA ?_)))));refine N5 (u':=(Step.mk q h.num h.BF h.args h.kids)) BJ JR AA AA t AA AA AA (show 0+1<=5 by decide) (by rw[CV,CV];rfl) rfl ?_;generalize hg901:Sh.put z f (Step.mk q h.num h.BF h.args h.kids)=lg901 at d⊢;have A:=vI List.length hg901;simp only[Sh.BE]at A;refine AR J (AS AA (Ab λb5 K=>AM 3 AA (bs d λk x d=>?_)));refine zz (.ptr 0 0 (Int.toNat f) 0) (L7 Cb AA AA AA (by first|(simp only[Sh.BE];done)|omega) x) rfl ?_;refine AK AA ?_;refine N5 (u':=(Step.mk k.op (Sh.w (q+1)) k.BF k.args k.kids)) BJ JR AA AA x AA AA AA (show 1+1<=5 by decide) (by rw[CV,CV];rfl) rfl ?_;generalize hg902:Sh.put lg901 f (Step.mk k.op (Sh.w (q+1)) k.BF k.args k.kids)=lg902 at d⊢;have B:=vI List.length hg902;simp only[Sh.BE]at B;refine AR K (AS AA (Ab λb6 M=>AM 3 AA (bs d λl y d=>?_)));refine zz (.ptr 0 0 (Int.toNat f) 0) (L7 Cb AA AA AA (by first|(simp only[Sh.BE];done)|omega) y) rfl ?_;refine AK AA ?_;refine N5 (u':=(Step.mk l.op l.num (Sh.w ((Sh.w (q+1))+1)) l.args l.kids)) BJ JR AA AA y AA AA AA (show 2+1<=5 by decide) (by rw[CV,CV];rfl) rfl ?_;generalize hg903:Sh.put lg902 f (Step.mk l.op l.num (Sh.w ((Sh.w (q+1))+1)) l.args l.kids)=lg903 at d⊢;have C:=vI List.length hg903;simp only[Sh.BE]at C;refine AR M (AS AA (Ab λb7 O=>AM 2 AA (bs d λa o d=>?_)));refine zz (.ptr 0 0 (Int.toNat f) 0) (L7 Cb AA AA AA (by first|(simp only[Sh.BE];done)|omega) o) rfl ?_;refine AK AA (Ac (J6 (id:=0) (j:=3) (i:=f) (c:=a) (ys:=a.args) (encY:=eI) rfl o (CV _) rfl AA AA AA) (zz (ow 1 0 a.args) (De Kl AA AA (Lc o) rfl) rfl (AK AA (bs d λg P d=>Gx (rowsP:=[⟨0,3,1,List.map eI a.args⟩]) (rows0:=[⟨0,3,1,List.map eI a.args⟩]) (rows1:=[QR g.2]) (rows2:=[]) (rows1':=[QR g.2]) (rows2':=[]) (st':=[⟨0,80,5,hole lg903 (BV 3 48 80) f [i64 a.op,i64 a.num,i64 a.BF,.own 1 0 (List.length a.args),.dv 48 2 (List.map (Bv 3 48 80) a.kids)]⟩,QR g.2]) (v':=(i64 g.1)) [1] BJ (hb 84) (Ko P) rfl (by decide) rfl AA (.pure BB .nil) rfl AA (.pure BB .nil) .nil AA AA (λD=>?_)))));have W:List.length g.2=List.length a.args:=by simpa only[uZ] using D 0 _ _ rfl rfl rfl
  refine Ac (Wk.take (id:=0) (m:=1) (j:=3) (i:=f) (c:=a) (ys:=g.2) (encY:=eI) rfl o AA AA (by first|(simp only[Sh.BE];done)|(simp only[Sh.BE];omega)|omega) (by decide) zA DA AA AA) ?_;refine Ac (FT (id:=0) (i:=f) (u:=(Step.mk a.op a.num a.BF g.2 a.kids)) rfl (CV (Step.mk a.op a.num a.BF g.2 a.kids)).symm AA) ?_;generalize hg904:Sh.put lg903 f (Step.mk a.op a.num a.BF g.2 a.kids)=lg904 at d⊢;have E:=vI List.length hg904;simp only[Sh.BE]at E;refine AK AA (AR O (AE AA (AM 2 AA (bs d λb p d=>?_))));refine zz (.ptr 0 0 (Int.toNat f) 0) (L7 Cb AA AA AA (by first|(simp only[Sh.BE];done)|(simp only[Sh.BE];omega)|omega) p) rfl ?_;refine AK AA (Ac (J6 (id:=0) (j:=4) (i:=f) (c:=b) (ys:=b.kids) (encY:=(Bv 3 48 80)) rfl p (CV _) rfl AA AA AA) (zz (ow 2 0 b.kids) (De fz AA AA (Lc p) rfl) rfl (AK AA (bs d λe Q d=>Gx (rowsP:=[⟨0,48,2,List.map (Bv 3 48 80) b.kids⟩]) (rows0:=[⟨0,48,2,List.map (Bv 3 48 80) b.kids⟩]) (rows1:=[⟨0,48,2,List.map (Bv 3 48 80) e.2⟩]) (rows2:=[]) (rows1':=[⟨0,48,2,List.map (Bv 3 48 80) e.2⟩]) (rows2':=[]) (st':=[⟨0,80,5,hole lg904 (BV 3 48 80) f [i64 b.op,i64 b.num,i64 b.BF,.dv 3 1 (List.map eI b.args),.own 2 0 (List.length b.kids)]⟩,⟨1,3,1,[]⟩,⟨0,48,2,List.map (Bv 3 48 80) e.2⟩]) (v':=(i64 e.1)) [2] BJ (hb 150) (UE hrec_laws_markStepS Q) rfl (by decide) rfl AA (.deep Bi .nil) rfl AA (.deep Bi .nil) .nil AA AA (λD=>?_)))));have X:List.length e.2=List.length b.kids:=by simpa only[uZ] using D 0 _ _ rfl rfl rfl
  refine Ac (Wk.take (id:=0) (m:=2) (j:=4) (i:=f) (c:=b) (ys:=e.2) (encY:=(Bv 3 48 80)) rfl p AA AA (by first|(simp only[Sh.BE];done)|(simp only[Sh.BE];omega)|omega) (by decide) (show 1<=2 by decide) DA AA AA) ?_;refine Ac (FT (id:=0) (i:=f) (u:=(Step.mk b.op b.num b.BF b.args e.2)) rfl (CV (Step.mk b.op b.num b.BF b.args e.2)).symm AA) ?_;generalize hg905:Sh.put lg904 f (Step.mk b.op b.num b.BF b.args e.2)=lg905 at d⊢;have F:=vI List.length hg905;simp only[Sh.BE]at F;refine AK AA (AR I (AE AA (AM 3 AA ?_)));exact AD (xi (e.1,Sh.w (f+1),lg905) d (by refine Wk.trans (Bf (L:=[(0,.own 0 0 (List.length z)),(1,i64 e.1),(5,i64 (Sh.w (f+1)))]) (st':=[⟨0,80,5,List.map (BV 3 48 80) lg905⟩]) [0] (.deep (AT AN) .nil) ⟨.rfl,.rfl,.rfl,uM⟩) ?_;exact DY [(0,.own 0 0 (List.length lg905)),(1,i64 e.1),(5,i64 (Sh.w (f+1)))] ⟨(.len (by first|(simp only[Sh.BE];done)|(simp only[Sh.BE];omega)|omega)),.rfl,.rfl,uM⟩))
 ·exact Af (Z q z (Bm d) _ Ag)
theorem TI {N:Nat}:∀(n:Nat),∀{s0:(List Step)} {p1:Int} {r:Int×(List Step)},Ex N n s0 p1=some r->BH 85 (Vu s0 p1) [I0 s0] (i64 r.1) [I0 r.2]:=by
 intro n
 induction n with
 | zero=>intro s0 p1 r a;cases a
 | succ n ih=>
  intro s0 p1 r a;rw[Ex]at a;exact Tk (λh=>ih h) a
theorem VM {N:Nat}:∀{s0:(List Step)} {p1:Int} {r:Int×(List Step)},MR N s0 p1=some r->BH 85 (Vu s0 p1) [I0 s0] (i64 r.1) [I0 r.2]:=by
 intro s0 p1 r a;exact TI N a
theorem Sa {N:Nat}{s0:(List Ad)}{p1:Int}{r:Int×(List Ad)}(h0:Il N s0 p1=some r):BH 39 (Vu s0 p1) [NU s0] (i64 r.1) [NU r.2]:=by
 unfold Il at h0;refine Bb Tryz.func39 AA (AS AA (AB λK2 U=>AS AA (bs h0 λV e h0=>?_)));have M9:∀T W,V=(T,W)->∀s,Wk 1 s ⟨50,AJ [(1,i64 T)],[NU W]⟩->K2 s:=by
  rintro T W rfl s hw;refine U _ (AH hw (AS AA ?_));cases h0;exact rt [(4,i64 T)]
 refine AI (Vl (Es N) (λX f y=>⟨50,AJ [(0,ow 0 0 y),(1,i64 X),(5,i64 f)],[ro 0 50 5 (BD 3 3 3 48 80) y]⟩) N p1 0 s0 e Ag ?_);intro n X f y e;rw[Es]at e;refine AB λb2 G=>Ab λb3 H=>AM 2 AA (zz (Dc y) (Ec tn AA AA AA) rfl (AK AA (AR H ?_)));refine An e ?_ ?_<;>intro b4 e
 ·refine AG (G _ (AB λb5 I=>AI (Ab λb6 J=>AM 2 AA (bs e λb o e=>zz (Vk f) (Ls Hg AA o) rfl (AK AA (Ac (J6 (id:=0) (j:=0) (i:=f) (c:=b) (ys:=b.params) (encY:=eI) rfl o AA AA AA AA AA) (zz (ow 1 0 b.params) (De Kl AA AA (Lc o) rfl) rfl (AK AA (bs e λk K e=>Gx (rowsP:=[QR b.params]) (rows0:=[QR b.params]) (rows1:=[QR k.2]) (rows2:=[]) (rows1':=[QR k.2]) (rows2':=[]) (st':=[⟨0,50,5,hole y (BD 3 3 3 48 80) f [.own 1 0 (List.length b.params),.dv 3 1 (List.map eI b.Aq),i64 b.result,.dv 80 5 (List.map (BV 3 48 80) b.body.steps),i64 b.body.result]⟩,QR k.2]) (v':=(i64 k.1)) [1] BJ (hb 84) (Ko K) rfl (by decide) rfl AA (.pure BB .nil) rfl AA (.pure BB .nil) .nil AA AA (λx=>?_))))))))));have Z:List.length k.2=List.length b.params:=by simpa only[uZ] using x 0 _ _ rfl rfl rfl
  refine Ac (Wk.take (id:=0) (m:=1) (j:=0) (i:=f) (c:=b) (ys:=k.2) (encY:=eI) rfl o AA AA (by first|(simp only[Sh.BE];done)|(simp only[Sh.BE];omega)|omega) (by decide) zA DA AA AA) ?_;refine Ac (FT (id:=0) (i:=f) (u:=(Ad.mk k.2 b.Aq b.result b.body)) rfl AA AA) ?_;generalize hg901:Sh.put y f (Ad.mk k.2 b.Aq b.result b.body)=lg901 at e⊢;have B:=vI List.length hg901;simp only[Sh.BE]at B;refine AK AA (AR J (Ab λb7 M=>AM 2 AA (bs e λd p e=>?_)));refine zz (.ptr 0 0 (Int.toNat f) 0) (L7 Hg AA AA AA (by first|(simp only[Sh.BE];done)|(simp only[Sh.BE];omega)|omega) p) rfl ?_;refine AK AA (Ac (J6 (id:=0) (j:=1) (i:=f) (c:=d) (ys:=d.Aq) (encY:=eI) rfl p AA AA AA AA AA) (zz (ow 2 0 d.Aq) (De Kl AA AA (Lc p) rfl) rfl (AK AA (bs e λh O e=>Gx (rowsP:=[QR d.Aq]) (rows0:=[QR d.Aq]) (rows1:=[QR h.2]) (rows2:=[]) (rows1':=[QR h.2]) (rows2':=[]) (st':=[⟨0,50,5,hole lg901 (BD 3 3 3 48 80) f [.dv 3 1 (List.map eI d.params),.own 2 0 (List.length d.Aq),i64 d.result,.dv 80 5 (List.map (BV 3 48 80) d.body.steps),i64 d.body.result]⟩,⟨1,3,1,[]⟩,QR h.2]) (v':=(i64 h.1)) [2] BJ (hb 84) (Ko O) rfl (by decide) rfl AA (.pure BB .nil) rfl AA (.pure BB .nil) .nil AA AA (λx=>?_)))));have b0:List.length h.2=List.length d.Aq:=by simpa only[uZ] using x 0 _ _ rfl rfl rfl
  refine Ac (Wk.take (id:=0) (m:=2) (j:=1) (i:=f) (c:=d) (ys:=h.2) (encY:=eI) rfl p AA AA (by first|(simp only[Sh.BE];done)|(simp only[Sh.BE];omega)|omega) (by decide) (show 1<=2 by decide) DA AA AA) ?_;refine Ac (FT (id:=0) (i:=f) (u:=(Ad.mk d.params h.2 d.result d.body)) rfl AA AA) ?_;generalize hg902:Sh.put lg901 f (Ad.mk d.params h.2 d.result d.body)=lg902 at e⊢;have C:=vI List.length hg902;simp only[Sh.BE]at C;refine AK AA (AR M (Ab λb8 P=>AM 3 AA (bs e λt z e=>?_)));refine zz (.ptr 0 0 (Int.toNat f) 0) (L7 Hg AA AA AA (by first|(simp only[Sh.BE];done)|(simp only[Sh.BE];omega)|omega) z) rfl ?_;refine AK AA (N5 (u':=(Ad.mk t.params t.Aq h.1 t.body)) BJ JR AA AA z AA AA AA (show 2+1<=5 by decide) rfl AA ?_);generalize hg903:Sh.put lg902 f (Ad.mk t.params t.Aq h.1 t.body)=lg903 at e⊢;have D:=vI List.length hg903;simp only[Sh.BE]at D;refine AR P (AS AA (Ab λb9 Q=>AM 2 AA (bs e λa q e=>?_)));refine zz (.ptr 0 0 (Int.toNat f) 0) (L7 Hg AA AA AA (by first|(simp only[Sh.BE];done)|(simp only[Sh.BE];omega)|omega) q) rfl ?_;refine AM 2 AA (Ac (J6 (id:=0) (j:=3) (i:=f) (c:=a) (ys:=a.body.steps) (encY:=(BV 3 48 80)) rfl q AA AA AA AA AA) (zz (ow 3 0 a.body.steps) (De R8 AA AA (Lc q) rfl) rfl (AK AA (bs e λg R e=>Gx (rowsP:=[⟨0,80,5,List.map (BV 3 48 80) a.body.steps⟩]) (rows0:=[⟨0,80,5,List.map (BV 3 48 80) a.body.steps⟩]) (rows1:=[mY g.2]) (rows2:=[]) (rows1':=[mY g.2]) (rows2':=[]) (st':=(⟨0,50,5,hole lg903 (BD 3 3 3 48 80) f [.dv 3 1 (List.map eI a.params),.dv 3 1 (List.map eI a.Aq),i64 a.result,.own 3 0 (List.length a.body.steps),i64 a.body.result]⟩::Y9 [mY g.2])) (v':=(i64 g.1)) [3] BJ (hb 85) (VM R) rfl (by decide) rfl AA (.deep (AT AN) .nil) rfl AA (.deep (AT AN) .nil) .nil AA AA (λx=>?_)))));have b1:List.length g.2=List.length a.body.steps:=by simpa only[uZ] using x 0 _ _ rfl rfl rfl
  refine Ac (Wk.take (id:=0) (m:=3) (j:=3) (i:=f) (c:=a) (ys:=g.2) (encY:=(BV 3 48 80)) rfl q AA AA (by first|(simp only[Sh.BE];done)|(simp only[Sh.BE];omega)|omega) (by decide) (show 1<=3 by decide) Le AA AA) ?_;refine Ac (FT (id:=0) (i:=f) (u:=(Ad.mk a.params a.Aq a.result (Block.mk g.2 a.body.result))) rfl AA AA) ?_;generalize hg904:Sh.put lg903 f (Ad.mk a.params a.Aq a.result (Block.mk g.2 a.body.result))=lg904 at e⊢;have E:=vI List.length hg904;simp only[Sh.BE]at E;refine AK AA (AR Q (Ab λc0 S=>AM 3 AA (bs e λl A e=>?_)));refine zz (.ptr 0 0 (Int.toNat f) 0) (L7 Hg AA AA AA (by first|(simp only[Sh.BE];done)|(simp only[Sh.BE];omega)|omega) A) rfl ?_;refine AM 2 AA (N5 (u':=(Ad.mk l.params l.Aq l.result (Block.mk l.body.steps g.1))) BJ JR AA AA A AA AA AA (show 4+1<=5 by decide) rfl AA ?_);generalize hg905:Sh.put lg904 f (Ad.mk l.params l.Aq l.result (Block.mk l.body.steps g.1))=lg905 at e⊢;have F:=vI List.length hg905;simp only[Sh.BE]at F;refine AR S (AE AA (AM 3 AA (AR I (AE AA (AM 3 AA ?_)))));exact AD (xi (Sh.w (g.1+1),Sh.w (f+1),lg905) e (by refine Wk.trans (Bf (L:=[(0,.own 0 0 (List.length y)),(1,i64 (Sh.w (g.1+1))),(5,i64 (Sh.w (f+1)))]) (st':=[⟨0,50,5,List.map (BD 3 3 3 48 80) lg905⟩]) [0] (.deep Bi .nil) ⟨.rfl,.rfl,.rfl,uM⟩) ?_;exact DY [(0,.own 0 0 (List.length lg905)),(1,i64 (Sh.w (g.1+1))),(5,i64 (Sh.w (f+1)))] ⟨(.len (by first|(simp only[Sh.BE];done)|(simp only[Sh.BE];omega)|omega)),.rfl,.rfl,uM⟩))
 ·exact Af (M9 X y (Bm e) _ Ag)
theorem Om {N:Nat}{s0:(List AP)}{s1:(List Ad)}{p1:Int}{r:Int×(List AP)×(List Ad)}(h0:IP N s0 s1 p1=some r):BH 12 [.agg (ma s0 s1),i64 p1] [JB s0,NU s1] (i64 r.1) [JB r.2.1,NU r.2.2]:=by
 unfold IP at h0;refine Bb Tryz.func12 AA (Ab λk f=>CY 2 AA (AK AA (AR f (Ab λl g=>AM 3 AA (bs h0 λb h h0=>Gx (rowsP:=[TH s0]) (rows0:=[TH s0]) (rows1:=[TH b.2]) (rows2:=[]) (rows1':=[TH b.2]) (rows2':=[]) (st':=[TH b.2,Um s1,⟨0,30,2,[[.own 0 0 (List.length s0),.own 1 0 (List.length s1)]]⟩]) (v':=(i64 b.1)) [0] BJ (hb 38) (VW h) rfl (by decide) rfl AA (.deep Bi .nil) rfl AA (.deep Bi .nil) .nil AA AA (λc=>?_))))));have d:List.length b.2=List.length s0:=by simpa only[uZ] using c 0 _ _ rfl rfl rfl
 refine AK AA (AR g (Ab λn i=>AM 3 AA (bs h0 λa j h0=>Gx (rowsP:=[Um s1]) (rows0:=[Um s1]) (rows1:=[Um a.2]) (rows2:=[]) (rows1':=[Um a.2]) (rows2':=[]) (st':=[TH b.2,Um a.2,⟨0,30,2,[[.own 0 0 (List.length s0),.own 1 0 (List.length s1)]]⟩]) (v':=(i64 a.1)) [1] BJ (hb 39) (Sa j) rfl (by decide) rfl AA (.deep Bi .nil) rfl AA (.deep Bi .nil) .nil AA AA (λc=>?_))));have e:List.length a.2=List.length s1:=by simpa only[uZ] using c 0 _ _ rfl rfl rfl
 refine AK AA (AR i (AS AA ?_));cases h0;exact BP ⟨_,(((Fj (st:=[⟨0,104,3,List.map (BO 106 3) b.2⟩,⟨0,50,5,List.map (BD 3 3 3 48 80) a.2⟩,⟨0,30,2,[[.own 0 0 (List.length s0),.own 1 0 (List.length s1)]]⟩]) (st':=[⟨0,104,3,List.map (BO 106 3) b.2⟩,⟨0,50,5,List.map (BD 3 3 3 48 80) a.2⟩,⟨0,30,2,[[.own 0 0 (List.length b.2),.own 1 0 (List.length a.2)]]⟩]) (by first|(simp only[Sh.BE];done)|simp only[Sh.BE,d,e]|simp only[d,e])).trans (Bf (L:=[(4,i64 a.1)]) (st':=[⟨0,104,3,List.map (BO 106 3) b.2⟩,⟨0,50,5,List.map (BD 3 3 3 48 80) a.2⟩]) [0,1] (.deep Bi (.deep Bi .nil)) ⟨.rfl,uM⟩)).trans (DY [(4,i64 a.1)] ⟨.rfl,uM⟩)),And.intro AA AA⟩
theorem Kj {N:Nat}{p0:(List Int)}{p1 r:Int}(h0:Hd N p0 p1=some r):BH 87 (Yd p0 p1) [] (i64 r) []:=by
 unfold Hd at h0;refine Bb Tryz.func87 AA (AS AA (AB λq k=>AS AA ?_));obtain⟨l,a,h0⟩:=Sh.BG h0;have t:∀{j},JJ l (.inr j) ⟨21,AJ [(1,i64 j)],[]⟩ q:=by
  rintro j ⟨⟩ s u;try dsimp only at h0
  refine k _ (AH u (AS AA ?_));obtain rfl:=Sh.Av h0;exact rt [(4,i64 j)]
 refine AI (Fh (Gk p0) (λb m=>⟨21,AJ [(0,ls eI p0),(1,i64 b),(5,i64 m)],[]⟩) N p1 0 a Ag ?_);intro n b m a;rw[Gk]at a;refine AB λF o=>Ab λx c=>AM 2 AA (Bd AA (AK AA (AR c ?_)));refine An a ?_ ?_<;>intro y a
 ·refine AG (o _ (AB λz d=>AI (AB λA e=>Ab λB f=>AM 2 AA (bs a λg h a=>DI Ay h AA (AM 3 AA (AR f ?_))))));refine An a ?_ ?_<;>intro i a
  ·have C:decide (g=b)=false:=by simpa using i
   refine AS AA ?_;cases a;cases h0;exact rt [(4,i64 (-1))]
  ·have D:decide (g=b)=true:=by simpa using i
   exact AG (e _ (AE AA (AM 3 AA (AR d (AE AA (AM 3 AA (AD (xi (Sh.w (b+1),Sh.w (m+1)) a Ag))))))))
 ·exact Af (t a Ag)
theorem Vj {N:Nat}{p0:(List Bw)}{p1 r:Int}(h0:LA N p0 p1=some r):BH 86 [ls By p0,i64 p1] [] (i64 r) []:=by
 unfold LA at h0;refine Bb Tryz.func86 AA (AS AA (AB λp h=>AS AA ?_));obtain⟨i,a,h0⟩:=Sh.BG h0;have q:∀{g},JJ i (.inr g) ⟨22,AJ [(1,i64 g)],[]⟩ p:=by
  rintro g ⟨⟩ s t;try dsimp only at h0
  refine h _ (AH t (AS AA ?_));obtain rfl:=Sh.Av h0;exact rt [(4,i64 g)]
 refine AI (Fh (Gu N p0) (λj k=>⟨22,AJ [(0,ls By p0),(1,i64 j),(5,i64 k)],[]⟩) N p1 0 a Ag ?_);intro n j k a;rw[Gu]at a;refine AB λD l=>Ab λu b=>AM 2 AA (Bd AA (AK AA (AR b ?_)));refine An a ?_ ?_<;>intro x a
 ·refine AG (l _ (AB λy c=>AI (Ab λz d=>AM 2 AA (bs a λA e a=>DI Jl e AA (AM 3 AA (bs a λm f a=>CR (hb 87) (Kj f) rfl (AK AA (AR d (AS AA ?_)))))))));refine An a ?_ ?_<;>intro B a
  ·refine AS AA ?_;cases a;cases h0;exact rt [(4,i64 (-1))]
  ·exact AG (c _ (AE AA (AM 3 AA (AD (xi (m,Sh.w (k+1)) a Ag)))))
 ·exact Af (q a Ag)
theorem VK {N:Nat}{p0:(List AP)}{p1 r:Int}(h0:KT N p0 p1=some r):BH 40 (Xe p0 p1) [] (i64 r) []:=by
 unfold KT at h0;refine Bb Tryz.func40 AA (AS AA (AB λA q=>AS AA ?_));obtain⟨t,a,h0⟩:=Sh.BG h0;have B:∀{p},JJ t (.inr p) ⟨40,AJ [(1,i64 p)],[]⟩ A:=by
  rintro p ⟨⟩ s C;try dsimp only at h0
  refine q _ (AH C (AS AA ?_));obtain rfl:=Sh.Av h0;exact rt [(4,i64 p)]
 refine AI (Fh (GB N p0) (λd u=>⟨40,AJ [(0,ls Ai p0),(1,i64 d),(5,i64 u)],[]⟩) N p1 0 a Ag ?_);intro n d u a;rw[GB]at a;refine AB λS x=>Ab λD e=>AM 2 AA (Bd AA (AK AA (AR e ?_)));refine An a ?_ ?_<;>intro E a
 ·refine AG (x _ (AB λF f=>AI (AB λG g=>Ab λH h=>AM 2 AA (bs a λc b a=>DI EZ b AA (AM 4 AA (AR h ?_))))));refine An a ?_ ?_<;>intro i a
  ·have I:decide (c.from_=d)=false:=by simpa using i
   refine AS AA ?_;cases a;cases h0;exact rt [(4,i64 (-1))]
  ·have J:decide (c.from_=d)=true:=by simpa using i
   refine AG (g _ (AS AA (AB λK j=>Ab λL k=>AM 2 AA (DI EZ b AA (AM 4 AA (AR k ?_))))));refine An a ?_ ?_<;>intro l a
   ·have M:decide (c.to=(Sh.w (d+1)))=false:=by simpa using l
    refine AS AA ?_;cases a;cases h0;exact rt [(4,i64 (-1))]
   ·have O:decide (c.to=(Sh.w (d+1)))=true:=by simpa using l
    refine AG (j _ (AS AA (Ab λP m=>AM 2 AA (DI EZ b AA (AM 3 AA (bs a λy o a=>CR (hb 86) (Vj o) rfl (AK AA (AR m (AS AA ?_)))))))));refine An a ?_ ?_<;>intro Q a
    ·refine AS AA ?_;cases a;cases h0;exact rt [(4,i64 (-1))]
    ·exact AG (f _ (AE AA (AM 3 AA (AD (xi (y,Sh.w (u+1)) a Ag)))))
 ·exact Af (B a Ag)
theorem UM {N:Nat}{zk:(List Step)->Int->Option (Int)}(hrec_laws_heldStepS :∀{p0:(List Step)} {p1:Int} {r:Int},zk p0 p1=some r->BH 88 (Yc p0 p1) [] (i64 r) []){p0:(List Block)}{p1 r:Int}(h0:Jq N zk p0 p1=some r):BH 151 [ls BS p0,i64 p1] [] (i64 r) []:=by
 unfold Jq at h0;refine Bb Tryz.func151 AA (AS AA (AB λy o=>AS AA ?_));obtain⟨p,a,h0⟩:=Sh.BG h0;have z:∀{m},JJ p (.inr m) ⟨31,AJ [(1,i64 m)],[]⟩ y:=by
  rintro m ⟨⟩ s A;try dsimp only at h0
  refine o _ (AH A (AS AA ?_));obtain rfl:=Sh.Av h0;exact rt [(4,i64 m)]
 refine AI (Fh (Fa p0 zk) (λq t=>⟨31,AJ [(0,ls BS p0),(1,i64 q),(5,i64 t)],[]⟩) N p1 0 a Ag ?_);intro n q t a;rw[Fa]at a;refine AB λM u=>Ab λB d=>AM 2 AA (Bd AA (AK AA (AR d ?_)));refine An a ?_ ?_<;>intro C a
 ·refine AG (u _ (AB λD e=>AI (Ab λE f=>AM 2 AA (bs a λg b a=>DI Kq b AA (AM 3 AA (bs a λc h a=>CR (hb 88) (hrec_laws_heldStepS h) rfl (AK AA (AR f (AB λF i=>AS AA ?_)))))))));refine An a ?_ ?_<;>intro G a
  ·refine AS AA ?_;cases a;cases h0;exact rt [(4,i64 (-1))]
  ·refine AG (i _ (AB λH j=>Ab λI k=>AM 2 AA (DI Kq b AA (AM 4 AA (AR k ?_)))));refine An a ?_ ?_<;>intro l a
   ·have J:decide (g.result=c)=false:=by simpa using l
    refine AS AA ?_;cases a;cases h0;exact rt [(4,i64 (-1))]
   ·have K:decide (g.result=c)=true:=by simpa using l
    exact AG (j _ (AE AA (AM 3 AA (AR e (AE AA (AM 3 AA (AD (xi (Sh.w (c+1),Sh.w (t+1)) a Ag))))))))
 ·exact Af (z a Ag)
theorem Tq {N:Nat}{zk:(List Step)->Int->Option (Int)}(hrec_laws_heldStepS :∀{p0:(List Step)} {p1:Int} {r:Int},zk p0 p1=some r->BH 88 (Yc p0 p1) [] (i64 r) []){p0:(List Step)}{p1 r:Int}(h0:Kh N zk p0 p1=some r):BH 88 (Yc p0 p1) [] (i64 r) []:=by
 unfold Kh at h0;refine Bb Tryz.func88 AA (AS AA (AB λG A=>AS AA ?_));obtain⟨B,a,h0⟩:=Sh.BG h0;have H:∀{z},JJ B (.inr z) ⟨58,AJ [(1,i64 z)],[]⟩ G:=by
  rintro z ⟨⟩ s I;try dsimp only at h0
  refine A _ (AH I (AS AA ?_));obtain rfl:=Sh.Av h0;exact rt [(4,i64 z)]
 refine AI (Fh (FO N p0 zk) (λd C=>⟨58,AJ [(0,ls Ba p0),(1,i64 d),(5,i64 C)],[]⟩) N p1 0 a Ag ?_);intro n d C a;rw[FO]at a;refine AB λK9 D=>Ab λJ e=>AM 2 AA (Bd AA (AK AA (AR e ?_)));refine An a ?_ ?_<;>intro K a
 ·refine AG (D _ (AB λL f=>AI (AB λM g=>Ab λO h=>AM 2 AA (bs a λb c a=>zz (H4 b) (E1 Cb AA AA c (CE _) rfl) rfl (AM 4 AA (AR h ?_))))));refine An a ?_ ?_<;>intro i a
  ·have P:decide (b.op=d)=false:=by simpa using i
   refine AS AA ?_;cases a;cases h0;exact rt [(4,i64 (-1))]
  ·have Q:decide (b.op=d)=true:=by simpa using i
   refine AG (g _ (AS AA (AB λR j=>Ab λS k=>AM 2 AA (zz (H4 b) (E1 Cb AA AA c (CE _) rfl) rfl (AM 4 AA (AR k ?_))))));refine An a ?_ ?_<;>intro l a
   ·have T:decide (b.num=(Sh.w (d+1)))=false:=by simpa using l
    refine AS AA ?_;cases a;cases h0;exact rt [(4,i64 (-1))]
   ·have U:decide (b.num=(Sh.w (d+1)))=true:=by simpa using l
    refine AG (j _ (AS AA (AB λV m=>Ab λW o=>AM 2 AA (zz (H4 b) (E1 Cb AA AA c (CE _) rfl) rfl (AM 4 AA (AR o ?_))))));refine An a ?_ ?_<;>intro p a
    ·have X:decide (b.BF=(Sh.w ((Sh.w (d+1))+1)))=false:=by simpa using p
     refine AS AA ?_;cases a;cases h0;exact rt [(4,i64 (-1))]
    ·have Y:decide (b.BF=(Sh.w ((Sh.w (d+1))+1)))=true:=by simpa using p
     refine AG (m _ (AS AA (Ab λZ q=>AM 2 AA (zz (H4 b) (E1 Cb AA AA c (CE _) rfl) rfl (AM 3 AA (bs a λb0 t a=>CR (hb 87) (Kj t) rfl (AK AA (AR q (AB λb1 u=>AS AA ?_)))))))));refine An a ?_ ?_<;>intro b2 a
     ·refine AS AA ?_;cases a;cases h0;exact rt [(4,i64 (-1))]
     ·refine AG (u _ (Ab λb3 x=>AM 2 AA (zz (H4 b) (E1 Cb AA AA c (CE _) rfl) rfl (AM 3 AA (bs a λE y a=>CR (hb 151) (UM hrec_laws_heldStepS y) rfl (AK AA (AR x (AS AA ?_))))))));refine An a ?_ ?_<;>intro b4 a
      ·refine AS AA ?_;cases a;cases h0;exact rt [(4,i64 (-1))]
      ·exact AG (f _ (AE AA (AM 3 AA (AD (xi (E,Sh.w (C+1)) a Ag)))))
 ·exact Af (H a Ag)
theorem S6 {N:Nat}:∀(n:Nat),∀{p0:(List Step)} {p1:Int} {r:Int},E0 N n p0 p1=some r->BH 88 (Yc p0 p1) [] (i64 r) []:=by
 intro n
 induction n with
 | zero=>intro p0 p1 r a;cases a
 | succ n ih=>
  intro p0 p1 r a;rw[E0]at a;exact Tq (λh=>ih h) a
theorem Uk {N:Nat}:∀{p0:(List Step)} {p1:Int} {r:Int},MB N p0 p1=some r->BH 88 (Yc p0 p1) [] (i64 r) []:=by
 intro p0 p1 r a;exact S6 N a
theorem SJ {N:Nat}{p0:(List Ad)}{p1 r:Int}(h0:Ig N p0 p1=some r):BH 41 [ls Al p0,i64 p1] [] (i64 r) []:=by
 unfold Ig at h0;refine Bb Tryz.func41 AA (AS AA (AB λI C=>AS AA ?_));obtain⟨D,a,h0⟩:=Sh.BG h0;have J:∀{B},JJ D (.inr B) ⟨60,AJ [(1,i64 B)],[]⟩ I:=by
  rintro B ⟨⟩ s K;try dsimp only at h0
  refine C _ (AH K (AS AA ?_));obtain rfl:=Sh.Av h0;exact rt [(4,i64 B)]
 refine AI (Fh (Ew N p0) (λE F=>⟨60,AJ [(0,ls Al p0),(1,i64 E),(5,i64 F)],[]⟩) N p1 0 a Ag ?_);intro n E F a;rw[Ew]at a;refine AB λK9 G=>Ab λL e=>AM 2 AA (Bd AA (AK AA (AR e ?_)));refine An a ?_ ?_<;>intro M a
 ·refine AG (G _ (AB λO f=>AI (Ab λP g=>AM 2 AA (bs a λc b a=>DI Hg b AA (AM 3 AA (bs a λQ h a=>CR (hb 87) (Kj h) rfl (AK AA (AR g (AB λR i=>AS AA ?_)))))))));refine An a ?_ ?_<;>intro S a
  ·refine AS AA ?_;cases a;cases h0;exact rt [(4,i64 (-1))]
  ·refine AG (i _ (Ab λT j=>AM 2 AA (DI Hg b AA (AM 3 AA (bs a λk l a=>CR (hb 87) (Kj l) rfl (AK AA (AR j (AB λU m=>AS AA ?_))))))));refine An a ?_ ?_<;>intro V a
   ·refine AS AA ?_;cases a;cases h0;exact rt [(4,i64 (-1))]
   ·refine AG (m _ (AB λW o=>Ab λX p=>AM 2 AA (DI Hg b AA (AM 4 AA (AR p ?_)))));refine An a ?_ ?_<;>intro q a
    ·have Y:decide (c.result=k)=false:=by simpa using q
     refine AS AA ?_;cases a;cases h0;exact rt [(4,i64 (-1))]
    ·have Z:decide (c.result=k)=true:=by simpa using q
     refine AG (o _ (AS AA (Ab λb0 t=>AM 2 AA (DI Hg b AA (AM 4 AA (bs a λd u a=>CR (hb 88) (Uk u) rfl (AK AA (AR t (AB λb1 x=>AS AA ?_)))))))));refine An a ?_ ?_<;>intro b2 a
     ·refine AS AA ?_;cases a;cases h0;exact rt [(4,i64 (-1))]
     ·refine AG (x _ (AB λb3 y=>Ab λb4 z=>AM 2 AA (DI Hg b AA (AM 5 AA (AR z ?_)))));refine An a ?_ ?_<;>intro A a
      ·have b5:decide (c.body.result=d)=false:=by simpa using A
       refine AS AA ?_;cases a;cases h0;exact rt [(4,i64 (-1))]
      ·have b6:decide (c.body.result=d)=true:=by simpa using A
       exact AG (y _ (AE AA (AM 3 AA (AR f (AE AA (AM 3 AA (AD (xi (Sh.w (d+1),Sh.w (F+1)) a Ag))))))))
 ·exact Af (J a Ag)
theorem Oy {N:Nat}{p0:AL}{p1 r:Int}(h0:IN N p0 p1=some r):BH 13 [Gz p0,i64 p1] [] (i64 r) []:=by
 unfold IN at h0;refine Bb Tryz.func13 AA (Ab λk b=>CY 0 AA (AK AA (AR b (Ab λl c=>AM 3 AA (bs h0 λn d h0=>CR (hb 40) (VK d) rfl (AK AA (AR c (AB λo e=>AS AA ?_))))))));refine An h0 ?_ ?_<;>intro p h0
 ·refine AS AA ?_;cases h0;exact rd [(4,i64 (-1))]
 ·refine AG (e _ (Ab λq f=>AM 3 AA (bs h0 λh g h0=>CR (hb 41) (SJ g) rfl (AK AA (AR f (AB λi a=>AS AA ?_))))));refine An h0 ?_ ?_<;>intro j h0
  ·refine AS AA ?_;obtain rfl:=Sh.Av h0;exact rd [(4,i64 (-1))]
  ·refine AG (a _ (AS AA ?_));obtain rfl:=Sh.Av h0;exact rd [(4,i64 h)]
theorem SP {N:Nat}{p0:AL}{r:Bool}(h0:KB N p0=some r):BH 3 [Gz p0] [] (.bool r) []:=by
 unfold KB at h0;refine Bb Tryz.func3 AA (Ab λK1 d5=>CY 0 AA (AK AA (AR d5 (AS AA (Ab λK3 d6=>AM 2 AA (bs h0 λq4 d7 h0=>CR (hb 7) (WU d7) rfl (AK AA (AR d6 (AB λK5 d8=>AS AA ?_)))))))));refine An h0 ?_ ?_<;>intro b7 h0
 ·refine AS AA ?_;cases h0;exact rd [(2,.bool true)]
 ·refine AG (d8 _ (Ab λK9 d9=>AK AA (bs h0 λt F h0=>Dx (.agg [ow 1 0 t.decls,ow 2 0 t.AF]) (Kv F) ⟨Bi,⟨Bi,uM⟩⟩ (Ac (Ni (L:=[(1,Ax),(21,.agg [DH t.decls,ow 2 0 t.AF])]) (st':=[fp p0.decls p0.AF,iQ,TZ t]) (id:=1) rfl yp (Go.Abs.J9 DA) ⟨.rfl,(.agg ⟨(.Oq AA (λx=>Gg x)),.rfl,uM⟩),uM⟩ AA) (Ac (Ni (L:=[(1,Ax),(21,Gz t)]) (st':=[fp p0.decls p0.AF,iQ,iK]) (id:=2) rfl zE (Go.Abs.J9 DA) ⟨.rfl,(.agg ⟨.rfl,(.Oq AA (λx=>Ed x)),uM⟩),uM⟩ AA) (bs h0 λb G h0=>Px (.CW [.agg (eZ b.1.decls b.1.AF),.bool b.2]) (hb 8) (ZM G) rfl (AM 3 AA (Cm 3 Me AA (CF I1 AA (AK AA (AR d9 (Ab λg5 H=>AK AA (bs h0 λd I h0=>Dx (.agg [ow 4 0 d.decls,ow 5 0 d.AF]) (Kv I) ⟨Bi,⟨Bi,uM⟩⟩ (Cm 6 Me AA (CF I1 AA (AR H (Ab λg6 J=>AK AA (bs h0 λa K h0=>Fw (v':=(.CW [.agg [ow 7 0 a.1.decls,ow 8 0 a.1.AF],.bool a.2])) BJ (hb 10) (TM K) rfl (.agg (.ownD AA AA (λ_=>AA) (λx=>Gg x) (.ownD AA AA (λ_=>AA) (λx=>Ed x) .nil)) .nil) rfl (Z7 (λ_=>AA) (Z7 DA uM)) rfl AA (AM 3 AA (Cm 9 Me AA (CF I1 AA (AK AA (AR J (AB λg7 M=>AB λg0 O=>bs h0 λP j h0=>?_))))))))))))))))))))))));have Q:∀{y},JJ P y ⟨96,AJ (sM b.2 a.2 [(40,.bool y)]),sP p0 b.1.decls b.1.AF d.decls d a.1.decls a.1.AF []⟩ g0:=by
   rintro _ ⟨⟩ s R;refine O _ (AH R ?_);refine An h0 ?_ ?_<;>intro g8 h0
   ·refine AS AA ?_;cases h0;exact rd [(2,.bool false)]
   ·refine AG (M _ (AB λg9 S=>AB λh2 T=>Cu (by kernel_rfl) (by kernel_rfl) (by rfl) ?_));iterate 2 refine yq tb rfl ?_
    refine bs h0 λu U h0=>?_;refine Og (BW.wk (Kv U) (by refine Wk.trans (Ni (L:=[(0,.agg [DH u.decls,ow 1 0 u.AF])]) (st':=[iQ,TZ u]) (id:=0) rfl yu (Go.Abs.J9 DA) ⟨(.agg ⟨(.Oq AA (λx=>Gg x)),.rfl,uM⟩),uM⟩ AA) ?_;refine Wk.trans (Ni (L:=[(0,Gz u)]) (st':=[iQ,iK]) (id:=1) rfl yp (Go.Abs.J9 DA) ⟨(.agg ⟨.rfl,(.Oq AA (λx=>Ed x)),uM⟩),uM⟩ AA) ?_;exact Bf [] .nil (.same AA))) ?_;refine bs h0 λz V h0=>Zf (v':=(.bool z)) BJ (hb 11) (Kk V) rfl (.agg (.ownD AA AA (λ_=>AA) (λx=>Gg x) (.ownD AA AA (λ_=>AA) (λx=>Ed x) .nil)) (.val AA .nil)) rfl AA (yq tb AA (Bl (T _ ?_)));refine An h0 ?_ ?_<;>intro W h0
    ·have h3:z=false:=by simpa using W
     refine AS AA ?_;cases h0;exact rd [(2,.bool false)]
    ·have h4:z=true:=by simpa using W
     refine AG (S _ (AS AA (Ab λh5 X=>AM 2 AA (bs h0 λe Y h0=>Gx (rowsP:=[TH d.decls,⟨0,50,5,List.map (BD 3 3 3 48 80) d.AF⟩]) (rows0:=[TH d.decls,⟨0,50,5,List.map (BD 3 3 3 48 80) d.AF⟩]) (rows1:=[TH e.2.1,Um e.2.2]) (rows2:=[]) (rows1':=[TH e.2.1,Um e.2.2]) (rows2':=[]) (st':=[⟨0,25,2,[[.sl (List.map Ai p0.decls),.sl (List.map Al p0.AF)]]⟩,⟨0,30,2,[[.sl (List.map Ai b.1.decls),.sl (List.map Al b.1.AF)]]⟩,TH e.2.1,Um e.2.2,⟨0,30,2,[[.own 2 0 (List.length d.decls),.own 3 0 (List.length d.AF)]]⟩,TH a.1.decls,Um a.1.AF,⟨0,30,2,[[.own 5 0 (List.length a.1.decls),.own 6 0 (List.length a.1.AF)]]⟩]) (v':=(i64 e.1)) [2,3] BJ (hb 12) (Om Y) rfl (by decide) rfl AA (.deep Bi (.deep Bi .nil)) rfl AA (.deep Bi (.deep Bi .nil)) .nil AA AA (λw=>?_)))));have f:List.length e.2.1=List.length d.decls:=by simpa only[uZ] using w 0 _ _ rfl rfl rfl
     have g:List.length e.2.2=List.length d.AF:=by simpa only[uZ] using w 1 _ _ rfl rfl rfl
     refine AK AA (AR X (AB λh6 Z=>AB λg1 b0=>bs h0 λb1 j h0=>?_));have A:∀{B},JJ b1 B ⟨96,AJ [(1,Ax),(4,HI),(5,.bool b.2),(7,Y8),(61,.bool B)],[fp p0.decls p0.AF,lP b.1.decls b.1.AF,JB a.1.decls,NU a.1.AF,eM a.1.decls a.1.AF]⟩ g1:=by
      rintro _ ⟨⟩ s R;refine b0 _ (AH R ?_);refine An h0 ?_ ?_<;>intro h7 h0
      ·refine AS AA ?_;cases h0;exact rd [(2,.bool false)]
      ·refine AG (Z _ (AS AA (Ab λh8 b2=>AM 2 AA (bs h0 λc b3 h0=>Gx (rowsP:=[TH a.1.decls,Um a.1.AF]) (rows0:=[TH a.1.decls,Um a.1.AF]) (rows1:=[TH c.2.1,Um c.2.2]) (rows2:=[]) (rows1':=[TH c.2.1,Um c.2.2]) (rows2':=[]) (st':=[⟨0,25,2,[[.sl (List.map Ai p0.decls),.sl (List.map Al p0.AF)]]⟩,⟨0,30,2,[[.sl (List.map Ai b.1.decls),.sl (List.map Al b.1.AF)]]⟩,TH c.2.1,Um c.2.2,⟨0,30,2,[[.own 2 0 (List.length a.1.decls),.own 3 0 (List.length a.1.AF)]]⟩]) (v':=(i64 c.1)) [2,3] BJ (hb 12) (Om b3) rfl (by decide) rfl AA (.deep Bi (.deep Bi .nil)) rfl AA (.deep Bi (.deep Bi .nil)) .nil AA AA (λw=>?_)))));have k:List.length c.2.1=List.length a.1.decls:=by simpa only[uZ] using w 0 _ _ rfl rfl rfl
       have l:List.length c.2.2=List.length a.1.AF:=by simpa only[uZ] using w 1 _ _ rfl rfl rfl
       refine AK AA (AR b2 (AS AA (Ab λh9 b4=>AM 2 AA (bs h0 λC b5 h0=>?_))));refine Fw (v':=(i64 C)) BJ (hb 13) (Oy b5) rfl (.agg (.ownD AA (by first|(simp only[Sh.BE];done)|(simp only[Sh.BE];omega)|omega) (λ_=>AA) (λx=>Gg x) (.ownD AA (by first|(simp only[Sh.BE];done)|(simp only[Sh.BE];omega)|omega) (λ_=>AA) (λx=>Ed x) .nil)) (.val AA .nil)) rfl uM AA AA ?_;refine AK AA (AR b4 (AB λk0 b6=>AS AA ?_));refine An h0 ?_ ?_<;>intro k1 h0
       ·refine AS AA ?_;cases h0;exact BP ⟨_,(((Fj (st:=[⟨0,25,2,[[.sl (List.map Ai p0.decls),.sl (List.map Al p0.AF)]]⟩,⟨0,30,2,[[.sl (List.map Ai b.1.decls),.sl (List.map Al b.1.AF)]]⟩,⟨0,104,3,List.map (BO 106 3) c.2.1⟩,⟨0,50,5,List.map (BD 3 3 3 48 80) c.2.2⟩,⟨0,30,2,[[.own 2 0 (List.length a.1.decls),.own 3 0 (List.length a.1.AF)]]⟩]) (st':=[⟨0,25,2,[[.sl (List.map Ai p0.decls),.sl (List.map Al p0.AF)]]⟩,⟨0,30,2,[[.sl (List.map Ai b.1.decls),.sl (List.map Al b.1.AF)]]⟩,⟨0,104,3,List.map (BO 106 3) c.2.1⟩,⟨0,50,5,List.map (BD 3 3 3 48 80) c.2.2⟩,⟨0,30,2,[[.own 2 0 (List.length c.2.1),.own 3 0 (List.length c.2.2)]]⟩]) (by first|(simp only[Sh.BE];done)|simp only[Sh.BE,f,g,k,l]|simp only[f,g,k,l])).trans (Bf (L:=[(2,.bool false)]) (st':=[]) [] .nil ⟨.rfl,uM⟩)).trans (DY [(2,.bool false)] ⟨.rfl,uM⟩)),And.intro AA AA⟩
       ·refine AG (b6 _ (AB λk2 b8=>AS AA ?_));refine An h0 ?_ ?_<;>intro b9 h0
        ·have k3:decide (C=c.1)=false:=by simpa using b9
         refine AS AA ?_;cases h0;exact BP ⟨_,(((Fj (st:=[⟨0,25,2,[[.sl (List.map Ai p0.decls),.sl (List.map Al p0.AF)]]⟩,⟨0,30,2,[[.sl (List.map Ai b.1.decls),.sl (List.map Al b.1.AF)]]⟩,⟨0,104,3,List.map (BO 106 3) c.2.1⟩,⟨0,50,5,List.map (BD 3 3 3 48 80) c.2.2⟩,⟨0,30,2,[[.own 2 0 (List.length a.1.decls),.own 3 0 (List.length a.1.AF)]]⟩]) (st':=[⟨0,25,2,[[.sl (List.map Ai p0.decls),.sl (List.map Al p0.AF)]]⟩,⟨0,30,2,[[.sl (List.map Ai b.1.decls),.sl (List.map Al b.1.AF)]]⟩,⟨0,104,3,List.map (BO 106 3) c.2.1⟩,⟨0,50,5,List.map (BD 3 3 3 48 80) c.2.2⟩,⟨0,30,2,[[.own 2 0 (List.length c.2.1),.own 3 0 (List.length c.2.2)]]⟩]) (by first|(simp only[Sh.BE];done)|simp only[Sh.BE,f,g,k,l]|simp only[f,g,k,l])).trans (Bf (L:=[(2,.bool false)]) (st':=[]) [] .nil ⟨.rfl,uM⟩)).trans (DY [(2,.bool false)] ⟨.rfl,uM⟩)),And.intro AA AA⟩
        ·have k4:decide (C=c.1)=true:=by simpa using b9
         refine AG (b8 _ (Ab λk5 c0=>AK AA (bs h0 λi c1 h0=>Dx (.agg [ow 5 0 i.decls,ow 6 0 i.AF]) (Kv c1) ⟨Bi,⟨Bi,uM⟩⟩ (bs h0 λh c2 h0=>Fw (v':=(.CW [.agg [ow 7 0 h.1.decls,ow 8 0 h.1.AF],.bool h.2])) BJ (hb 10) (TM c2) rfl (.agg (.ownD AA AA (λ_=>AA) (λx=>Gg x) (.ownD AA AA (λ_=>AA) (λx=>Ed x) .nil)) .nil) rfl (Z7 (λ_=>AA) (Z7 DA uM)) rfl AA (AM 3 AA (Cm 9 Me AA (Ac (Ni (L:=[(4,HI),(5,.bool b.2),(7,Y8),(10,i64 c.1),(12,U3),(77,.agg [DH h.1.decls,ow 8 0 h.1.AF]),(78,.bool h.2)]) (st':=[fp p0.decls p0.AF,lP b.1.decls b.1.AF,JB c.2.1,NU c.2.2,eM a.1.decls a.1.AF,JB i.decls,TZ i,iQ,NU h.1.AF,⟨0,30,2,[[.zc,.zc]]⟩]) (id:=7) rfl (show 0<=7 by decide) (Go.Abs.J9 DA) ⟨.rfl,.rfl,.rfl,.rfl,.rfl,(.agg ⟨(.Oq AA (λx=>Gg x)),.rfl,uM⟩),.rfl,uM⟩ AA) (Ac (Ni (L:=[(4,HI),(5,.bool b.2),(7,Y8),(10,i64 c.1),(12,U3),(77,.agg (eZ h.1.decls h.1.AF)),(78,.bool h.2)]) (st':=[fp p0.decls p0.AF,lP b.1.decls b.1.AF,JB c.2.1,NU c.2.2,eM a.1.decls a.1.AF,JB i.decls,TZ i,iQ,iK,⟨0,30,2,[[.zc,.zc]]⟩]) (id:=8) rfl (show 0<=8 by decide) (Go.Abs.J9 DA) ⟨.rfl,.rfl,.rfl,.rfl,.rfl,(.agg ⟨.rfl,(.Oq AA (λx=>Ed x)),uM⟩),.rfl,uM⟩ AA) (CF I1 AA (AK AA (AR c0 (AB λk6 c3=>AB λg2 c4=>bs h0 λc5 j h0=>?_))))))))))));have c6:∀{D},JJ c5 D ⟨96,AJ [(7,E4),(10,i64 c.1),(87,.bool D)],qO c.2.1 c.2.2⟩ g2:=by
          rintro _ ⟨⟩ s R;refine c4 _ (AH R ?_);refine An h0 ?_ ?_<;>intro k7 h0
          ·refine AS AA ?_;cases h0;exact rd [(2,.bool false)]
          ·refine AG (c3 _ (AS AA (Ab λk8 c7=>AM 2 AA (bs h0 λE c8 h0=>Fw (v':=(i64 E)) BJ (hb 13) (Oy c8) rfl (.agg (.ownD AA AA (λ_=>AA) (λx=>Gg x) (.ownD AA AA (λ_=>AA) (λx=>Ed x) .nil)) (.val AA .nil)) rfl uM AA AA (AK AA (AR c7 (AB λk9 c9=>AS AA ?_)))))));refine An h0 ?_ ?_<;>intro l0 h0
           ·refine AS AA ?_;cases h0;exact rd [(2,.bool false)]
           ·refine AG (c9 _ (AB λl1 d0=>AS AA ?_));refine An h0 ?_ ?_<;>intro d1 h0
            ·have l2:decide (E=c.1)=false:=by simpa using d1
             refine AS AA ?_;cases h0;exact rd [(2,.bool false)]
            ·have l3:decide (E=c.1)=true:=by simpa using d1
             refine AG (d0 _ (AS AA ?_));cases h0;exact rd [(2,.bool true)]
         refine AE AA (AM 2 AA (bs j λl4 d2 j=>CR (hb 11) (Kk d2) rfl (AM 2 AA ?_)));rcases Sh.Aa j with ⟨n,j⟩|⟨n,j⟩
         ·refine zs n AA (zs n AA (zs n AA (zt n AA ?_)));exact AD (c6 j (by refine Wk.trans (Fj (st:=[⟨0,25,2,[[.sl (List.map Ai p0.decls),.sl (List.map Al p0.AF)]]⟩,⟨0,30,2,[[.sl (List.map Ai b.1.decls),.sl (List.map Al b.1.AF)]]⟩,⟨0,104,3,List.map (BO 106 3) c.2.1⟩,⟨0,50,5,List.map (BD 3 3 3 48 80) c.2.2⟩,⟨0,30,2,[[.own 2 0 (List.length a.1.decls),.own 3 0 (List.length a.1.AF)]]⟩,⟨0,104,3,List.map (BO 106 3) i.decls⟩,⟨0,50,5,List.map (BD 3 3 3 48 80) i.AF⟩,⟨1,104,3,[]⟩,⟨1,50,5,[]⟩,⟨0,30,2,[[.sl (List.map Ai h.1.decls),.sl (List.map Al h.1.AF)]]⟩]) (st':=[⟨0,25,2,[[.sl (List.map Ai p0.decls),.sl (List.map Al p0.AF)]]⟩,⟨0,30,2,[[.sl (List.map Ai b.1.decls),.sl (List.map Al b.1.AF)]]⟩,⟨0,104,3,List.map (BO 106 3) c.2.1⟩,⟨0,50,5,List.map (BD 3 3 3 48 80) c.2.2⟩,⟨0,30,2,[[.own 2 0 (List.length c.2.1),.own 3 0 (List.length c.2.2)]]⟩,⟨0,104,3,List.map (BO 106 3) i.decls⟩,⟨0,50,5,List.map (BD 3 3 3 48 80) i.AF⟩,⟨1,104,3,[]⟩,⟨1,50,5,[]⟩,⟨0,30,2,[[.sl (List.map Ai h.1.decls),.sl (List.map Al h.1.AF)]]⟩]) (by first|(simp only[Sh.BE];done)|simp only[Sh.BE,f,g,k,l]|simp only[f,g,k,l])) ?_;exact Da (L:=[(7,.ptr 2 0 0 0),(10,i64 c.1),(87,.bool true)]) (st':=[⟨0,104,3,List.map (BO 106 3) c.2.1⟩,⟨0,50,5,List.map (BD 3 3 3 48 80) c.2.2⟩,⟨0,30,2,[[.own 0 0 (List.length c.2.1),.own 1 0 (List.length c.2.2)]]⟩]) (st1:=[⟨0,104,3,List.map (BO 106 3) c.2.1⟩,⟨0,50,5,List.map (BD 3 3 3 48 80) c.2.2⟩,⟨0,30,2,[[.own 2 0 (List.length c.2.1),.own 3 0 (List.length c.2.2)]]⟩]) [2,3,4] (.deep Bi (.deep Bi (.w .nil))) (.same AA)))
         ·refine Aj n AA (Aj n AA (Aj n AA (zf n AA ?_)));exact AD (c6 j (by refine Wk.trans (Fj (st:=[⟨0,25,2,[[.sl (List.map Ai p0.decls),.sl (List.map Al p0.AF)]]⟩,⟨0,30,2,[[.sl (List.map Ai b.1.decls),.sl (List.map Al b.1.AF)]]⟩,⟨0,104,3,List.map (BO 106 3) c.2.1⟩,⟨0,50,5,List.map (BD 3 3 3 48 80) c.2.2⟩,⟨0,30,2,[[.own 2 0 (List.length a.1.decls),.own 3 0 (List.length a.1.AF)]]⟩,⟨0,104,3,List.map (BO 106 3) i.decls⟩,⟨0,50,5,List.map (BD 3 3 3 48 80) i.AF⟩,⟨1,104,3,[]⟩,⟨1,50,5,[]⟩,⟨0,30,2,[[.sl (List.map Ai h.1.decls),.sl (List.map Al h.1.AF)]]⟩]) (st':=[⟨0,25,2,[[.sl (List.map Ai p0.decls),.sl (List.map Al p0.AF)]]⟩,⟨0,30,2,[[.sl (List.map Ai b.1.decls),.sl (List.map Al b.1.AF)]]⟩,⟨0,104,3,List.map (BO 106 3) c.2.1⟩,⟨0,50,5,List.map (BD 3 3 3 48 80) c.2.2⟩,⟨0,30,2,[[.own 2 0 (List.length c.2.1),.own 3 0 (List.length c.2.2)]]⟩,⟨0,104,3,List.map (BO 106 3) i.decls⟩,⟨0,50,5,List.map (BD 3 3 3 48 80) i.AF⟩,⟨1,104,3,[]⟩,⟨1,50,5,[]⟩,⟨0,30,2,[[.sl (List.map Ai h.1.decls),.sl (List.map Al h.1.AF)]]⟩]) (by first|(simp only[Sh.BE];done)|simp only[Sh.BE,f,g,k,l]|simp only[f,g,k,l])) ?_;exact Da (L:=[(7,.ptr 2 0 0 0),(10,i64 c.1),(87,.bool (h.2 != b.2))]) (st':=[⟨0,104,3,List.map (BO 106 3) c.2.1⟩,⟨0,50,5,List.map (BD 3 3 3 48 80) c.2.2⟩,⟨0,30,2,[[.own 0 0 (List.length c.2.1),.own 1 0 (List.length c.2.2)]]⟩]) (st1:=[⟨0,104,3,List.map (BO 106 3) c.2.1⟩,⟨0,50,5,List.map (BD 3 3 3 48 80) c.2.2⟩,⟨0,30,2,[[.own 2 0 (List.length c.2.1),.own 3 0 (List.length c.2.2)]]⟩]) [2,3,4] (.deep Bi (.deep Bi (.w .nil))) (.same AA)))
     refine AE AA (AM 3 AA ?_);rcases Sh.Aa j with ⟨o,j⟩|⟨o,j⟩
     ·refine zs o AA ?_;iterate 3 refine zs o rfl ?_
      refine zt o AA (AK AA ?_);iterate 3 refine zs rfl rfl ?_
      refine zt AA AA ?_;exact AD (A j (by refine Wk.trans (Fj (st:=[⟨0,25,2,[[.sl (List.map Ai p0.decls),.sl (List.map Al p0.AF)]]⟩,⟨0,30,2,[[.sl (List.map Ai b.1.decls),.sl (List.map Al b.1.AF)]]⟩,⟨0,104,3,List.map (BO 106 3) e.2.1⟩,⟨0,50,5,List.map (BD 3 3 3 48 80) e.2.2⟩,⟨0,30,2,[[.own 2 0 (List.length d.decls),.own 3 0 (List.length d.AF)]]⟩,⟨0,104,3,List.map (BO 106 3) a.1.decls⟩,⟨0,50,5,List.map (BD 3 3 3 48 80) a.1.AF⟩,⟨0,30,2,[[.own 5 0 (List.length a.1.decls),.own 6 0 (List.length a.1.AF)]]⟩]) (st':=[⟨0,25,2,[[.sl (List.map Ai p0.decls),.sl (List.map Al p0.AF)]]⟩,⟨0,30,2,[[.sl (List.map Ai b.1.decls),.sl (List.map Al b.1.AF)]]⟩,⟨0,104,3,List.map (BO 106 3) e.2.1⟩,⟨0,50,5,List.map (BD 3 3 3 48 80) e.2.2⟩,⟨0,30,2,[[.own 2 0 (List.length e.2.1),.own 3 0 (List.length e.2.2)]]⟩,⟨0,104,3,List.map (BO 106 3) a.1.decls⟩,⟨0,50,5,List.map (BD 3 3 3 48 80) a.1.AF⟩,⟨0,30,2,[[.own 5 0 (List.length a.1.decls),.own 6 0 (List.length a.1.AF)]]⟩]) (by first|(simp only[Sh.BE];done)|simp only[Sh.BE,f,g]|simp only[f,g])) ?_;exact Da (L:=[(1,.ptr 0 0 0 0),(4,.ptr 1 0 0 0),(5,.bool b.2),(7,.ptr 4 0 0 0),(61,.bool true)]) (st':=[⟨0,25,2,[[.sl (List.map Ai p0.decls),.sl (List.map Al p0.AF)]]⟩,⟨0,30,2,[[.sl (List.map Ai b.1.decls),.sl (List.map Al b.1.AF)]]⟩,⟨0,104,3,List.map (BO 106 3) a.1.decls⟩,⟨0,50,5,List.map (BD 3 3 3 48 80) a.1.AF⟩,⟨0,30,2,[[.own 2 0 (List.length a.1.decls),.own 3 0 (List.length a.1.AF)]]⟩]) (st1:=[⟨0,25,2,[[.sl (List.map Ai p0.decls),.sl (List.map Al p0.AF)]]⟩,⟨0,30,2,[[.sl (List.map Ai b.1.decls),.sl (List.map Al b.1.AF)]]⟩,⟨0,104,3,List.map (BO 106 3) a.1.decls⟩,⟨0,50,5,List.map (BD 3 3 3 48 80) a.1.AF⟩,⟨0,30,2,[[.own 5 0 (List.length a.1.decls),.own 6 0 (List.length a.1.AF)]]⟩]) [0,1,5,6,7] (.w (.w (.deep Bi (.deep Bi (.w .nil))))) (.same AA)))
     ·refine Aj o AA (Aj o AA (bs j λg3 d3 j=>Fw (v':=(.bool g3)) (Is AA AA o) (hb 11) (Kk d3) rfl (.agg (.ownD AA AA (λ_=>AA) (λx=>Gg x) (.ownD AA AA (λ_=>AA) (λx=>Ed x) .nil)) (.val AA .nil)) rfl uM AA AA (Aj o AA (zf o AA (AK AA ?_)))));rcases Sh.Aa j with ⟨p,j⟩|⟨p,j⟩
      ·refine zs p AA (zs p AA (zs p AA (zt p AA ?_)));exact AD (A j (by refine Wk.trans (Fj (st:=[⟨0,25,2,[[.sl (List.map Ai p0.decls),.sl (List.map Al p0.AF)]]⟩,⟨0,30,2,[[.sl (List.map Ai b.1.decls),.sl (List.map Al b.1.AF)]]⟩,⟨0,104,3,List.map (BO 106 3) e.2.1⟩,⟨0,50,5,List.map (BD 3 3 3 48 80) e.2.2⟩,⟨0,30,2,[[.own 2 0 (List.length d.decls),.own 3 0 (List.length d.AF)]]⟩,⟨0,104,3,List.map (BO 106 3) a.1.decls⟩,⟨0,50,5,List.map (BD 3 3 3 48 80) a.1.AF⟩,⟨0,30,2,[[.own 5 0 (List.length a.1.decls),.own 6 0 (List.length a.1.AF)]]⟩]) (st':=[⟨0,25,2,[[.sl (List.map Ai p0.decls),.sl (List.map Al p0.AF)]]⟩,⟨0,30,2,[[.sl (List.map Ai b.1.decls),.sl (List.map Al b.1.AF)]]⟩,⟨0,104,3,List.map (BO 106 3) e.2.1⟩,⟨0,50,5,List.map (BD 3 3 3 48 80) e.2.2⟩,⟨0,30,2,[[.own 2 0 (List.length e.2.1),.own 3 0 (List.length e.2.2)]]⟩,⟨0,104,3,List.map (BO 106 3) a.1.decls⟩,⟨0,50,5,List.map (BD 3 3 3 48 80) a.1.AF⟩,⟨0,30,2,[[.own 5 0 (List.length a.1.decls),.own 6 0 (List.length a.1.AF)]]⟩]) (by first|(simp only[Sh.BE];done)|simp only[Sh.BE,f,g]|simp only[f,g])) ?_;exact Da (L:=[(1,.ptr 0 0 0 0),(4,.ptr 1 0 0 0),(5,.bool b.2),(7,.ptr 4 0 0 0),(61,.bool true)]) (st':=[⟨0,25,2,[[.sl (List.map Ai p0.decls),.sl (List.map Al p0.AF)]]⟩,⟨0,30,2,[[.sl (List.map Ai b.1.decls),.sl (List.map Al b.1.AF)]]⟩,⟨0,104,3,List.map (BO 106 3) a.1.decls⟩,⟨0,50,5,List.map (BD 3 3 3 48 80) a.1.AF⟩,⟨0,30,2,[[.own 2 0 (List.length a.1.decls),.own 3 0 (List.length a.1.AF)]]⟩]) (st1:=[⟨0,25,2,[[.sl (List.map Ai p0.decls),.sl (List.map Al p0.AF)]]⟩,⟨0,30,2,[[.sl (List.map Ai b.1.decls),.sl (List.map Al b.1.AF)]]⟩,⟨0,104,3,List.map (BO 106 3) a.1.decls⟩,⟨0,50,5,List.map (BD 3 3 3 48 80) a.1.AF⟩,⟨0,30,2,[[.own 5 0 (List.length a.1.decls),.own 6 0 (List.length a.1.AF)]]⟩]) [0,1,5,6,7] (.w (.w (.deep Bi (.deep Bi (.w .nil))))) (.same AA)))
      ·refine Aj p AA (Aj p AA (Aj p AA (zf p AA ?_)));exact AD (A j (by refine Wk.trans (Fj (st:=[⟨0,25,2,[[.sl (List.map Ai p0.decls),.sl (List.map Al p0.AF)]]⟩,⟨0,30,2,[[.sl (List.map Ai b.1.decls),.sl (List.map Al b.1.AF)]]⟩,⟨0,104,3,List.map (BO 106 3) e.2.1⟩,⟨0,50,5,List.map (BD 3 3 3 48 80) e.2.2⟩,⟨0,30,2,[[.own 2 0 (List.length d.decls),.own 3 0 (List.length d.AF)]]⟩,⟨0,104,3,List.map (BO 106 3) a.1.decls⟩,⟨0,50,5,List.map (BD 3 3 3 48 80) a.1.AF⟩,⟨0,30,2,[[.own 5 0 (List.length a.1.decls),.own 6 0 (List.length a.1.AF)]]⟩]) (st':=[⟨0,25,2,[[.sl (List.map Ai p0.decls),.sl (List.map Al p0.AF)]]⟩,⟨0,30,2,[[.sl (List.map Ai b.1.decls),.sl (List.map Al b.1.AF)]]⟩,⟨0,104,3,List.map (BO 106 3) e.2.1⟩,⟨0,50,5,List.map (BD 3 3 3 48 80) e.2.2⟩,⟨0,30,2,[[.own 2 0 (List.length e.2.1),.own 3 0 (List.length e.2.2)]]⟩,⟨0,104,3,List.map (BO 106 3) a.1.decls⟩,⟨0,50,5,List.map (BD 3 3 3 48 80) a.1.AF⟩,⟨0,30,2,[[.own 5 0 (List.length a.1.decls),.own 6 0 (List.length a.1.AF)]]⟩]) (by first|(simp only[Sh.BE];done)|simp only[Sh.BE,f,g]|simp only[f,g])) ?_;exact Da (L:=[(1,.ptr 0 0 0 0),(4,.ptr 1 0 0 0),(5,.bool b.2),(7,.ptr 4 0 0 0),(61,.bool (a.2 != b.2))]) (st':=[⟨0,25,2,[[.sl (List.map Ai p0.decls),.sl (List.map Al p0.AF)]]⟩,⟨0,30,2,[[.sl (List.map Ai b.1.decls),.sl (List.map Al b.1.AF)]]⟩,⟨0,104,3,List.map (BO 106 3) a.1.decls⟩,⟨0,50,5,List.map (BD 3 3 3 48 80) a.1.AF⟩,⟨0,30,2,[[.own 2 0 (List.length a.1.decls),.own 3 0 (List.length a.1.AF)]]⟩]) (st1:=[⟨0,25,2,[[.sl (List.map Ai p0.decls),.sl (List.map Al p0.AF)]]⟩,⟨0,30,2,[[.sl (List.map Ai b.1.decls),.sl (List.map Al b.1.AF)]]⟩,⟨0,104,3,List.map (BO 106 3) a.1.decls⟩,⟨0,50,5,List.map (BD 3 3 3 48 80) a.1.AF⟩,⟨0,30,2,[[.own 5 0 (List.length a.1.decls),.own 6 0 (List.length a.1.AF)]]⟩]) [0,1,5,6,7] (.w (.w (.deep Bi (.deep Bi (.w .nil))))) (.same AA)))
  refine AE AA (AM 2 AA (bs j λg4 d4 j=>Fw (v':=(.bool g4)) BJ (hb 11) (Kk d4) rfl (.agg (.ownD AA AA (λ_=>AA) (λx=>Gg x) (.ownD AA AA (λ_=>AA) (λx=>Ed x) .nil)) (.val AA .nil)) rfl uM AA AA (AM 2 AA ?_)));rcases Sh.Aa j with ⟨q,j⟩|⟨q,j⟩
  ·exact zs q AA (zs q AA (zs q AA (zt q AA (AD (Q j (Da (L:=(sM b.2 a.2 [(40,.bool true)])) (st':=(sP p0 b.1.decls b.1.AF d.decls d a.1.decls a.1.AF [])) (st1:=[fp p0.decls p0.AF,lP b.1.decls b.1.AF,JB d.decls,TZ d,⟨0,30,2,[[ow 4 0 d.decls,ow 5 0 d.AF]]⟩,JB a.1.decls,NU a.1.AF,⟨0,30,2,[[ow 7 0 a.1.decls,ow 8 0 a.1.AF]]⟩]) [0,3,4,5,6,7,8,9] (.w (.w (.deep Bi (.deep Bi (.w (.deep Bi (.deep Bi (.w .nil)))))))) (.same AA)))))))
  ·exact Aj q AA (Aj q AA (Aj q AA (zf q AA (AD (Q j (Da (L:=(sM b.2 a.2 [(40,.bool (a.2 != b.2))])) (st':=(sP p0 b.1.decls b.1.AF d.decls d a.1.decls a.1.AF [])) (st1:=[fp p0.decls p0.AF,lP b.1.decls b.1.AF,JB d.decls,TZ d,⟨0,30,2,[[ow 4 0 d.decls,ow 5 0 d.AF]]⟩,JB a.1.decls,NU a.1.AF,⟨0,30,2,[[ow 7 0 a.1.decls,ow 8 0 a.1.AF]]⟩]) [0,3,4,5,6,7,8,9] (.w (.w (.deep Bi (.deep Bi (.w (.deep Bi (.deep Bi (.w .nil)))))))) (.same AA)))))))
end Go.Proofs.YtccficmcdkcpnaaGreat
