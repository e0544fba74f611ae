import Derived.Test.YtihdgoiebmfapaaGreatNLWalkP3
set_option linter.all false
namespace Go.Proofs.YtihdgoiebmfapaaGreat
open Go Go.Abs RC
attribute [local irreducible] Go.Abs.EN
set_option maxRecDepth 100000
set_option maxHeartbeats 4000000
theorem QQ {N:Nat}{tm:Int}{uB:List AL}{uR:List AU}{p0:AJ}{r:AJ×Bool×Int}(h0:Ji N tm uB uR p0=some r):Bd 27 [KT p0,.fn 42 [BG,CJ]] [DA tm,Cy uB uR] (.DF [.agg [ow 2 0 r.1.decls,ow 3 0 r.1.funcs],.bool r.2.1]) [DA r.2.2,Cy uB uR,Q7 r.1.decls,PA r.1.funcs]:=by
 unfold Ji at h0;refine BJ.wk (r0:=.DF [.agg [ow 2 0 r.1.decls,ow 3 0 r.1.funcs],.bool r.2.1]) (st0:=[DA r.2.2,Cy uB uR,Q7 r.1.decls,PA r.1.funcs,gW r.1.decls r.1.funcs]) ?_ (D2 (L:=[(0,.DF [.agg [ow 2 0 r.1.decls,ow 3 0 r.1.funcs],.bool r.2.1])]) (st':=[DA r.2.2,Cy uB uR,Q7 r.1.decls,PA r.1.funcs]) [0,1,2,3] AA (by decide) rfl AA (.raw AA (.raw AA (.deep (Aq λ_=>AA) (.deep (Aq λ_=>AA) pA)))) (.same AA));refine ai Tryz.func27 AA AA AA AA (sr AA λK1 O=>Ef 2 AA (Au (Wk.BY (L:=[(1,.fn 42 [BG,CJ]),(2,jP p0)]) (st':=[DA tm,Cy uB uR,⟨1,26,2,[]⟩]) (id:=2) rfl tX (Ei AA) (.same AA) rfl) (DE 3 JD AA (AS AA (dn O AA (sr AA λK2 P=>AS AA (bs h0 λe Q h0=>Bo (v':=.agg [ow 4 0 e.decls,ow 5 0 e.funcs]) AN (hb 55) (P9 Q) rfl AA ⟨(Aq λ_=>AA),⟨(Aq λ_=>AA),pA⟩⟩ AA AA (DE 6 JD AA ?_))))))));refine Bw D5 AA (dn P AA (AE λX R=>sr AA λK5 S=>Ac 2 AA (zz (i64 (Sh.len e.funcs)) (DD Pv AA AA AA) rfl (AS AA (dn S AA ?_)))));obtain⟨C,q,h0⟩:=Sh.Bi h0;have T:∀(D:Int) (t:List AU),C=Sum.inr (D,t)->∀s,Wk 2 s ⟨49,AP [(4,CY),(6,Sf)],[DA D,Cy uB uR,JV,ro 0 80 3 (Bu 82 3) e.decls,PA t,⟨0,26,2,[[ow 3 0 e.decls,ow 4 0 t]]⟩]⟩->X s:=by
  rintro D t rfl s Y;refine R _ (AG Y (sr AA λZ E=>AS AA (Bw D5 AA (AS AA (dn E AA ?_)))));cases h0;exact An ⟨_,((Eh (L:=[(4,Ix),(5,.bool true)]) (st':=[DA D,Cy uB uR,ro 0 80 3 (Bu 82 3) e.decls,PA t,⟨0,26,2,[[ow 2 0 e.decls,ow 3 0 t]]⟩]) (st1:=[DA D,Cy uB uR,ro 0 80 3 (Bu 82 3) e.decls,PA t,⟨0,26,2,[[ow 3 0 e.decls,ow 4 0 t]]⟩]) [0,1,3,4,2] AA AA (.w (.w (.deep (Aq λ_=>AA) (.deep (Aq λ_=>AA) (.w .nil))))) (.same AA)).trans (Ag (L:=[(4,Ix),(5,.bool true)]) (.same AA))),FX (.tmp 4) [ow 2 0 e.decls,ow 3 0 t] D5 AA _ ⟨AA,AA⟩⟩
 refine AK (Am (σ:=Int×Int×(List AU)) (λn v=>Dx N uB uR p0 e n v.1 v.2.1 v.2.2=some C) (λ(f,A,l)=>⟨49,AP [(1,.fn 42 [.ptr 0 0 0 0,.ptr 1 0 0 0]),(2,.C8 [ls Ai p0.decls,ls BT p0.funcs] 0),(4,.ptr 2 0 0 0),(6,.ptr 5 0 0 0),(12,i64 (Sh.len e.funcs)),(13,i64 f)],[DA A,Cy uB uR,JV,ro 0 80 3 (Bu 82 3) e.decls,ro 0 37 5 (ER 3 35) l,⟨0,26,2,[[ow 3 0 e.decls,ow 4 0 l]]⟩]⟩) N (0,tm,e.funcs) q (Eh (L:=[(1,.fn 42 [.ptr 0 0 0 0,.ptr 1 0 0 0]),(2,.C8 [ls Ai p0.decls,ls BT p0.funcs] 0),(4,.ptr 2 0 0 0),(6,.ptr 5 0 0 0),(12,i64 (Sh.len e.funcs)),(13,i64 0)]) (st':=[DA tm,Cy uB uR,JV,ro 0 80 3 (Bu 82 3) e.decls,ro 0 37 5 (ER 3 35) e.funcs,⟨0,26,2,[[ow 3 0 e.decls,ow 4 0 e.funcs]]⟩]) (st1:=[DA tm,Cy uB uR,JV,ro 0 80 3 (Bu 82 3) e.decls,ro 0 37 5 (ER 3 35) e.funcs,⟨0,26,2,[[ow 4 0 e.decls,ow 5 0 e.funcs]]⟩]) [0,1,3,4,5,6] AA AA (.w (.w (.w (.deep (Aq λ_=>AA) (.deep (Aq λ_=>AA) (.w .nil)))))) (.same AA)) (λ_ W=>by rw[Dx]at W;cases W) ?_);rintro n ⟨f,A,l⟩ q;rw[Dx]at q;refine Ap AA (AE λb0 G=>?_);refine ci q AA ?_ ?_<;>intro b1 q
 .refine AH (G _ (AE λb2 H=>AK (Ap AA (AE λb3 I=>?_))));refine Qi (by kernel_rfl) ?_;refine bs q λa o q=>bs q λb B q=>?_;refine Xb (f':=23) (listed':=bm 23 0) rfl (by kernel_rfl) ?_;refine DX 0 (v:=.ptr 5 0 0 1) rfl AA (by kernel_rfl) (by kernel_rfl) (by kernel_rfl) rfl (Fa (Kk Kh AA AA tO rfl)) ?_;refine DX 2 (v:=i64 f) rfl AA (by kernel_rfl) (by kernel_rfl) (by kernel_rfl) rfl (Fa (IZ AA)) ?_;refine DX 3 (v:=jP p0) rfl AA (by kernel_rfl) (by kernel_rfl) (by kernel_rfl) rfl (Fa (NL Wr AA AA)) ?_;refine DX 4 (v:=ls Ai p0.decls) rfl AA (by kernel_rfl) (by kernel_rfl) (by kernel_rfl) rfl (PN dJ AA AA) ?_;refine DX 5 (v:=.ptr 5 0 0 1) rfl AA (by kernel_rfl) (by kernel_rfl) (by kernel_rfl) rfl (Fa (Kk Kh AA AA tO rfl)) ?_;refine DX 7 (v:=i64 f) rfl AA (by kernel_rfl) (by kernel_rfl) (by kernel_rfl) rfl (Fa (IZ AA)) ?_;refine DX 11 (v:=.ptr 5 0 0 1) rfl AA (by kernel_rfl) (by kernel_rfl) (by kernel_rfl) rfl (Fa (Kk Kh AA AA tO rfl)) ?_;refine DX 13 (v:=i64 f) rfl AA (by kernel_rfl) (by kernel_rfl) (by kernel_rfl) rfl (Fa (IZ AA)) ?_;refine DX 18 (v:=.fn 42 [BG,CJ]) rfl AA (by kernel_rfl) (by kernel_rfl) (by kernel_rfl) rfl (Fa (IZ AA)) ?_;refine YB (VA λA21 p=>?_);have g:A21 0 (bm 23 8388607) ⟨49,AP (jQ p0 f [(12,i64 (Sh.len e.funcs)),(13,i64 f)]),[DA b.2,Cy uB uR,JV,⟨0,26,2,[[ow 4 0 e.decls,ow 5 0 (Sh.put l f (AU.mk a.params a.result b.1))]]⟩,ro 0 80 3 (Bu 82 3) e.decls,ro 0 37 5 (ER 3 35) (Sh.put l f (AU.mk a.params a.result b.1))]⟩:=(p _ _ _).2 (by
   refine Sw AA (by kernel_rfl) ?_;refine I _ (sr AA λb4 J=>Ac 3 AA (bs q λy z q=>zz (.ptr 5 0 (Int.toNat f) 0) (CD Cd AA AA AA AA z) rfl (AS AA (Au (QN (id:=5) (j:=4) (i:=f) (c:=y) (ys:=y.body.kids) (encY:=Bv 35) rfl z AA AA AA AA AA) (zz (.agg [i64 y.body.op,i64 y.body.num,ow 6 0 y.body.kids]) (Cq BI AA AA (Ln z) tT rfl) rfl (bs q λU K q=>Lz (v':=i64 U) AN (hb 12) (Of K) rfl (.agg (.val AA (.val AA (.ownD AA AA BD (λx=>Mn x) .nil))) .nil) rfl pA AA AA ?_))))));refine Au (Wk.take (id:=5) (m:=6) (j:=4) (i:=f) (c:=y) (ys:=y.body.kids) (encY:=Bv 35) rfl z AA AA AA (by decide) tP HY AA AA) ?_;refine Au (NN (id:=5) (i:=f) (c:=y) rfl z AA AA) (AS AA (dn J AA ?_));refine ci q AA ?_ ?_<;>intro b5 q
   .refine sr AA λb6 M=>zz (.agg [.zc,.zc]) (DM Xo XI JD AA AA) rfl (Bw D5 AA (AS AA (dn M AA ?_)));cases q;cases h0;exact An ⟨_,((((LH (id:=2) (st':=[DA b.2,Cy uB uR,⟨0,26,2,[[mu,.zc]]⟩,⟨0,26,2,[[ow 4 0 e.decls,ow 5 0 (Sh.put l f (AU.mk a.params a.result b.1))]]⟩,ro 0 80 3 (Bu 82 3) e.decls,ro 0 37 5 (ER 3 35) (Sh.put l f (AU.mk a.params a.result b.1)),D0,kb]) (j:=0) rfl AA 80 (size':=3) (by decide) rfl AA AA AA).trans (LH (id:=2) (st':=[DA b.2,Cy uB uR,⟨0,26,2,[[mu,.own 8 0 (List.length ([]:List AU))]]⟩,⟨0,26,2,[[ow 4 0 e.decls,ow 5 0 (Sh.put l f (AU.mk a.params a.result b.1))]]⟩,ro 0 80 3 (Bu 82 3) e.decls,ro 0 37 5 (ER 3 35) (Sh.put l f (AU.mk a.params a.result b.1)),D0,kb,mZ]) (j:=1) rfl AA 37 (size':=5) (by decide) rfl AA AA AA)).trans (Eh (L:=[(4,Ix),(5,.bool false)]) (st':=[DA b.2,Cy uB uR,kb,mZ,⟨0,26,2,[oD]⟩]) (st1:=[DA b.2,Cy uB uR,kb,mZ,⟨0,26,2,[[mu,.own 8 0 (List.length ([]:List AU))]]⟩]) [0,1,7,8,2] AA AA (.w (.w (.deep (Aq λ_=>AA) (.deep (Aq λ_=>AA) (.w .nil))))) (.same AA))).trans (Ag (L:=[(4,Ix),(5,.bool false)]) (.same AA))),FX (.tmp 4) oD D5 AA _ ⟨AA,AA⟩⟩
   .refine AH (H _ (AF AA (Ac 2 AA ?_)));exact AB (xi (Sh.w (f+1),b.2,Sh.put l f (AU.mk a.params a.result b.1)) q (by exact Eh (L:=[(1,.fn 42 [BG,CJ]),(2,jP p0),(4,CY),(6,Sf),(12,i64 (Sh.len e.funcs)),(13,Kr f)]) (st':=[DA b.2,Cy uB uR,JV,ro 0 80 3 (Bu 82 3) e.decls,ro 0 37 5 (ER 3 35) (Sh.put l f (AU.mk a.params a.result b.1)),⟨0,26,2,[[ow 3 0 e.decls,ow 4 0 (Sh.put l f (AU.mk a.params a.result b.1))]]⟩]) (st1:=[DA b.2,Cy uB uR,JV,ro 0 80 3 (Bu 82 3) e.decls,ro 0 37 5 (ER 3 35) (Sh.put l f (AU.mk a.params a.result b.1)),⟨0,26,2,[[ow 4 0 e.decls,ow 5 0 (Sh.put l f (AU.mk a.params a.result b.1))]]⟩]) [0,1,2,4,5,3] AA AA (.w (.w (.w (.deep (Aq λ_=>AA) (.deep (Aq λ_=>AA) (.w .nil)))))) (.same AA))))
  have d:A21 1 (bm 23 4194303) ⟨49,AP (jQ p0 f [(12,i64 (Sh.len e.funcs)),(13,i64 f),(35,.agg [i64 b.1.op,i64 b.1.num,ow 8 0 b.1.kids]),(37,.ptr 5 0 (Int.toNat f) 2)]),[DA b.2,Cy uB uR,JV,⟨0,26,2,[[ow 4 0 e.decls,ow 5 0 l]]⟩,ro 0 80 3 (Bu 82 3) e.decls,iV l f a,ro 0 3 1 eI a.params,D0,Gi b.1.kids]⟩:=(p _ _ _).2 (by
   refine ya [22] ⟨?_,pA⟩
   .refine yo 22 ?_;refine ff (x':=[ow 6 0 a.params,i64 a.result,i64 b.1.op,i64 b.1.num,ow 8 0 b.1.kids]) (st':=[DA b.2,Cy uB uR,JV,⟨0,26,2,[[ow 4 0 e.decls,ow 5 0 l]]⟩,ro 0 80 3 (Bu 82 3) e.decls,⟨0,37,5,hole l (ER 3 35) f [ow 6 0 a.params,i64 a.result,i64 b.1.op,i64 b.1.num,ow 8 0 b.1.kids]⟩,ro 0 3 1 eI a.params,D0,Gi b.1.kids]) AN BI AA AA o AA AA AA tT rfl AA ?_;refine Au (Wk.take (id:=5) (m:=6) (j:=0) (i:=f) (c:=a) (ys:=a.params) (encY:=eI) rfl o AA AA AA (by decide) tP (λ_=>AA) rfl AA) ?_;refine Au (Wk.take (id:=5) (m:=8) (j:=4) (i:=f) (c:=a) (ys:=b.1.kids) (encY:=Bv 35) rfl o AA AA AA (by decide) (show 2<=8 by decide) HY AA AA) ?_;refine Au (US (id:=5) (i:=f) (u:=AU.mk a.params a.result b.1) rfl AA AA) (AB ⟨AA,?_⟩);exact Mt (by refine Wk.trans (Ag (L:=[(1,.fn 42 [.ptr 0 0 0 0,.ptr 1 0 0 0]),(2,.C8 [.sl (List.map Ai p0.decls),.sl (List.map BT p0.funcs)] 0),(4,.ptr 2 0 0 0),(6,.ptr 3 0 0 0),(7,i64 f),(12,i64 (Sh.len e.funcs)),(13,i64 f)]) (.same AA)) ?_;refine Wk.trans (GF (st:=[DA b.2,⟨0,26,2,[[.sl (List.map Ai uB),.sl (List.map BT uR)]]⟩,JV,⟨0,26,2,[[.own 4 0 (List.length e.decls),.own 5 0 (List.length l)]]⟩,⟨0,80,3,List.map (Bu 82 3) e.decls⟩,⟨0,37,5,List.map (ER 3 35) (Sh.put l f (AU.mk a.params a.result b.1))⟩,⟨1,3,1,[]⟩,⟨1,35,3,[]⟩,⟨1,35,3,[]⟩]) (st':=[DA b.2,⟨0,26,2,[[.sl (List.map Ai uB),.sl (List.map BT uR)]]⟩,JV,⟨0,26,2,[[.own 4 0 (List.length e.decls),.own 5 0 (List.length (Sh.put l f (AU.mk a.params a.result b.1)))]]⟩,⟨0,80,3,List.map (Bu 82 3) e.decls⟩,⟨0,37,5,List.map (ER 3 35) (Sh.put l f (AU.mk a.params a.result b.1))⟩,⟨1,3,1,[]⟩,⟨1,35,3,[]⟩,⟨1,35,3,[]⟩]) (by simp only[Sh.GS])) ?_;exact AM [0,1,2,3,4,5] AA AA (.w (.w (.w (.w (.deep (Aq λ_=>AA) (.deep (Aq λ_=>AA) .nil)))))) (.same AA)) (ZM (by kernel_rfl) ((p _ _ _).1 g)) rfl)
  have h:A21 4 (bm 23 524287) ⟨49,AP (jQ p0 f [(12,i64 (Sh.len e.funcs)),(13,i64 f),(17,ow 5 0 l),(18,i64 f),(20,ls Ai p0.decls),(26,nM a),(33,i64 (Sh.len a.params)),(34,.fn 42 [BG,CJ])]),[DA A,Cy uB uR,JV,⟨0,26,2,[[ow 4 0 e.decls,ow 5 0 l]]⟩,ro 0 80 3 (Bu 82 3) e.decls,iV l f a,ro 0 3 1 eI a.params,Y5 a]⟩:=(p _ _ _).2 (by
   refine ya [19] ⟨?_,pA⟩
   .refine yo 19 ?_;refine G8 (rowsP:=[Y5 a,DA A,Cy uB uR]) (rows0:=[Y5 a,DA A,Cy uB uR]) (rows1:=[D0,DA b.2,Cy uB uR]) (rows2:=[Gi b.1.kids]) (rows1':=[D0,DA b.2,Cy uB uR]) (rows2':=[Gi b.1.kids]) (st':=[DA b.2,Cy uB uR,JV,⟨0,26,2,[[ow 4 0 e.decls,ow 5 0 l]]⟩,ro 0 80 3 (Bu 82 3) e.decls,iV l f a,ro 0 3 1 eI a.params,D0,Gi b.1.kids]) (v':=.agg [i64 b.1.op,i64 b.1.num,ow 8 0 b.1.kids]) [7,0,1] AN (hb 56) (Lf B) rfl (by decide) rfl AA (.deep (Aq BD) (.raw AA AA (.raw AA AA .nil))) rfl AA (.pure (by intro x V;cases V) (.raw AA AA (.raw AA AA .nil))) (.deep (Aq BD) .nil) rfl AA ?_;refine AB ⟨AA,?_⟩;refine Oy 20 (v:=.ptr 5 0 (Int.toNat f) 0) rfl (by kernel_rfl) (by kernel_rfl) (Tv Cd AA AA AA AA o) ?_;refine Hx tb 21 AA (by kernel_rfl) rfl ?_;exact lT p d)
  have k:A21 5 (bm 23 524285) ⟨49,AP (jQ p0 f [(12,i64 (Sh.len e.funcs)),(13,i64 f),(16,.ptr 3 0 0 1),(18,i64 f),(20,ls Ai p0.decls),(26,nM a),(33,i64 (Sh.len a.params)),(34,.fn 42 [BG,CJ])]),[DA A,Cy uB uR,JV,⟨0,26,2,[[ow 4 0 e.decls,ow 5 0 l]]⟩,ro 0 80 3 (Bu 82 3) e.decls,iV l f a,ro 0 3 1 eI a.params,Y5 a]⟩:=(p _ _ _).2 (by
   refine ya [1,19] ⟨?_,?_,pA⟩
   .exact lh tb p h
   .refine yo 19 ?_;refine G8 (rowsP:=[Y5 a,DA A,Cy uB uR]) (rows0:=[Y5 a,DA A,Cy uB uR]) (rows1:=[D0,DA b.2,Cy uB uR]) (rows2:=[Gi b.1.kids]) (rows1':=[D0,DA b.2,Cy uB uR]) (rows2':=[Gi b.1.kids]) (st':=[DA b.2,Cy uB uR,JV,⟨0,26,2,[[ow 4 0 e.decls,ow 5 0 l]]⟩,ro 0 80 3 (Bu 82 3) e.decls,iV l f a,ro 0 3 1 eI a.params,D0,Gi b.1.kids]) (v':=.agg [i64 b.1.op,i64 b.1.num,ow 8 0 b.1.kids]) [7,0,1] AN (hb 56) (Lf B) rfl (by decide) rfl AA (.deep (Aq BD) (.raw AA AA (.raw AA AA .nil))) rfl AA (.pure (by intro x V;cases V) (.raw AA AA (.raw AA AA .nil))) (.deep (Aq BD) .nil) rfl AA ?_;refine AB ⟨AA,?_⟩;refine Hx tb 1 AA (by kernel_rfl) rfl ?_;refine Oy 20 (v:=.ptr 5 0 (Int.toNat f) 0) rfl (by kernel_rfl) (by kernel_rfl) (Tv Cd AA AA AA AA o) ?_;refine Hx tb 21 AA (by kernel_rfl) rfl ?_;exact lT p d)
  refine (p _ _ _).2 ?_;refine Hx tb 6 AA (by kernel_rfl) rfl ?_;refine Oy 8 (v:=dL f) rfl (by kernel_rfl) (by kernel_rfl) (CD Cd AA AA AA AA o) ?_;refine Hx tb 9 AA (by kernel_rfl) rfl ?_;refine Mt (QN (id:=4) (j:=4) (i:=f) (c:=a) (ys:=a.body.kids) (encY:=Bv 35) (x:=[.dv 3 1 (List.map eI a.params),i64 a.result,i64 a.body.op,i64 a.body.num,.dv 35 3 (List.map (Bv 35) a.body.kids)]) (x':=[.dv 3 1 (List.map eI a.params),i64 a.result,i64 a.body.op,i64 a.body.num,ow 6 0 a.body.kids]) (st':=[DA A,Cy uB uR,JV,ro 0 80 3 (Bu 82 3) e.decls,⟨0,37,5,hole l (ER 3 35) f [.dv 3 1 (List.map eI a.params),i64 a.result,i64 a.body.op,i64 a.body.num,ow 6 0 a.body.kids]⟩,⟨0,26,2,[[ow 3 0 e.decls,ow 4 0 l]]⟩,Y5 a]) rfl o AA AA AA AA AA) ?_ AA;refine SZ 10 AA AA (by kernel_rfl) (V7 BI AA AA (Ln o) tT rfl) ?_;refine Hx tb 12 AA (by kernel_rfl) rfl ?_;refine Oy 14 (v:=dL f) rfl (by kernel_rfl) (by kernel_rfl) (Tv Cd AA AA AA AA o) ?_;refine Hx tb 15 AA (by kernel_rfl) rfl ?_;refine Mt (Wk.lV (id:=4) (j:=0) (i:=f) (ys:=a.params) (encY:=eI) (x':=nO a) (st':=[DA A,Cy uB uR,JV,ro 0 80 3 (Bu 82 3) e.decls,⟨0,37,5,hole l (ER 3 35) f (nO a)⟩,⟨0,26,2,[[ow 3 0 e.decls,ow 4 0 l]]⟩,Y5 a,ro 0 3 1 eI a.params]) rfl o AA AA AA AA) ?_ AA;refine SZ 16 AA AA (by kernel_rfl) (X5 LS AA AA (Ln o) rfl) ?_;refine Oy 17 (v:=i64 (Sh.len a.params)) rfl (by kernel_rfl) (by kernel_rfl) (DD Gc AA AA AA) ?_;exact yw p k (by exact Eh (L:=jQ p0 f [(12,i64 (Sh.len e.funcs)),(13,i64 f),(16,.ptr 3 0 0 1),(18,i64 f),(20,ls Ai p0.decls),(26,nM a),(33,i64 (Sh.len a.params)),(34,.fn 42 [BG,CJ])]) (st':=[DA A,Cy uB uR,JV,⟨0,26,2,[[ow 4 0 e.decls,ow 5 0 l]]⟩,ro 0 80 3 (Bu 82 3) e.decls,iV l f a,ro 0 3 1 eI a.params,Y5 a]) (st1:=[DA A,Cy uB uR,JV,⟨0,26,2,[[ow 3 0 e.decls,ow 4 0 l]]⟩,ro 0 80 3 (Bu 82 3) e.decls,⟨0,37,5,hole l (ER 3 35) f (nO a)⟩,ro 0 3 1 eI a.params,Y5 a]) [0,1,2,5,3,4,7,6] AA AA (.w (.w (.w (.w (.deep (Aq λ_=>AA) (.hol (Aq λ_=>AA) (Zp λ_=>AA) rfl AA (.p (.deep (Aq BD) .nil)))))))) (.same AA))
 .exact Av (T A l (AT q) _ Ao)
theorem Wf {N:Nat}{p0:AJ}{p1:Int}{r:AJ×Bool}(h0:F5 N p0 p1=some r):Bd 19 [KT p0,i64 p1] [] (iX r.1.decls r.1.funcs r.2) []:=by
 unfold F5 at h0;refine Cj AA (ai Tryz.func19 AA AA AA AA (sr AA λk c=>Ef 0 AA (Ef 1 AA (DE 2 JD AA (AS AA (dn c AA (AE λl d=>sr AA λn e=>Ac 2 AA (bs h0 λi f h0=>?_))))))));refine Gs (hb 24) (Nr f) rfl (AS AA (dn e AA ?_));refine ci h0 AA ?_ ?_<;>intro j h0
 .have o:i=false:=by simpa using j
  refine sr AA λp g=>zz (.agg [.zc,.zc]) (DM Xo XI JD AA AA) rfl (Bw D5 AA (AS AA (dn g AA ?_)));cases h0;exact An ⟨_,(((HP (id:=2) (cs:=[.zc,.zc]) (cs':=bO) (st':=[Cy p0.decls p0.funcs,DA p1,⟨0,26,2,[bO]⟩]) rfl ⟨le.zc,le.rfl,pA⟩ AA AA).trans (HP (id:=2) (cs:=bO) (cs':=dc) (st':=[Cy p0.decls p0.funcs,DA p1,iA]) rfl ⟨le.rfl,le.zc,pA⟩ AA AA)).trans (AM (L:=dr []) (st':=[iA]) [2] AA AA (.w .nil) ⟨.rfl,.rfl,pA⟩)).trans (Ag (L:=dr []) ⟨.rfl,.rfl,pA⟩),FX (.tmp 4) dc D5 AA _ AA⟩
 .have q:i=true:=by simpa using j
  refine AH (d _ (sr AA λs h=>AS AA (zz (.fn 42 [CJ,BG]) (ae AA) rfl (bs h0 λa b h0=>?_))));refine G8 (rowsP:=[DA p1,Cy p0.decls p0.funcs]) (rows0:=[DA p1,Cy p0.decls p0.funcs]) (rows1:=[DA a.2.2,Cy p0.decls p0.funcs]) (rows2:=[Q7 a.1.decls,PA a.1.funcs]) (rows1':=[DA a.2.2,Cy p0.decls p0.funcs]) (rows2':=[Q7 a.1.decls,PA a.1.funcs]) (st':=[Cy p0.decls p0.funcs,DA a.2.2,JV,Q7 a.1.decls,PA a.1.funcs]) (v':=.DF [.agg [ow 3 0 a.1.decls,ow 4 0 a.1.funcs],.bool a.2.1]) [1,0] AN (hb 27) (QQ b) rfl (by decide) rfl AA (.raw AA AA (.raw AA AA .nil)) rfl AA (.raw AA AA (.raw AA AA .nil)) (.deep (Aq λ_=>AA) (.deep (Aq λ_=>AA) .nil)) rfl AA ?_;refine Ac 2 AA (Au (Sv (L:=[(4,CY),(14,.agg [D4 a.1.decls,ow 4 0 a.1.funcs]),(15,.bool a.2.1)]) (st':=[Cy p0.decls p0.funcs,DA a.2.2,JV,OP,PA a.1.funcs]) (id:=3) rfl tj (Go.Abs.Jx (λ_=>AA)) ⟨.rfl,(.agg ⟨(.Ps AA (λx=>au x)),.rfl,pA⟩),.rfl,pA⟩ AA) (Au (Sv (L:=[(4,CY),(14,.agg (Sc a.1.decls a.1.funcs)),(15,.bool a.2.1)]) (st':=[Cy p0.decls p0.funcs,DA a.2.2,JV,OP,VU]) (id:=4) rfl th (Go.Abs.Jx (λ_=>AA)) ⟨.rfl,(.agg ⟨.rfl,(.Ps AA (λx=>aD x)),pA⟩),.rfl,pA⟩ AA) (Bw D5 AA (AS AA (dn h AA ?_)))));cases h0;exact An ⟨_,(AM (L:=[(4,BG),(5,.bool a.2.1)]) (st':=[Cy a.1.decls a.1.funcs]) [2] AA AA (.w .nil) ⟨.rfl,.rfl,pA⟩).trans (Ag (L:=[(4,BG),(5,.bool a.2.1)]) ⟨.rfl,.rfl,pA⟩),FX (.tmp 4) (Sc a.1.decls a.1.funcs) D5 AA _ AA⟩
theorem N5 {N:Nat}{p0:List AL}{p1:List Int}{r:Bool}(h0:Il N p0 p1=some r):Bd 94 [D4 p0,ls eI p1] [] (.bool r) []:=by
 unfold Il at h0;refine ai Tryz.func94 AA AA AA AA (Ap AA (AE λo h=>Ap AA ?_));obtain⟨i,a,h0⟩:=Sh.Bi h0;have p:∀(_:Unit),i=Sum.inr ()->∀s,Wk 0 s ⟨20,AP [],[]⟩->o s:=by
  intro _ A s q;subst i;refine h _ (AG q (Ap AA ?_));cases h0;exact rt [(4,.bool true)]
 refine AK (Am (σ:=Int) (λn v=>Fg p0 p1 n v=some i) (λj=>⟨20,AP [(0,ls Ai p0),(1,ls eI p1),(5,i64 j)],[]⟩) N 0 a Ao (λ_ m=>by rw[Fg]at m;cases m) ?_);rintro n j a;rw[Fg]at a;refine AE λB k=>sr AA λC l=>Ac 2 AA (CZ AA (AS AA (dn l AA ?_)));refine ci a AA ?_ ?_<;>intro D a
 .refine AH (k _ (AE λt b=>AK (sr AA λu c=>Ac 2 AA (bs a λx d a=>zx BF d AA AA AA (Ac 2 AA (CZ AA (bs a λe f a=>Gs (hb 72) (Dg f) rfl (AS AA ?_))))))));refine dn c AA ?_;refine ci a AA ?_ ?_<;>intro g a
  .have y:e=false:=by simpa using g
   refine Ap AA ?_;cases a;cases h0;exact rt [(4,.bool false)]
  .have z:e=true:=by simpa using g
   exact AH (b _ (AF AA (Ac 3 AA (AB (xi (Sh.w (j+1)) a Ao)))))
 .exact Av (p () (AT a) _ Ao)
theorem SS {N:Nat}{p0:List AL}{p1:Int}{r:Bool}(h0:I8 N p0 p1=some r):Bd 127 [D4 p0,i64 p1] [] (.bool r) []:=by
 unfold I8 at h0;refine ai Tryz.func127 AA AA AA AA (Ap AA (sr AA λK2 Y=>Ac 2 AA (bs h0 λk Z h0=>zx DK Z AA AA AA (AS AA (DE 0 HW AA (Bw KM AA (dn Y AA (AE λK4 b0=>sr AA λK5 b1=>?_))))))));refine Ac 2 AA (CZ AA (AS AA (dn b1 AA ?_)));refine ci h0 AA ?_ ?_<;>intro b6 h0
 .refine AE λK7 b2=>AE λK8 b3=>bs h0 λC a h0=>?_;have t:∀t9,C=t9->∀s,Wk 0 s ⟨100,AP [(0,D4 p0),(5,BG),(29,.bool t9)],[XW k]⟩->K8 s:=by
   intro t9 D s i;subst C;refine b3 _ (AG i ?_);refine ci h0 AA ?_ ?_<;>intro c6 h0
   .refine Ap AA ?_;cases h0;exact rd [(4,.bool false)]
   .refine AH (b2 _ (AE λb4 E=>Ap AA ?_));obtain⟨u,a,h0⟩:=Sh.Bi h0;have b5:∀(_:Unit),u=Sum.inr ()->∀s,Wk 0 s ⟨100,AP [],[]⟩->b4 s:=by
     intro _ D s i;subst u;refine E _ (AG i (Ap AA ?_));cases h0;exact rt [(4,.bool true)]
    refine AK (Am (σ:=Int) (λn v=>FF N k p0 n v=some u) (λl=>⟨100,AP [(0,ls Ai p0),(5,.ptr 0 0 0 0),(6,i64 l)],[⟨0,80,3,[Ai k]⟩]⟩) N 0 a Ao (λ_ F=>by rw[FF]at F;cases F) ?_);rintro n l a;rw[FF]at a;refine AE λc7 G=>sr AA λc8 H=>Ac 3 AA (CZ AA (AS AA (dn H AA ?_)));refine ci a AA ?_ ?_<;>intro c9 a
    .refine AH (G _ (AE λd1 I=>AK (AE λb7 J=>bs a λK c a=>?_)));have L:∀x,K=x->∀s,Wk 0 s ⟨100,AP [(0,D4 p0),(5,BG),(6,i64 l),(55,.bool x)],[XW k]⟩->b7 s:=by
      intro x D s i;subst K;refine J _ (AG i ?_);refine ci a AA ?_ ?_<;>intro d2 a
      .refine Ap AA ?_;cases a;cases h0;exact rd [(4,.bool false)]
      .exact AH (I _ (AF AA (Ac 3 AA (AB (xi (Sh.w (l+1)) a Ao)))))
     refine AF AA (Ac 3 AA (bs c λb8 q c=>zx Je q AA AA AA (Ac 2 AA (CZ AA (Ac 2 AA ?_)))));rcases Sh.Ad c with ⟨b,c⟩|⟨b,c⟩
     .refine zs b AA ?_;iterate 8 refine zs b rfl ?_
      exact zt b AA (AB (L true (AT c) _ Ao))
     .refine Aw b AA ?_;iterate 3 refine Aw b rfl ?_
      exact BW (v:=.C8 (CM b8) 0) (CQ AA AA b) rfl (CR Je AA AA q AA) (Aw b AA (Aw b AA (bs c λb9 M c=>zd b (hb 94) (N5 M) rfl AA AA AA (Aw b AA (zf b AA (AB (L (!b9) (AT c) _ Ao)))))))
    .exact Av (b5 () (AT a) _ (Be _ AA))
  refine AF AA (Ac 2 AA (CZ AA (Ac 2 AA ?_)));rcases Sh.Ad a with ⟨e,a⟩|⟨e,a⟩
  .refine zs e AA (zs e AA (zs e AA (zt e AA (AS AA ?_))));iterate 3 refine zs rfl rfl ?_
   exact zt AA AA (AB (t true (AT a) _ Ao))
  .refine Aw e AA (Aw e AA (Aw e AA (zf e AA (AS AA ?_))));rcases Sh.Ad a with ⟨f,a⟩|⟨f,a⟩
   .exact zs f AA (zs f AA (zs f AA (zt f AA (AB (t true (AT a) _ Ao)))))
   .exact Aw f AA (Aw f AA (Aw f AA (zf f AA (AB (t (!decide (k.to=0)) (AT a) _ Ao)))))
 .refine AH (b0 _ (AE λc0 O=>Ap AA ?_));obtain⟨y,a,h0⟩:=Sh.Bi h0;have c1:∀(_:Unit),y=Sum.inr ()->∀s,Wk 0 s ⟨100,AP [(0,D4 p0),(5,BG)],[XW k]⟩->c0 s:=by
   intro _ D s i;subst y;refine O _ (AG i (AE λc2 P=>bs h0 λQ a h0=>?_));have R:∀o,Q=o->∀s,Wk 0 s ⟨100,AP [(4,.bool o)],[]⟩->c2 s:=by
    intro o D s i;subst Q;try dsimp only at h0
    refine P _ (AG i ?_);obtain rfl:=Sh.Bf h0;exact rt [(4,.bool o)]
   refine AF AA (Ac 3 AA (CZ AA (bs a λd3 S a=>Gs (hb 72) (Dg S) rfl (AS AA ?_))));rcases Sh.Ad a with ⟨d,a⟩|⟨d,a⟩
   .exact Aw d AA (Aw d AA (Aw d AA (BW (v:=HC p0) (CQ AA AA d) rfl (CU TZ AA) (bs a λc4 T a=>zd d (hb 72) (Dg T) rfl AA AA AA (zt d AA (AS AA (AB (R c4 (AT a) _ (Be _ AA)))))))))
   .refine zs d AA ?_;iterate 4 refine zs d rfl ?_
    exact zf d AA (AS AA (AB (R false (AT a) _ (Be _ AA))))
  refine AK (Am (σ:=Int) (λn v=>FH k p0 p1 n v=some y) (λp=>⟨100,AP [(0,ls Ai p0),(1,i64 p1),(5,.ptr 0 0 0 0),(7,i64 p)],[⟨0,80,3,[Ai k]⟩]⟩) N 0 a Ao (λ_ F=>by rw[FH]at F;cases F) ?_);rintro n p a;rw[FH]at a;refine AE λd4 U=>Ap AA ?_;refine ci a AA ?_ ?_<;>intro d5 a
  .refine AH (U _ (AE λd6 V=>AK (AE λc5 W=>bs a λX c a=>?_)));have z:∀A,X=A->∀s,Wk 0 s ⟨100,AP [(0,D4 p0),(1,i64 p1),(5,BG),(7,i64 p),(87,.bool A)],[XW k]⟩->c5 s:=by
    intro A D s i;subst X;refine W _ (AG i ?_);refine ci a AA ?_ ?_<;>intro d7 a
    .refine Ap AA ?_;cases a;cases h0;exact rd [(4,.bool false)]
    .exact AH (V _ (AF AA (Ac 3 AA (AB (xi (Sh.w (p+1)) a Ao)))))
   refine CW (by kernel_rfl) (by kernel_rfl) (by rfl) ?_;iterate 2 refine yq tb rfl ?_
   refine bs c λB j c=>yx DK j AA AA AA ?_;iterate 2 refine yq tb rfl ?_
   refine yl tb AA AA ?_;iterate 2 refine yq tb rfl ?_
   rcases Sh.Ad c with ⟨g,c⟩|⟨g,c⟩
   .refine yg tb g AA (yg tb g AA (H3 (v:=T9 B) (CQ AA AA g) rfl (CR DK AA AA j AA) ?_));iterate 5 refine yg tb g rfl ?_
    refine yt g AA (yq tb AA ?_);rcases Sh.Ad c with ⟨h,c⟩|⟨h,c⟩
    .refine yg tb h AA (yg tb h AA (H3 (v:=T9 B) (CQ AA AA h) rfl (CR DK AA AA j AA) ?_));iterate 5 refine yg tb h rfl ?_
     exact yt h AA (As (z (decide (B.to=k.to)) (AT c) _ Ao))
    .refine ys h AA ?_;iterate 7 refine ys h rfl ?_
     exact yf h AA (As (z false (AT c) _ Ao))
   .refine ys g AA ?_;iterate 7 refine ys g rfl ?_
    refine yf g AA (yq tb AA ?_);iterate 8 refine ys rfl rfl ?_
    exact yf AA AA (As (z false (AT c) _ Ao))
  .exact Av (c1 () (AT a) _ Ao)
theorem Rk {N:Nat}{p0:List AL}{r:Bool}(h0:Io N p0=some r):Bd 93 [D4 p0] [] (.bool r) []:=by
 unfold Io at h0;refine ai Tryz.func93 AA AA AA AA (Ap AA (AE λD i=>sr AA λE j=>AS AA (CZ AA (AS AA (dn j AA ?_)))));refine ci h0 AA ?_ ?_<;>intro F h0
 .refine Ap AA ?_;cases h0;exact rt [(2,.bool false)]
 .refine AH (i _ (AE λp k=>Ap AA ?_));obtain⟨l,a,h0⟩:=Sh.Bi h0;have q:∀(_:Unit),l=Sum.inr ()->∀s,Wk 0 s ⟨17,AP [],[]⟩->p s:=by
   intro _ G s t;subst l;refine k _ (AG t (Ap AA ?_));cases h0;exact rt [(2,.bool true)]
  refine AK (Am (σ:=Int) (λn v=>Eo N p0 n v=some l) (λm=>⟨17,AP [(0,ls Ai p0),(3,i64 m)],[]⟩) N 0 a Ao (λ_ o=>by rw[Eo]at o;cases o) ?_);rintro n m a;rw[Eo]at a;refine AE λu b=>sr AA λx c=>Ac 2 AA (CZ AA (AS AA (dn c AA ?_)));refine ci a AA ?_ ?_<;>intro y a
  .refine AH (b _ (AE λz d=>AK (sr AA λA e=>Ac 2 AA (bs a λf g a=>Gs (hb 127) (SS g) rfl (AS AA (dn e AA ?_))))));refine ci a AA ?_ ?_<;>intro h a
   .have B:f=false:=by simpa using h
    refine Ap AA ?_;cases a;cases h0;exact rt [(2,.bool false)]
   .have C:f=true:=by simpa using h
    exact AH (d _ (AF AA (Ac 3 AA (AB (xi (Sh.w (m+1)) a Ao)))))
  .exact Av (q () (AT a) _ Ao)
theorem Sd {N:Nat}{p0:AJ}{r:Bool}(h0:Hs N p0=some r):Bd 57 [KT p0] [] (.bool r) []:=by
 unfold Hs at h0;refine ai Tryz.func57 AA AA AA AA (sr AA λK1 I=>Ef 0 AA (AS AA (dn I AA (AE λK2 J=>AE λX K=>bs h0 λU a h0=>?_))));have V:∀L,U=L->∀s,Wk 0 s ⟨64,AP [(1,BG),(15,.bool L)],[Cy p0.decls p0.funcs]⟩->X s:=by
  intro L M s j;subst U;refine K _ (AG j ?_);refine ci h0 AA ?_ ?_<;>intro b6 h0
  .refine Ap AA ?_;cases h0;exact rd [(2,.bool false)]
  .refine AH (J _ (AE λY O=>Ap AA ?_));obtain⟨k,a,h0⟩:=Sh.Bi h0;have P:∀(_:Unit),k=Sum.inr ()->∀s,Wk 0 s ⟨64,AP [(1,BG)],[Cy p0.decls p0.funcs]⟩->Y s:=by
    intro _ M s j;subst k;refine O _ (AG j (AE λQ p=>bs h0 λq a h0=>?_));have t:∀g,q=g->∀s,Wk 0 s ⟨64,AP [(2,.bool g)],[]⟩->Q s:=by
     intro g M s j;subst q;try dsimp only at h0
     refine p _ (AG j ?_);obtain rfl:=Sh.Bf h0;exact rt [(2,.bool g)]
    refine AF AA (Ac 2 AA (bs a λu i a=>zx Cd i AA AA AA (Ac 2 AA (CZ AA (Ac 2 AA ?_)))));rcases Sh.Ad a with ⟨d,a⟩|⟨d,a⟩
    .refine Aw d AA (Aw d AA (BW (v:=Rr u) (CQ AA AA d) rfl (CR Cd AA AA i AA) ?_));iterate 3 refine Aw d rfl ?_
     exact zt d AA (AS AA (AB (t (decide (u.result=0)) (AT a) _ (Be _ AA))))
    .refine zs d AA ?_;iterate 5 refine zs d rfl ?_
     exact zf d AA (AS AA (AB (t false (AT a) _ (Be _ AA))))
   refine AK (Am (σ:=Int) (λn v=>EY N p0 n v=some k) (λh=>⟨64,AP [(1,.ptr 0 0 0 0),(3,i64 h)],[Cy p0.decls p0.funcs]⟩) N 0 a Ao (λ_ W=>by rw[EY]at W;cases W) ?_);rintro n h a;rw[EY]at a;refine AE λZ x=>sr AA λb0 y=>Ac 3 AA (CZ AA (AS AA (dn y AA ?_)));refine ci a AA ?_ ?_<;>intro b1 a
   .refine AH (x _ (AE λb2 z=>AK (sr AA λb3 A=>Ac 3 AA (bs a λb4 B a=>zx Cd B AA AA AA (AS AA (DE 1 MM AA (Bw Lj AA (dn A AA (AE λR C=>?_)))))))));refine bs a λD f a=>?_;have l:∀o,D=o->∀s,Wk 0 s ⟨64,AP [(1,BG),(3,i64 h),(48,.bool o)],[Cy p0.decls p0.funcs]⟩->R s:=by
     intro o M s j;subst D;refine C _ (AG j ?_);refine ci a AA ?_ ?_<;>intro b5 a
     .refine Ap AA ?_;cases a;cases h0;exact rd [(2,.bool false)]
     .exact AH (z _ (AF AA (Ac 3 AA (AB (xi (Sh.w (h+1)) a Ao)))))
    refine AF AA (Ac 2 AA (CZ AA (Ac 2 AA ?_)));rcases Sh.Ad f with ⟨e,f⟩|⟨e,f⟩
    .refine zs e AA ?_;iterate 5 refine zs e rfl ?_
     refine zt e AA (AS AA ?_);iterate 7 refine zs rfl rfl ?_
     refine zt AA AA ?_;exact AB (l true (AT f) _ (AM [0] AA AA (.w .nil) (.same AA)))
    .refine Aw e AA ?_;iterate 3 refine Aw e rfl ?_
     refine bs f λb7 E f=>zd e (hb 94) (N5 E) rfl AA AA AA (Aw e AA (zf e AA (AS AA ?_)));rcases Sh.Ad f with ⟨b,f⟩|⟨b,f⟩
     .refine zs b AA ?_;iterate 6 refine zs b rfl ?_
      refine zt b AA ?_;exact AB (l true (AT f) _ (AM [0] AA AA (.w .nil) (.same AA)))
     .refine Aw b AA ?_;iterate 3 refine Aw b rfl ?_
      refine BW (v:=i64 (Sh.len p0.decls)) (CQ AA AA b) rfl (CU TZ AA) (bs f λS F f=>zd b (hb 72) (Dg F) rfl AA AA AA (Aw b AA (zf b AA ?_)));exact AB (l (!S) (AT f) _ (AM [0] AA AA (.w .nil) (.same AA)))
   .exact Av (P () (AT a) _ Ao)
 refine AF AA (Ac 2 AA (bs a λb8 G a=>Gs (hb 93) (Rk G) rfl (Ac 2 AA ?_)));rcases Sh.Ad a with ⟨c,a⟩|⟨c,a⟩
 .refine zs c AA ?_;iterate 4 refine zs c rfl ?_
  exact zt c AA (AB (V true (AT a) _ Ao))
 .exact Aw c AA (Aw c AA (BW (v:=i64 (Sh.len p0.funcs)) (CQ AA AA c) rfl (CU Pv AA) (bs a λT H a=>zd c (hb 72) (Dg H) rfl AA AA AA (Aw c AA (zf c AA (AB (V (!T) (AT a) _ Ao)))))))
theorem OZ {N:Nat}{tq:AJ->(List Int)->AD->Option (Int)}(tx :∀{p0:AJ} {p1:List Int} {p2:AD} {r:Int},tq p0 p1 p2=some r->Bd 59 (YW p0 p1 p2) [] (i64 r) []){p0:AJ}{p1:List Int}{p2:List AD}{p3:Int}{r:Bool}(h0:JS N tq p0 p1 p2 p3=some r):Bd 96 [KT p0,ls eI p1,Hd p2,i64 p3] [] (.bool r) []:=by
 unfold JS at h0;refine ai Tryz.func96 AA AA AA AA (sr AA λG k=>Ef 0 AA (AS AA (dn k AA (AE λH l=>sr AA λI o=>AS AA (CZ AA (Ac 2 AA (dn o AA ?_)))))));refine ci h0 AA ?_ ?_<;>intro u h0
 .have J:decide ((Sh.len p2)=p3)=false:=by simpa using u
  refine Ap AA ?_;cases h0;exact rd [(8,.bool false)]
 .have K:decide ((Sh.len p2)=p3)=true:=by simpa using u
  refine AH (l _ (AE λy p=>Ap AA ?_));obtain⟨b,a,h0⟩:=Sh.Bi h0;have q:∀(_:Unit),b=Sum.inr ()->∀s,Wk 0 s ⟨27,AP [],[]⟩->y s:=by
   intro _ L s z;subst b;refine p _ (AG z (Ap AA ?_));cases h0;exact rt [(8,.bool true)]
  refine AK (Am (σ:=Int) (λn v=>GI p0 p1 p2 p3 tq n v=some b) (λc=>⟨27,AP [(1,ls eI p1),(2,ls Ar p2),(3,i64 p3),(4,.ptr 0 0 0 0),(9,i64 c)],[Cy p0.decls p0.funcs]⟩) N 0 a Ao (λ_ x=>by rw[GI]at x;cases x) ?_);rintro n c a;rw[GI]at a;refine AE λA e=>Ap AA ?_;refine ci a AA ?_ ?_<;>intro B a
  .refine AH (e _ (AE λC f=>AK (AE λD g=>?_)));refine CW (by kernel_rfl) (by kernel_rfl) (by rfl) ?_;iterate 4 refine yq tb rfl ?_
   refine bs a λt h a=>yz (EP t) (Cc BZ AA AA h (Af _) rfl) rfl (yq tb AA (bs a λd i a=>BU (v:=i64 d) AN (hb 59) (tx i) rfl AA AA (yq tb AA (As (g _ ?_)))));refine ci a AA ?_ ?_<;>intro j a
   .have E:decide (d=0)=false:=by simpa using j
    refine Ap AA ?_;cases a;cases h0;exact rd [(8,.bool false)]
   .have F:decide (d=0)=true:=by simpa using j
    exact AH (f _ (AF AA (Ac 3 AA (AB (xi (Sh.w (c+1)) a Ao)))))
  .exact Av (q () (AT a) _ (Be _ AA))
theorem NM {N:Nat}{tq:AJ->(List Int)->AD->Option (Int)}(tx :∀{p0:AJ} {p1:List Int} {p2:AD} {r:Int},tq p0 p1 p2=some r->Bd 59 (YW p0 p1 p2) [] (i64 r) []){p0:AJ}{p1:List Int}{p2:List AD}{p3:List Int}{r:Bool}(h0:Jt N tq p0 p1 p2 p3=some r):Bd 98 [KT p0,ls eI p1,Hd p2,ls eI p3] [] (.bool r) []:=by
 unfold Jt at h0;refine ai Tryz.func98 AA AA AA AA (sr AA λK p=>Ef 0 AA (AS AA (dn p AA (AE λL q=>sr AA λM t=>AS AA (CZ AA (AS AA (CZ AA (AS AA ?_))))))));refine dn t AA ?_;refine ci h0 AA ?_ ?_<;>intro z h0
 .have O:decide ((Sh.len p2)=Sh.len p3)=false:=by simpa using z
  refine Ap AA ?_;cases h0;exact rd [(8,.bool false)]
 .have P:decide ((Sh.len p2)=Sh.len p3)=true:=by simpa using z
  refine AH (q _ (AE λB u=>Ap AA ?_));obtain⟨b,a,h0⟩:=Sh.Bi h0;have x:∀(_:Unit),b=Sum.inr ()->∀s,Wk 0 s ⟨33,AP [],[]⟩->B s:=by
   intro _ Q s C;subst b;refine u _ (AG C (Ap AA ?_));cases h0;exact rt [(8,.bool true)]
  refine AK (Am (σ:=Int) (λn v=>G1 p0 p1 p2 p3 tq n v=some b) (λc=>⟨33,AP [(1,ls eI p1),(2,ls Ar p2),(3,ls eI p3),(4,.ptr 0 0 0 0),(9,i64 c)],[Cy p0.decls p0.funcs]⟩) N 0 a Ao (λ_ A=>by rw[G1]at A;cases A) ?_);rintro n c a;rw[G1]at a;refine AE λD e=>sr AA λE f=>Ac 2 AA (CZ AA (AS AA (dn f AA ?_)));refine ci a AA ?_ ?_<;>intro F a
  .refine AH (e _ (AE λG g=>AK (AE λH h=>?_)));refine CW (by kernel_rfl) (by kernel_rfl) (by rfl) ?_;iterate 4 refine yq tb rfl ?_
   refine bs a λy i a=>yz (EP y) (Cc BZ AA AA i (Af _) rfl) rfl (yq tb AA (bs a λd j a=>BU (v:=i64 d) AN (hb 59) (tx j) rfl AA AA ?_));iterate 2 refine yq tb rfl ?_
   refine bs a λk l a=>yx BF l AA AA AA ?_;iterate 2 refine yq tb rfl ?_
   refine As (h _ ?_);refine ci a AA ?_ ?_<;>intro o a
   .have I:decide (d=k)=false:=by simpa using o
    refine Ap AA ?_;cases a;cases h0;exact rd [(8,.bool false)]
   .have J:decide (d=k)=true:=by simpa using o
    exact AH (g _ (AF AA (Ac 3 AA (AB (xi (Sh.w (c+1)) a Ao)))))
  .exact Av (x () (AT a) _ (Be _ AA))
theorem Sr {N:Nat}{tq:AJ->(List Int)->AD->Option (Int)}(tx :∀{p0:AJ} {p1:List Int} {p2:AD} {r:Int},tq p0 p1 p2=some r->Bd 59 (YW p0 p1 p2) [] (i64 r) []){p0:AJ}{p1:List Int}{p2:AD}{r:Int}(h0:Kj N tq p0 p1 p2=some r):Bd 100 (YW p0 p1 p2) [] (i64 r) []:=by
 unfold Kj at h0;refine ai Tryz.func100 AA AA AA AA (sr AA λK1 K=>Ef 0 AA (Ef 1 AA (AS AA (dn K AA (sr AA λK2 M=>Ac 4 AA (bs h0 λe O h0=>Bo (v':=ow 2 0 e) AN (hb 104) (JA O) rfl AA ⟨(Bq λ_=>AA),pA⟩ AA AA (AS AA (dn M AA ?_))))))));refine AE λK4 P=>AE λK5 Q=>bs h0 λo7 a h0=>?_;have R:∀S,o7=S->∀s,Wk 0 s ⟨79,AP [(1,ls eI p1),(3,BG),(5,CJ),(7,ow 2 0 e),(38,.bool S)],[Cy p0.decls p0.funcs,Mo p2.op p2.num p2.kids,BX e]⟩->K5 s:=by
  intro S hq s T;subst o7;refine Q _ (AG T ?_);refine ci h0 AA ?_ ?_<;>intro b8 h0
  .refine Ap AA ?_;cases h0;exact rd [(6,i64 (-1))]
  .refine AH (P _ (AE λb3 k=>?_));refine CI 14 (by kernel_rfl) (by kernel_rfl) (by rfl) ?_;iterate 5 refine yq tb rfl ?_
   refine bs h0 λU g h0=>yz (.ptr 2 0 (Int.toNat 0) 0) (CD BF AA AA AA AA g) rfl (yz (i64 U) (CG Hy AA AA (CS g) rfl) rfl (bs h0 λV l h0=>BU (v:=ls eI V) AN (hb 99) (FK l) rfl AA AA (bs h0 λo p h0=>?_)));refine BU (v:=ls eI o) AN (hb 85) (BJ.wk (F7 p) (by refine Wk.trans (Wk.BY (L:=[(0,ls eI o)]) (st':=UY) (id:=0) rfl tN Bn ⟨.BY AA,pA⟩ AA) ?_;exact AM [] AA AA .nil (.same AA))) rfl AA AA ?_;iterate 2 refine yq tb rfl ?_
   refine bs h0 λW q h0=>yz (EP W) (Cc BZ AA AA q (Af _) rfl) rfl (yq tb AA (bs h0 λd t h0=>BU (v:=i64 d) AN (hb 59) (tx t) rfl AA AA (As (AS AA (dn k AA (AE λX u=>Ap AA ?_))))));obtain⟨i,a,h0⟩:=Sh.Bi h0;have Y:∀(_:Unit),i=Sum.inr ()->∀s,Wk 0 s ⟨79,AP [(8,i64 d)],[]⟩->X s:=by
    intro _ hq s T;subst i;try dsimp only at h0
    refine u _ (AG T (Ap AA ?_));obtain rfl:=Sh.Bf h0;exact rt [(6,i64 d)]
   refine AK (Am (σ:=Int) (λn v=>EV N p0 p1 p2 d e tq n v=some i) (λf=>⟨79,AP [(1,ls eI p1),(3,.ptr 0 0 0 0),(5,.ptr 1 0 0 0),(7,ow 2 0 e),(8,i64 d),(9,i64 f)],[Cy p0.decls p0.funcs,Mo p2.op p2.num p2.kids,ro 0 3 1 eI e]⟩) N 1 a Ao (λ_ hv=>by rw[EV]at hv;cases hv) ?_);rintro n f a;rw[EV]at a;refine AE λb4 x=>sr AA λb5 y=>Ac 2 AA (zz (HC e) (DD Gc AA AA AA) rfl (AS AA (dn y AA ?_)));refine ci a AA ?_ ?_<;>intro b6 a
   .refine AH (x _ (AE λb7 z=>AK (AE λb9 A=>?_)));refine CI 18 (by kernel_rfl) (by kernel_rfl) (by rfl) ?_;iterate 6 refine yq tb rfl ?_
    refine bs a λZ h a=>yz (.ptr 2 0 (Int.toNat f) 0) (CD BF AA AA AA AA h) rfl (yz (i64 Z) (CG Hy AA AA (CS h) rfl) rfl (bs a λb0 B a=>BU (v:=ls eI b0) AN (hb 99) (FK B) rfl AA AA (bs a λC D a=>?_)));refine BU (v:=ls eI C) AN (hb 85) (BJ.wk (F7 D) (by refine Wk.trans (Wk.BY (L:=[(0,ls eI C)]) (st':=UY) (id:=0) rfl tN Bn ⟨.BY AA,pA⟩ AA) ?_;exact AM [] AA AA .nil (.same AA))) rfl AA AA ?_;iterate 4 refine yq tb rfl ?_
    refine bs a λb1 E a=>yz (EP b1) (Cc BZ AA AA E (Af _) rfl) rfl (yq tb AA (bs a λj F a=>BU (v:=i64 j) AN (hb 59) (tx F) rfl AA AA (yq tb AA (As (AS AA (dn A AA ?_))))));refine ci a AA ?_ ?_<;>intro G a
    .have c0:decide (j=d)=false:=by simpa using G
     refine Ap AA ?_;cases a;cases h0;exact rd [(6,i64 (-1))]
    .have c1:decide (j=d)=true:=by simpa using G
     exact AH (z _ (AF AA (Ac 3 AA (AB (xi (Sh.w (f+1)) a Ao)))))
   .exact Av (Y () (AT a) _ (Be _ AA))
 refine CW (by kernel_rfl) (by kernel_rfl) (by rfl) ?_;refine yq tb AA (yz (HC e) (DD Gc AA AA AA) rfl ?_);iterate 2 refine yq tb rfl ?_
 rcases Sh.Ad a with ⟨b,a⟩|⟨b,a⟩
 .refine ys b AA ?_;iterate 6 refine ys b rfl ?_
  refine yt b AA (yq tb AA ?_);iterate 10 refine ys rfl rfl ?_
  exact yt AA AA (As (R true (AT a) _ Ao))
 .refine yg tb b AA (yg tb b AA (H3 (v:=aP p2) (CQ AA AA b) rfl (CU Ub AA) (yg tb b AA (H3 (v:=HC e) (CQ AA AA b) rfl (DD Gc AA AA AA) ?_))));iterate 2 refine yg tb b rfl ?_
  refine yf b AA (yq tb AA ?_);rcases Sh.Ad a with ⟨c,a⟩|⟨c,a⟩
  .refine ys c AA ?_;iterate 9 refine ys c rfl ?_
   exact yt c AA (As (R true (AT a) _ Ao))
  .refine yg tb c AA ?_;iterate 3 refine yg tb c rfl ?_
   refine bs a λb2 H a=>H3 (v:=EP b2) (CQ AA AA c) rfl (Cc BZ AA AA H (Af _) rfl) (yg tb c AA (bs a λI J a=>BU (v:=i64 I) (CQ AA AA c) (hb 59) (tx J) rfl AA AA ?_));iterate 3 refine yg tb c rfl ?_
   exact yf c AA (As (R (!decide (I=p2.num)) (AT a) _ Ao))
theorem Tf {N:Nat}{tq:AJ->(List Int)->AD->Option (Int)}(tx :∀{p0:AJ} {p1:List Int} {p2:AD} {r:Int},tq p0 p1 p2=some r->Bd 59 (YW p0 p1 p2) [] (i64 r) []){p0:AJ}{p1:List Int}{p2:AD}{r:Int}(h0:Fo N tq p0 p1 p2=some r):Bd 101 (YW p0 p1 p2) [] (i64 r) []:=by
 unfold Fo at h0;refine ai Tryz.func101 AA AA AA AA (sr AA λK1 E=>Ef 0 AA (Ef 1 AA (AS AA (dn E AA (AE λK2 F=>sr AA λK3 G=>Ac 4 AA (CZ AA (AS AA (bs h0 λK H h0=>?_))))))));refine Gs (hb 72) (Dg H) rfl (AS AA (dn G AA ?_));refine ci h0 AA ?_ ?_<;>intro L h0
 .have b6:K=false:=by simpa using L
  refine Ap AA ?_;cases h0;exact rd [(6,i64 (-1))]
 .have b8:K=true:=by simpa using L
  refine AH (F _ (sr AA λK9 I=>Ac 4 AA (bs h0 λb e h0=>zx Cd e AA AA AA (AS AA (DE 2 MM AA (Bw Lj AA (dn I AA (sr AA λM f=>Ac 2 AA (CZ AA ?_)))))))));refine AS AA (dn f AA (AE λO g=>Ap AA ?_));refine ci h0 AA ?_ ?_<;>intro P h0
  .refine AE λQ h=>sr AA λR k=>Ac 6 AA (bs h0 λl n h0=>Gs (hb 98) (NM tx n) rfl (AS AA (dn k AA ?_)));refine ci h0 AA ?_ ?_<;>intro o h0
   .have S:l=false:=by simpa using o
    refine Ap AA ?_;cases h0;exact rd [(6,i64 (-1))]
   .have T:l=true:=by simpa using o
    refine AH (h _ (Ap AA ?_));cases h0;exact rd [(6,i64 b.result)]
  .refine AH (g _ (AE λU p=>AE λJ q=>bs h0 λt c h0=>?_));have u:∀d,t=d->∀s,Wk 0 s ⟨65,AP [(3,BG),(7,CJ),(8,i64 (Sh.len b.params)),(53,.bool d)],[Cy p0.decls p0.funcs,nk b.params b.result b.body.op b.body.num b.body.kids]⟩->J s:=by
    intro d hq s V;subst t;refine q _ (AG V ?_);refine ci h0 AA ?_ ?_<;>intro W h0
    .refine Ap AA ?_;obtain rfl:=Sh.Bf h0;exact rd [(6,i64 (-1))]
    .refine AH (p _ (AE λX x=>?_));refine CW (by kernel_rfl) (by kernel_rfl) (by rfl) ?_;iterate 6 refine yq tb rfl ?_
     refine bs h0 λY y h0=>yx BF y AA AA AA ?_;iterate 3 refine yq tb rfl ?_
     refine bs h0 λz A h0=>BU (v:=i64 z) AN (hb 128) (OW A) rfl AA AA (yq tb AA (As (x _ ?_)));obtain rfl:=Sh.Bf h0;exact rd [(6,i64 z)]
   refine CI 14 (by kernel_rfl) (by kernel_rfl) (by rfl) ?_;iterate 3 refine yq tb rfl ?_
   rcases Sh.Ad c with ⟨a,c⟩|⟨a,c⟩
   .refine ys a AA ?_;iterate 10 refine ys a rfl ?_
    refine As (zt a AA ?_);exact AB (u true (AT c) _ (AM [0,2] AA AA (.w (.w .nil)) (.same AA)))
   .refine yg tb a AA ?_;iterate 7 refine yg tb a rfl ?_
    refine bs c λZ B c=>eQ (i:=0) (j:=Sh.w ((Sh.len b.params)-1)) (CQ AA AA a) BF AA AA AA (λ_=>AA) B (bs c λC D c=>BU (v:=.bool C) (CQ AA AA a) (hb 98) (NM tx D) rfl AA AA (yg tb a AA (As (zf a AA ?_))));exact AB (u (!C) (AT c) _ (AM [0,2] AA AA (.w (.w .nil)) (.same AA)))
theorem To {N:Nat}{tq:AJ->(List Int)->AD->Option (Int)}(tx :∀{p0:AJ} {p1:List Int} {p2:AD} {r:Int},tq p0 p1 p2=some r->Bd 59 (YW p0 p1 p2) [] (i64 r) []){p0:AJ}{p1:List Int}{p2:AD}{r:Int}(h0:Bs N tq p0 p1 p2=some r):Bd 59 (YW p0 p1 p2) [] (i64 r) []:=by
 unfold Bs at h0;refine ai Tryz.func59 AA AA AA AA (sr AA λK1 m7=>Ef 0 AA (Ef 1 AA (AS AA (dn m7 AA (Ap AA (AE λK3 m8=>?_))))));obtain⟨o4,a,h0⟩:=Sh.Bi h0;have p:∀(_:Unit),o4=Sum.inr ()->∀s,Wk 0 s ⟨215,AP [],[]⟩->K3 s:=by
  intro _ q s e;subst o4;refine m8 _ (AG e (Ap AA ?_));cases h0;exact rt [(6,i64 (-1))]
 refine Ap AA (AK (Ap AA ?_));refine ci a AA ?_ ?_<;>intro b8 a
 .refine AE λK9 m9=>bs a λb3 b a=>?_;have b4:∀E,b3=E->∀s,Wk 0 s ⟨215,AP [(26,.bool E)],[]⟩->K9 s:=by
   intro E q s e;subst b3;refine m9 _ (AG e ?_);refine ci a AA ?_ ?_<;>intro v9 a
   .refine Ap AA ?_;cases a;cases h0;exact rt [(6,i64 0)]
   .exact AH (p () (AT a) _ Ao)
  refine AF AA (Ac 2 AA (CZ AA (Ac 2 AA ?_)));rcases Sh.Ad b with ⟨h,b⟩|⟨h,b⟩
  .exact Aw h AA (Aw h AA (bs b λq0 b5 b=>zd h (hb 72) (Dg b5) rfl AA AA AA (zt h AA (AB (b4 q0 (AT b) _ (Be _ AA))))))
  .exact zs h AA (zs h AA (zs h AA (zf h AA (AB (b4 false (AT b) _ (Be _ AA))))))
 .refine Ap AA ?_;refine ci a AA ?_ ?_<;>intro w0 a
  .refine AE λq1 b6=>bs a λb7 b a=>?_;have b9:∀F,b7=F->∀s,Wk 0 s ⟨215,AP [(1,ls eI p1),(5,BG),(40,.bool F)],[Mo p2.op p2.num p2.kids]⟩->q1 s:=by
    intro F q s e;subst b7;refine b6 _ (AG e ?_);refine ci a AA ?_ ?_<;>intro w1 a
    .refine sr AA λw2 c0=>Ac 3 AA (bs a λq2 c1 a=>zx BF c1 AA AA AA (Ac 2 AA (dn c0 AA ?_)));cases a;cases h0;exact rd [(6,i64 q2)]
    .exact AH (p () (AT a) _ (Be _ AA))
   refine AF AA (Ac 2 AA (CZ AA (Ac 2 AA ?_)));rcases Sh.Ad b with ⟨f,b⟩|⟨f,b⟩
   .refine Aw f AA (Aw f AA (Aw f AA (BW (v:=HC p1) (CQ AA AA f) rfl (CU Gc AA) (Aw f AA (bs b λq3 c2 b=>zd f (hb 72) (Dg c2) rfl AA AA AA (zt f AA ?_))))));exact AB (b9 q3 (AT b) _ (AM [1] AA AA (.w .nil) (.same AA)))
   .refine zs f AA ?_;iterate 5 refine zs f rfl ?_
    refine zf f AA ?_;exact AB (b9 false (AT b) _ (AM [1] AA AA (.w .nil) (.same AA)))
  .refine AE λq4 c3=>bs a λc4 b a=>?_;have w:∀G,c4=G->∀s,Wk 0 s ⟨215,AP (gN p1 p2 [(46,.bool G)]),[Cy p0.decls p0.funcs,Mo p2.op p2.num p2.kids]⟩->q4 s:=by
    intro G q s e;subst c4;refine c3 _ (AG e ?_);refine ci a AA ?_ ?_<;>intro w3 a
    .refine AE λq5 c5=>bs a λc6 b a=>?_;have c7:∀H,c6=H->∀s,Wk 0 s ⟨215,AP [(58,.bool H)],[]⟩->q5 s:=by
      intro H q s e;subst c6;refine c5 _ (AG e ?_);refine ci a AA ?_ ?_<;>intro w4 a
      .refine Ap AA ?_;cases a;cases h0;exact rt [(6,i64 0)]
      .exact AH (p () (AT a) _ Ao)
     refine AF AA (Ac 2 AA ?_);rcases Sh.Ad b with ⟨n,b⟩|⟨n,b⟩
     .refine Aw n AA ?_;iterate 3 refine Aw n rfl ?_
      exact bs b λq6 c8 b=>zd n (hb 96) (OZ tx c8) rfl AA AA AA (zt n AA (AB (c7 q6 (AT b) _ (Be _ AA))))
     .refine zs n AA ?_;iterate 4 refine zs n rfl ?_
      exact zf n AA (AB (c7 false (AT b) _ (Be _ AA)))
    .refine Ap AA ?_;refine ci a AA ?_ ?_<;>intro w5 a
     .refine AE λq7 c9=>bs a λd1 b a=>?_;have d2:∀I,d1=I->∀s,Wk 0 s ⟨215,AP [(68,.bool I)],[]⟩->q7 s:=by
       intro I q s e;subst d1;refine c9 _ (AG e ?_);refine ci a AA ?_ ?_<;>intro w6 a
       .refine Ap AA ?_;cases a;cases h0;exact rt [(6,i64 0)]
       .exact AH (p () (AT a) _ Ao)
      refine AF AA (Ac 2 AA ?_);rcases Sh.Ad b with ⟨o,b⟩|⟨o,b⟩
      .refine Aw o AA ?_;iterate 3 refine Aw o rfl ?_
       exact bs b λq8 d3 b=>zd o (hb 96) (OZ tx d3) rfl AA AA AA (zt o AA (AB (d2 q8 (AT b) _ (Be _ AA))))
      .refine zs o AA ?_;iterate 4 refine zs o rfl ?_
       exact zf o AA (AB (d2 false (AT b) _ (Be _ AA)))
     .refine Ap AA ?_;refine ci a AA ?_ ?_<;>intro w7 a
      .refine AE λq9 d4=>bs a λd5 b a=>?_;have d6:∀J,d5=J->∀s,Wk 0 s ⟨215,AP [(3,BG),(5,CJ),(88,.bool J)],[Cy p0.decls p0.funcs,Mo p2.op p2.num p2.kids]⟩->q9 s:=by
        intro J q s e;subst d5;refine d4 _ (AG e ?_);refine ci a AA ?_ ?_<;>intro w8 a
        .refine sr AA λw9 d7=>Ac 4 AA (bs a λt0 d8 a=>Gs (hb 97) (Lq d8) rfl (AS AA (dn d7 AA ?_)));cases a;cases h0;exact rd [(6,i64 t0)]
        .exact AH (p () (AT a) _ (Be _ AA))
       refine CI 17 (by kernel_rfl) (by kernel_rfl) (by rfl) ?_;iterate 4 refine yq tb rfl ?_
       refine bs b λt1 d9 b=>BU (v:=i64 t1) AN (hb 97) (Lq d9) rfl AA AA ?_;iterate 2 refine yq tb rfl ?_
       rcases Sh.Ad b with ⟨i,b⟩|⟨i,b⟩
       .refine yg tb i AA ?_;iterate 7 refine yg tb i rfl ?_
        exact bs b λt2 g0 b=>BU (v:=ls eI t2) (CQ AA AA i) (hb 99) (FK g0) rfl AA AA (bs b λg1 g2 b=>BU (v:=.bool g1) (CQ AA AA i) (hb 98) (NM tx g2) rfl AA AA (As (zt i AA (AB (d6 g1 (AT b) _ Ao)))))
       .refine ys i AA ?_;iterate 9 refine ys i rfl ?_
        exact As (zf i AA (AB (d6 false (AT b) _ Ao)))
      .refine Ap AA ?_;refine ci a AA ?_ ?_<;>intro A0 a
       .refine AE λt3 g3=>bs a λg4 b a=>?_;have g5:∀K,g4=K->∀s,Wk 0 s ⟨215,AP [(1,ls eI p1),(3,BG),(5,CJ),(102,.bool K)],[Cy p0.decls p0.funcs,Mo p2.op p2.num p2.kids]⟩->t3 s:=by
         intro K q s e;subst g4;refine g3 _ (AG e ?_);refine ci a AA ?_ ?_<;>intro A1 a
         .refine AE λA2 g6=>?_;refine CW (by kernel_rfl) (by kernel_rfl) (by rfl) ?_;iterate 4 refine yq tb rfl ?_
          refine bs a λt4 g7 a=>yz (EP t4) (Cc BZ AA AA g7 (Af _) rfl) rfl (yq tb AA (bs a λg8 g9 a=>BU (v:=i64 g8) AN (hb 59) (tx g9) rfl AA AA (yq tb AA (As (g6 _ (Ap AA ?_))))));refine ci a AA ?_ ?_<;>intro A3 a
          .refine AE λA4 h3=>?_;refine CI 10 (by kernel_rfl) (by kernel_rfl) (by rfl) ?_;iterate 3 refine yq tb rfl ?_
           refine Gu (l:=[g8]) (enc:=eI) AN BF (by decide) rfl AA AA AA AA Bn ?_;refine bs a λh4 h5 a=>?_;refine BU (v:=ls eI h4) AN (hb 85) (BJ.wk (F7 h5) (by refine Wk.trans (Wk.BY (L:=[(0,ls eI h4)]) (st':=UY) (id:=0) rfl tN Bn ⟨.BY AA,pA⟩ AA) ?_;exact AM [] AA AA .nil (.same AA))) rfl AA AA ?_;iterate 2 refine yq tb rfl ?_
           refine bs a λt5 h6 a=>yz (EP t5) (Cc BZ AA AA h6 (Af _) rfl) rfl (yq tb AA (bs a λh7 h8 a=>BU (v:=i64 h7) AN (hb 59) (tx h8) rfl AA AA (As (AS AA (dn h3 AA ?_)))));cases a;cases h0;exact rd [(6,i64 h7)]
          .exact AH (p () (AT a) _ (Be _ AA))
         .exact AH (p () (AT a) _ (Be _ AA))
        refine AF AA (Ac 2 AA ?_);rcases Sh.Ad b with ⟨j,b⟩|⟨j,b⟩
        .exact Aw j AA (Aw j AA (BW (v:=aP p2) (CQ AA AA j) rfl (CU Ub AA) (Aw j AA (zt j AA (AB (g5 (decide ((Sh.len p2.kids)=2)) (AT b) _ Ao))))))
        .refine zs j AA ?_;iterate 3 refine zs j rfl ?_
         exact zf j AA (AB (g5 false (AT b) _ Ao))
       .refine Ap AA ?_;refine ci a AA ?_ ?_<;>intro A5 a
        .refine AE λt6 h9=>bs a λk0 b a=>?_;have M:∀O,k0=O->∀s,Wk 0 s ⟨215,AP [(1,ls eI p1),(3,BG),(5,CJ),(140,.bool O)],[Cy p0.decls p0.funcs,Mo p2.op p2.num p2.kids]⟩->t6 s:=by
          intro O q s e;subst k0;refine h9 _ (AG e ?_);refine ci a AA ?_ ?_<;>intro A6 a
          .refine AE λA7 k1=>?_;refine CW (by kernel_rfl) (by kernel_rfl) (by rfl) ?_;iterate 4 refine yq tb rfl ?_
           refine bs a λt7 k2 a=>yz (EP t7) (Cc BZ AA AA k2 (Af _) rfl) rfl (yq tb AA (bs a λk3 k4 a=>BU (v:=i64 k3) AN (hb 59) (tx k4) rfl AA AA (yq tb AA (As (k1 _ (AE λA8 k5=>?_))))));refine CW (by kernel_rfl) (by kernel_rfl) (by rfl) ?_;iterate 4 refine yq tb rfl ?_
           refine bs a λt8 k6 a=>yz (EP t8) (Cc BZ AA AA k6 (Af _) rfl) rfl (yq tb AA (bs a λt9 k7 a=>BU (v:=i64 t9) AN (hb 59) (tx k7) rfl AA AA ?_));iterate 2 refine yq tb rfl ?_
           refine As (k5 _ ?_);refine ci a AA ?_ ?_<;>intro A9 a
           .refine Ap AA ?_;cases a;cases h0;exact rd [(6,i64 k3)]
           .exact AH (p () (AT a) _ (Be _ AA))
          .exact AH (p () (AT a) _ (Be _ AA))
         refine CW (by kernel_rfl) (by kernel_rfl) (by rfl) ?_;iterate 2 refine yq tb rfl ?_
         rcases Sh.Ad b with ⟨k,b⟩|⟨k,b⟩
         .refine yg tb k AA (yg tb k AA (H3 (v:=aP p2) (CQ AA AA k) rfl (CU Ub AA) (yg tb k AA (yt k AA (yq tb AA ?_)))));rcases Sh.Ad b with ⟨g,b⟩|⟨g,b⟩
          .refine yg tb g AA ?_;iterate 3 refine yg tb g rfl ?_
           exact bs b λv0 k8 b=>H3 (v:=EP v0) (CQ AA AA g) rfl (Cc BZ AA AA k8 (Af _) rfl) (yg tb g AA (bs b λk9 l0 b=>BU (v:=i64 k9) (CQ AA AA g) (hb 59) (tx l0) rfl AA AA (yg tb g AA (yt g AA (As (M (decide (k9=0)) (AT b) _ Ao))))))
          .refine ys g AA ?_;iterate 7 refine ys g rfl ?_
           exact yf g AA (As (M false (AT b) _ Ao))
         .refine ys k AA ?_;iterate 3 refine ys k rfl ?_
          refine yf k AA (yq tb AA ?_);iterate 8 refine ys rfl rfl ?_
          exact yf AA AA (As (M false (AT b) _ Ao))
        .refine Ap AA ?_;refine ci a AA ?_ ?_<;>intro B0 a
         .refine sr AA λB1 l1=>Ac 3 AA (bs a λv1 l2 a=>Gs (hb 100) (Sr tx l2) rfl (AS AA (dn l1 AA ?_)));cases a;cases h0;exact rd [(6,i64 v1)]
         .refine AE λv2 l3=>bs a λl4 b a=>?_;have l5:∀P,l4=P->∀s,Wk 0 s ⟨215,AP (gN p1 p2 [(164,.bool P)]),[Cy p0.decls p0.funcs,Mo p2.op p2.num p2.kids]⟩->v2 s:=by
           intro P q s e;subst l4;refine l3 _ (AG e ?_);refine ci a AA ?_ ?_<;>intro B2 a
           .refine sr AA λv3 Q=>Ac 3 AA (bs a λl6 R a=>Gs (hb 101) (Tf tx R) rfl (AS AA (dn Q AA ?_)));cases a;cases h0;exact rd [(6,i64 l6)]
           .refine Ap AA ?_;refine ci a AA ?_ ?_<;>intro v4 a
            .refine AE λl7 S=>bs a λx b a=>?_;have y:∀t,x=t->∀s,Wk 0 s ⟨215,AP [(1,ls eI p1),(3,BG),(5,CJ),(179,.bool t)],[Cy p0.decls p0.funcs,Mo p2.op p2.num p2.kids]⟩->l7 s:=by
              intro t q s e;subst x;refine S _ (AG e ?_);refine ci a AA ?_ ?_<;>intro v5 a
              .refine AE λv6 T=>?_;refine CW (by kernel_rfl) (by kernel_rfl) (by rfl) ?_;iterate 4 refine yq tb rfl ?_
               refine bs a λl8 U a=>yz (EP l8) (Cc BZ AA AA U (Af _) rfl) rfl (yq tb AA (bs a λz V a=>BU (v:=i64 z) AN (hb 59) (tx V) rfl AA AA (yq tb AA (As (T _ (AE λl9 W=>bs a λA b a=>?_))))));have B:∀u,A=u->∀s,Wk 0 s ⟨215,AP [(3,BG),(10,i64 z),(207,.bool u)],[Cy p0.decls p0.funcs]⟩->l9 s:=by
                intro u q s e;subst A;refine W _ (AG e ?_);refine ci a AA ?_ ?_<;>intro v7 a
                .refine sr AA λv8 X=>Ac 4 AA (bs a λm0 Y a=>zx DK Y AA AA AA (Ac 3 AA (dn X AA ?_)));cases a;cases h0;exact rd [(6,i64 m0.to)]
                .exact AH (p () (AT a) _ (Be _ AA))
               refine CW (by kernel_rfl) (by kernel_rfl) (by rfl) ?_;iterate 3 refine yq tb rfl ?_
               refine bs b λm1 Z b=>BU (v:=.bool m1) AN (hb 102) (KI Z) rfl AA AA (yq tb AA ?_);rcases Sh.Ad b with ⟨c,b⟩|⟨c,b⟩
               .refine yg tb c AA ?_;iterate 3 refine yg tb c rfl ?_
                refine bs b λm2 b0 b=>H3 (v:=EP m2) (CQ AA AA c) rfl (Cc BZ AA AA b0 (Af _) rfl) (yg tb c AA (bs b λC b1 b=>BU (v:=i64 C) (CQ AA AA c) (hb 59) (tx b1) rfl AA AA ?_));iterate 4 refine yg tb c rfl ?_
                refine bs b λD b2 b=>H3 (v:=T9 D) (CQ AA AA c) rfl (CR DK AA AA b2 AA) ?_;iterate 3 refine yg tb c rfl ?_
                refine yt c AA ?_;exact As (B (decide (C=D.from_)) (AT b) _ (AM [0] AA AA (.w .nil) (.same AA)))
               .refine ys c AA ?_;iterate 14 refine ys c rfl ?_
                refine yf c AA ?_;exact As (B false (AT b) _ (AM [0] AA AA (.w .nil) (.same AA)))
              .exact AH (p () (AT a) _ (Be _ AA))
             refine AF AA (Ac 2 AA ?_);rcases Sh.Ad b with ⟨d,b⟩|⟨d,b⟩
             .exact Aw d AA (Aw d AA (BW (v:=aP p2) (CQ AA AA d) rfl (CU Ub AA) (Aw d AA (zt d AA (AB (y (decide ((Sh.len p2.kids)=2)) (AT b) _ Ao))))))
             .refine zs d AA ?_;iterate 3 refine zs d rfl ?_
              exact zf d AA (AB (y false (AT b) _ Ao))
            .exact AH (p () (AT a) _ (Be _ AA))
          refine Ap AA ?_;refine ci b AA ?_ ?_<;>intro m3 b
          .exact AH (l5 true (AT b) _ (Ag (L:=gN p1 p2 [(164,.bool true)]) ⟨.rfl,.rfl,.rfl,.rfl,.rfl,.of (qY AV.bool m3),pA⟩))
          .exact AF AA (Ac 2 AA (AB (l5 (decide (p2.op=10)) (AT b) _ Ao)))
   refine Ap AA ?_;refine ci b AA ?_ ?_<;>intro m4 b
   .exact AH (w true (AT b) _ (Ag (L:=gN p1 p2 [(46,.bool true)]) ⟨.rfl,.rfl,.rfl,.rfl,.rfl,.of (qY AV.bool m4),pA⟩))
   .refine Ap AA ?_;refine ci b AA ?_ ?_<;>intro m5 b
    .exact AH (w true (AT b) _ (Ag (L:=gN p1 p2 [(46,.bool true)]) ⟨.rfl,.rfl,.rfl,.rfl,.rfl,.of (qY AV.bool m5),pA⟩))
    .refine Ap AA ?_;refine ci b AA ?_ ?_<;>intro m6 b
     .exact AH (w true (AT b) _ (Ag (L:=gN p1 p2 [(46,.bool true)]) ⟨.rfl,.rfl,.rfl,.rfl,.rfl,.of (qY AV.bool m6),pA⟩))
     .exact AF AA (Ac 2 AA (AB (w (decide (p2.op=4)) (AT b) _ Ao)))
theorem UF {N:Nat}:∀(n:Nat),∀{p0:AJ} {p1:List Int} {p2:AD} {r:Int},Ci N n p0 p1 p2=some r->Bd 59 (YW p0 p1 p2) [] (i64 r) []:=by
 intro n
 induction n with
 |zero=>intro p0 p1 p2 r a;cases a
 |succ n ih=>
  intro p0 p1 p2 r a;rw[Ci]at a;exact To (λh=>ih h) a
theorem WO {N:Nat}:∀{p0:AJ} {p1:List Int} {p2:AD} {r:Int},KE N p0 p1 p2=some r->Bd 59 (YW p0 p1 p2) [] (i64 r) []:=by
 intro p0 p1 p2 r a;exact UF N a
theorem P8 {N:Nat}{p0:AJ}{r:Bool}(h0:BM N p0=some r):Bd 29 [KT p0] [] (.bool r) []:=by
 unfold BM at h0;refine ai Tryz.func29 AA AA AA AA (sr AA λR x=>Ef 0 AA (AS AA (dn x AA (AE λS y=>sr AA λT z=>AS AA (bs h0 λG A h0=>Gs (hb 57) (Sd A) rfl (AS AA (dn z AA ?_)))))));refine ci h0 AA ?_ ?_<;>intro H h0
 .have U:G=false:=by simpa using H
  refine Ap AA ?_;cases h0;exact rd [(2,.bool false)]
 .have V:G=true:=by simpa using H
  refine AH (y _ (AE λJ B=>Ap AA ?_));obtain⟨g,b,h0⟩:=Sh.Bi h0;have C:∀(_:Unit),g=Sum.inr ()->∀s,Wk 0 s ⟨45,AP [],[]⟩->J s:=by
   intro _ K s D;subst g;refine B _ (AG D (Ap AA ?_));cases h0;exact rt [(2,.bool true)]
  refine AK (Am (σ:=Int) (λn v=>Bl N p0 n v=some g) (λe=>⟨45,AP [(1,.ptr 0 0 0 0),(3,i64 e)],[Cy p0.decls p0.funcs]⟩) N 0 b Ao (λ_ I=>by rw[Bl]at I;cases I) ?_);rintro n e b;rw[Bl]at b;refine AE λL i=>sr AA λM j=>Ac 3 AA (CZ AA (AS AA (dn j AA ?_)));refine ci b AA ?_ ?_<;>intro O b
  .refine AH (i _ (AE λP k=>AK (AE λE l=>bs b λo d b=>?_)));have p:∀h,o=h->∀s,Wk 0 s ⟨45,AP [(1,BG),(3,i64 e),(44,.bool h)],[Cy p0.decls p0.funcs]⟩->E s:=by
    intro h K s D;subst o;refine l _ (AG D ?_);refine ci b AA ?_ ?_<;>intro Q b
    .refine Ap AA ?_;cases b;cases h0;exact rd [(2,.bool false)]
    .exact AH (k _ (AF AA (Ac 3 AA (AB (xi (Sh.w (e+1)) b Ao)))))
   refine CW (by kernel_rfl) (by kernel_rfl) (by rfl) ?_;iterate 3 refine yq tb rfl ?_
   refine bs d λf c d=>yx Cd c AA AA AA ?_;iterate 2 refine yq tb rfl ?_
   refine bs d λF q d=>BU (v:=i64 F) AN (hb 58) (KD q) rfl AA AA ?_;iterate 2 refine yq tb rfl ?_
   rcases Sh.Ad d with ⟨a,d⟩|⟨a,d⟩
   .refine ys a AA ?_;iterate 20 refine ys a rfl ?_
    exact yt a AA (As (p true (AT d) _ Ao))
   .refine yg tb a AA ?_;iterate 3 refine yg tb a rfl ?_
    refine H3 (v:=Rr f) (CQ AA AA a) rfl (CR Cd AA AA c AA) ?_;iterate 5 refine yg tb a rfl ?_
    refine H3 (v:=Rr f) (CQ AA AA a) rfl (CR Cd AA AA c AA) ?_;iterate 2 refine yg tb a rfl ?_
    refine bs d λt u d=>BU (v:=i64 t) (CQ AA AA a) (hb 59) (WO u) rfl AA AA ?_;iterate 3 refine yg tb a rfl ?_
    refine H3 (v:=Rr f) (CQ AA AA a) rfl (CR Cd AA AA c AA) ?_;iterate 3 refine yg tb a rfl ?_
    exact yf a AA (As (p (!decide (t=f.result)) (AT d) _ Ao))
  .exact Av (C () (AT b) _ (Be _ AA))
theorem P5 {N:Nat}{p0:List Int}{p1:Int}{r:List Int}(h0:IE N p0 p1=some r):Bd 108 [ls eI p0,i64 p1] [] (ow 0 0 r) [BX r]:=by
 unfold IE at h0;refine ai Tryz.func108 AA AA AA AA (Ap AA (sr AA λK2 b1=>?_));refine CC 0 ([]:List Int) eI BF AA ?_;refine AS AA (dn b1 AA (Ap AA (AE λK4 b2=>Ap AA (bs h0 λt b h0=>?_))));have b3:∀c g,t=(c,g)->∀s,Wk 0 s ⟨49,AP [(1,i64 p1),(5,ow 0 0 g),(6,.bool c)],[BX g]⟩->K4 s:=by
  rintro c g rfl s k;refine b2 _ (AG k (AE λb4 B=>bs h0 λC b h0=>?_));have D:∀h,C=h->∀s,Wk 0 s ⟨49,AP [(5,ow 0 0 h)],[BX h]⟩->b4 s:=by
   intro h hq s k;subst C;try dsimp only at h0
   refine B _ (AG k (Ap AA ?_));obtain rfl:=Sh.Bf h0;exact rt [(4,ow 0 0 h)]
  refine Ap AA ?_;refine ci b AA ?_ ?_<;>intro E b
  .have b8:c=false:=by simpa using E
   refine AF AA (Ac 2 AA ?_);refine CC 1 [p1] eI BF AA ?_;refine bs b λu F b=>Cs (l2:=[p1]) AN BF AA AA AA AA (HG AA AA) (λ_=>AA) F AA (AS AA ?_);exact AB (D u (AT b) _ (by refine Wk.trans (Da (L:=[(5,ow 0 0 u)]) (st':=[BX u,Ta p1]) (.pure Bn (.pure Bn .nil)) (.same AA)) ?_;exact AM [0] AA AA (.p .nil) (.same AA)))
  .have b9:c=true:=by simpa using E
   exact AH (D g (AT b) _ Ao)
 refine AK (Am (σ:=Bool×Int×(List Int)) (λn v=>Dl p0 p1 n v.1 v.2.1 v.2.2=some t) (λ(d,p,q)=>⟨49,AP [(0,ls eI p0),(1,i64 p1),(5,ow 0 0 q),(6,.bool d),(7,i64 p)],[ro 0 3 1 eI q]⟩) N (false,0,[]) b Ao (λ_ hv=>by rw[Dl]at hv;cases hv) ?_);rintro n ⟨d,p,q⟩ b;rw[Dl]at b;refine AE λc0 G=>sr AA λc1 H=>Ac 2 AA (CZ AA (AS AA (dn H AA ?_)));refine ci b AA ?_ ?_<;>intro c2 b
 .refine AH (G _ (AE λc3 I=>AK (AE λb5 J=>bs b λK i b=>?_)));have M:∀a o,K=(a,o)->∀s,Wk 0 s ⟨49,AP (eT p0 p1 o [(6,.bool a),(7,i64 p)]),[BX o]⟩->b5 s:=by
   rintro a o rfl s k;refine J _ (AG k (AF AA (Ac 3 AA (bs b λx O b=>zx BF O AA AA AA (AS AA ?_)))));refine CC 1 [x] eI BF AA ?_;refine bs b λy P b=>Cs (l2:=[x]) AN BF AA AA AA AA (HG AA AA) (λ_=>AA) P AA (AS AA (dn I AA (AF AA (Ac 3 AA ?_))));exact AB (xi (a,Sh.w (p+1),y) b (by refine Wk.trans (Da (L:=eT p0 p1 y [(6,.bool a),(7,Kr p)]) (st':=[BX y,Ta x]) (.pure Bn (.pure Bn .nil)) (.same AA)) ?_;exact AM [0] AA AA (.p .nil) (.same AA)))
  refine AE λb6 Q=>bs i λR f i=>?_;have S:∀z,R=z->∀s,Wk 0 s ⟨49,AP (eT p0 p1 q [(6,.bool d),(7,i64 p),(24,.bool z)]),[BX q]⟩->b6 s:=by
   intro z hq s k;subst R;refine Q _ (AG k ?_);refine ci i AA ?_ ?_<;>intro c4 i
   .refine AE λb7 T=>bs i λU f i=>?_;have V:∀j,U=j->∀s,Wk 0 s ⟨49,AP (eT p0 p1 j [(7,i64 p)]),[BX j]⟩->b7 s:=by
     intro j hq s k;subst U;exact T _ (AG k (AF AA (AS AA (AB (M true j (AT i) _ Ao)))))
    refine sr AA λc5 W=>Ac 2 AA (bs f λc6 X f=>zx BF X AA AA AA (Ac 3 AA (dn W AA ?_)));refine ci f AA ?_ ?_<;>intro c7 f
    .refine AF AA (Ac 2 AA ?_);refine CC 1 [p1] eI BF AA ?_;refine bs f λA Y f=>Cs (l2:=[p1]) AN BF AA AA AA AA (HG AA AA) (λ_=>AA) Y AA (AS AA ?_);exact AB (V A (AT f) _ (by refine Wk.trans (Da (L:=eT p0 p1 A [(7,i64 p)]) (st':=[BX A,Ta p1]) (.pure Bn (.pure Bn .nil)) (.same AA)) ?_;exact AM [0] AA AA (.p .nil) (.same AA)))
    .exact AH (V q (AT f) _ Ao)
   .exact AH (M d q (AT i) _ Ao)
  refine AF AA (Ac 3 AA ?_);rcases Sh.Ad f with ⟨e,f⟩|⟨e,f⟩
  .refine Aw e AA (Aw e AA (bs f λZ b0 f=>BW (v:=UB Z) (CQ AA AA e) rfl (CR BF AA AA b0 AA) ?_));iterate 3 refine Aw e rfl ?_
   exact zt e AA (AB (S (decide (p1<=Z)) (AT f) _ Ao))
  .refine zs e AA ?_;iterate 5 refine zs e rfl ?_
   exact zf e AA (AB (S false (AT f) _ Ao))
 .exact Av (b3 d q (AT b) _ Ao)
theorem QH {N:Nat}{uN:AD->(List Int)->Option (List Int)}(wO :∀{p0:AD} {p1:List Int} {r:List Int},uN p0 p1=some r->Bd 73 [Bc p0,ls eI p1] [] (ls eI r) []){p0:AD}{p1 r:List Int}(h0:Jf N uN p0 p1=some r):Bd 73 [Bc p0,ls eI p1] [] (ls eI r) []:=by
 unfold Jf at h0;refine ai Tryz.func73 AA AA AA AA (sr AA λU z=>Ef 0 AA (AS AA (dn z AA (AE λM A=>bs h0 λH a h0=>?_))));have I:∀b,H=b->∀s,Wk 0 s ⟨33,AP [(1,ls eI b),(2,BG)],[Mo p0.op p0.num p0.kids]⟩->M s:=by
  intro b J s i;subst H;refine A _ (AG i (AE λO B=>Ap AA (bs h0 λf a h0=>?_)));have C:∀c,f=c->∀s,Wk 0 s ⟨33,AP [(1,ls eI c)],[]⟩->O s:=by
   intro c J s i;subst f;try dsimp only at h0
   refine B _ (AG i (Ap AA ?_));obtain rfl:=Sh.Bf h0;exact rt [(4,ls eI c)]
  refine AK (Am (σ:=(List Int)×Int) (λn v=>Dp p0 uN n v.1 v.2=some f) (λ(e,D)=>⟨33,AP [(1,ls eI e),(2,.ptr 0 0 0 0),(5,i64 D)],[Mo p0.op p0.num p0.kids]⟩) N (b,0) a Ao (λ_ K=>by rw[Dp]at K;cases K) ?_);rintro n ⟨e,D⟩ a;rw[Dp]at a;refine AE λP j=>sr AA λQ k=>Ac 3 AA (CZ AA (AS AA (dn k AA ?_)));refine ci a AA ?_ ?_<;>intro R a
  .refine AH (j _ (AE λS l=>AK (AF AA (Ac 3 AA (bs a λE o a=>zz (EP E) (Cc BZ AA AA o (Af _) rfl) rfl (Ac 2 AA (bs a λF p a=>Gs (hb 73) (wO p) rfl (AS AA (dn l AA ?_)))))))));exact AF AA (Ac 3 AA (AB (xi (F,Sh.w (D+1)) a Ao)))
  .exact Av (C e (AT a) _ (Be _ AA))
 refine AE λG q=>bs a λt u a=>?_;have x:∀g,t=g->∀s,Wk 0 s ⟨33,AP [(1,ls eI p1),(2,BG),(13,.bool g)],[Mo p0.op p0.num p0.kids]⟩->G s:=by
  intro g J s i;subst t;refine q _ (AG i ?_);refine ci a AA ?_ ?_<;>intro T a
  .refine AF AA (Ac 3 AA (bs a λh y a=>Bo (v':=ow 1 0 h) AN (hb 108) (P5 y) rfl AA ⟨(Bq λ_=>AA),pA⟩ AA AA (AS AA ?_)));exact AB (I h (AT a) _ (by refine Wk.trans (Wk.BY (L:=[(1,ls eI h),(2,BG)]) (st':=[Mo p0.op p0.num p0.kids,⟨1,3,1,[]⟩]) (id:=1) rfl tW Bn ⟨.BY AA,.rfl,pA⟩ AA) ?_;exact AM [0] AA AA (.w .nil) (.same AA)))
  .exact AH (I p1 (AT a) _ Ao)
 refine AF AA (Ac 4 AA ?_);rcases Sh.Ad u with ⟨d,u⟩|⟨d,u⟩
 .exact zs d AA (zs d AA (zs d AA (zt d AA (AB (x true (AT u) _ Ao)))))
 .exact Aw d AA (Aw d AA (Aw d AA (zf d AA (AB (x (decide (p0.op=10)) (AT u) _ Ao)))))
theorem Q4 {N:Nat}:∀(n:Nat),∀{p0:AD} {p1:List Int} {r:List Int},Fh N n p0 p1=some r->Bd 73 [Bc p0,ls eI p1] [] (ls eI r) []:=by
 intro n
 induction n with
 |zero=>intro p0 p1 r a;cases a
 |succ n ih=>
  intro p0 p1 r a;rw[Fh]at a;exact QH (λh=>ih h) a
theorem Nk {N:Nat}:∀{p0:AD} {p1:List Int} {r:List Int},JB N p0 p1=some r->Bd 73 [Bc p0,ls eI p1] [] (ls eI r) []:=by
 intro p0 p1 r a;exact Q4 N a
theorem Q2 {N:Nat}{p0:AJ}{p1:Int}{r:List Int}(h0:IG N p0 p1=some r):Bd 75 [KT p0,i64 p1] [] (ow 0 0 r) [BX r]:=by
 unfold IG at h0;refine ai Tryz.func75 AA AA AA AA (sr AA λK1 V=>Ef 0 AA (AS AA (dn V AA (sr AA λK2 W=>AS AA ?_))));refine CC 1 [p1] eI BF AA ?_;refine AS AA (dn W AA (AE λK3 X=>Ap AA (bs h0 λY f h0=>?_)));have M8:∀x,Y=x->∀s,Wk 0 s ⟨50,AP [(5,ow 0 0 x)],[BX x]⟩->K3 s:=by
  intro x Z s p;subst Y;try dsimp only at h0
  refine X _ (AG p (Ap AA ?_));obtain rfl:=Sh.Bf h0;exact rt [(4,ow 0 0 x)]
 refine AK (Am (σ:=Int×(List Int)) (λn v=>Dt N p0 n v.1 v.2=some Y) (λ(vO,y)=>⟨50,AP [(2,.ptr 0 0 0 0),(5,ow 1 0 y),(6,i64 vO)],[Cy p0.decls p0.funcs,ro 0 3 1 eI y]⟩) N (0,[p1]) f Ao (λ_ o=>by rw[Dt]at o;cases o) ?_);rintro n ⟨vO,y⟩ f;rw[Dt]at f;refine AE λb8 z=>sr AA λb9 A=>Ac 3 AA (CZ AA (AS AA (dn A AA ?_)));refine ci f AA ?_ ?_<;>intro c0 f
 .refine AH (z _ (AE λb0 B=>AK (Ap AA (bs f λq g f=>?_))));have b1:∀h,q=h->∀s,Wk 0 s ⟨50,AP (dH h [(6,i64 vO)]),[Cy p0.decls p0.funcs,BX h]⟩->b0 s:=by
   intro h Z s p;subst q;exact B _ (AG p (AF AA (Ac 3 AA (AB (xi (Sh.w (vO+1),h) f Ao)))))
  refine AK (Am (σ:=Int×(List Int)) (λn v=>Dy N p0 n v.1 v.2=some q) (λ(a,b)=>⟨50,AP [(2,.ptr 0 0 0 0),(5,ow 1 0 b),(6,i64 vO),(7,i64 a)],[Cy p0.decls p0.funcs,ro 0 3 1 eI b]⟩) N (0,y) g Ao (λ_ o=>by rw[Dy]at o;cases o) ?_);rintro n ⟨a,b⟩ g;rw[Dy]at g;refine AE λc1 C=>sr AA λc2 D=>Ac 3 AA (CZ AA (AS AA (dn D AA ?_)));refine ci g AA ?_ ?_<;>intro c3 g
  .refine AH (C _ (AE λb2 E=>bs g λF c g=>?_));have G:∀i,F=i->∀s,Wk 0 s ⟨50,AP (dH i [(6,i64 vO),(7,i64 a)]),[Cy p0.decls p0.funcs,BX i]⟩->b2 s:=by
    intro i Z s p;subst F;exact E _ (AG p (AF AA (Ac 3 AA (AB (xi (Sh.w (a+1),i) g Ao)))))
   refine AK (sr AA λc4 H=>Ac 2 AA (bs c λb3 I c=>Lz (v':=.bool b3) AN (hb 74) (MC I) rfl (.own AA AA (λ_=>AA) (.val AA .nil)) rfl pA AA AA (dn H AA ?_)));refine ci c AA ?_ ?_<;>intro c5 c
   .refine sr AA λc6 J=>Ac 3 AA (bs c λb4 K c=>zx Cd K AA AA AA (Ac 2 AA ?_));refine CC 2 ([]:List Int) eI BF AA ?_;refine Ea (dH b [(6,i64 vO),(7,i64 a),(34,Tw b4),(35,Rw)]) [Cy p0.decls p0.funcs,BX b,⟨1,3,1,[]⟩] 2 AA ⟨.rfl,.rfl,.rfl,.rfl,.rfl,.BY AA,pA⟩ (λ_=>AA) rfl (bs c λt M c=>Gs (hb 73) (Nk M) rfl (AS AA (dn J AA (Ap AA (RI λb5 O=>bs c λu d c=>?_)))));have b6:∀e,u=e->∀s,Wk 0 s ⟨50,AP (dH e [(6,i64 vO),(7,i64 a)]),[Cy p0.decls p0.funcs,BX e]⟩->b5 s:=by
     intro e Z s p;subst u;exact O _ (G e (AT c) _ (p.trans (Ag (L:=dH e [(6,i64 vO),(7,i64 a)]) (.same AA))))
    refine AK (Am (σ:=Int×(List Int)) (λn v=>Dq N t n v.1 v.2=some u) (λ(k,j)=>⟨50,AP [(2,.ptr 0 0 0 0),(5,ow 1 0 j),(6,i64 vO),(7,i64 a),(8,ls eI t),(9,i64 k)],[Cy p0.decls p0.funcs,ro 0 3 1 eI j]⟩) N (0,b) d (AM [0,1] AA AA (.w (.p .nil)) (.same AA)) (λ_ o=>by rw[Dq]at o;cases o) ?_);rintro n ⟨k,j⟩ d;rw[Dq]at d;refine AE λc7 P=>sr AA λc8 Q=>Ac 2 AA (CZ AA (AS AA (dn Q AA ?_)));refine ci d AA ?_ ?_<;>intro c9 d
    .refine AH (P _ (AE λd0 R=>AK (AF AA (Ac 3 AA (bs d λb7 S d=>zx BF S AA AA AA (AS AA (Ea [(2,BG),(6,i64 vO),(7,i64 a),(8,ls eI t),(9,i64 k),(43,ls eI j),(47,i64 b7)] [Cy p0.decls p0.funcs,⟨1,3,1,[]⟩] 1 AA ⟨.rfl,.rfl,.rfl,.rfl,.rfl,.BY AA,.rfl,pA⟩ (λ_=>AA) rfl (bs d λT U d=>Bo (v':=ow 2 0 T) AN (hb 108) (P5 U) rfl AA ⟨(Bq λ_=>AA),pA⟩ AA AA (AS AA ?_)))))))));refine dn R AA (AF AA (Ac 3 AA ?_));exact AB (xi (Sh.w (k+1),T) d (AM [0,2] AA AA (.w (.p .nil)) (.same AA)))
    .exact Av (b6 j (AT d) _ Ao)
   .exact AH (G b (AT c) _ Ao)
  .exact Av (b1 b (AT g) _ Ao)
 .exact Av (M8 y (AT f) _ (AM [1] AA AA (.p .nil) (.same AA)))
theorem Sm {N:Nat}{p0:AJ}{p1:Int}{r:Bool}(h0:Dk N p0 p1=some r):Bd 45 [KT p0,i64 p1] [] (.bool r) []:=by
 unfold Dk at h0;refine ai Tryz.func45 AA AA AA AA (sr AA λS u=>Ef 0 AA (AS AA (dn u AA (AE λT x=>sr AA λU y=>Ac 3 AA (CZ AA (AS AA (bs h0 λE z h0=>Gs (hb 72) (Dg z) rfl ?_)))))));refine AS AA (dn y AA ?_);refine ci h0 AA ?_ ?_<;>intro F h0
 .have V:E=false:=by simpa using F
  refine Ap AA ?_;cases h0;exact rd [(4,.bool false)]
 .have W:E=true:=by simpa using F
  refine AH (x _ (sr AA λX A=>Ac 3 AA (bs h0 λB d h0=>zx Cd d AA AA AA (Ac 2 AA ?_))));refine CC 1 ([]:List Int) eI BF AA ?_;refine Ea [(1,i64 p1),(2,BG),(19,Tw B),(20,Rw)] [Cy p0.decls p0.funcs,⟨1,3,1,[]⟩] 1 AA ⟨.rfl,.rfl,.rfl,.BY AA,pA⟩ (λ_=>AA) rfl (bs h0 λe f h0=>Gs (hb 73) (Nk f) rfl (AS AA (dn A AA (AE λC g=>Ap AA ?_))));obtain⟨b,a,h0⟩:=Sh.Bi h0;have D:∀(_:Unit),b=Sum.inr ()->∀s,Wk 0 s ⟨36,AP [],[]⟩->C s:=by
   intro _ Y s H;subst b;refine g _ (AG H (Ap AA ?_));cases h0;exact rt [(4,.bool true)]
  refine AK (Am (σ:=Int) (λn v=>DO N p0 p1 e n v=some b) (λc=>⟨36,AP [(1,i64 p1),(2,.ptr 0 0 0 0),(5,ls eI e),(6,i64 c)],[Cy p0.decls p0.funcs]⟩) N 0 a (AM [0] AA AA (.w .nil) (.same AA)) (λ_ G=>by rw[DO]at G;cases G) ?_);rintro n c a;rw[DO]at a;refine AE λI h=>sr AA λJ i=>Ac 2 AA (CZ AA (AS AA (dn i AA ?_)));refine ci a AA ?_ ?_<;>intro K a
  .refine AH (h _ (AE λM j=>AK (AE λO k=>?_)));refine CI 7 (by kernel_rfl) (by kernel_rfl) (by rfl) ?_;iterate 3 refine yq tb rfl ?_
   refine bs a λP o a=>yx BF o AA AA AA (yq tb AA (bs a λp q a=>?_));refine BU (v:=ls eI p) AN (hb 75) (BJ.wk (Q2 q) (by refine Wk.trans (Wk.BY (L:=[(0,ls eI p)]) (st':=UY) (id:=0) rfl tN Bn ⟨.BY AA,pA⟩ AA) ?_;exact AM [] AA AA .nil (.same AA))) rfl AA AA ?_;refine yq tb AA (As (bs a λQ t a=>Gs (hb 74) (MC t) rfl (dn k AA ?_)));refine ci a AA ?_ ?_<;>intro R a
   .refine Ap AA ?_;cases a;cases h0;exact rd [(4,.bool false)]
   .exact AH (j _ (AF AA (Ac 3 AA (AB (xi (Sh.w (c+1)) a Ao)))))
  .exact Av (D () (AT a) _ (Be _ AA))
theorem VN {N:Nat}{p0:AJ}{p1:AD}{p2 p3 r:Int}(h0:Kb N p0 p1 p2 p3=some r):Bd 67 [KT p0,Bc p1,i64 p2,i64 p3] [] (i64 r) []:=by
 unfold Kb at h0;refine ai Tryz.func67 AA AA AA AA (sr AA λp h=>Ef 0 AA (Ef 1 AA (AS AA (dn h AA (AE λq i=>Ap AA ?_)))));refine ci h0 AA ?_ ?_<;>intro s h0
 .refine Ap AA ?_;cases h0;exact rd [(8,i64 p3)]
 .refine AH (i _ (AE λt j=>Ap AA ?_));refine ci h0 AA ?_ ?_<;>intro u h0
  .refine Ap AA ?_;cases h0;exact rd [(8,Kr p3)]
  .refine AH (j _ (AE λk a=>Ap AA ?_));refine ci h0 AA ?_ ?_<;>intro l h0
   .refine AE λn b=>?_;refine CI 15 (by kernel_rfl) (by kernel_rfl) (by rfl) ?_;iterate 7 refine yq tb rfl ?_
    refine bs h0 λc d h0=>?_;refine BU (v:=ls eI c) AN (hb 104) (BJ.wk (JA d) (by refine Wk.trans (Wk.BY (L:=[(0,ls eI c)]) (st':=UY) (id:=0) rfl tN Bn ⟨.BY AA,pA⟩ AA) ?_;exact AM [] AA AA .nil (.same AA))) rfl AA AA ?_;iterate 2 refine yq tb rfl ?_
    refine bs h0 λo e h0=>yx BF e AA AA AA (yq tb AA (bs h0 λf g h0=>BU (v:=ls eI f) AN (hb 99) (FK g) rfl AA AA (yl tb AA AA (yq tb AA (As (AS AA (dn b AA ?_)))))));cases h0;exact rd [(8,i64 (Sh.w (p3+Sh.len f)))]
   .refine AH (a _ (Ap AA ?_));cases h0;exact rd [(8,i64 p3)]
theorem TI {N:Nat}{uJ:AD->Int->Int->Option (AD)}(vV :∀{p0:AD} {p1:Int} {p2:Int} {r:AD},uJ p0 p1 p2=some r->Bd 77 (aC p0 p1 p2) [] (Bc r) []){p0:List AD}{p1 p2:Int}{r:List AD}(h0:LV N uJ p0 p1 p2=some r):Bd 109 [Hd p0,i64 p1,i64 p2] [] (ow 0 0 r) [G7 r]:=by
 unfold LV at h0;refine ai Tryz.func109 AA AA AA AA (Ap AA (sr AA λF p=>?_));refine CC 0 ([]:List AD) Ar BZ (by simp only[List.map,Af];rfl) ?_;refine AS AA (dn p AA (AE λy q=>Ap AA (bs h0 λt a h0=>?_)));have z:∀d,t=d->∀s,Wk 0 s ⟨27,AP [(7,ow 0 0 d)],[G7 d]⟩->y s:=by
  intro d G s A;subst t;try dsimp only at h0
  refine q _ (AG A (Ap AA ?_));obtain rfl:=Sh.Bf h0;exact rt [(6,ow 0 0 d)]
 refine AK (Am (σ:=Int×(List AD)) (λn v=>E5 p0 p1 p2 uJ n v.1 v.2=some t) (λ(k,o)=>⟨27,AP [(0,ls Ar p0),(1,i64 p1),(2,i64 p2),(7,ow 0 0 o),(8,i64 k)],[ro 0 35 3 Ar o]⟩) N (0,[]) a Ao (λ_ x=>by rw[E5]at x;cases x) ?_);rintro n ⟨k,o⟩ a;rw[E5]at a;refine AE λB e=>sr AA λC f=>Ac 2 AA (CZ AA (AS AA (dn f AA ?_)));refine ci a AA ?_ ?_<;>intro D a
 .refine AH (e _ (AE λE g=>AK (AF AA (Ac 3 AA (bs a λu h a=>zz (EP u) (Cc BZ AA AA h (Af _) rfl) rfl (Ac 3 AA (bs a λb i a=>Df (Bc b) (hb 77) (vV i) rfl ?_)))))));refine CC 1 [b] Ar BZ (by simp only[List.map,Af];rfl) ?_;refine bs a λc j a=>Cs (l2:=[b]) AN BZ AA AA AA AA (HG AA AA GR) DY j AA (AS AA (dn g AA (AF AA (Ac 3 AA ?_))));exact AB (xi (Sh.w (k+1),c) a (by refine Wk.trans (Da (L:=[(0,Hd p0),(1,i64 p1),(2,i64 p2),(7,ow 0 0 c),(8,Kr k)]) (st':=[G7 c,TD b]) (.pure (Ah Aa) (.pure (Ah Aa) .nil)) (.same AA)) ?_;exact AM [0] AA AA (.pure (Ah Aa) .nil) (.same AA)))
 .exact Av (z o (AT a) _ Ao)
theorem U6 {N:Nat}{uJ:AD->Int->Int->Option (AD)}(vV :∀{p0:AD} {p1:Int} {p2:Int} {r:AD},uJ p0 p1 p2=some r->Bd 77 (aC p0 p1 p2) [] (Bc r) []){p0:AD}{p1 p2:Int}{r:AD}(h0:MD N uJ p0 p1 p2=some r):Bd 77 (aC p0 p1 p2) [] (Bc r) []:=by
 unfold MD at h0;refine Cj AA (ai Tryz.func77 AA AA AA AA (sr AA λz g=>Ef 0 AA (DE 1 De AA (dn g AA (Ap AA (AE λq h=>bs h0 λo b h0=>?_))))));have p:∀zo,o=zo->∀s,Wk 0 s ⟨30,AP (iz p1 p2 [(7,i64 zo)]),fK p0 []⟩->q s:=by
  intro zo t s i;subst o;refine h _ (AG i (AE λA j=>?_));refine CI 9 (by kernel_rfl) (by kernel_rfl) (by rfl) ?_;iterate 7 refine yq tb rfl ?_
  refine bs h0 λc k h0=>?_;refine BU (v:=Hd c) AN (hb 109) (BJ.wk (TI vV k) (by refine Wk.trans (Wk.BY (L:=[(0,Hd c)]) (st':=[D0]) (id:=0) rfl tN (Ah Aa) ⟨.BY AA,pA⟩ AA) ?_;exact AM [] AA AA .nil (.same AA))) rfl AA AA ?_;refine yz (.agg [i64 p0.op,i64 zo,Hd c]) (DM R7 R8 De AA AA) rfl (As (Bw BI AA (dn j AA ?_)));cases h0;exact An ⟨_,Wk.refl _ _,FX (.tmp 6) [i64 p0.op,i64 zo,Hd c] BI AA _ AA⟩
 refine AE λu l=>bs b λd e b=>?_;have f:∀n,d=n->∀s,Wk 0 s ⟨30,AP (iz p1 p2 [(7,i64 p0.num),(17,.bool n)]),fK p0 []⟩->u s:=by
  intro n t s i;subst d;refine l _ (AG i ?_);refine ci b AA ?_ ?_<;>intro y b
  .exact AF AA (Ac 4 AA (AB (p (Sh.w (p0.num+p2)) (AT b) _ Ao)))
  .exact AH (p p0.num (AT b) _ Ao)
 refine AF AA (Ac 4 AA ?_);rcases Sh.Ad e with ⟨a,e⟩|⟨a,e⟩
 .exact Aw a AA (Aw a AA (Aw a AA (zt a AA (AB (f (decide (p1<=p0.num)) (AT e) _ Ao)))))
 .exact zs a AA (zs a AA (zs a AA (zf a AA (AB (f false (AT e) _ Ao)))))
theorem VH {N:Nat}:∀(n:Nat),∀{p0:AD} {p1:Int} {p2:Int} {r:AD},HS N n p0 p1 p2=some r->Bd 77 (aC p0 p1 p2) [] (Bc r) []:=by
 intro n
 induction n with
 |zero=>intro p0 p1 p2 r a;cases a
 |succ n ih=>
  intro p0 p1 p2 r a;rw[HS]at a;exact U6 (λh=>ih h) a
theorem Qt {N:Nat}:∀{p0:AD} {p1:Int} {p2:Int} {r:AD},MU N p0 p1 p2=some r->Bd 77 (aC p0 p1 p2) [] (Bc r) []:=by
 intro p0 p1 p2 r a;exact VH N a
theorem ZC {N:Nat}{p0:List AD}{p1:AD}{p2:Int}{r:AD}(h0:NT N p0 p1 p2=some r):Bd 76 [Hd p0,Bc p1,i64 p2] [] (Bc r) []:=by
 unfold NT at h0;refine Cj AA (ai Tryz.func76 AA AA AA AA (sr AA λK u=>Ef 0 AA (DE 1 De AA (dn u AA (sr AA λM y=>AS AA (DE 2 De AA (Bw BI AA (dn y AA (AE λE z=>?_)))))))));refine sr AA λO A=>AS AA (CZ AA (Ac 2 AA (dn A AA (bs h0 λh a h0=>?_))));have B:∀i b c,h=(i,b,c)->∀s,Wk 0 s ⟨28,AP [(6,BG),(7,CJ)],[jH,Mo i b c]⟩->E s:=by
  rintro i b c rfl s F;refine z _ (AG F (sr AA λG j=>AS AA (Bw BI AA (dn j AA ?_))));cases h0;exact An ⟨_,Wk.refl _ _,FX (.tmp 6) (Ts i b c) BI AA _ AA⟩
 refine AK (Am (σ:=Int×Int×Int×(List AD)) (λn v=>HV N p0 p2 n v.1 v.2.1 v.2.2.1 v.2.2.2=some h) (λ(t,e,f,g)=>⟨28,AP [(0,ls Ar p0),(2,i64 p2),(6,.ptr 0 0 0 0),(7,.ptr 1 0 0 0),(8,i64 t)],[jH,Mo e f g]⟩) N (Sh.w ((Sh.len p0)-1),p1.op,p1.num,p1.kids) a (AM [1,2] AA AA (.w (.w .nil)) (.same AA)) (λ_ D=>by rw[HV]at D;cases D) ?_);rintro n ⟨t,e,f,g⟩ a;rw[HV]at a;refine AE λH k=>Ap AA ?_;refine ci a AA ?_ ?_<;>intro I a
 .refine AH (k _ (AE λJ o=>AK ?_));refine CI 8 (by kernel_rfl) (by kernel_rfl) (by rfl) ?_;iterate 2 refine yq tb rfl ?_
  refine bs a λC p a=>yz (EP C) (Cc BZ AA AA p (Af _) rfl) rfl ?_;iterate 3 refine yq tb rfl ?_
  refine bs a λd q a=>BU (v:=Bc d) AN (hb 77) (Qt q) rfl AA AA (yq tb AA (As ?_));refine CC 2 [d,AD.mk e f g] Ar BZ (by simp only[List.map,Af];rfl) ?_;refine zz (.agg [i64 13,i64 0,ow 2 0 [d,AD.mk e f g]]) (DM R7 R8 De AA AA) rfl (Au (Wk.BY (L:=[(0,Hd p0),(2,i64 p2),(6,BG),(7,CJ),(8,i64 t),(26,.agg [i64 13,i64 0,ls Ar [d,AD.mk e f g]])]) (st':=[jH,Mo e f g,D0]) (id:=2) rfl (show 0<=2 by decide) (Ah Aa) ⟨.rfl,.rfl,.rfl,.rfl,.rfl,.agg ⟨.rfl,.rfl,.H9 AA,pA⟩,pA⟩ AA) (Bw BI AA (dn o AA (AF AA (Ac 3 AA ?_)))));exact AB (xi (Sh.w (t-1),13,0,[d,AD.mk e f g]) a (AM [0,1] AA AA (.w (.w .nil)) (.same AA)))
 .exact Av (B e f g (AT a) _ Ao)
theorem T2 {N:Nat}{uZ:AJ->Int->AD->Int->Option (AD)}(xG :∀{p0:AJ} {p1:Int} {p2:AD} {p3:Int} {r:AD},uZ p0 p1 p2 p3=some r->Bd 46 [KT p0,i64 p1,Bc p2,i64 p3] [] (Bc r) []){p0:AJ}{p1:Int}{p2:AD}{p3:Int}{r:AD}(h0:LJ N uZ p0 p1 p2 p3=some r):Bd 46 [KT p0,i64 p1,Bc p2,i64 p3] [] (Bc r) []:=by
 unfold LJ at h0;refine Cj AA (ai Tryz.func46 AA AA AA AA (sr AA λK1 H=>Ef 0 AA (Ef 1 AA (DE 2 De AA (dn H AA (sr AA λK2 I=>?_))))));refine CC 3 ([]:List AD) Ar BZ (by simp only[List.map,Af];rfl) ?_;refine AS AA (dn I AA (AE λT J=>Ap AA (bs h0 λK a h0=>?_)));have U:∀c,K=c->∀s,Wk 0 s ⟨61,AP [(1,i64 p1),(3,i64 p3),(4,BG),(6,CJ),(8,CY),(9,ow 3 0 c)],((Cy p0.decls p0.funcs)::fK p2 [G7 c])⟩->T s:=by
  intro c V s M;subst K;refine J _ (AG M (AE λK9 O=>AE λP h=>bs h0 λi a h0=>?_));have j:∀d,i=d->∀s,Wk 0 s ⟨61,AP [(1,i64 p1),(3,i64 p3),(4,BG),(6,CJ),(8,CY),(9,ow 3 0 c),(43,.bool d)],((Cy p0.decls p0.funcs)::fK p2 [G7 c])⟩->P s:=by
   intro d V s M;subst i;refine h _ (AG M ?_);refine ci h0 AA ?_ ?_<;>intro W h0
   .refine sr AA λX k=>Ac 4 AA (bs h0 λY o h0=>zx Cd o AA AA AA (Ac 3 AA (bs h0 λp q h0=>Df (Bc p) (hb 77) (Qt q) rfl (AS AA (Au (Wk.BY (L:=[(8,CY),(44,Hd c),(52,Bc p),(53,i64 p3)]) (st':=((Cy p0.decls p0.funcs)::fK p2 [D0])) (id:=3) rfl tj (Ah Aa) ⟨.rfl,.BY AA,.rfl,.rfl,pA⟩ AA) (bs h0 λe t h0=>Df (Bc e) (hb 76) (ZC t) rfl (Bw BI AA ?_)))))));refine dn k AA ?_;obtain rfl:=Sh.Bf h0;exact An (Exists.intro _ (And.intro (Wk.refl _ _) (FX (.tmp 8) (Lh e) BI AA _ AA)))
   .refine AH (O _ (sr AA λZ u=>Ac 5 AA (zz (.agg [i64 p2.op,i64 p2.num,ow 3 0 c]) (DM R7 R8 De AA AA) rfl (Au (Wk.BY (L:=[(8,CY),(60,.agg (iG p2 c))]) (st':=((Cy p0.decls p0.funcs)::fK p2 [D0])) (id:=3) rfl tj (Ah Aa) ⟨.rfl,.agg ⟨.rfl,.rfl,.H9 AA,pA⟩,pA⟩ AA) (Bw BI AA (dn u AA ?_))))));cases h0;exact An ⟨_,Wk.refl _ _,FX (.tmp 8) (iG p2 c) BI AA _ AA⟩
  refine AF AA (Ac 4 AA ?_);rcases Sh.Ad a with ⟨b,a⟩|⟨b,a⟩
  .refine Aw b AA ?_;iterate 3 refine Aw b rfl ?_
   exact zt b AA (AB (j (decide (p2.num=p1)) (AT a) _ Ao))
  .refine zs b AA ?_;iterate 3 refine zs b rfl ?_
   exact zf b AA (AB (j false (AT a) _ Ao))
 refine AK (Am (σ:=Int×(List AD)) (λn v=>Eu N p0 p1 p2 p3 uZ n v.1 v.2=some K) (λ(F,G)=>⟨61,AP [(1,i64 p1),(3,i64 p3),(4,.ptr 0 0 0 0),(6,.ptr 1 0 0 0),(8,.ptr 2 0 0 0),(9,ow 3 0 G),(10,i64 F)],[Cy p0.decls p0.funcs,Mo p2.op p2.num p2.kids,jH,ro 0 35 3 Ar G]⟩) N (0,[]) a Ao (λ_ S=>by rw[Eu]at S;cases S) ?_);rintro n ⟨F,G⟩ a;rw[Eu]at a;refine AE λb0 y=>sr AA λb1 z=>Ac 3 AA (CZ AA (AS AA (dn z AA ?_)));refine ci a AA ?_ ?_<;>intro b2 a
 .refine AH (y _ (AE λb3 A=>AK ?_));refine CI 15 (by kernel_rfl) (by kernel_rfl) (by rfl) ?_;iterate 6 refine yq tb rfl ?_
  refine bs a λQ B a=>yz (EP Q) (Cc BZ AA AA B (Af _) rfl) rfl ?_;iterate 5 refine yq tb rfl ?_
  refine bs a λR C a=>BU (v:=i64 R) AN (hb 67) (VN C) rfl AA AA (bs a λf D a=>BU (v:=Bc f) AN (hb 46) (xG D) rfl AA AA ?_);refine Gu (l:=[f]) (enc:=Ar) AN BZ (by decide) rfl AA AA (by simp only[List.map,Af];rfl) rfl (Ah Aa) ?_;exact As (bs a λg E a=>Cs (l2:=[f]) AN BZ AA AA AA AA Mi DY E AA (AS AA (dn A AA (AF AA (Ac 3 AA (AB (xi (Sh.w (F+1),g) a (Da (L:=[(1,i64 p1),(3,i64 p3),(4,BG),(6,CJ),(8,CY),(9,ow 3 0 g),(10,Kr F)]) (st':=((Cy p0.decls p0.funcs)::fK p2 [G7 g])) (.raw AA AA (.raw AA AA (.raw AA AA (.pure (Ah Aa) .nil)))) (.same AA)))))))))
 .exact Av (U G (AT a) _ Ao)
theorem UE {N:Nat}:∀(n:Nat),∀{p0:AJ} {p1:Int} {p2:AD} {p3:Int} {r:AD},GX N n p0 p1 p2 p3=some r->Bd 46 [KT p0,i64 p1,Bc p2,i64 p3] [] (Bc r) []:=by
 intro n
 induction n with
 |zero=>intro p0 p1 p2 p3 r a;cases a
 |succ n ih=>
  intro p0 p1 p2 p3 r a;rw[GX]at a;exact T2 (λh=>ih h) a
theorem We {N:Nat}:∀{p0:AJ} {p1:Int} {p2:AD} {p3:Int} {r:AD},Pn N p0 p1 p2 p3=some r->Bd 46 [KT p0,i64 p1,Bc p2,i64 p3] [] (Bc r) []:=by
 intro p0 p1 p2 p3 r a;exact UE N a
theorem Sa {N:Nat}{p0 r:List AL}(h0:I7 N p0=some r):Bd 61 [D4 p0] [] (ow 0 0 r) [JH r]:=by
 unfold I7 at h0;refine ai Tryz.func61 AA AA AA AA (Ap AA (sr AA λK2 K=>?_));refine CC 0 ([]:List AL) Ai DK AA ?_;refine AS AA (dn K AA (AE λT M=>Ap AA (bs h0 λO c h0=>?_)));have U:∀t,O=t->∀s,Wk 0 s ⟨55,AP [(3,ow 0 0 t)],[JH t]⟩->T s:=by
  intro t V s P;subst O;try dsimp only at h0
  refine M _ (AG P (Ap AA ?_));obtain rfl:=Sh.Bf h0;exact rt [(2,ow 0 0 t)]
 refine AK (Am (σ:=Int×(List AL)) (λn v=>FG N p0 n v.1 v.2=some O) (λ(i,d)=>⟨55,AP [(0,ls Ai p0),(3,ow 0 0 d),(4,i64 i)],[ro 0 80 3 Ai d]⟩) N (0,[]) c Ao (λ_ u=>by rw[FG]at u;cases u) ?_);rintro n ⟨i,d⟩ c;rw[FG]at c;refine AE λW y=>sr AA λX z=>Ac 2 AA (CZ AA (AS AA (dn z AA ?_)));refine ci c AA ?_ ?_<;>intro Y c
 .refine AH (y _ (AE λZ A=>AK (sr AA λb0 B=>?_)));refine CC 1 ([]:List D6) CM Je AA ?_;refine AS AA (dn B AA (AE λQ C=>Ap AA (bs c λo a c=>?_)));have R:∀b,o=b->∀s,Wk 0 s ⟨55,AP [(0,D4 p0),(3,ow 0 0 d),(4,i64 i),(5,ow 1 0 b)],[JH d,ro 0 82 1 CM b]⟩->Q s:=by
   intro b V s P;subst o;refine C _ (AG P (AG (Wk.BY (L:=[(0,D4 p0),(3,ow 0 0 d),(4,i64 i),(5,ls CM b)]) (st':=[JH d,Mq]) (id:=1) rfl tW Bn ⟨.rfl,.rfl,.rfl,.BY AA,pA⟩ AA) ?_));refine CI 14 (by kernel_rfl) (by kernel_rfl) (by rfl) ?_;iterate 3 refine yq tb rfl ?_
   refine bs c λe j c=>yx DK j AA AA AA ?_;iterate 4 refine yq tb rfl ?_
   refine yx DK j AA AA AA ?_;iterate 3 refine yq tb rfl ?_
   refine yz (.agg [i64 e.from_,i64 e.to,ls CM b]) (DM Mk Ml HW AA AA) rfl ?_;refine Gu (l:=[AL.mk e.from_ e.to b]) (enc:=Ai) AN DK (by decide) rfl AA AA AA AA Bn ?_;refine As (bs c λp D c=>Cs (l2:=[AL.mk e.from_ e.to b]) AN DK AA AA AA AA Mi (λ_=>AA) D AA (AS AA (dn A AA (AF AA (Ac 3 AA ?_)))));exact AB (xi (Sh.w (i+1),p) c (by refine Wk.trans (Da (L:=[(0,D4 p0),(3,ow 0 0 p),(4,Kr i)]) (st':=[JH p,⟨0,82,1,[]⟩]) (.pure Bn (.pure (by intro x S;cases S) .nil)) (.same AA)) ?_;exact AM [0] AA AA (.p .nil) (.same AA)))
  refine AK (Am (σ:=Int×(List D6)) (λn v=>EZ i p0 n v.1 v.2=some o) (λ(h,f)=>⟨55,AP [(0,ls Ai p0),(3,ow 0 0 d),(4,i64 i),(5,ow 1 0 f),(6,i64 h)],[ro 0 80 3 Ai d,ro 0 82 1 CM f]⟩) N (0,[]) a Ao (λ_ u=>by rw[EZ]at u;cases u) ?_);rintro n ⟨h,f⟩ a;rw[EZ]at a;refine AE λb1 E=>sr AA λb2 F=>Ac 3 AA (bs a λb3 k a=>zx DK k AA AA AA (Ac 2 AA (CZ AA (AS AA (dn F AA ?_)))));refine ci a AA ?_ ?_<;>intro b4 a
  .refine AH (E _ (AE λb5 G=>AK (AF AA (Ac 3 AA (zx DK k AA AA AA (Ac 3 AA (bs a λb6 H a=>zx Je H AA AA AA (Ac 2 AA (bs a λg I a=>Bo (v':=ow 2 0 g) AN (hb 62) (LU I) rfl AA ⟨(Bq λ_=>AA),pA⟩ AA AA ?_)))))))));refine zz (.agg [ow 2 0 g]) (DM jf jD R3 AA AA) rfl (Ea [(0,D4 p0),(3,ow 0 0 d),(4,i64 i),(6,i64 h),(25,ow 1 0 f),(36,.agg [ls eI g])] [JH d,ro 0 82 1 CM f,⟨1,3,1,[]⟩] 2 AA ⟨.rfl,.rfl,.rfl,.rfl,.rfl,.agg ⟨.H9 AA,pA⟩,pA⟩ (λ_=>AA) rfl ?_);refine CC 3 [D6.mk g] CM Je AA ?_;refine bs a λq J a=>Cs (l2:=[D6.mk g]) AN Je AA AA AA AA (HG AA AA) (λ_=>AA) J AA (AS AA (dn G AA (AF AA (Ac 3 AA ?_))));exact AB (xi (Sh.w (h+1),q) a (by refine Wk.trans (Da (L:=[(0,D4 p0),(3,ow 0 0 d),(4,i64 i),(5,ow 1 0 q),(6,Kr h)]) (st':=[JH d,ro 0 82 1 CM q,⟨0,3,1,[]⟩,ro 0 82 1 CM [D6.mk g]]) (.pure Bn (.pure Bn (.pure (by intro x S;cases S) (.pure Bn .nil)))) (.same AA)) ?_;exact AM [0,1] AA AA (.p (.p .nil)) (.same AA)))
  .exact Av (R f (AT a) _ Ao)
 .exact Av (U d (AT c) _ Ao)
theorem Rx {N:Nat}{p0 r:AD}(h0:IS N p0=some r):Bd 63 [Bc p0] [] (Bc r) []:=by
 unfold IS at h0;refine Cj AA (ai Tryz.func63 AA AA AA AA (sr AA λe b=>Ef 0 AA (DE 1 De AA (dn b AA (AE λf c=>?_)))));refine CI 8 (by kernel_rfl) (by kernel_rfl) (by rfl) ?_;iterate 6 refine yq tb rfl ?_
 refine bs h0 λa d h0=>?_;refine BU (v:=Hd a) AN (hb 60) (BJ.wk (Gl d) (by refine Wk.trans (Wk.BY (L:=[(0,Hd a)]) (st':=[D0]) (id:=0) rfl tN (Ah Aa) ⟨.BY AA,pA⟩ AA) ?_;exact AM [] AA AA .nil (.same AA))) rfl AA AA ?_;refine yz (.agg (iG p0 a)) (DM R7 R8 De AA AA) rfl (As (Bw BI AA (dn c AA ?_)));cases h0;exact An ⟨_,Wk.refl _ _,FX (.tmp 2) (iG p0 a) BI AA _ AA⟩
theorem Rv {N:Nat}{p0:AJ}{p1:List AD}{r:AJ×Bool}(h0:IV N p0 p1=some r):Bd 31 [KT p0,Hd p1] [] (iX r.1.decls r.1.funcs r.2) []:=by
 unfold IV at h0;refine Cj AA (ai Tryz.func31 AA AA AA AA (sr AA λK1 F=>Ef 0 AA (DE 1 JD AA (AS AA (dn F AA (sr AA λK2 G=>Ac 2 AA (bs h0 λb H h0=>Bo (v':=ow 2 0 b) AN (hb 61) (Sa H) rfl AA ⟨(Bq λ_=>AA),pA⟩ AA AA ?_)))))));refine CC 3 ([]:List AU) BT Cd AA ?_;refine zz (.agg [ow 2 0 b,.own 3 0 (List.length ([]:List AU))]) (DM Xo XI JD AA AA) rfl (DE 4 JD AA (Ea [(1,Hd p1),(2,BG),(4,CJ),(6,Ix),(12,.agg [D4 b,.own 3 0 (List.length ([]:List AU))])] [Cy p0.decls p0.funcs,JV,OP,ro 0 37 5 BT ([]:List AU),JV] 2 AA ⟨.rfl,.rfl,.rfl,.rfl,.agg ⟨.H9 AA,.rfl,pA⟩,pA⟩ (λ_=>AA) rfl (Bw D5 AA (dn G AA (AE λM I=>Ap AA ?_)))));obtain⟨J,a,h0⟩:=Sh.Bi h0;have O:∀(f:List AU),J=Sum.inr f->∀s,Wk 0 s ⟨52,AP [(4,BG),(6,CY)],(JV::KL f b [])⟩->M s:=by
  intro f hq s P;subst J;refine I _ (AG P (sr AA λQ k=>AS AA (Ea [(4,BG),(51,.agg (Sc b f))] [JV,VU,eW b f] 1 AA ⟨.rfl,.agg ⟨.rfl,.H9 AA,pA⟩,pA⟩ (λ_=>AA) rfl (Bw D5 AA (AS AA (dn k AA ?_))))));cases h0;exact An ⟨_,(AM (L:=[(4,BG),(5,.bool true)]) (st':=[Cy b f]) [0] AA AA (.w .nil) ⟨.rfl,.rfl,pA⟩).trans (Ag (L:=[(4,BG),(5,.bool true)]) ⟨.rfl,.rfl,pA⟩),FX (.tmp 4) (Sc b f) D5 AA _ AA⟩
 refine AK (Am (σ:=Int×(List AU)) (λn v=>EF N p0 p1 n v.1 v.2=some J) (λ(E,d)=>⟨52,AP [(1,ls Ar p1),(2,.ptr 0 0 0 0),(4,.ptr 1 0 0 0),(6,.ptr 3 0 0 0),(7,i64 E)],[Cy p0.decls p0.funcs,JV,ro 0 37 5 BT d,⟨0,26,2,[[ls Ai b,ow 2 0 d]]⟩]⟩) N (0,[]) a (Eh (L:=[(1,ls Ar p1),(2,.ptr 0 0 0 0),(4,.ptr 1 0 0 0),(6,.ptr 3 0 0 0),(7,i64 0)]) (st':=[Cy p0.decls p0.funcs,JV,ro 0 37 5 BT ([]:List AU),⟨0,26,2,[[ls Ai b,.own 2 0 (List.length ([]:List AU))]]⟩]) (st1:=[Cy p0.decls p0.funcs,JV,ro 0 37 5 BT ([]:List AU),⟨0,26,2,[[ls Ai b,.own 3 0 (List.length ([]:List AU))]]⟩]) [0,1,3,4] AA AA (.w (.w (.p (.w .nil)))) (.same AA)) (λ_ K=>by rw[EF]at K;cases K) ?_);rintro n ⟨E,d⟩ a;rw[EF]at a;refine AE λR o=>sr AA λS p=>Ac 3 AA (CZ AA (AS AA (dn p AA ?_)));refine ci a AA ?_ ?_<;>intro T a
 .refine AH (o _ (AE λU q=>AK (AE λV t=>sr AA λW u=>Ac 2 AA (bs a λy g a=>zz (EP y) (Cc BZ AA AA g (Af _) rfl) rfl (AS AA (bs a λX z a=>Gs (hb 58) (KD z) rfl (AS AA ?_)))))));refine dn u AA ?_;refine ci a AA ?_ ?_<;>intro Y a
  .refine sr AA λZ A=>zz (.agg [.zc,.zc]) (DM Xo XI JD AA AA) rfl (Bw D5 AA (AS AA (dn A AA ?_)));cases a;cases h0;exact An ⟨_,(((HP (id:=1) (cs:=[.zc,.zc]) (cs':=bO) (st':=[Cy p0.decls p0.funcs,⟨0,26,2,[bO]⟩,MK d,gY b d]) rfl ⟨le.zc,le.rfl,pA⟩ AA AA).trans (HP (id:=1) (cs:=bO) (cs':=dc) (st':=[Cy p0.decls p0.funcs,iA,MK d,gY b d]) rfl ⟨le.rfl,le.zc,pA⟩ AA AA)).trans (AM (L:=dr []) (st':=[iA]) [1] AA AA (.w .nil) ⟨.rfl,.rfl,pA⟩)).trans (Ag (L:=dr []) ⟨.rfl,.rfl,pA⟩),FX (.tmp 4) dc D5 AA _ AA⟩
  .refine AH (t _ ?_);refine CI 22 (by kernel_rfl) (by kernel_rfl) (by rfl) ?_;iterate 5 refine yq tb rfl ?_
   refine bs a λi h a=>yx Cd h AA AA AA ?_;iterate 2 refine yq tb rfl ?_
   refine bs a λe B a=>?_;refine BU (v:=ls eI e) AN (hb 62) (BJ.wk (LU B) (by refine Wk.trans (Wk.BY (L:=[(0,ls eI e)]) (st':=UY) (id:=0) rfl tN Bn ⟨.BY AA,pA⟩ AA) ?_;exact AM [] AA AA .nil (.same AA))) rfl AA AA ?_;iterate 3 refine yq tb rfl ?_
   refine yx Cd h AA AA AA ?_;iterate 4 refine yq tb rfl ?_
   refine yz (EP y) (Cc BZ AA AA g (Af _) rfl) rfl (yq tb AA (bs a λc C a=>BU (v:=Bc c) AN (hb 63) (Rx C) rfl AA AA (yz (.agg [ls eI e,i64 i.result,i64 c.op,i64 c.num,Z8 c]) (DM V0 Vm MM AA AA) rfl ?_)));refine Gu (l:=[AU.mk e i.result c]) (enc:=BT) AN Cd (by decide) rfl AA AA AA AA Bn ?_;exact As (bs a λj D a=>Cs (l2:=[AU.mk e i.result c]) AN Cd AA AA AA AA Mi (λ_=>AA) D AA (AS AA (Bw Pt AA (dn q AA (AF AA (Ac 3 AA (AB (xi (Sh.w (E+1),j) a (Da (L:=[(1,Hd p1),(2,BG),(4,CJ),(6,IH),(7,Kr E)]) (st':=[Cy p0.decls p0.funcs,JV,MK j,gY b j]) (.raw AA AA (.raw AA AA (.pure Bn (.raw AA AA .nil)))) (.same AA))))))))))
 .exact Av (O d (AT a) _ (Eh (L:=[(4,BG),(6,CY)]) (st':=(JV::KL d b [])) (st1:=[JV,MK d,gY b d]) [1,2,3] AA AA (.w (.p (.w .nil))) (.same AA)))
theorem WL {N:Nat}{p0:AJ}{p1:Int}{r:AJ×Bool}(h0:GY N p0 p1=some r):Bd 20 [KT p0,i64 p1] [] (iX r.1.decls r.1.funcs r.2) []:=by
 unfold GY at h0;refine Cj AA (ai Tryz.func20 AA AA AA AA (sr AA λK1 B=>Ef 0 AA (DE 1 JD AA (AS AA (dn B AA (AE λK2 C=>AE λQ D=>bs h0 λM a h0=>?_))))));have O:∀E,M=E->∀s,Wk 0 s ⟨50,AP [(1,i64 p1),(2,BG),(4,CJ),(16,.bool E)],[Cy p0.decls p0.funcs,JV]⟩->Q s:=by
  intro E R s F;subst M;refine D _ (AG F ?_);refine ci h0 AA ?_ ?_<;>intro b6 h0
  .refine sr AA λK7 G=>zz (.agg [.zc,.zc]) (DM Xo XI JD AA AA) rfl (Bw D5 AA (AS AA (dn G AA ?_)));cases h0;exact An ⟨_,(((HP (id:=1) (cs:=[.zc,.zc]) (cs':=bO) (st':=[Cy p0.decls p0.funcs,⟨0,26,2,[bO]⟩]) rfl ⟨le.zc,le.rfl,pA⟩ AA AA).trans (HP (id:=1) (cs:=bO) (cs':=dc) (st':=[Cy p0.decls p0.funcs,iA]) rfl ⟨le.rfl,le.zc,pA⟩ AA AA)).trans (AM (L:=dr []) (st':=[iA]) [1] AA AA (.w .nil) ⟨.rfl,.rfl,pA⟩)).trans (Ag (L:=dr []) ⟨.rfl,.rfl,pA⟩),FX (.tmp 4) dc D5 AA _ AA⟩
  .refine AH (C _ (sr AA λK8 H=>?_));refine CC 2 ([]:List AD) Ar BZ (by simp only[List.map,Af];rfl) ?_;refine AS AA (dn H AA (AE λS I=>Ap AA (bs h0 λh a h0=>?_)));have J:∀d,h=d->∀s,Wk 0 s ⟨50,AP [(2,BG),(4,CJ),(6,ow 2 0 d)],[Cy p0.decls p0.funcs,JV,G7 d]⟩->S s:=by
    intro d R s F;subst h;refine I _ (AG F (sr AA λT k=>Ac 2 AA (Au (Wk.BY (L:=[(4,CJ),(45,KT p0),(46,Hd d)]) (st':=[Cy p0.decls p0.funcs,JV,D0]) (id:=2) rfl (show 0<=2 by decide) (Ah Aa) ⟨.rfl,.rfl,.BY AA,pA⟩ AA) (bs h0 λb o h0=>Df (iX b.1.decls b.1.funcs b.2) (hb 31) (Rv o) rfl (Ac 2 AA (Bw D5 AA (AS AA (dn k AA ?_))))))));cases h0;exact An ⟨_,(AM (L:=[(4,BG),(5,.bool b.2)]) (st':=[Cy b.1.decls b.1.funcs]) [1] AA AA (.w .nil) ⟨.rfl,.rfl,pA⟩).trans (Ag (L:=[(4,BG),(5,.bool b.2)]) ⟨.rfl,.rfl,pA⟩),FX (.tmp 4) (Sc b.1.decls b.1.funcs) D5 AA _ AA⟩
   refine AK (Am (σ:=Int×(List AD)) (λn v=>Fw N p0 p1 n v.1 v.2=some h) (λ(e,f)=>⟨50,AP [(1,i64 p1),(2,.ptr 0 0 0 0),(4,.ptr 1 0 0 0),(6,ow 2 0 f),(7,i64 e)],[Cy p0.decls p0.funcs,JV,ro 0 35 3 Ar f]⟩) N (0,[]) a Ao (λ_ P=>by rw[Fw]at P;cases P) ?_);rintro n ⟨e,f⟩ a;rw[Fw]at a;refine AE λU p=>sr AA λV q=>Ac 3 AA (CZ AA (AS AA (dn q AA ?_)));refine ci a AA ?_ ?_<;>intro W a
   .refine AH (p _ (AE λX t=>AK ?_));refine CI 18 (by kernel_rfl) (by kernel_rfl) (by rfl) ?_;iterate 6 refine yq tb rfl ?_
    refine bs a λY g a=>yx Cd g AA AA AA ?_;iterate 5 refine yq tb rfl ?_
    refine yx Cd g AA AA AA ?_;iterate 2 refine yq tb rfl ?_
    refine yl tb AA AA (bs a λi u a=>BU (v:=Bc i) AN (hb 46) (We u) rfl AA AA ?_);refine Gu (l:=[i]) (enc:=Ar) AN BZ (by decide) rfl AA AA (by simp only[List.map,Af];rfl) rfl (Ah Aa) ?_;exact As (bs a λj y a=>Cs (l2:=[i]) AN BZ AA AA AA AA Mi DY y AA (AS AA (dn t AA (AF AA (Ac 3 AA (AB (xi (Sh.w (e+1),j) a (Da (L:=[(1,i64 p1),(2,BG),(4,CJ),(6,ow 2 0 j),(7,Kr e)]) (st':=[Cy p0.decls p0.funcs,JV,G7 j]) (.raw AA AA (.raw AA AA (.pure (Ah Aa) .nil))) (.same AA)))))))))
   .exact Av (J f (AT a) _ Ao)
 refine AF AA (AS AA (bs a λZ z a=>Gs (hb 29) (P8 z) rfl (Ac 2 AA ?_)));rcases Sh.Ad a with ⟨c,a⟩|⟨c,a⟩
 .refine zs c AA ?_;iterate 3 refine zs c rfl ?_
  exact zt c AA (AB (O true (AT a) _ Ao))
 .exact Aw c AA (Aw c AA (bs a λK A a=>zd c (hb 45) (Sm A) rfl AA AA AA (Aw c AA (zf c AA (AB (O (!K) (AT a) _ Ao))))))
theorem Ko {N:Nat}{p0 p1:List Int}{r:Bool}(h0:HE N p0 p1=some r):Bd 21 [ls eI p0,ls eI p1] [] (.bool r) []:=by
 unfold HE at h0;refine ai Tryz.func21 AA AA AA AA (Ap AA (AE λG m=>sr AA λH o=>AS AA (CZ AA (AS AA (CZ AA (AS AA (dn o AA ?_)))))));refine ci h0 AA ?_ ?_<;>intro t h0
 .have I:decide ((Sh.len p0)=Sh.len p1)=false:=by simpa using t
  refine Ap AA ?_;cases h0;exact rt [(4,.bool false)]
 .have J:decide ((Sh.len p0)=Sh.len p1)=true:=by simpa using t
  refine AH (m _ (AE λx p=>Ap AA ?_));obtain⟨b,a,h0⟩:=Sh.Bi h0;have q:∀(_:Unit),b=Sum.inr ()->∀s,Wk 0 s ⟨26,AP [],[]⟩->x s:=by
   intro _ K s y;subst b;refine p _ (AG y (Ap AA ?_));cases h0;exact rt [(4,.bool true)]
  refine AK (Am (σ:=Int) (λn v=>Ec p0 p1 n v=some b) (λc=>⟨26,AP [(0,ls eI p0),(1,ls eI p1),(5,i64 c)],[]⟩) N 0 a Ao (λ_ u=>by rw[Ec]at u;cases u) ?_);rintro n c a;rw[Ec]at a;refine AE λz d=>sr AA λA e=>Ac 2 AA (CZ AA (AS AA (dn e AA ?_)));refine ci a AA ?_ ?_<;>intro B a
  .refine AH (d _ (AE λC f=>AK (AE λD g=>?_)));refine CW (by kernel_rfl) (by kernel_rfl) (by rfl) ?_;iterate 2 refine yq tb rfl ?_
   refine bs a λh i a=>yx BF i AA AA AA ?_;iterate 3 refine yq tb rfl ?_
   refine bs a λj k a=>yx BF k AA AA AA ?_;iterate 2 refine yq tb rfl ?_
   refine As (g _ ?_);refine ci a AA ?_ ?_<;>intro l a
   .have E:decide (h=j)=false:=by simpa using l
    refine Ap AA ?_;cases a;cases h0;exact rt [(4,.bool false)]
   .have F:decide (h=j)=true:=by simpa using l
    exact AH (f _ (AF AA (Ac 3 AA (AB (xi (Sh.w (c+1)) a Ao)))))
  .exact Av (q () (AT a) _ Ao)
theorem Rj {N:Nat}{p0 p1:List AL}{r:Bool}(h0:Ii N p0 p1=some r):Bd 32 [D4 p0,D4 p1] [] (.bool r) []:=by
 unfold Ii at h0;refine ai Tryz.func32 AA AA AA AA (Ap AA (AE λK2 M=>sr AA λK3 O=>AS AA (CZ AA (AS AA (CZ AA (AS AA (dn O AA ?_)))))));refine ci h0 AA ?_ ?_<;>intro U h0
 .have b5:decide ((Sh.len p0)=Sh.len p1)=false:=by simpa using U
  refine Ap AA ?_;cases h0;exact rt [(4,.bool false)]
 .have b7:decide ((Sh.len p0)=Sh.len p1)=true:=by simpa using U
  refine AH (M _ (AE λW P=>Ap AA ?_));obtain⟨k,d,h0⟩:=Sh.Bi h0;have Q:∀(_:Unit),k=Sum.inr ()->∀s,Wk 0 s ⟨87,AP [],[]⟩->W s:=by
   intro _ V s t;subst k;refine P _ (AG t (Ap AA ?_));cases h0;exact rt [(4,.bool true)]
  refine AK (Am (σ:=Int) (λn v=>D8 N p0 p1 n v=some k) (λe=>⟨87,AP [(0,ls Ai p0),(1,ls Ai p1),(5,i64 e)],[]⟩) N 0 d Ao (λ_ u=>by rw[D8]at u;cases u) ?_);rintro n e d;rw[D8]at d;refine AE λX x=>sr AA λY y=>Ac 2 AA (CZ AA (AS AA (dn y AA ?_)));refine ci d AA ?_ ?_<;>intro Z d
  .refine AH (x _ (AE λR z=>AK (AE λb0 A=>AE λS B=>bs d λC a d=>?_)));have l:∀m,C=m->∀s,Wk 0 s ⟨87,AP [(0,D4 p0),(1,D4 p1),(5,i64 e),(56,.bool m)],[]⟩->S s:=by
    intro m V s t;subst C;refine B _ (AG t ?_);refine ci d AA ?_ ?_<;>intro b1 d
    .refine Ap AA ?_;cases d;cases h0;exact rt [(4,.bool false)]
    .refine AH (A _ (Ap AA ?_));obtain⟨o,a,d⟩:=Sh.Bi d;have T:∀(_:Unit),o=Sum.inr ()->∀s,Wk 0 s ⟨87,AP [(0,D4 p0),(1,D4 p1),(5,i64 e)],[]⟩->R s:=by
      intro _ V s t;subst o;exact z _ (AG t (AF AA (Ac 3 AA (AB (xi (Sh.w (e+1)) d Ao)))))
     refine AK (Am (σ:=Int) (λn v=>EE N e p0 p1 n v=some o) (λp=>⟨87,AP [(0,ls Ai p0),(1,ls Ai p1),(5,i64 e),(6,i64 p)],[]⟩) N 0 a Ao (λ_ u=>by rw[EE]at u;cases u) ?_);rintro n p a;rw[EE]at a;refine AE λb2 D=>sr AA λb3 E=>Ac 3 AA (bs a λb6 j a=>zx DK j AA AA AA (Ac 2 AA (CZ AA (AS AA (dn E AA ?_)))));refine ci a AA ?_ ?_<;>intro b8 a
     .refine AH (D _ (AE λb9 F=>AK (AE λc0 G=>?_)));refine CW (by kernel_rfl) (by kernel_rfl) (by rfl) ?_;iterate 2 refine yq tb rfl ?_
      refine yx DK j AA AA AA ?_;iterate 3 refine yq tb rfl ?_
      refine bs a λc1 H a=>yx Je H AA AA AA ?_;iterate 4 refine yq tb rfl ?_
      refine bs a λc2 I a=>yx DK I AA AA AA ?_;iterate 3 refine yq tb rfl ?_
      refine bs a λc3 J a=>yx Je J AA AA AA ?_;iterate 2 refine yq tb rfl ?_
      refine bs a λq K a=>BU (v:=.bool q) AN (hb 21) (Ko K) rfl AA AA (yq tb AA (As (G _ ?_)));refine ci a AA ?_ ?_<;>intro L a
      .have c4:q=false:=by simpa using L
       refine Ap AA ?_;cases a;cases d;cases h0;exact rt [(4,.bool false)]
      .have c5:q=true:=by simpa using L
       exact AH (F _ (AF AA (Ac 3 AA (AB (xi (Sh.w (p+1)) a Ao)))))
     .exact Av (T () (AT a) _ Ao)
   refine CW (by kernel_rfl) (by kernel_rfl) (by rfl) ?_;iterate 2 refine yq tb rfl ?_
   refine bs a λh f a=>yx DK f AA AA AA ?_;iterate 4 refine yq tb rfl ?_
   refine bs a λi g a=>yx DK g AA AA AA ?_;iterate 4 refine yq tb rfl ?_
   rcases Sh.Ad a with ⟨c,a⟩|⟨c,a⟩
   .refine ys c AA ?_;iterate 10 refine ys c rfl ?_
    refine yt c AA (yq tb AA ?_);iterate 13 refine ys rfl rfl ?_
    exact yt AA AA (As (l true (AT a) _ Ao))
   .refine yg tb c AA (yg tb c AA (H3 (v:=T9 h) (CQ AA AA c) rfl (CR DK AA AA f AA) ?_));iterate 4 refine yg tb c rfl ?_
    refine H3 (v:=T9 i) (CQ AA AA c) rfl (CR DK AA AA g AA) ?_;iterate 3 refine yg tb c rfl ?_
    refine yf c AA (yq tb AA ?_);rcases Sh.Ad a with ⟨b,a⟩|⟨b,a⟩
    .refine ys b AA ?_;iterate 12 refine ys b rfl ?_
     exact yt b AA (As (l true (AT a) _ Ao))
    .refine yg tb b AA (yg tb b AA (H3 (v:=T9 h) (CQ AA AA b) rfl (CR DK AA AA f AA) ?_));iterate 2 refine yg tb b rfl ?_
     refine H3 (v:=Yn h) (CQ AA AA b) rfl (CU Qa AA) ?_;iterate 2 refine yg tb b rfl ?_
     refine H3 (v:=T9 i) (CQ AA AA b) rfl (CR DK AA AA g AA) ?_;iterate 2 refine yg tb b rfl ?_
     exact H3 (v:=Yn i) (CQ AA AA b) rfl (CU Qa AA) (yg tb b AA (yf b AA (As (l (!decide ((Sh.len h.cons)=Sh.len i.cons)) (AT a) _ Ao))))
  .exact Av (Q () (AT d) _ Ao)
theorem QK {N:Nat}{uO:AD->AD->Option (Bool)}(wP :∀{p0:AD} {p1:AD} {r:Bool},uO p0 p1=some r->Bd 33 [Bc p0,Bc p1] [] (.bool r) []){p0 p1:AD}{r:Bool}(h0:Jc N uO p0 p1=some r):Bd 33 [Bc p0,Bc p1] [] (.bool r) []:=by
 unfold Jc at h0;refine ai Tryz.func33 AA AA AA AA (sr AA λR q=>Ef 0 AA (Ef 1 AA (AS AA (dn q AA (AE λS t=>AE λG u=>bs h0 λE a h0=>?_)))));have x:∀y,E=y->∀s,Wk 0 s ⟨46,AP [(2,BG),(3,CJ),(26,.bool y)],[Mo p0.op p0.num p0.kids,Mo p1.op p1.num p1.kids]⟩->G s:=by
  intro y H s z;subst E;refine u _ (AG z ?_);refine ci h0 AA ?_ ?_<;>intro T h0
  .refine Ap AA ?_;cases h0;exact rd [(4,.bool false)]
  .refine AH (t _ (AE λI A=>Ap AA ?_));obtain⟨d,a,h0⟩:=Sh.Bi h0;have B:∀(_:Unit),d=Sum.inr ()->∀s,Wk 0 s ⟨46,AP [],[]⟩->I s:=by
    intro _ H s z;subst d;refine A _ (AG z (Ap AA ?_));cases h0;exact rt [(4,.bool true)]
   refine AK (Am (σ:=Int) (λn v=>Dv p0 p1 uO n v=some d) (λe=>⟨46,AP [(2,.ptr 0 0 0 0),(3,.ptr 1 0 0 0),(5,i64 e)],[Mo p0.op p0.num p0.kids,Mo p1.op p1.num p1.kids]⟩) N 0 a Ao (λ_ F=>by rw[Dv]at F;cases F) ?_);rintro n e a;rw[Dv]at a;refine AE λJ g=>sr AA λK h=>Ac 3 AA (CZ AA (AS AA (dn h AA ?_)));refine ci a AA ?_ ?_<;>intro L a
   .refine AH (g _ (AE λM i=>AK (AE λO j=>?_)));refine CW (by kernel_rfl) (by kernel_rfl) (by rfl) ?_;iterate 3 refine yq tb rfl ?_
    refine bs a λC k a=>yz (EP C) (Cc BZ AA AA k (Af _) rfl) rfl ?_;iterate 4 refine yq tb rfl ?_
    refine bs a λD l a=>yz (EP D) (Cc BZ AA AA l (Af _) rfl) rfl (yq tb AA (bs a λf o a=>BU (v:=.bool f) AN (hb 33) (wP o) rfl AA AA (yq tb AA (As (j _ ?_)))));refine ci a AA ?_ ?_<;>intro p a
    .have P:f=false:=by simpa using p
     refine Ap AA ?_;cases a;cases h0;exact rd [(4,.bool false)]
    .have Q:f=true:=by simpa using p
     exact AH (i _ (AF AA (Ac 3 AA (AB (xi (Sh.w (e+1)) a Ao)))))
   .exact Av (B () (AT a) _ (Be _ AA))
 refine AF AA (Ac 6 AA ?_);rcases Sh.Ad a with ⟨c,a⟩|⟨c,a⟩
 .refine zs c AA ?_;iterate 4 refine zs c rfl ?_
  refine zt c AA (AS AA ?_);iterate 7 refine zs rfl rfl ?_
  exact zt AA AA (AB (x true (AT a) _ Ao))
 .refine Aw c AA ?_;iterate 4 refine Aw c rfl ?_
  refine zf c AA (AS AA ?_);rcases Sh.Ad a with ⟨b,a⟩|⟨b,a⟩
  .refine zs b AA ?_;iterate 6 refine zs b rfl ?_
   exact zt b AA (AB (x true (AT a) _ Ao))
  .exact Aw b AA (Aw b AA (BW (v:=aP p0) (CQ AA AA b) rfl (CU Ub AA) (Aw b AA (Aw b AA (BW (v:=aP p1) (CQ AA AA b) rfl (CU Ub AA) (Aw b AA (zf b AA (AB (x (!decide ((Sh.len p0.kids)=Sh.len p1.kids)) (AT a) _ Ao)))))))))
theorem QJ {N:Nat}:∀(n:Nat),∀{p0:AD} {p1:AD} {r:Bool},Fb N n p0 p1=some r->Bd 33 [Bc p0,Bc p1] [] (.bool r) []:=by
 intro n
 induction n with
 |zero=>intro p0 p1 r a;cases a
 |succ n ih=>
  intro p0 p1 r a;rw[Fb]at a;exact QK (λh=>ih h) a
theorem SY {N:Nat}:∀{p0:AD} {p1:AD} {r:Bool},MZ N p0 p1=some r->Bd 33 [Bc p0,Bc p1] [] (.bool r) []:=by
 intro p0 p1 r a;exact QJ N a
theorem Ll {N:Nat}{p0 p1:AJ}{r:Bool}(h0:Gk N p0 p1=some r):Bd 11 [KT p0,KT p1] [] (.bool r) []:=by
 unfold Gk at h0;refine ai Tryz.func11 AA AA AA AA (sr AA λY D=>Ef 0 AA (Ef 1 AA (AS AA (dn D AA (AE λZ E=>AE λQ F=>bs h0 λL c h0=>?_)))));have M:∀G,L=G->∀s,Wk 0 s ⟨73,AP [(2,BG),(3,CJ),(20,.bool G)],[Cy p0.decls p0.funcs,Cy p1.decls p1.funcs]⟩->Q s:=by
  intro G O s l;subst L;refine F _ (AG l ?_);refine ci h0 AA ?_ ?_<;>intro b6 h0
  .refine Ap AA ?_;cases h0;exact rd [(4,.bool false)]
  .refine AH (E _ (AE λR H=>Ap AA ?_));obtain⟨i,c,h0⟩:=Sh.Bi h0;have I:∀(_:Unit),i=Sum.inr ()->∀s,Wk 0 s ⟨73,AP [],[]⟩->R s:=by
    intro _ O s l;subst i;refine H _ (AG l (Ap AA ?_));cases h0;exact rt [(4,.bool true)]
   refine AK (Am (σ:=Int) (λn v=>DT N p0 p1 n v=some i) (λh=>⟨73,AP [(2,.ptr 0 0 0 0),(3,.ptr 1 0 0 0),(5,i64 h)],[Cy p0.decls p0.funcs,Cy p1.decls p1.funcs]⟩) N 0 c Ao (λ_ P=>by rw[DT]at P;cases P) ?_);rintro n h c;rw[DT]at c;refine AE λS o=>sr AA λT p=>Ac 3 AA (CZ AA (AS AA (dn p AA ?_)));refine ci c AA ?_ ?_<;>intro U c
   .refine AH (o _ (AE λV q=>AK (AE λJ t=>bs c λu e c=>?_)));have j:∀k,u=k->∀s,Wk 0 s ⟨73,AP [(2,BG),(3,CJ),(5,i64 h),(72,.bool k)],[Cy p0.decls p0.funcs,Cy p1.decls p1.funcs]⟩->J s:=by
     intro k O s l;subst u;refine t _ (AG l ?_);refine ci c AA ?_ ?_<;>intro W c
     .refine Ap AA ?_;cases c;cases h0;exact rd [(4,.bool false)]
     .exact AH (q _ (AF AA (Ac 3 AA (AB (xi (Sh.w (h+1)) c Ao)))))
    refine CW (by kernel_rfl) (by kernel_rfl) (by rfl) ?_;iterate 3 refine yq tb rfl ?_
    refine bs e λx f e=>yx Cd f AA AA AA ?_;iterate 5 refine yq tb rfl ?_
    refine bs e λy g e=>yx Cd g AA AA AA ?_;iterate 2 refine yq tb rfl ?_
    refine bs e λK z e=>BU (v:=.bool K) AN (hb 21) (Ko z) rfl AA AA ?_;iterate 2 refine yq tb rfl ?_
    rcases Sh.Ad e with ⟨d,e⟩|⟨d,e⟩
    .refine ys d AA ?_;iterate 12 refine ys d rfl ?_
     refine yt d AA (yq tb AA ?_);iterate 14 refine ys rfl rfl ?_
     exact yt AA AA (As (j true (AT e) _ Ao))
    .refine yg tb d AA ?_;iterate 2 refine yg tb d rfl ?_
     refine H3 (v:=Rr x) (CQ AA AA d) rfl (CR Cd AA AA f AA) ?_;iterate 5 refine yg tb d rfl ?_
     refine H3 (v:=Rr y) (CQ AA AA d) rfl (CR Cd AA AA g AA) ?_;iterate 3 refine yg tb d rfl ?_
     refine yf d AA (yq tb AA ?_);rcases Sh.Ad e with ⟨a,e⟩|⟨a,e⟩
     .refine ys a AA ?_;iterate 13 refine ys a rfl ?_
      exact yt a AA (As (j true (AT e) _ Ao))
     .refine yg tb a AA ?_;iterate 2 refine yg tb a rfl ?_
      refine H3 (v:=Rr x) (CQ AA AA a) rfl (CR Cd AA AA f AA) ?_;iterate 5 refine yg tb a rfl ?_
      refine H3 (v:=Rr y) (CQ AA AA a) rfl (CR Cd AA AA g AA) ?_;iterate 2 refine yg tb a rfl ?_
      exact bs e λA B e=>BU (v:=.bool A) (CQ AA AA a) (hb 33) (SY B) rfl AA AA (yg tb a AA (yf a AA (As (j (!A) (AT e) _ Ao))))
   .exact Av (I () (AT c) _ (Be _ AA))
 refine AF AA (Ac 4 AA (bs c λX C c=>Gs (hb 32) (Rj C) rfl (Ac 2 AA ?_)));rcases Sh.Ad c with ⟨b,c⟩|⟨b,c⟩
 .refine zs b AA ?_;iterate 6 refine zs b rfl ?_
  exact zt b AA (AB (M true (AT c) _ Ao))
 .exact Aw b AA (Aw b AA (BW (v:=i64 (Sh.len p0.funcs)) (CQ AA AA b) rfl (CU Pv AA) (Aw b AA (Aw b AA (BW (v:=i64 (Sh.len p1.funcs)) (CQ AA AA b) rfl (CU Pv AA) (Aw b AA (zf b AA (AB (M (!decide ((Sh.len p0.funcs)=Sh.len p1.funcs)) (AT c) _ Ao)))))))))
theorem Qb {tm uB:Int}{p0:AD}{r:Int}(h0:JY tm uB p0=some r):Bd 50 [Bc p0,BG,CJ] [DA tm,DA uB] (.DF []) [DA tm,DA r]:=by
 unfold JY at h0;refine ai Tryz.func50 AA AA AA AA (sr AA λj c=>Ef 2 AA (dn c AA (AE λh d=>bs h0 λf b h0=>?_)));have g:∀e,f=e->∀s,Wk 2 s ⟨15,AP [(2,CJ),(12,.bool e)],[DA tm,DA uB]⟩->h s:=by
  intro e k s i;subst f;refine d _ (AG i ?_);refine ci h0 AA ?_ ?_<;>intro l h0
  .refine AF AA (Ac 2 AA (Bw Hy AA ?_));cases h0;exact AB (xr (Ag (L:=[]) pA))
  .cases h0;exact AH (xi _ (Ag (L:=[]) pA) (And.intro AA AA))
 refine AF AA (Ac 4 AA ?_);rcases Sh.Ad b with ⟨a,b⟩|⟨a,b⟩
 .refine Aw a AA ?_;iterate 3 refine Aw a rfl ?_
  refine zt a AA ?_;exact AB (g (decide (p0.num=tm)) (AT b) _ (AM [0,1] AA AA (.w (.w .nil)) (.same AA)))
 .refine zs a AA ?_;iterate 3 refine zs a rfl ?_
  refine zf a AA ?_;exact AB (g false (AT b) _ (AM [0,1] AA AA (.w (.w .nil)) (.same AA)))
theorem WH {N:Nat}{uq:Int->Int->AD->Option (Int×Int)}(xy :∀{tm:Int} {uB:Int} {p0:AD} {r:Int×Int},uq tm uB p0=some r->Bd 49 [Bc p0,.fn 50 [BG,CJ]] [DA tm,DA uB] (.DF []) [DA r.1,DA r.2]){tm uB:Int}{p0:AD}{r:Int×Int}(h0:Mx N uq tm uB p0=some r):Bd 49 [Bc p0,.fn 50 [BG,CJ]] [DA tm,DA uB] (.DF []) [DA r.1,DA r.2]:=by
 unfold Mx at h0;refine ai Tryz.func49 AA AA AA AA (sr AA λI p=>Ef 2 AA (dn p AA (sr AA λJ q=>Ac 2 AA (bs h0 λk t h0=>?_))));refine TA (rowsP:=[DA tm,DA uB]) (rows0:=[DA tm,DA uB]) (rows1:=[DA tm,DA k]) (rows2:=[]) (rows1':=[DA tm,DA k]) (rows2':=[]) (st':=[DA tm,DA k,Mo p0.op p0.num p0.kids]) (v':=.DF []) [0,1] AN AA (hb 50) (Qb t) rfl (by decide) rfl AA (.raw AA AA (.raw AA AA .nil)) rfl AA (.raw AA AA (.raw AA AA .nil)) .nil AA AA ?_;refine dn q AA (sr AA λK u=>Ac 2 AA (CZ AA (AS AA (dn u AA (RI λC x=>bs h0 λd a h0=>?_)))));have y:∀z e,d=(z,e)->∀s,Wk 2 s ⟨20,AP [],[DA z,DA e]⟩->C s:=by
  rintro z e rfl s D;refine x _ ?_;cases h0;exact Exists.intro _ (And.intro (D.trans (Ag (L:=[]) pA)) (And.intro AA AA))
 refine AK (Am (σ:=Int×Int×Int) (λn v=>F8 p0 uq n v.1 v.2.1 v.2.2=some d) (λ(A,l,o)=>⟨20,AP [(1,.fn 50 [.ptr 0 0 0 0,.ptr 1 0 0 0]),(10,ls Ar p0.kids),(11,i64 (Sh.len p0.kids)),(12,i64 A)],[DA l,DA o]⟩) N (0,tm,k) a (AM [0,1] AA AA (.w (.w .nil)) (.same AA)) (λ_ B=>by rw[F8]at B;cases B) ?_);rintro n ⟨A,l,o⟩ a;rw[F8]at a;refine Ap AA (AE λE f=>?_);refine ci a AA ?_ ?_<;>intro F a
 .refine AH (f _ (AE λG g=>AK (sr AA λH h=>bs a λc i a=>zz (EP c) (Cc BZ AA AA i (Af _) rfl) rfl (AS AA (DE 2 De AA (Bw BI AA (dn h AA (AF AA (Ac 2 AA ?_)))))))));refine bs a λb j a=>?_;refine QV (rows0:=[DA l,DA o]) (rows1:=[DA b.1,DA b.2]) (st':=[DA b.1,DA b.2,Mo c.op c.num c.kids]) (v':=.DF []) [0,1] AN (hb 49) (xy j) rfl (by decide) rfl AA (.raw AA AA (.raw AA AA .nil)) rfl AA (.raw AA AA (.raw AA AA .nil)) .nil AA AA ?_;refine dn g AA (AF AA (Ac 2 AA ?_));exact AB (xi (Sh.w (A+1),b.1,b.2) a (AM [0,1] AA AA (.w (.w .nil)) (.same AA)))
 .exact Av (y l o (AT a) _ Ao)
theorem Wc {N:Nat}:∀(n:Nat),∀{tm:Int} {uB:Int} {p0:AD} {r:Int×Int},H5 N n tm uB p0=some r->Bd 49 [Bc p0,.fn 50 [BG,CJ]] [DA tm,DA uB] (.DF []) [DA r.1,DA r.2]:=by
 intro n
 induction n with
 |zero=>intro tm uB p0 r a;cases a
 |succ n ih=>
  intro tm uB p0 r a;rw[H5]at a;exact WH (λh=>ih h) a
theorem Y2 {N:Nat}:∀{tm:Int} {uB:Int} {p0:AD} {r:Int×Int},S4 N tm uB p0=some r->Bd 49 [Bc p0,.fn 50 [BG,CJ]] [DA tm,DA uB] (.DF []) [DA r.1,DA r.2]:=by
 intro tm uB p0 r a;exact Wc N a
theorem SW {N:Nat}{p0:AJ}{p1 r:Int}(h0:JF N p0 p1=some r):Bd 23 [KT p0,i64 p1] [] (i64 r) []:=by
 unfold JF at h0;refine ai Tryz.func23 AA AA AA AA (sr AA λS x=>Ef 0 AA (Ef 1 AA (AS AA (dn x AA (AE λT y=>AE λI z=>bs h0 λG a h0=>?_)))));have A:∀B,G=B->∀s,Wk 0 s ⟨35,AP [(2,BG),(3,CJ),(21,.bool B)],[Cy p0.decls p0.funcs,DA p1]⟩->I s:=by
  intro B J s C;subst G;refine z _ (AG C ?_);refine ci h0 AA ?_ ?_<;>intro U h0
  .refine Ap AA ?_;cases h0;exact rd [(4,i64 (-1))]
  .refine AH (y _ (sr AA λV D=>DE 2 nr AA (Bw Hy AA (dn D AA (AE λK E=>sr AA λL k=>Ac 2 AA (CZ AA (AS AA (dn k AA (bs h0 λh a h0=>?_)))))))));have F:∀f,h=f->∀s,Wk 0 s ⟨35,AP [(5,BG)],[DA f]⟩->K s:=by
    intro f J s C;subst h;try dsimp only at h0
    refine E _ (AG C (Ap AA ?_));obtain rfl:=Sh.Bf h0;exact rd [(4,i64 f)]
   refine AK (Am (σ:=Int×Int×Int) (λn v=>EW N p0 n v.1 v.2.1 v.2.2=some h) (λ(i,j,g)=>⟨35,AP [(3,.ptr 0 0 0 0),(5,.ptr 1 0 0 0),(23,ls BT p0.funcs),(24,i64 (Sh.len p0.funcs)),(25,i64 i)],[DA j,DA g]⟩) N (0,p1,0) a (AM [1,2] AA AA (.w (.w .nil)) (.same AA)) (λ_ H=>by rw[EW]at H;cases H) ?_);rintro n ⟨i,j,g⟩ a;rw[EW]at a;refine Ap AA (AE λM l=>?_);refine ci a AA ?_ ?_<;>intro O a
   .refine AH (l _ (AE λP o=>AK (sr AA λQ p=>bs a λe q a=>zx Cd q AA AA AA (AS AA (DE 2 MM AA (Bw Lj AA (dn p AA (AF AA (Ac 2 AA ?_)))))))));refine zz (.fn 50 [BG,CJ]) (ae AA) rfl (bs a λd t a=>?_);refine QV (rows0:=[DA j,DA g]) (rows1:=[DA d.1,DA d.2]) (st':=[DA d.1,DA d.2,nk e.params e.result e.body.op e.body.num e.body.kids]) (v':=.DF []) [0,1] AN (hb 49) (Y2 t) rfl (by decide) rfl AA (.raw AA AA (.raw AA AA .nil)) rfl AA (.raw AA AA (.raw AA AA .nil)) .nil AA AA ?_;refine dn o AA (AF AA (Ac 2 AA ?_));exact AB (xi (Sh.w (i+1),d.1,d.2) a (AM [0,1] AA AA (.w (.w .nil)) (.same AA)))
   .exact Av (F g (AT a) _ (AM [1] AA AA (.w .nil) (.same AA)))
 refine AF AA (AS AA (bs a λR u a=>Gs (hb 22) (Gh u) rfl (Ac 2 AA ?_)));rcases Sh.Ad a with ⟨c,a⟩|⟨c,a⟩
 .refine zs c AA (zs c AA (zt c AA (AS AA ?_)));iterate 5 refine zs rfl rfl ?_
  exact zt AA AA (AB (A true (AT a) _ Ao))
 .refine Aw c AA (Aw c AA (zf c AA (AS AA ?_)));rcases Sh.Ad a with ⟨b,a⟩|⟨b,a⟩
  .refine zs b AA ?_;iterate 4 refine zs b rfl ?_
   exact zt b AA (AB (A true (AT a) _ Ao))
  .exact Aw b AA (Aw b AA (Aw b AA (BW (v:=i64 (Sh.len p0.funcs)) (CQ AA AA b) rfl (CU Pv AA) (Aw b AA (zf b AA (AB (A (decide ((Sh.len p0.funcs)<=p1)) (AT a) _ Ao)))))))
end Go.Proofs.YtihdgoiebmfapaaGreat
