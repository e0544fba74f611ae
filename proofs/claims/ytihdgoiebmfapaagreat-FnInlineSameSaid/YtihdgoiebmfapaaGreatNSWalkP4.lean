import Derived.Test.YtihdgoiebmfapaaGreatNSWalkP3
set_option linter.all false
namespace Go.Proofs.YtihdgoiebmfapaaGreat
open Go Go.Abs RC
attribute [local irreducible] Go.Abs.EK
set_option maxRecDepth 100000
set_option maxHeartbeats 4000000
theorem QQ {N:Nat}{tl:Int}{uA:List AK}{uQ:List AU}{p0:AJ}{r:AJ×Bool×Int}(h0:Jj N tl uA uQ p0=some r):Bf 27 [KT p0,.fn 42 [BG,CM]] [DC tl,Cx uA uQ] (.C8 [.agg [ow 2 0 r.1.decls,ow 3 0 r.1.funcs],.bool r.2.1]) [DC r.2.2,Cx uA uQ,Qt r.1.decls,Pf r.1.funcs]:=by
 unfold Jj at h0;refine BJ.wk (r0:=.C8 [.agg [ow 2 0 r.1.decls,ow 3 0 r.1.funcs],.bool r.2.1]) (st0:=[DC r.2.2,Cx uA uQ,Qt r.1.decls,Pf r.1.funcs,gQ r.1.decls r.1.funcs]) ?_ (D3 (L:=[(0,.C8 [.agg [ow 2 0 r.1.decls,ow 3 0 r.1.funcs],.bool r.2.1])]) (st':=[DC r.2.2,Cx uA uQ,Qt r.1.decls,Pf r.1.funcs]) [0,1,2,3] AA (by decide) rfl AA (.raw AA (.raw AA (.deep (Ao λ_=>AA) (.deep (Ao λ_=>AA) oz)))) (.same AA));refine ai Tryz.func27 AA AA AA AA (sr AA λK1 O=>Ee 2 AA (As (Wk.BZ (L:=[(1,.fn 42 [BG,CM]),(2,jb p0)]) (st':=[DC tl,Cx uA uQ,⟨1,26,2,[]⟩]) (id:=2) rfl tW (Ek AA) (.same AA) rfl) (DL 3 Is AA (AT AA (dn O AA (sr AA λK2 P=>AT AA (bs h0 λe Q h0=>Bo (v':=.agg [ow 4 0 e.decls,ow 5 0 e.funcs]) AN (hb 55) (P7 Q) rfl AA ⟨(Ao λ_=>AA),⟨(Ao λ_=>AA),oz⟩⟩ AA AA (DL 6 Is AA ?_))))))));refine Bx Dz AA (dn P AA (AE λX R=>sr AA λK5 S=>Ac 2 AA (zz (i64 (Sh.len e.funcs)) (DE Pp AA AA AA) rfl (AT AA (dn S AA ?_)))));obtain⟨C,q,h0⟩:=Sh.Bj h0;have T:∀(D:Int) (t:List AU),C=Sum.inr (D,t)->∀s,Wk 2 s ⟨49,AP [(4,CV),(6,S5)],[DC D,Cx uA uQ,JV,ro 0 80 3 (Bu 82 3) e.decls,Pf t,⟨0,26,2,[[ow 3 0 e.decls,ow 4 0 t]]⟩]⟩->X s:=by
  rintro D t rfl s Y;refine R _ (AG Y (sr AA λZ E=>AT AA (Bx Dz AA (AT AA (dn E AA ?_)))));cases h0;exact Am ⟨_,((Ef (L:=[(4,I0),(5,.bool true)]) (st':=[DC D,Cx uA uQ,ro 0 80 3 (Bu 82 3) e.decls,Pf t,⟨0,26,2,[[ow 2 0 e.decls,ow 3 0 t]]⟩]) (st1:=[DC D,Cx uA uQ,ro 0 80 3 (Bu 82 3) e.decls,Pf t,⟨0,26,2,[[ow 3 0 e.decls,ow 4 0 t]]⟩]) [0,1,3,4,2] AA AA (.w (.w (.deep (Ao λ_=>AA) (.deep (Ao λ_=>AA) (.w .nil))))) (.same AA)).trans (Ag (L:=[(4,I0),(5,.bool true)]) (.same AA))),FY (.tmp 4) [ow 2 0 e.decls,ow 3 0 t] Dz AA _ ⟨AA,AA⟩⟩
 refine AL (An (σ:=Int×Int×(List AU)) (λn v=>Dp N uA uQ p0 e n v.1 v.2.1 v.2.2=some C) (λ(f,A,l)=>⟨49,AP [(1,.fn 42 [.ptr 0 0 0 0,.ptr 1 0 0 0]),(2,.C9 [ls Ah p0.decls,ls BP p0.funcs] 0),(4,.ptr 2 0 0 0),(6,.ptr 5 0 0 0),(12,i64 (Sh.len e.funcs)),(13,i64 f)],[DC A,Cx uA uQ,JV,ro 0 80 3 (Bu 82 3) e.decls,ro 0 37 5 (ES 3 35) l,⟨0,26,2,[[ow 3 0 e.decls,ow 4 0 l]]⟩]⟩) N (0,tl,e.funcs) q (Ef (L:=[(1,.fn 42 [.ptr 0 0 0 0,.ptr 1 0 0 0]),(2,.C9 [ls Ah p0.decls,ls BP p0.funcs] 0),(4,.ptr 2 0 0 0),(6,.ptr 5 0 0 0),(12,i64 (Sh.len e.funcs)),(13,i64 0)]) (st':=[DC tl,Cx uA uQ,JV,ro 0 80 3 (Bu 82 3) e.decls,ro 0 37 5 (ES 3 35) e.funcs,⟨0,26,2,[[ow 3 0 e.decls,ow 4 0 e.funcs]]⟩]) (st1:=[DC tl,Cx uA uQ,JV,ro 0 80 3 (Bu 82 3) e.decls,ro 0 37 5 (ES 3 35) e.funcs,⟨0,26,2,[[ow 4 0 e.decls,ow 5 0 e.funcs]]⟩]) [0,1,3,4,5,6] AA AA (.w (.w (.w (.deep (Ao λ_=>AA) (.deep (Ao λ_=>AA) (.w .nil)))))) (.same AA)) (λ_ W=>by rw[Dp]at W;cases W) ?_);rintro n ⟨f,A,l⟩ q;rw[Dp]at q;refine Ap AA (AE λb0 G=>?_);refine ci q AA ?_ ?_<;>intro b1 q
 .refine AH (G _ (AE λb2 H=>AL (Ap AA (AE λb3 I=>?_))));refine Qh (by kernel_rfl) ?_;refine bs q λa o q=>bs q λb B q=>?_;refine Xl (f':=23) (listed':=bm 23 0) rfl (by kernel_rfl) ?_;refine DX 0 (v:=.ptr 5 0 0 1) rfl AA (by kernel_rfl) (by kernel_rfl) (by kernel_rfl) rfl (Fa (Kv Ki AA AA tN rfl)) ?_;refine DX 2 (v:=i64 f) rfl AA (by kernel_rfl) (by kernel_rfl) (by kernel_rfl) rfl (Fa (Ia AA)) ?_;refine DX 3 (v:=jb p0) rfl AA (by kernel_rfl) (by kernel_rfl) (by kernel_rfl) rfl (Fa (NN Wj AA AA)) ?_;refine DX 4 (v:=ls Ah p0.decls) rfl AA (by kernel_rfl) (by kernel_rfl) (by kernel_rfl) rfl (PZ dQ AA AA) ?_;refine DX 5 (v:=.ptr 5 0 0 1) rfl AA (by kernel_rfl) (by kernel_rfl) (by kernel_rfl) rfl (Fa (Kv Ki AA AA tN rfl)) ?_;refine DX 7 (v:=i64 f) rfl AA (by kernel_rfl) (by kernel_rfl) (by kernel_rfl) rfl (Fa (Ia AA)) ?_;refine DX 11 (v:=.ptr 5 0 0 1) rfl AA (by kernel_rfl) (by kernel_rfl) (by kernel_rfl) rfl (Fa (Kv Ki AA AA tN rfl)) ?_;refine DX 13 (v:=i64 f) rfl AA (by kernel_rfl) (by kernel_rfl) (by kernel_rfl) rfl (Fa (Ia AA)) ?_;refine DX 18 (v:=.fn 42 [BG,CM]) rfl AA (by kernel_rfl) (by kernel_rfl) (by kernel_rfl) rfl (Fa (Ia AA)) ?_;refine Xv (VG λzy p=>?_);have g:zy 0 (bm 23 8388607) ⟨49,AP (jz p0 f [(12,i64 (Sh.len e.funcs)),(13,i64 f)]),[DC b.2,Cx uA uQ,JV,⟨0,26,2,[[ow 4 0 e.decls,ow 5 0 (Sh.put l f (AU.mk a.params a.result b.1))]]⟩,ro 0 80 3 (Bu 82 3) e.decls,ro 0 37 5 (ES 3 35) (Sh.put l f (AU.mk a.params a.result b.1))]⟩:=(p _ _ _).2 (by
   refine Si AA (by kernel_rfl) ?_;refine I _ (sr AA λb4 J=>Ac 3 AA (bs q λy z q=>zz (.ptr 5 0 (Int.toNat f) 0) (CD Ck AA AA AA AA z) rfl (AT AA (As (QJ (id:=5) (j:=4) (i:=f) (c:=y) (ys:=y.body.kids) (encY:=Bv 35) rfl z AA AA AA AA AA) (zz (.agg [i64 y.body.op,i64 y.body.num,ow 6 0 y.body.kids]) (Cp BI AA AA (L4 z) tS rfl) rfl (bs q λU K q=>Lw (v':=i64 U) AN (hb 12) (Oy K) rfl (.agg (.val AA (.val AA (.ownD AA AA BD (λx=>Mr x) .nil))) .nil) rfl oz AA AA ?_))))));refine As (Wk.take (id:=5) (m:=6) (j:=4) (i:=f) (c:=y) (ys:=y.body.kids) (encY:=Bv 35) rfl z AA AA AA (by decide) tO HT AA AA) ?_;refine As (NM (id:=5) (i:=f) (c:=y) rfl z AA AA) (AT AA (dn J AA ?_));refine ci q AA ?_ ?_<;>intro b5 q
   .refine sr AA λb6 M=>zz (.agg [.zc,.zc]) (DK Xn YD Is AA AA) rfl (Bx Dz AA (AT AA (dn M AA ?_)));cases q;cases h0;exact Am ⟨_,((((LO (id:=2) (st':=[DC b.2,Cx uA uQ,⟨0,26,2,[[mZ,.zc]]⟩,⟨0,26,2,[[ow 4 0 e.decls,ow 5 0 (Sh.put l f (AU.mk a.params a.result b.1))]]⟩,ro 0 80 3 (Bu 82 3) e.decls,ro 0 37 5 (ES 3 35) (Sh.put l f (AU.mk a.params a.result b.1)),D1,lx]) (j:=0) rfl AA 80 (size':=3) (by decide) rfl AA AA AA).trans (LO (id:=2) (st':=[DC b.2,Cx uA uQ,⟨0,26,2,[[mZ,.own 8 0 (List.length ([]:List AU))]]⟩,⟨0,26,2,[[ow 4 0 e.decls,ow 5 0 (Sh.put l f (AU.mk a.params a.result b.1))]]⟩,ro 0 80 3 (Bu 82 3) e.decls,ro 0 37 5 (ES 3 35) (Sh.put l f (AU.mk a.params a.result b.1)),D1,lx,nC]) (j:=1) rfl AA 37 (size':=5) (by decide) rfl AA AA AA)).trans (Ef (L:=[(4,I0),(5,.bool false)]) (st':=[DC b.2,Cx uA uQ,lx,nC,⟨0,26,2,[oB]⟩]) (st1:=[DC b.2,Cx uA uQ,lx,nC,⟨0,26,2,[[mZ,.own 8 0 (List.length ([]:List AU))]]⟩]) [0,1,7,8,2] AA AA (.w (.w (.deep (Ao λ_=>AA) (.deep (Ao λ_=>AA) (.w .nil))))) (.same AA))).trans (Ag (L:=[(4,I0),(5,.bool false)]) (.same AA))),FY (.tmp 4) oB Dz AA _ ⟨AA,AA⟩⟩
   .refine AH (H _ (AF AA (Ac 2 AA ?_)));exact AB (xi (Sh.w (f+1),b.2,Sh.put l f (AU.mk a.params a.result b.1)) q (by exact Ef (L:=[(1,.fn 42 [BG,CM]),(2,jb p0),(4,CV),(6,S5),(12,i64 (Sh.len e.funcs)),(13,Kt f)]) (st':=[DC b.2,Cx uA uQ,JV,ro 0 80 3 (Bu 82 3) e.decls,ro 0 37 5 (ES 3 35) (Sh.put l f (AU.mk a.params a.result b.1)),⟨0,26,2,[[ow 3 0 e.decls,ow 4 0 (Sh.put l f (AU.mk a.params a.result b.1))]]⟩]) (st1:=[DC b.2,Cx uA uQ,JV,ro 0 80 3 (Bu 82 3) e.decls,ro 0 37 5 (ES 3 35) (Sh.put l f (AU.mk a.params a.result b.1)),⟨0,26,2,[[ow 4 0 e.decls,ow 5 0 (Sh.put l f (AU.mk a.params a.result b.1))]]⟩]) [0,1,2,4,5,3] AA AA (.w (.w (.w (.deep (Ao λ_=>AA) (.deep (Ao λ_=>AA) (.w .nil)))))) (.same AA))))
  have d:zy 1 (bm 23 4194303) ⟨49,AP (jz p0 f [(12,i64 (Sh.len e.funcs)),(13,i64 f),(35,.agg [i64 b.1.op,i64 b.1.num,ow 8 0 b.1.kids]),(37,.ptr 5 0 (Int.toNat f) 2)]),[DC b.2,Cx uA uQ,JV,⟨0,26,2,[[ow 4 0 e.decls,ow 5 0 l]]⟩,ro 0 80 3 (Bu 82 3) e.decls,gx l f a,ro 0 3 1 eI a.params,D1,Gh b.1.kids]⟩:=(p _ _ _).2 (by
   refine ya [22] ⟨?_,oz⟩
   .refine yo 22 ?_;refine ff (x':=[ow 6 0 a.params,i64 a.result,i64 b.1.op,i64 b.1.num,ow 8 0 b.1.kids]) (st':=[DC b.2,Cx uA uQ,JV,⟨0,26,2,[[ow 4 0 e.decls,ow 5 0 l]]⟩,ro 0 80 3 (Bu 82 3) e.decls,⟨0,37,5,hole l (ES 3 35) f [ow 6 0 a.params,i64 a.result,i64 b.1.op,i64 b.1.num,ow 8 0 b.1.kids]⟩,ro 0 3 1 eI a.params,D1,Gh b.1.kids]) AN BI AA AA o AA AA AA tS rfl AA ?_;refine As (Wk.take (id:=5) (m:=6) (j:=0) (i:=f) (c:=a) (ys:=a.params) (encY:=eI) rfl o AA AA AA (by decide) tO (λ_=>AA) rfl AA) ?_;refine As (Wk.take (id:=5) (m:=8) (j:=4) (i:=f) (c:=a) (ys:=b.1.kids) (encY:=Bv 35) rfl o AA AA AA (by decide) (show 2<=8 by decide) HT AA AA) ?_;refine As (TY (id:=5) (i:=f) (u:=AU.mk a.params a.result b.1) rfl AA AA) (AB ⟨AA,?_⟩);exact Mw (by refine Wk.trans (Ag (L:=[(1,.fn 42 [.ptr 0 0 0 0,.ptr 1 0 0 0]),(2,.C9 [.sl (List.map Ah p0.decls),.sl (List.map BP p0.funcs)] 0),(4,.ptr 2 0 0 0),(6,.ptr 3 0 0 0),(7,i64 f),(12,i64 (Sh.len e.funcs)),(13,i64 f)]) (.same AA)) ?_;refine Wk.trans (GB (st:=[DC b.2,⟨0,26,2,[[.sl (List.map Ah uA),.sl (List.map BP uQ)]]⟩,JV,⟨0,26,2,[[.own 4 0 (List.length e.decls),.own 5 0 (List.length l)]]⟩,⟨0,80,3,List.map (Bu 82 3) e.decls⟩,⟨0,37,5,List.map (ES 3 35) (Sh.put l f (AU.mk a.params a.result b.1))⟩,⟨1,3,1,[]⟩,⟨1,35,3,[]⟩,⟨1,35,3,[]⟩]) (st':=[DC b.2,⟨0,26,2,[[.sl (List.map Ah uA),.sl (List.map BP uQ)]]⟩,JV,⟨0,26,2,[[.own 4 0 (List.length e.decls),.own 5 0 (List.length (Sh.put l f (AU.mk a.params a.result b.1)))]]⟩,⟨0,80,3,List.map (Bu 82 3) e.decls⟩,⟨0,37,5,List.map (ES 3 35) (Sh.put l f (AU.mk a.params a.result b.1))⟩,⟨1,3,1,[]⟩,⟨1,35,3,[]⟩,⟨1,35,3,[]⟩]) (by simp only[Sh.GR])) ?_;exact AM [0,1,2,3,4,5] AA AA (.w (.w (.w (.w (.deep (Ao λ_=>AA) (.deep (Ao λ_=>AA) .nil)))))) (.same AA)) (ZR (by kernel_rfl) ((p _ _ _).1 g)) rfl)
  have h:zy 4 (bm 23 524287) ⟨49,AP (jz p0 f [(12,i64 (Sh.len e.funcs)),(13,i64 f),(17,ow 5 0 l),(18,i64 f),(20,ls Ah p0.decls),(26,ma a),(33,i64 (Sh.len a.params)),(34,.fn 42 [BG,CM])]),[DC A,Cx uA uQ,JV,⟨0,26,2,[[ow 4 0 e.decls,ow 5 0 l]]⟩,ro 0 80 3 (Bu 82 3) e.decls,gx l f a,ro 0 3 1 eI a.params,Ye a]⟩:=(p _ _ _).2 (by
   refine ya [19] ⟨?_,oz⟩
   .refine yo 19 ?_;refine G6 (rowsP:=[Ye a,DC A,Cx uA uQ]) (rows0:=[Ye a,DC A,Cx uA uQ]) (rows1:=[D1,DC b.2,Cx uA uQ]) (rows2:=[Gh b.1.kids]) (rows1':=[D1,DC b.2,Cx uA uQ]) (rows2':=[Gh b.1.kids]) (st':=[DC b.2,Cx uA uQ,JV,⟨0,26,2,[[ow 4 0 e.decls,ow 5 0 l]]⟩,ro 0 80 3 (Bu 82 3) e.decls,gx l f a,ro 0 3 1 eI a.params,D1,Gh b.1.kids]) (v':=.agg [i64 b.1.op,i64 b.1.num,ow 8 0 b.1.kids]) [7,0,1] AN (hb 56) (Lf B) rfl (by decide) rfl AA (.deep (Ao BD) (.raw AA AA (.raw AA AA .nil))) rfl AA (.pure (by intro x V;cases V) (.raw AA AA (.raw AA AA .nil))) (.deep (Ao BD) .nil) rfl AA ?_;refine AB ⟨AA,?_⟩;refine OX 20 (v:=.ptr 5 0 (Int.toNat f) 0) rfl (by kernel_rfl) (by kernel_rfl) (TU Ck AA AA AA AA o) ?_;refine H7 tb 21 AA (by kernel_rfl) rfl ?_;exact kZ p d)
  have k:zy 5 (bm 23 524285) ⟨49,AP (jz p0 f [(12,i64 (Sh.len e.funcs)),(13,i64 f),(16,.ptr 3 0 0 1),(18,i64 f),(20,ls Ah p0.decls),(26,ma a),(33,i64 (Sh.len a.params)),(34,.fn 42 [BG,CM])]),[DC A,Cx uA uQ,JV,⟨0,26,2,[[ow 4 0 e.decls,ow 5 0 l]]⟩,ro 0 80 3 (Bu 82 3) e.decls,gx l f a,ro 0 3 1 eI a.params,Ye a]⟩:=(p _ _ _).2 (by
   refine ya [1,19] ⟨?_,?_,oz⟩
   .exact la tb p h
   .refine yo 19 ?_;refine G6 (rowsP:=[Ye a,DC A,Cx uA uQ]) (rows0:=[Ye a,DC A,Cx uA uQ]) (rows1:=[D1,DC b.2,Cx uA uQ]) (rows2:=[Gh b.1.kids]) (rows1':=[D1,DC b.2,Cx uA uQ]) (rows2':=[Gh b.1.kids]) (st':=[DC b.2,Cx uA uQ,JV,⟨0,26,2,[[ow 4 0 e.decls,ow 5 0 l]]⟩,ro 0 80 3 (Bu 82 3) e.decls,gx l f a,ro 0 3 1 eI a.params,D1,Gh b.1.kids]) (v':=.agg [i64 b.1.op,i64 b.1.num,ow 8 0 b.1.kids]) [7,0,1] AN (hb 56) (Lf B) rfl (by decide) rfl AA (.deep (Ao BD) (.raw AA AA (.raw AA AA .nil))) rfl AA (.pure (by intro x V;cases V) (.raw AA AA (.raw AA AA .nil))) (.deep (Ao BD) .nil) rfl AA ?_;refine AB ⟨AA,?_⟩;refine H7 tb 1 AA (by kernel_rfl) rfl ?_;refine OX 20 (v:=.ptr 5 0 (Int.toNat f) 0) rfl (by kernel_rfl) (by kernel_rfl) (TU Ck AA AA AA AA o) ?_;refine H7 tb 21 AA (by kernel_rfl) rfl ?_;exact kZ p d)
  refine (p _ _ _).2 ?_;refine H7 tb 6 AA (by kernel_rfl) rfl ?_;refine OX 8 (v:=cU f) rfl (by kernel_rfl) (by kernel_rfl) (CD Ck AA AA AA AA o) ?_;refine H7 tb 9 AA (by kernel_rfl) rfl ?_;refine Mw (QJ (id:=4) (j:=4) (i:=f) (c:=a) (ys:=a.body.kids) (encY:=Bv 35) (x:=[.dv 3 1 (List.map eI a.params),i64 a.result,i64 a.body.op,i64 a.body.num,.dv 35 3 (List.map (Bv 35) a.body.kids)]) (x':=[.dv 3 1 (List.map eI a.params),i64 a.result,i64 a.body.op,i64 a.body.num,ow 6 0 a.body.kids]) (st':=[DC A,Cx uA uQ,JV,ro 0 80 3 (Bu 82 3) e.decls,⟨0,37,5,hole l (ES 3 35) f [.dv 3 1 (List.map eI a.params),i64 a.result,i64 a.body.op,i64 a.body.num,ow 6 0 a.body.kids]⟩,⟨0,26,2,[[ow 3 0 e.decls,ow 4 0 l]]⟩,Ye a]) rfl o AA AA AA AA AA) ?_ AA;refine S0 10 AA AA (by kernel_rfl) (V5 BI AA AA (L4 o) tS rfl) ?_;refine H7 tb 12 AA (by kernel_rfl) rfl ?_;refine OX 14 (v:=cU f) rfl (by kernel_rfl) (by kernel_rfl) (TU Ck AA AA AA AA o) ?_;refine H7 tb 15 AA (by kernel_rfl) rfl ?_;refine Mw (Wk.lN (id:=4) (j:=0) (i:=f) (ys:=a.params) (encY:=eI) (x':=nH a) (st':=[DC A,Cx uA uQ,JV,ro 0 80 3 (Bu 82 3) e.decls,⟨0,37,5,hole l (ES 3 35) f (nH a)⟩,⟨0,26,2,[[ow 3 0 e.decls,ow 4 0 l]]⟩,Ye a,ro 0 3 1 eI a.params]) rfl o AA AA AA AA) ?_ AA;refine S0 16 AA AA (by kernel_rfl) (Xj Le AA AA (L4 o) rfl) ?_;refine OX 17 (v:=i64 (Sh.len a.params)) rfl (by kernel_rfl) (by kernel_rfl) (DE Gd AA AA AA) ?_;exact yw p k (by exact Ef (L:=jz p0 f [(12,i64 (Sh.len e.funcs)),(13,i64 f),(16,.ptr 3 0 0 1),(18,i64 f),(20,ls Ah p0.decls),(26,ma a),(33,i64 (Sh.len a.params)),(34,.fn 42 [BG,CM])]) (st':=[DC A,Cx uA uQ,JV,⟨0,26,2,[[ow 4 0 e.decls,ow 5 0 l]]⟩,ro 0 80 3 (Bu 82 3) e.decls,gx l f a,ro 0 3 1 eI a.params,Ye a]) (st1:=[DC A,Cx uA uQ,JV,⟨0,26,2,[[ow 3 0 e.decls,ow 4 0 l]]⟩,ro 0 80 3 (Bu 82 3) e.decls,⟨0,37,5,hole l (ES 3 35) f (nH a)⟩,ro 0 3 1 eI a.params,Ye a]) [0,1,2,5,3,4,7,6] AA AA (.w (.w (.w (.w (.deep (Ao λ_=>AA) (.hol (Ao λ_=>AA) (Zr λ_=>AA) rfl AA (.p (.deep (Ao BD) .nil)))))))) (.same AA))
 .exact Au (T A l (AS q) _ Aq)
theorem Pz {N:Nat}{p0:AJ}{p1:Int}{r:AJ×Bool}(h0:FV N p0 p1=some r):Bf 19 [KT p0,i64 p1] [] (lF r.1.decls r.1.funcs r.2) []:=by
 unfold FV at h0;refine Ci AA (ai Tryz.func19 AA AA AA AA (sr AA λk c=>Ee 0 AA (Ee 1 AA (DL 2 Is AA (AT AA (dn c AA (AE λl d=>sr AA λn e=>Ac 2 AA (bs h0 λi f h0=>?_))))))));refine G5 (hb 24) (Su f) rfl (AT AA (dn e AA ?_));refine ci h0 AA ?_ ?_<;>intro j h0
 .have o:i=false:=by simpa using j
  refine sr AA λp g=>zz (.agg [.zc,.zc]) (DK Xn YD Is AA AA) rfl (Bx Dz AA (AT AA (dn g AA ?_)));cases h0;exact Am ⟨_,(((HN (id:=2) (cs:=[.zc,.zc]) (cs':=aA) (st':=[Cx p0.decls p0.funcs,DC p1,⟨0,26,2,[aA]⟩]) rfl ⟨le.zc,le.rfl,oz⟩ AA AA).trans (HN (id:=2) (cs:=aA) (cs':=dS) (st':=[Cx p0.decls p0.funcs,DC p1,gO]) rfl ⟨le.rfl,le.zc,oz⟩ AA AA)).trans (AM (L:=eZ []) (st':=[gO]) [2] AA AA (.w .nil) ⟨.rfl,.rfl,oz⟩)).trans (Ag (L:=eZ []) ⟨.rfl,.rfl,oz⟩),FY (.tmp 4) dS Dz AA _ AA⟩
 .have q:i=true:=by simpa using j
  refine AH (d _ (sr AA λs h=>AT AA (zz (.fn 42 [CM,BG]) (bN AA) rfl (bs h0 λa b h0=>?_))));refine G6 (rowsP:=[DC p1,Cx p0.decls p0.funcs]) (rows0:=[DC p1,Cx p0.decls p0.funcs]) (rows1:=[DC a.2.2,Cx p0.decls p0.funcs]) (rows2:=[Qt a.1.decls,Pf a.1.funcs]) (rows1':=[DC a.2.2,Cx p0.decls p0.funcs]) (rows2':=[Qt a.1.decls,Pf a.1.funcs]) (st':=[Cx p0.decls p0.funcs,DC a.2.2,JV,Qt a.1.decls,Pf a.1.funcs]) (v':=.C8 [.agg [ow 3 0 a.1.decls,ow 4 0 a.1.funcs],.bool a.2.1]) [1,0] AN (hb 27) (QQ b) rfl (by decide) rfl AA (.raw AA AA (.raw AA AA .nil)) rfl AA (.raw AA AA (.raw AA AA .nil)) (.deep (Ao λ_=>AA) (.deep (Ao λ_=>AA) .nil)) rfl AA ?_;refine Ac 2 AA (As (Sr (L:=[(4,CV),(14,.agg [D5 a.1.decls,ow 4 0 a.1.funcs]),(15,.bool a.2.1)]) (st':=[Cx p0.decls p0.funcs,DC a.2.2,JV,OI,Pf a.1.funcs]) (id:=3) rfl th (Go.Abs.J3 (λ_=>AA)) ⟨.rfl,(.agg ⟨(.Pv AA (λx=>ax x)),.rfl,oz⟩),.rfl,oz⟩ AA) (As (Sr (L:=[(4,CV),(14,.agg (Uc a.1.decls a.1.funcs)),(15,.bool a.2.1)]) (st':=[Cx p0.decls p0.funcs,DC a.2.2,JV,OI,Ug]) (id:=4) rfl te (Go.Abs.J3 (λ_=>AA)) ⟨.rfl,(.agg ⟨.rfl,(.Pv AA (λx=>aW x)),oz⟩),.rfl,oz⟩ AA) (Bx Dz AA (AT AA (dn h AA ?_)))));cases h0;exact Am ⟨_,(AM (L:=[(4,BG),(5,.bool a.2.1)]) (st':=[Cx a.1.decls a.1.funcs]) [2] AA AA (.w .nil) ⟨.rfl,.rfl,oz⟩).trans (Ag (L:=[(4,BG),(5,.bool a.2.1)]) ⟨.rfl,.rfl,oz⟩),FY (.tmp 4) (Uc a.1.decls a.1.funcs) Dz AA _ AA⟩
theorem N8 {N:Nat}{p0:List AK}{p1:List Int}{r:Bool}(h0:IT N p0 p1=some r):Bf 94 [D5 p0,ls eI p1] [] (.bool r) []:=by
 unfold IT at h0;refine ai Tryz.func94 AA AA AA AA (Ap AA (AE λo h=>Ap AA ?_));obtain⟨i,a,h0⟩:=Sh.Bj h0;have p:∀(_:Unit),i=Sum.inr ()->∀s,Wk 0 s ⟨20,AP [],[]⟩->o s:=by
  intro _ A s q;subst i;refine h _ (AG q (Ap AA ?_));cases h0;exact rt [(4,.bool true)]
 refine AL (An (σ:=Int) (λn v=>Fc p0 p1 n v=some i) (λj=>⟨20,AP [(0,ls Ah p0),(1,ls eI p1),(5,i64 j)],[]⟩) N 0 a Aq (λ_ m=>by rw[Fc]at m;cases m) ?_);rintro n j a;rw[Fc]at a;refine AE λB k=>sr AA λC l=>Ac 2 AA (CY AA (AT AA (dn l AA ?_)));refine ci a AA ?_ ?_<;>intro D a
 .refine AH (k _ (AE λt b=>AL (sr AA λu c=>Ac 2 AA (bs a λx d a=>zx BF d AA AA AA (Ac 2 AA (CY AA (bs a λe f a=>G5 (hb 72) (De f) rfl (AT AA ?_))))))));refine dn c AA ?_;refine ci a AA ?_ ?_<;>intro g a
  .have y:e=false:=by simpa using g
   refine Ap AA ?_;cases a;cases h0;exact rt [(4,.bool false)]
  .have z:e=true:=by simpa using g
   exact AH (b _ (AF AA (Ac 3 AA (AB (xi (Sh.w (j+1)) a Aq)))))
 .exact Au (p () (AS a) _ Aq)
theorem SW {N:Nat}{p0:List AK}{p1:Int}{r:Bool}(h0:JG N p0 p1=some r):Bf 127 [D5 p0,i64 p1] [] (.bool r) []:=by
 unfold JG at h0;refine ai Tryz.func127 AA AA AA AA (Ap AA (sr AA λK2 Y=>Ac 2 AA (bs h0 λk Z h0=>zx DI Z AA AA AA (AT AA (DL 0 HV AA (Bx KP AA (dn Y AA (AE λK4 b0=>sr AA λK5 b1=>?_))))))));refine Ac 2 AA (CY AA (AT AA (dn b1 AA ?_)));refine ci h0 AA ?_ ?_<;>intro b6 h0
 .refine AE λK7 b2=>AE λK8 b3=>bs h0 λC a h0=>?_;have t:∀t9,C=t9->∀s,Wk 0 s ⟨100,AP [(0,D5 p0),(5,BG),(29,.bool t9)],[XM k]⟩->K8 s:=by
   intro t9 D s i;subst C;refine b3 _ (AG i ?_);refine ci h0 AA ?_ ?_<;>intro c6 h0
   .refine Ap AA ?_;cases h0;exact rd [(4,.bool false)]
   .refine AH (b2 _ (AE λb4 E=>Ap AA ?_));obtain⟨u,a,h0⟩:=Sh.Bj h0;have b5:∀(_:Unit),u=Sum.inr ()->∀s,Wk 0 s ⟨100,AP [],[]⟩->b4 s:=by
     intro _ D s i;subst u;refine E _ (AG i (Ap AA ?_));cases h0;exact rt [(4,.bool true)]
    refine AL (An (σ:=Int) (λn v=>FJ N k p0 n v=some u) (λl=>⟨100,AP [(0,ls Ah p0),(5,.ptr 0 0 0 0),(6,i64 l)],[⟨0,80,3,[Ah k]⟩]⟩) N 0 a Aq (λ_ F=>by rw[FJ]at F;cases F) ?_);rintro n l a;rw[FJ]at a;refine AE λc7 G=>sr AA λc8 H=>Ac 3 AA (CY AA (AT AA (dn H AA ?_)));refine ci a AA ?_ ?_<;>intro c9 a
    .refine AH (G _ (AE λd1 I=>AL (AE λb7 J=>bs a λK c a=>?_)));have L:∀x,K=x->∀s,Wk 0 s ⟨100,AP [(0,D5 p0),(5,BG),(6,i64 l),(55,.bool x)],[XM k]⟩->b7 s:=by
      intro x D s i;subst K;refine J _ (AG i ?_);refine ci a AA ?_ ?_<;>intro d2 a
      .refine Ap AA ?_;cases a;cases h0;exact rd [(4,.bool false)]
      .exact AH (I _ (AF AA (Ac 3 AA (AB (xi (Sh.w (l+1)) a Aq)))))
     refine AF AA (Ac 3 AA (bs c λb8 q c=>zx JZ q AA AA AA (Ac 2 AA (CY AA (Ac 2 AA ?_)))));rcases Sh.Ae c with ⟨b,c⟩|⟨b,c⟩
     .refine zs b AA ?_;iterate 8 refine zs b rfl ?_
      exact zt b AA (AB (L true (AS c) _ Aq))
     .refine Ay b AA ?_;iterate 3 refine Ay b rfl ?_
      exact BW (v:=.C9 (CL b8) 0) (CR AA AA b) rfl (CZ JZ AA AA q AA) (Ay b AA (Ay b AA (bs c λb9 M c=>zd b (hb 94) (N8 M) rfl AA AA AA (Ay b AA (zf b AA (AB (L (!b9) (AS c) _ Aq)))))))
    .exact Au (b5 () (AS a) _ (Be _ AA))
  refine AF AA (Ac 2 AA (CY AA (Ac 2 AA ?_)));rcases Sh.Ae a with ⟨e,a⟩|⟨e,a⟩
  .refine zs e AA (zs e AA (zs e AA (zt e AA (AT AA ?_))));iterate 3 refine zs rfl rfl ?_
   exact zt AA AA (AB (t true (AS a) _ Aq))
  .refine Ay e AA (Ay e AA (Ay e AA (zf e AA (AT AA ?_))));rcases Sh.Ae a with ⟨f,a⟩|⟨f,a⟩
   .exact zs f AA (zs f AA (zs f AA (zt f AA (AB (t true (AS a) _ Aq)))))
   .exact Ay f AA (Ay f AA (Ay f AA (zf f AA (AB (t (!decide (k.to=0)) (AS a) _ Aq)))))
 .refine AH (b0 _ (AE λc0 O=>Ap AA ?_));obtain⟨y,a,h0⟩:=Sh.Bj h0;have c1:∀(_:Unit),y=Sum.inr ()->∀s,Wk 0 s ⟨100,AP [(0,D5 p0),(5,BG)],[XM k]⟩->c0 s:=by
   intro _ D s i;subst y;refine O _ (AG i (AE λc2 P=>bs h0 λQ a h0=>?_));have R:∀o,Q=o->∀s,Wk 0 s ⟨100,AP [(4,.bool o)],[]⟩->c2 s:=by
    intro o D s i;subst Q;try dsimp only at h0
    refine P _ (AG i ?_);obtain rfl:=Sh.BU h0;exact rt [(4,.bool o)]
   refine AF AA (Ac 3 AA (CY AA (bs a λd3 S a=>G5 (hb 72) (De S) rfl (AT AA ?_))));rcases Sh.Ae a with ⟨d,a⟩|⟨d,a⟩
   .exact Ay d AA (Ay d AA (Ay d AA (BW (v:=G7 p0) (CR AA AA d) rfl (CU TM AA) (bs a λc4 T a=>zd d (hb 72) (De T) rfl AA AA AA (zt d AA (AT AA (AB (R c4 (AS a) _ (Be _ AA)))))))))
   .refine zs d AA ?_;iterate 4 refine zs d rfl ?_
    exact zf d AA (AT AA (AB (R false (AS a) _ (Be _ AA))))
  refine AL (An (σ:=Int) (λn v=>FC k p0 p1 n v=some y) (λp=>⟨100,AP [(0,ls Ah p0),(1,i64 p1),(5,.ptr 0 0 0 0),(7,i64 p)],[⟨0,80,3,[Ah k]⟩]⟩) N 0 a Aq (λ_ F=>by rw[FC]at F;cases F) ?_);rintro n p a;rw[FC]at a;refine AE λd4 U=>Ap AA ?_;refine ci a AA ?_ ?_<;>intro d5 a
  .refine AH (U _ (AE λd6 V=>AL (AE λc5 W=>bs a λX c a=>?_)));have z:∀A,X=A->∀s,Wk 0 s ⟨100,AP [(0,D5 p0),(1,i64 p1),(5,BG),(7,i64 p),(87,.bool A)],[XM k]⟩->c5 s:=by
    intro A D s i;subst X;refine W _ (AG i ?_);refine ci a AA ?_ ?_<;>intro d7 a
    .refine Ap AA ?_;cases a;cases h0;exact rd [(4,.bool false)]
    .exact AH (V _ (AF AA (Ac 3 AA (AB (xi (Sh.w (p+1)) a Aq)))))
   refine Cc (by kernel_rfl) (by kernel_rfl) (by rfl) ?_;iterate 2 refine yq tb rfl ?_
   refine bs c λB j c=>yx DI j AA AA AA ?_;iterate 2 refine yq tb rfl ?_
   refine yl tb AA AA ?_;iterate 2 refine yq tb rfl ?_
   rcases Sh.Ae c with ⟨g,c⟩|⟨g,c⟩
   .refine yg tb g AA (yg tb g AA (Io (v:=TG B) (CR AA AA g) rfl (CZ DI AA AA j AA) ?_));iterate 5 refine yg tb g rfl ?_
    refine yt g AA (yq tb AA ?_);rcases Sh.Ae c with ⟨h,c⟩|⟨h,c⟩
    .refine yg tb h AA (yg tb h AA (Io (v:=TG B) (CR AA AA h) rfl (CZ DI AA AA j AA) ?_));iterate 5 refine yg tb h rfl ?_
     exact yt h AA (Av (z (decide (B.to=k.to)) (AS c) _ Aq))
    .refine ys h AA ?_;iterate 7 refine ys h rfl ?_
     exact yf h AA (Av (z false (AS c) _ Aq))
   .refine ys g AA ?_;iterate 7 refine ys g rfl ?_
    refine yf g AA (yq tb AA ?_);iterate 8 refine ys rfl rfl ?_
    exact yf AA AA (Av (z false (AS c) _ Aq))
  .exact Au (c1 () (AS a) _ Aq)
theorem Ru {N:Nat}{p0:List AK}{r:Bool}(h0:IV N p0=some r):Bf 93 [D5 p0] [] (.bool r) []:=by
 unfold IV at h0;refine ai Tryz.func93 AA AA AA AA (Ap AA (AE λD i=>sr AA λE j=>AT AA (CY AA (AT AA (dn j AA ?_)))));refine ci h0 AA ?_ ?_<;>intro F h0
 .refine Ap AA ?_;cases h0;exact rt [(2,.bool false)]
 .refine AH (i _ (AE λp k=>Ap AA ?_));obtain⟨l,a,h0⟩:=Sh.Bj h0;have q:∀(_:Unit),l=Sum.inr ()->∀s,Wk 0 s ⟨17,AP [],[]⟩->p s:=by
   intro _ G s t;subst l;refine k _ (AG t (Ap AA ?_));cases h0;exact rt [(2,.bool true)]
  refine AL (An (σ:=Int) (λn v=>Ep N p0 n v=some l) (λm=>⟨17,AP [(0,ls Ah p0),(3,i64 m)],[]⟩) N 0 a Aq (λ_ o=>by rw[Ep]at o;cases o) ?_);rintro n m a;rw[Ep]at a;refine AE λu b=>sr AA λx c=>Ac 2 AA (CY AA (AT AA (dn c AA ?_)));refine ci a AA ?_ ?_<;>intro y a
  .refine AH (b _ (AE λz d=>AL (sr AA λA e=>Ac 2 AA (bs a λf g a=>G5 (hb 127) (SW g) rfl (AT AA (dn e AA ?_))))));refine ci a AA ?_ ?_<;>intro h a
   .have B:f=false:=by simpa using h
    refine Ap AA ?_;cases a;cases h0;exact rt [(2,.bool false)]
   .have C:f=true:=by simpa using h
    exact AH (d _ (AF AA (Ac 3 AA (AB (xi (Sh.w (m+1)) a Aq)))))
  .exact Au (q () (AS a) _ Aq)
theorem Sz {N:Nat}{p0:AJ}{r:Bool}(h0:Ht N p0=some r):Bf 57 [KT p0] [] (.bool r) []:=by
 unfold Ht at h0;refine ai Tryz.func57 AA AA AA AA (sr AA λK1 I=>Ee 0 AA (AT AA (dn I AA (AE λK2 J=>AE λX K=>bs h0 λU a h0=>?_))));have V:∀L,U=L->∀s,Wk 0 s ⟨64,AP [(1,BG),(15,.bool L)],[Cx p0.decls p0.funcs]⟩->X s:=by
  intro L M s j;subst U;refine K _ (AG j ?_);refine ci h0 AA ?_ ?_<;>intro b6 h0
  .refine Ap AA ?_;cases h0;exact rd [(2,.bool false)]
  .refine AH (J _ (AE λY O=>Ap AA ?_));obtain⟨k,a,h0⟩:=Sh.Bj h0;have P:∀(_:Unit),k=Sum.inr ()->∀s,Wk 0 s ⟨64,AP [(1,BG)],[Cx p0.decls p0.funcs]⟩->Y s:=by
    intro _ M s j;subst k;refine O _ (AG j (AE λQ p=>bs h0 λq a h0=>?_));have t:∀g,q=g->∀s,Wk 0 s ⟨64,AP [(2,.bool g)],[]⟩->Q s:=by
     intro g M s j;subst q;try dsimp only at h0
     refine p _ (AG j ?_);obtain rfl:=Sh.BU h0;exact rt [(2,.bool g)]
    refine AF AA (Ac 2 AA (bs a λu i a=>zx Ck i AA AA AA (Ac 2 AA (CY AA (Ac 2 AA ?_)))));rcases Sh.Ae a with ⟨d,a⟩|⟨d,a⟩
    .refine Ay d AA (Ay d AA (BW (v:=WX u) (CR AA AA d) rfl (CZ Ck AA AA i AA) ?_));iterate 3 refine Ay d rfl ?_
     exact zt d AA (AT AA (AB (t (decide (u.result=0)) (AS a) _ (Be _ AA))))
    .refine zs d AA ?_;iterate 5 refine zs d rfl ?_
     exact zf d AA (AT AA (AB (t false (AS a) _ (Be _ AA))))
   refine AL (An (σ:=Int) (λn v=>EX N p0 n v=some k) (λh=>⟨64,AP [(1,.ptr 0 0 0 0),(3,i64 h)],[Cx p0.decls p0.funcs]⟩) N 0 a Aq (λ_ W=>by rw[EX]at W;cases W) ?_);rintro n h a;rw[EX]at a;refine AE λZ x=>sr AA λb0 y=>Ac 3 AA (CY AA (AT AA (dn y AA ?_)));refine ci a AA ?_ ?_<;>intro b1 a
   .refine AH (x _ (AE λb2 z=>AL (sr AA λb3 A=>Ac 3 AA (bs a λb4 B a=>zx Ck B AA AA AA (AT AA (DL 1 MQ AA (Bx Ln AA (dn A AA (AE λR C=>?_)))))))));refine bs a λD f a=>?_;have l:∀o,D=o->∀s,Wk 0 s ⟨64,AP [(1,BG),(3,i64 h),(48,.bool o)],[Cx p0.decls p0.funcs]⟩->R s:=by
     intro o M s j;subst D;refine C _ (AG j ?_);refine ci a AA ?_ ?_<;>intro b5 a
     .refine Ap AA ?_;cases a;cases h0;exact rd [(2,.bool false)]
     .exact AH (z _ (AF AA (Ac 3 AA (AB (xi (Sh.w (h+1)) a Aq)))))
    refine AF AA (Ac 2 AA (CY AA (Ac 2 AA ?_)));rcases Sh.Ae f with ⟨e,f⟩|⟨e,f⟩
    .refine zs e AA ?_;iterate 5 refine zs e rfl ?_
     refine zt e AA (AT AA ?_);iterate 7 refine zs rfl rfl ?_
     refine zt AA AA ?_;exact AB (l true (AS f) _ (AM [0] AA AA (.w .nil) (.same AA)))
    .refine Ay e AA ?_;iterate 3 refine Ay e rfl ?_
     refine bs f λb7 E f=>zd e (hb 94) (N8 E) rfl AA AA AA (Ay e AA (zf e AA (AT AA ?_)));rcases Sh.Ae f with ⟨b,f⟩|⟨b,f⟩
     .refine zs b AA ?_;iterate 6 refine zs b rfl ?_
      refine zt b AA ?_;exact AB (l true (AS f) _ (AM [0] AA AA (.w .nil) (.same AA)))
     .refine Ay b AA ?_;iterate 3 refine Ay b rfl ?_
      refine BW (v:=i64 (Sh.len p0.decls)) (CR AA AA b) rfl (CU TM AA) (bs f λS F f=>zd b (hb 72) (De F) rfl AA AA AA (Ay b AA (zf b AA ?_)));exact AB (l (!S) (AS f) _ (AM [0] AA AA (.w .nil) (.same AA)))
   .exact Au (P () (AS a) _ Aq)
 refine AF AA (Ac 2 AA (bs a λb8 G a=>G5 (hb 93) (Ru G) rfl (Ac 2 AA ?_)));rcases Sh.Ae a with ⟨c,a⟩|⟨c,a⟩
 .refine zs c AA ?_;iterate 4 refine zs c rfl ?_
  exact zt c AA (AB (V true (AS a) _ Aq))
 .exact Ay c AA (Ay c AA (BW (v:=i64 (Sh.len p0.funcs)) (CR AA AA c) rfl (CU Pp AA) (bs a λT H a=>zd c (hb 72) (De H) rfl AA AA AA (Ay c AA (zf c AA (AB (V (!T) (AS a) _ Aq)))))))
theorem Oa {N:Nat}{tp:AJ->(List Int)->AD->Option (Int)}(tw :∀{p0:AJ} {p1:List Int} {p2:AD} {r:Int},tp p0 p1 p2=some r->Bf 59 (Xg p0 p1 p2) [] (i64 r) []){p0:AJ}{p1:List Int}{p2:List AD}{p3:Int}{r:Bool}(h0:JP N tp p0 p1 p2 p3=some r):Bf 96 [KT p0,ls eI p1,Ha p2,i64 p3] [] (.bool r) []:=by
 unfold JP at h0;refine ai Tryz.func96 AA AA AA AA (sr AA λG k=>Ee 0 AA (AT AA (dn k AA (AE λH l=>sr AA λI o=>AT AA (CY AA (Ac 2 AA (dn o AA ?_)))))));refine ci h0 AA ?_ ?_<;>intro u h0
 .have J:decide ((Sh.len p2)=p3)=false:=by simpa using u
  refine Ap AA ?_;cases h0;exact rd [(8,.bool false)]
 .have K:decide ((Sh.len p2)=p3)=true:=by simpa using u
  refine AH (l _ (AE λy p=>Ap AA ?_));obtain⟨b,a,h0⟩:=Sh.Bj h0;have q:∀(_:Unit),b=Sum.inr ()->∀s,Wk 0 s ⟨27,AP [],[]⟩->y s:=by
   intro _ L s z;subst b;refine p _ (AG z (Ap AA ?_));cases h0;exact rt [(8,.bool true)]
  refine AL (An (σ:=Int) (λn v=>GH p0 p1 p2 p3 tp n v=some b) (λc=>⟨27,AP [(1,ls eI p1),(2,ls Ar p2),(3,i64 p3),(4,.ptr 0 0 0 0),(9,i64 c)],[Cx p0.decls p0.funcs]⟩) N 0 a Aq (λ_ x=>by rw[GH]at x;cases x) ?_);rintro n c a;rw[GH]at a;refine AE λA e=>Ap AA ?_;refine ci a AA ?_ ?_<;>intro B a
  .refine AH (e _ (AE λC f=>AL (AE λD g=>?_)));refine Cc (by kernel_rfl) (by kernel_rfl) (by rfl) ?_;iterate 4 refine yq tb rfl ?_
   refine bs a λt h a=>yz (EP t) (Cb Ba AA AA h (Af _) rfl) rfl (yq tb AA (bs a λd i a=>BV (v:=i64 d) AN (hb 59) (tw i) rfl AA AA (yq tb AA (Av (g _ ?_)))));refine ci a AA ?_ ?_<;>intro j a
   .have E:decide (d=0)=false:=by simpa using j
    refine Ap AA ?_;cases a;cases h0;exact rd [(8,.bool false)]
   .have F:decide (d=0)=true:=by simpa using j
    exact AH (f _ (AF AA (Ac 3 AA (AB (xi (Sh.w (c+1)) a Aq)))))
  .exact Au (q () (AS a) _ (Be _ AA))
theorem NY {N:Nat}{tp:AJ->(List Int)->AD->Option (Int)}(tw :∀{p0:AJ} {p1:List Int} {p2:AD} {r:Int},tp p0 p1 p2=some r->Bf 59 (Xg p0 p1 p2) [] (i64 r) []){p0:AJ}{p1:List Int}{p2:List AD}{p3:List Int}{r:Bool}(h0:Jv N tp p0 p1 p2 p3=some r):Bf 98 [KT p0,ls eI p1,Ha p2,ls eI p3] [] (.bool r) []:=by
 unfold Jv at h0;refine ai Tryz.func98 AA AA AA AA (sr AA λK p=>Ee 0 AA (AT AA (dn p AA (AE λL q=>sr AA λM t=>AT AA (CY AA (AT AA (CY AA (AT AA ?_))))))));refine dn t AA ?_;refine ci h0 AA ?_ ?_<;>intro z h0
 .have O:decide ((Sh.len p2)=Sh.len p3)=false:=by simpa using z
  refine Ap AA ?_;cases h0;exact rd [(8,.bool false)]
 .have P:decide ((Sh.len p2)=Sh.len p3)=true:=by simpa using z
  refine AH (q _ (AE λB u=>Ap AA ?_));obtain⟨b,a,h0⟩:=Sh.Bj h0;have x:∀(_:Unit),b=Sum.inr ()->∀s,Wk 0 s ⟨33,AP [],[]⟩->B s:=by
   intro _ Q s C;subst b;refine u _ (AG C (Ap AA ?_));cases h0;exact rt [(8,.bool true)]
  refine AL (An (σ:=Int) (λn v=>G3 p0 p1 p2 p3 tp n v=some b) (λc=>⟨33,AP [(1,ls eI p1),(2,ls Ar p2),(3,ls eI p3),(4,.ptr 0 0 0 0),(9,i64 c)],[Cx p0.decls p0.funcs]⟩) N 0 a Aq (λ_ A=>by rw[G3]at A;cases A) ?_);rintro n c a;rw[G3]at a;refine AE λD e=>sr AA λE f=>Ac 2 AA (CY AA (AT AA (dn f AA ?_)));refine ci a AA ?_ ?_<;>intro F a
  .refine AH (e _ (AE λG g=>AL (AE λH h=>?_)));refine Cc (by kernel_rfl) (by kernel_rfl) (by rfl) ?_;iterate 4 refine yq tb rfl ?_
   refine bs a λy i a=>yz (EP y) (Cb Ba AA AA i (Af _) rfl) rfl (yq tb AA (bs a λd j a=>BV (v:=i64 d) AN (hb 59) (tw j) rfl AA AA ?_));iterate 2 refine yq tb rfl ?_
   refine bs a λk l a=>yx BF l AA AA AA ?_;iterate 2 refine yq tb rfl ?_
   refine Av (h _ ?_);refine ci a AA ?_ ?_<;>intro o a
   .have I:decide (d=k)=false:=by simpa using o
    refine Ap AA ?_;cases a;cases h0;exact rd [(8,.bool false)]
   .have J:decide (d=k)=true:=by simpa using o
    exact AH (g _ (AF AA (Ac 3 AA (AB (xi (Sh.w (c+1)) a Aq)))))
  .exact Au (x () (AS a) _ (Be _ AA))
theorem Sv {N:Nat}{tp:AJ->(List Int)->AD->Option (Int)}(tw :∀{p0:AJ} {p1:List Int} {p2:AD} {r:Int},tp p0 p1 p2=some r->Bf 59 (Xg p0 p1 p2) [] (i64 r) []){p0:AJ}{p1:List Int}{p2:AD}{r:Int}(h0:Kn N tp p0 p1 p2=some r):Bf 100 (Xg p0 p1 p2) [] (i64 r) []:=by
 unfold Kn at h0;refine ai Tryz.func100 AA AA AA AA (sr AA λK1 K=>Ee 0 AA (Ee 1 AA (AT AA (dn K AA (sr AA λK2 M=>Ac 4 AA (bs h0 λe O h0=>Bo (v':=ow 2 0 e) AN (hb 104) (JL O) rfl AA ⟨(Bq λ_=>AA),oz⟩ AA AA (AT AA (dn M AA ?_))))))));refine AE λK4 P=>AE λK5 Q=>bs h0 λo7 a h0=>?_;have R:∀S,o7=S->∀s,Wk 0 s ⟨79,AP [(1,ls eI p1),(3,BG),(5,CM),(7,ow 2 0 e),(38,.bool S)],[Cx p0.decls p0.funcs,Mm p2.op p2.num p2.kids,BY e]⟩->K5 s:=by
  intro S hq s T;subst o7;refine Q _ (AG T ?_);refine ci h0 AA ?_ ?_<;>intro b8 h0
  .refine Ap AA ?_;cases h0;exact rd [(6,i64 (-1))]
  .refine AH (P _ (AE λb3 k=>?_));refine CG 14 (by kernel_rfl) (by kernel_rfl) (by rfl) ?_;iterate 5 refine yq tb rfl ?_
   refine bs h0 λU g h0=>yz (.ptr 2 0 (Int.toNat 0) 0) (CD BF AA AA AA AA g) rfl (yz (i64 U) (CF Hy AA AA (CQ g) rfl) rfl (bs h0 λV l h0=>BV (v:=ls eI V) AN (hb 99) (FG l) rfl AA AA (bs h0 λo p h0=>?_)));refine BV (v:=ls eI o) AN (hb 85) (BJ.wk (F7 p) (by refine Wk.trans (Wk.BZ (L:=[(0,ls eI o)]) (st':=TV) (id:=0) rfl tM Bn ⟨.BZ AA,oz⟩ AA) ?_;exact AM [] AA AA .nil (.same AA))) rfl AA AA ?_;iterate 2 refine yq tb rfl ?_
   refine bs h0 λW q h0=>yz (EP W) (Cb Ba AA AA q (Af _) rfl) rfl (yq tb AA (bs h0 λd t h0=>BV (v:=i64 d) AN (hb 59) (tw t) rfl AA AA (Av (AT AA (dn k AA (AE λX u=>Ap AA ?_))))));obtain⟨i,a,h0⟩:=Sh.Bj h0;have Y:∀(_:Unit),i=Sum.inr ()->∀s,Wk 0 s ⟨79,AP [(8,i64 d)],[]⟩->X s:=by
    intro _ hq s T;subst i;try dsimp only at h0
    refine u _ (AG T (Ap AA ?_));obtain rfl:=Sh.BU h0;exact rt [(6,i64 d)]
   refine AL (An (σ:=Int) (λn v=>Eb N p0 p1 p2 d e tp n v=some i) (λf=>⟨79,AP [(1,ls eI p1),(3,.ptr 0 0 0 0),(5,.ptr 1 0 0 0),(7,ow 2 0 e),(8,i64 d),(9,i64 f)],[Cx p0.decls p0.funcs,Mm p2.op p2.num p2.kids,ro 0 3 1 eI e]⟩) N 1 a Aq (λ_ hv=>by rw[Eb]at hv;cases hv) ?_);rintro n f a;rw[Eb]at a;refine AE λb4 x=>sr AA λb5 y=>Ac 2 AA (zz (G7 e) (DE Gd AA AA AA) rfl (AT AA (dn y AA ?_)));refine ci a AA ?_ ?_<;>intro b6 a
   .refine AH (x _ (AE λb7 z=>AL (AE λb9 A=>?_)));refine CG 18 (by kernel_rfl) (by kernel_rfl) (by rfl) ?_;iterate 6 refine yq tb rfl ?_
    refine bs a λZ h a=>yz (.ptr 2 0 (Int.toNat f) 0) (CD BF AA AA AA AA h) rfl (yz (i64 Z) (CF Hy AA AA (CQ h) rfl) rfl (bs a λb0 B a=>BV (v:=ls eI b0) AN (hb 99) (FG B) rfl AA AA (bs a λC D a=>?_)));refine BV (v:=ls eI C) AN (hb 85) (BJ.wk (F7 D) (by refine Wk.trans (Wk.BZ (L:=[(0,ls eI C)]) (st':=TV) (id:=0) rfl tM Bn ⟨.BZ AA,oz⟩ AA) ?_;exact AM [] AA AA .nil (.same AA))) rfl AA AA ?_;iterate 4 refine yq tb rfl ?_
    refine bs a λb1 E a=>yz (EP b1) (Cb Ba AA AA E (Af _) rfl) rfl (yq tb AA (bs a λj F a=>BV (v:=i64 j) AN (hb 59) (tw F) rfl AA AA (yq tb AA (Av (AT AA (dn A AA ?_))))));refine ci a AA ?_ ?_<;>intro G a
    .have c0:decide (j=d)=false:=by simpa using G
     refine Ap AA ?_;cases a;cases h0;exact rd [(6,i64 (-1))]
    .have c1:decide (j=d)=true:=by simpa using G
     exact AH (z _ (AF AA (Ac 3 AA (AB (xi (Sh.w (f+1)) a Aq)))))
   .exact Au (Y () (AS a) _ (Be _ AA))
 refine Cc (by kernel_rfl) (by kernel_rfl) (by rfl) ?_;refine yq tb AA (yz (G7 e) (DE Gd AA AA AA) rfl ?_);iterate 2 refine yq tb rfl ?_
 rcases Sh.Ae a with ⟨b,a⟩|⟨b,a⟩
 .refine ys b AA ?_;iterate 6 refine ys b rfl ?_
  refine yt b AA (yq tb AA ?_);iterate 10 refine ys rfl rfl ?_
  exact yt AA AA (Av (R true (AS a) _ Aq))
 .refine yg tb b AA (yg tb b AA (Io (v:=bL p2) (CR AA AA b) rfl (CU TD AA) (yg tb b AA (Io (v:=G7 e) (CR AA AA b) rfl (DE Gd AA AA AA) ?_))));iterate 2 refine yg tb b rfl ?_
  refine yf b AA (yq tb AA ?_);rcases Sh.Ae a with ⟨c,a⟩|⟨c,a⟩
  .refine ys c AA ?_;iterate 9 refine ys c rfl ?_
   exact yt c AA (Av (R true (AS a) _ Aq))
  .refine yg tb c AA ?_;iterate 3 refine yg tb c rfl ?_
   refine bs a λb2 H a=>Io (v:=EP b2) (CR AA AA c) rfl (Cb Ba AA AA H (Af _) rfl) (yg tb c AA (bs a λI J a=>BV (v:=i64 I) (CR AA AA c) (hb 59) (tw J) rfl AA AA ?_));iterate 3 refine yg tb c rfl ?_
   exact yf c AA (Av (R (!decide (I=p2.num)) (AS a) _ Aq))
theorem TO {N:Nat}{tp:AJ->(List Int)->AD->Option (Int)}(tw :∀{p0:AJ} {p1:List Int} {p2:AD} {r:Int},tp p0 p1 p2=some r->Bf 59 (Xg p0 p1 p2) [] (i64 r) []){p0:AJ}{p1:List Int}{p2:AD}{r:Int}(h0:Fm N tp p0 p1 p2=some r):Bf 101 (Xg p0 p1 p2) [] (i64 r) []:=by
 unfold Fm at h0;refine ai Tryz.func101 AA AA AA AA (sr AA λK1 E=>Ee 0 AA (Ee 1 AA (AT AA (dn E AA (AE λK2 F=>sr AA λK3 G=>Ac 4 AA (CY AA (AT AA (bs h0 λK H h0=>?_))))))));refine G5 (hb 72) (De H) rfl (AT AA (dn G AA ?_));refine ci h0 AA ?_ ?_<;>intro L h0
 .have b6:K=false:=by simpa using L
  refine Ap AA ?_;cases h0;exact rd [(6,i64 (-1))]
 .have b8:K=true:=by simpa using L
  refine AH (F _ (sr AA λK9 I=>Ac 4 AA (bs h0 λb e h0=>zx Ck e AA AA AA (AT AA (DL 2 MQ AA (Bx Ln AA (dn I AA (sr AA λM f=>Ac 2 AA (CY AA ?_)))))))));refine AT AA (dn f AA (AE λO g=>Ap AA ?_));refine ci h0 AA ?_ ?_<;>intro P h0
  .refine AE λQ h=>sr AA λR k=>Ac 6 AA (bs h0 λl n h0=>G5 (hb 98) (NY tw n) rfl (AT AA (dn k AA ?_)));refine ci h0 AA ?_ ?_<;>intro o h0
   .have S:l=false:=by simpa using o
    refine Ap AA ?_;cases h0;exact rd [(6,i64 (-1))]
   .have T:l=true:=by simpa using o
    refine AH (h _ (Ap AA ?_));cases h0;exact rd [(6,i64 b.result)]
  .refine AH (g _ (AE λU p=>AE λJ q=>bs h0 λt c h0=>?_));have u:∀d,t=d->∀s,Wk 0 s ⟨65,AP [(3,BG),(7,CM),(8,i64 (Sh.len b.params)),(53,.bool d)],[Cx p0.decls p0.funcs,nv b.params b.result b.body.op b.body.num b.body.kids]⟩->J s:=by
    intro d hq s V;subst t;refine q _ (AG V ?_);refine ci h0 AA ?_ ?_<;>intro W h0
    .refine Ap AA ?_;obtain rfl:=Sh.BU h0;exact rd [(6,i64 (-1))]
    .refine AH (p _ (AE λX x=>?_));refine Cc (by kernel_rfl) (by kernel_rfl) (by rfl) ?_;iterate 6 refine yq tb rfl ?_
     refine bs h0 λY y h0=>yx BF y AA AA AA ?_;iterate 3 refine yq tb rfl ?_
     refine bs h0 λz A h0=>BV (v:=i64 z) AN (hb 128) (O5 A) rfl AA AA (yq tb AA (Av (x _ ?_)));obtain rfl:=Sh.BU h0;exact rd [(6,i64 z)]
   refine CG 14 (by kernel_rfl) (by kernel_rfl) (by rfl) ?_;iterate 3 refine yq tb rfl ?_
   rcases Sh.Ae c with ⟨a,c⟩|⟨a,c⟩
   .refine ys a AA ?_;iterate 10 refine ys a rfl ?_
    refine Av (zt a AA ?_);exact AB (u true (AS c) _ (AM [0,2] AA AA (.w (.w .nil)) (.same AA)))
   .refine yg tb a AA ?_;iterate 7 refine yg tb a rfl ?_
    refine bs c λZ B c=>df (i:=0) (j:=Sh.w ((Sh.len b.params)-1)) (CR AA AA a) BF AA AA AA (λ_=>AA) B (bs c λC D c=>BV (v:=.bool C) (CR AA AA a) (hb 98) (NY tw D) rfl AA AA (yg tb a AA (Av (zf a AA ?_))));exact AB (u (!C) (AS c) _ (AM [0,2] AA AA (.w (.w .nil)) (.same AA)))
theorem TP {N:Nat}{tp:AJ->(List Int)->AD->Option (Int)}(tw :∀{p0:AJ} {p1:List Int} {p2:AD} {r:Int},tp p0 p1 p2=some r->Bf 59 (Xg p0 p1 p2) [] (i64 r) []){p0:AJ}{p1:List Int}{p2:AD}{r:Int}(h0:Bt N tp p0 p1 p2=some r):Bf 59 (Xg p0 p1 p2) [] (i64 r) []:=by
 unfold Bt at h0;refine ai Tryz.func59 AA AA AA AA (sr AA λK1 m7=>Ee 0 AA (Ee 1 AA (AT AA (dn m7 AA (Ap AA (AE λK3 m8=>?_))))));obtain⟨o4,a,h0⟩:=Sh.Bj h0;have p:∀(_:Unit),o4=Sum.inr ()->∀s,Wk 0 s ⟨215,AP [],[]⟩->K3 s:=by
  intro _ q s e;subst o4;refine m8 _ (AG e (Ap AA ?_));cases h0;exact rt [(6,i64 (-1))]
 refine Ap AA (AL (Ap AA ?_));refine ci a AA ?_ ?_<;>intro b8 a
 .refine AE λK9 m9=>bs a λb3 b a=>?_;have b4:∀E,b3=E->∀s,Wk 0 s ⟨215,AP [(26,.bool E)],[]⟩->K9 s:=by
   intro E q s e;subst b3;refine m9 _ (AG e ?_);refine ci a AA ?_ ?_<;>intro v9 a
   .refine Ap AA ?_;cases a;cases h0;exact rt [(6,i64 0)]
   .exact AH (p () (AS a) _ Aq)
  refine AF AA (Ac 2 AA (CY AA (Ac 2 AA ?_)));rcases Sh.Ae b with ⟨h,b⟩|⟨h,b⟩
  .exact Ay h AA (Ay h AA (bs b λq0 b5 b=>zd h (hb 72) (De b5) rfl AA AA AA (zt h AA (AB (b4 q0 (AS b) _ (Be _ AA))))))
  .exact zs h AA (zs h AA (zs h AA (zf h AA (AB (b4 false (AS b) _ (Be _ AA))))))
 .refine Ap AA ?_;refine ci a AA ?_ ?_<;>intro w0 a
  .refine AE λq1 b6=>bs a λb7 b a=>?_;have b9:∀F,b7=F->∀s,Wk 0 s ⟨215,AP [(1,ls eI p1),(5,BG),(40,.bool F)],[Mm p2.op p2.num p2.kids]⟩->q1 s:=by
    intro F q s e;subst b7;refine b6 _ (AG e ?_);refine ci a AA ?_ ?_<;>intro w1 a
    .refine sr AA λw2 c0=>Ac 3 AA (bs a λq2 c1 a=>zx BF c1 AA AA AA (Ac 2 AA (dn c0 AA ?_)));cases a;cases h0;exact rd [(6,i64 q2)]
    .exact AH (p () (AS a) _ (Be _ AA))
   refine AF AA (Ac 2 AA (CY AA (Ac 2 AA ?_)));rcases Sh.Ae b with ⟨f,b⟩|⟨f,b⟩
   .refine Ay f AA (Ay f AA (Ay f AA (BW (v:=G7 p1) (CR AA AA f) rfl (CU Gd AA) (Ay f AA (bs b λq3 c2 b=>zd f (hb 72) (De c2) rfl AA AA AA (zt f AA ?_))))));exact AB (b9 q3 (AS b) _ (AM [1] AA AA (.w .nil) (.same AA)))
   .refine zs f AA ?_;iterate 5 refine zs f rfl ?_
    refine zf f AA ?_;exact AB (b9 false (AS b) _ (AM [1] AA AA (.w .nil) (.same AA)))
  .refine AE λq4 c3=>bs a λc4 b a=>?_;have w:∀G,c4=G->∀s,Wk 0 s ⟨215,AP (hH p1 p2 [(46,.bool G)]),[Cx p0.decls p0.funcs,Mm p2.op p2.num p2.kids]⟩->q4 s:=by
    intro G q s e;subst c4;refine c3 _ (AG e ?_);refine ci a AA ?_ ?_<;>intro w3 a
    .refine AE λq5 c5=>bs a λc6 b a=>?_;have c7:∀H,c6=H->∀s,Wk 0 s ⟨215,AP [(58,.bool H)],[]⟩->q5 s:=by
      intro H q s e;subst c6;refine c5 _ (AG e ?_);refine ci a AA ?_ ?_<;>intro w4 a
      .refine Ap AA ?_;cases a;cases h0;exact rt [(6,i64 0)]
      .exact AH (p () (AS a) _ Aq)
     refine AF AA (Ac 2 AA ?_);rcases Sh.Ae b with ⟨n,b⟩|⟨n,b⟩
     .refine Ay n AA ?_;iterate 3 refine Ay n rfl ?_
      exact bs b λq6 c8 b=>zd n (hb 96) (Oa tw c8) rfl AA AA AA (zt n AA (AB (c7 q6 (AS b) _ (Be _ AA))))
     .refine zs n AA ?_;iterate 4 refine zs n rfl ?_
      exact zf n AA (AB (c7 false (AS b) _ (Be _ AA)))
    .refine Ap AA ?_;refine ci a AA ?_ ?_<;>intro w5 a
     .refine AE λq7 c9=>bs a λd1 b a=>?_;have d2:∀I,d1=I->∀s,Wk 0 s ⟨215,AP [(68,.bool I)],[]⟩->q7 s:=by
       intro I q s e;subst d1;refine c9 _ (AG e ?_);refine ci a AA ?_ ?_<;>intro w6 a
       .refine Ap AA ?_;cases a;cases h0;exact rt [(6,i64 0)]
       .exact AH (p () (AS a) _ Aq)
      refine AF AA (Ac 2 AA ?_);rcases Sh.Ae b with ⟨o,b⟩|⟨o,b⟩
      .refine Ay o AA ?_;iterate 3 refine Ay o rfl ?_
       exact bs b λq8 d3 b=>zd o (hb 96) (Oa tw d3) rfl AA AA AA (zt o AA (AB (d2 q8 (AS b) _ (Be _ AA))))
      .refine zs o AA ?_;iterate 4 refine zs o rfl ?_
       exact zf o AA (AB (d2 false (AS b) _ (Be _ AA)))
     .refine Ap AA ?_;refine ci a AA ?_ ?_<;>intro w7 a
      .refine AE λq9 d4=>bs a λd5 b a=>?_;have d6:∀J,d5=J->∀s,Wk 0 s ⟨215,AP [(3,BG),(5,CM),(88,.bool J)],[Cx p0.decls p0.funcs,Mm p2.op p2.num p2.kids]⟩->q9 s:=by
        intro J q s e;subst d5;refine d4 _ (AG e ?_);refine ci a AA ?_ ?_<;>intro w8 a
        .refine sr AA λw9 d7=>Ac 4 AA (bs a λt0 d8 a=>G5 (hb 97) (L5 d8) rfl (AT AA (dn d7 AA ?_)));cases a;cases h0;exact rd [(6,i64 t0)]
        .exact AH (p () (AS a) _ (Be _ AA))
       refine CG 17 (by kernel_rfl) (by kernel_rfl) (by rfl) ?_;iterate 4 refine yq tb rfl ?_
       refine bs b λt1 d9 b=>BV (v:=i64 t1) AN (hb 97) (L5 d9) rfl AA AA ?_;iterate 2 refine yq tb rfl ?_
       rcases Sh.Ae b with ⟨i,b⟩|⟨i,b⟩
       .refine yg tb i AA ?_;iterate 7 refine yg tb i rfl ?_
        exact bs b λt2 g0 b=>BV (v:=ls eI t2) (CR AA AA i) (hb 99) (FG g0) rfl AA AA (bs b λg1 g2 b=>BV (v:=.bool g1) (CR AA AA i) (hb 98) (NY tw g2) rfl AA AA (Av (zt i AA (AB (d6 g1 (AS b) _ Aq)))))
       .refine ys i AA ?_;iterate 9 refine ys i rfl ?_
        exact Av (zf i AA (AB (d6 false (AS b) _ Aq)))
      .refine Ap AA ?_;refine ci a AA ?_ ?_<;>intro A0 a
       .refine AE λt3 g3=>bs a λg4 b a=>?_;have g5:∀K,g4=K->∀s,Wk 0 s ⟨215,AP [(1,ls eI p1),(3,BG),(5,CM),(102,.bool K)],[Cx p0.decls p0.funcs,Mm p2.op p2.num p2.kids]⟩->t3 s:=by
         intro K q s e;subst g4;refine g3 _ (AG e ?_);refine ci a AA ?_ ?_<;>intro A1 a
         .refine AE λA2 g6=>?_;refine Cc (by kernel_rfl) (by kernel_rfl) (by rfl) ?_;iterate 4 refine yq tb rfl ?_
          refine bs a λt4 g7 a=>yz (EP t4) (Cb Ba AA AA g7 (Af _) rfl) rfl (yq tb AA (bs a λg8 g9 a=>BV (v:=i64 g8) AN (hb 59) (tw g9) rfl AA AA (yq tb AA (Av (g6 _ (Ap AA ?_))))));refine ci a AA ?_ ?_<;>intro A3 a
          .refine AE λA4 h3=>?_;refine CG 10 (by kernel_rfl) (by kernel_rfl) (by rfl) ?_;iterate 3 refine yq tb rfl ?_
           refine Gr (l:=[g8]) (enc:=eI) AN BF (by decide) rfl AA AA AA AA Bn ?_;refine bs a λh4 h5 a=>?_;refine BV (v:=ls eI h4) AN (hb 85) (BJ.wk (F7 h5) (by refine Wk.trans (Wk.BZ (L:=[(0,ls eI h4)]) (st':=TV) (id:=0) rfl tM Bn ⟨.BZ AA,oz⟩ AA) ?_;exact AM [] AA AA .nil (.same AA))) rfl AA AA ?_;iterate 2 refine yq tb rfl ?_
           refine bs a λt5 h6 a=>yz (EP t5) (Cb Ba AA AA h6 (Af _) rfl) rfl (yq tb AA (bs a λh7 h8 a=>BV (v:=i64 h7) AN (hb 59) (tw h8) rfl AA AA (Av (AT AA (dn h3 AA ?_)))));cases a;cases h0;exact rd [(6,i64 h7)]
          .exact AH (p () (AS a) _ (Be _ AA))
         .exact AH (p () (AS a) _ (Be _ AA))
        refine AF AA (Ac 2 AA ?_);rcases Sh.Ae b with ⟨j,b⟩|⟨j,b⟩
        .exact Ay j AA (Ay j AA (BW (v:=bL p2) (CR AA AA j) rfl (CU TD AA) (Ay j AA (zt j AA (AB (g5 (decide ((Sh.len p2.kids)=2)) (AS b) _ Aq))))))
        .refine zs j AA ?_;iterate 3 refine zs j rfl ?_
         exact zf j AA (AB (g5 false (AS b) _ Aq))
       .refine Ap AA ?_;refine ci a AA ?_ ?_<;>intro A5 a
        .refine AE λt6 h9=>bs a λk0 b a=>?_;have M:∀O,k0=O->∀s,Wk 0 s ⟨215,AP [(1,ls eI p1),(3,BG),(5,CM),(140,.bool O)],[Cx p0.decls p0.funcs,Mm p2.op p2.num p2.kids]⟩->t6 s:=by
          intro O q s e;subst k0;refine h9 _ (AG e ?_);refine ci a AA ?_ ?_<;>intro A6 a
          .refine AE λA7 k1=>?_;refine Cc (by kernel_rfl) (by kernel_rfl) (by rfl) ?_;iterate 4 refine yq tb rfl ?_
           refine bs a λt7 k2 a=>yz (EP t7) (Cb Ba AA AA k2 (Af _) rfl) rfl (yq tb AA (bs a λk3 k4 a=>BV (v:=i64 k3) AN (hb 59) (tw k4) rfl AA AA (yq tb AA (Av (k1 _ (AE λA8 k5=>?_))))));refine Cc (by kernel_rfl) (by kernel_rfl) (by rfl) ?_;iterate 4 refine yq tb rfl ?_
           refine bs a λt8 k6 a=>yz (EP t8) (Cb Ba AA AA k6 (Af _) rfl) rfl (yq tb AA (bs a λt9 k7 a=>BV (v:=i64 t9) AN (hb 59) (tw k7) rfl AA AA ?_));iterate 2 refine yq tb rfl ?_
           refine Av (k5 _ ?_);refine ci a AA ?_ ?_<;>intro A9 a
           .refine Ap AA ?_;cases a;cases h0;exact rd [(6,i64 k3)]
           .exact AH (p () (AS a) _ (Be _ AA))
          .exact AH (p () (AS a) _ (Be _ AA))
         refine Cc (by kernel_rfl) (by kernel_rfl) (by rfl) ?_;iterate 2 refine yq tb rfl ?_
         rcases Sh.Ae b with ⟨k,b⟩|⟨k,b⟩
         .refine yg tb k AA (yg tb k AA (Io (v:=bL p2) (CR AA AA k) rfl (CU TD AA) (yg tb k AA (yt k AA (yq tb AA ?_)))));rcases Sh.Ae b with ⟨g,b⟩|⟨g,b⟩
          .refine yg tb g AA ?_;iterate 3 refine yg tb g rfl ?_
           exact bs b λv0 k8 b=>Io (v:=EP v0) (CR AA AA g) rfl (Cb Ba AA AA k8 (Af _) rfl) (yg tb g AA (bs b λk9 l0 b=>BV (v:=i64 k9) (CR AA AA g) (hb 59) (tw l0) rfl AA AA (yg tb g AA (yt g AA (Av (M (decide (k9=0)) (AS b) _ Aq))))))
          .refine ys g AA ?_;iterate 7 refine ys g rfl ?_
           exact yf g AA (Av (M false (AS b) _ Aq))
         .refine ys k AA ?_;iterate 3 refine ys k rfl ?_
          refine yf k AA (yq tb AA ?_);iterate 8 refine ys rfl rfl ?_
          exact yf AA AA (Av (M false (AS b) _ Aq))
        .refine Ap AA ?_;refine ci a AA ?_ ?_<;>intro B0 a
         .refine sr AA λB1 l1=>Ac 3 AA (bs a λv1 l2 a=>G5 (hb 100) (Sv tw l2) rfl (AT AA (dn l1 AA ?_)));cases a;cases h0;exact rd [(6,i64 v1)]
         .refine AE λv2 l3=>bs a λl4 b a=>?_;have l5:∀P,l4=P->∀s,Wk 0 s ⟨215,AP (hH p1 p2 [(164,.bool P)]),[Cx p0.decls p0.funcs,Mm p2.op p2.num p2.kids]⟩->v2 s:=by
           intro P q s e;subst l4;refine l3 _ (AG e ?_);refine ci a AA ?_ ?_<;>intro B2 a
           .refine sr AA λv3 Q=>Ac 3 AA (bs a λl6 R a=>G5 (hb 101) (TO tw R) rfl (AT AA (dn Q AA ?_)));cases a;cases h0;exact rd [(6,i64 l6)]
           .refine Ap AA ?_;refine ci a AA ?_ ?_<;>intro v4 a
            .refine AE λl7 S=>bs a λx b a=>?_;have y:∀t,x=t->∀s,Wk 0 s ⟨215,AP [(1,ls eI p1),(3,BG),(5,CM),(179,.bool t)],[Cx p0.decls p0.funcs,Mm p2.op p2.num p2.kids]⟩->l7 s:=by
              intro t q s e;subst x;refine S _ (AG e ?_);refine ci a AA ?_ ?_<;>intro v5 a
              .refine AE λv6 T=>?_;refine Cc (by kernel_rfl) (by kernel_rfl) (by rfl) ?_;iterate 4 refine yq tb rfl ?_
               refine bs a λl8 U a=>yz (EP l8) (Cb Ba AA AA U (Af _) rfl) rfl (yq tb AA (bs a λz V a=>BV (v:=i64 z) AN (hb 59) (tw V) rfl AA AA (yq tb AA (Av (T _ (AE λl9 W=>bs a λA b a=>?_))))));have B:∀u,A=u->∀s,Wk 0 s ⟨215,AP [(3,BG),(10,i64 z),(207,.bool u)],[Cx p0.decls p0.funcs]⟩->l9 s:=by
                intro u q s e;subst A;refine W _ (AG e ?_);refine ci a AA ?_ ?_<;>intro v7 a
                .refine sr AA λv8 X=>Ac 4 AA (bs a λm0 Y a=>zx DI Y AA AA AA (Ac 3 AA (dn X AA ?_)));cases a;cases h0;exact rd [(6,i64 m0.to)]
                .exact AH (p () (AS a) _ (Be _ AA))
               refine Cc (by kernel_rfl) (by kernel_rfl) (by rfl) ?_;iterate 3 refine yq tb rfl ?_
               refine bs b λm1 Z b=>BV (v:=.bool m1) AN (hb 102) (KF Z) rfl AA AA (yq tb AA ?_);rcases Sh.Ae b with ⟨c,b⟩|⟨c,b⟩
               .refine yg tb c AA ?_;iterate 3 refine yg tb c rfl ?_
                refine bs b λm2 b0 b=>Io (v:=EP m2) (CR AA AA c) rfl (Cb Ba AA AA b0 (Af _) rfl) (yg tb c AA (bs b λC b1 b=>BV (v:=i64 C) (CR AA AA c) (hb 59) (tw b1) rfl AA AA ?_));iterate 4 refine yg tb c rfl ?_
                refine bs b λD b2 b=>Io (v:=TG D) (CR AA AA c) rfl (CZ DI AA AA b2 AA) ?_;iterate 3 refine yg tb c rfl ?_
                refine yt c AA ?_;exact Av (B (decide (C=D.from_)) (AS b) _ (AM [0] AA AA (.w .nil) (.same AA)))
               .refine ys c AA ?_;iterate 14 refine ys c rfl ?_
                refine yf c AA ?_;exact Av (B false (AS b) _ (AM [0] AA AA (.w .nil) (.same AA)))
              .exact AH (p () (AS a) _ (Be _ AA))
             refine AF AA (Ac 2 AA ?_);rcases Sh.Ae b with ⟨d,b⟩|⟨d,b⟩
             .exact Ay d AA (Ay d AA (BW (v:=bL p2) (CR AA AA d) rfl (CU TD AA) (Ay d AA (zt d AA (AB (y (decide ((Sh.len p2.kids)=2)) (AS b) _ Aq))))))
             .refine zs d AA ?_;iterate 3 refine zs d rfl ?_
              exact zf d AA (AB (y false (AS b) _ Aq))
            .exact AH (p () (AS a) _ (Be _ AA))
          refine Ap AA ?_;refine ci b AA ?_ ?_<;>intro m3 b
          .exact AH (l5 true (AS b) _ (Ag (L:=hH p1 p2 [(164,.bool true)]) ⟨.rfl,.rfl,.rfl,.rfl,.rfl,.of (qX AV.bool m3),oz⟩))
          .exact AF AA (Ac 2 AA (AB (l5 (decide (p2.op=10)) (AS b) _ Aq)))
   refine Ap AA ?_;refine ci b AA ?_ ?_<;>intro m4 b
   .exact AH (w true (AS b) _ (Ag (L:=hH p1 p2 [(46,.bool true)]) ⟨.rfl,.rfl,.rfl,.rfl,.rfl,.of (qX AV.bool m4),oz⟩))
   .refine Ap AA ?_;refine ci b AA ?_ ?_<;>intro m5 b
    .exact AH (w true (AS b) _ (Ag (L:=hH p1 p2 [(46,.bool true)]) ⟨.rfl,.rfl,.rfl,.rfl,.rfl,.of (qX AV.bool m5),oz⟩))
    .refine Ap AA ?_;refine ci b AA ?_ ?_<;>intro m6 b
     .exact AH (w true (AS b) _ (Ag (L:=hH p1 p2 [(46,.bool true)]) ⟨.rfl,.rfl,.rfl,.rfl,.rfl,.of (qX AV.bool m6),oz⟩))
     .exact AF AA (Ac 2 AA (AB (w (decide (p2.op=4)) (AS b) _ Aq)))
theorem UW {N:Nat}:∀(n:Nat),∀{p0:AJ} {p1:List Int} {p2:AD} {r:Int},Cj N n p0 p1 p2=some r->Bf 59 (Xg p0 p1 p2) [] (i64 r) []:=by
 intro n
 induction n with
 |zero=>intro p0 p1 p2 r a;cases a
 |succ n ih=>
  intro p0 p1 p2 r a;rw[Cj]at a;exact TP (λh=>ih h) a
theorem V9 {N:Nat}:∀{p0:AJ} {p1:List Int} {p2:AD} {r:Int},KJ N p0 p1 p2=some r->Bf 59 (Xg p0 p1 p2) [] (i64 r) []:=by
 intro p0 p1 p2 r a;exact UW N a
theorem QE {N:Nat}{p0:AJ}{r:Bool}(h0:BM N p0=some r):Bf 29 [KT p0] [] (.bool r) []:=by
 unfold BM at h0;refine ai Tryz.func29 AA AA AA AA (sr AA λR x=>Ee 0 AA (AT AA (dn x AA (AE λS y=>sr AA λT z=>AT AA (bs h0 λG A h0=>G5 (hb 57) (Sz A) rfl (AT AA (dn z AA ?_)))))));refine ci h0 AA ?_ ?_<;>intro H h0
 .have U:G=false:=by simpa using H
  refine Ap AA ?_;cases h0;exact rd [(2,.bool false)]
 .have V:G=true:=by simpa using H
  refine AH (y _ (AE λJ B=>Ap AA ?_));obtain⟨g,b,h0⟩:=Sh.Bj h0;have C:∀(_:Unit),g=Sum.inr ()->∀s,Wk 0 s ⟨45,AP [],[]⟩->J s:=by
   intro _ K s D;subst g;refine B _ (AG D (Ap AA ?_));cases h0;exact rt [(2,.bool true)]
  refine AL (An (σ:=Int) (λn v=>Bl N p0 n v=some g) (λe=>⟨45,AP [(1,.ptr 0 0 0 0),(3,i64 e)],[Cx p0.decls p0.funcs]⟩) N 0 b Aq (λ_ I=>by rw[Bl]at I;cases I) ?_);rintro n e b;rw[Bl]at b;refine AE λL i=>sr AA λM j=>Ac 3 AA (CY AA (AT AA (dn j AA ?_)));refine ci b AA ?_ ?_<;>intro O b
  .refine AH (i _ (AE λP k=>AL (AE λE l=>bs b λo d b=>?_)));have p:∀h,o=h->∀s,Wk 0 s ⟨45,AP [(1,BG),(3,i64 e),(44,.bool h)],[Cx p0.decls p0.funcs]⟩->E s:=by
    intro h K s D;subst o;refine l _ (AG D ?_);refine ci b AA ?_ ?_<;>intro Q b
    .refine Ap AA ?_;cases b;cases h0;exact rd [(2,.bool false)]
    .exact AH (k _ (AF AA (Ac 3 AA (AB (xi (Sh.w (e+1)) b Aq)))))
   refine Cc (by kernel_rfl) (by kernel_rfl) (by rfl) ?_;iterate 3 refine yq tb rfl ?_
   refine bs d λf c d=>yx Ck c AA AA AA ?_;iterate 2 refine yq tb rfl ?_
   refine bs d λF q d=>BV (v:=i64 F) AN (hb 58) (KA q) rfl AA AA ?_;iterate 2 refine yq tb rfl ?_
   rcases Sh.Ae d with ⟨a,d⟩|⟨a,d⟩
   .refine ys a AA ?_;iterate 20 refine ys a rfl ?_
    exact yt a AA (Av (p true (AS d) _ Aq))
   .refine yg tb a AA ?_;iterate 3 refine yg tb a rfl ?_
    refine Io (v:=WX f) (CR AA AA a) rfl (CZ Ck AA AA c AA) ?_;iterate 5 refine yg tb a rfl ?_
    refine Io (v:=WX f) (CR AA AA a) rfl (CZ Ck AA AA c AA) ?_;iterate 2 refine yg tb a rfl ?_
    refine bs d λt u d=>BV (v:=i64 t) (CR AA AA a) (hb 59) (V9 u) rfl AA AA ?_;iterate 3 refine yg tb a rfl ?_
    refine Io (v:=WX f) (CR AA AA a) rfl (CZ Ck AA AA c AA) ?_;iterate 3 refine yg tb a rfl ?_
    exact yf a AA (Av (p (!decide (t=f.result)) (AS d) _ Aq))
  .exact Au (C () (AS b) _ (Be _ AA))
theorem P5 {N:Nat}{p0:List Int}{p1:Int}{r:List Int}(h0:Hz N p0 p1=some r):Bf 108 [ls eI p0,i64 p1] [] (ow 0 0 r) [BY r]:=by
 unfold Hz at h0;refine ai Tryz.func108 AA AA AA AA (Ap AA (sr AA λK2 b1=>?_));refine CC 0 ([]:List Int) eI BF AA ?_;refine AT AA (dn b1 AA (Ap AA (AE λK4 b2=>Ap AA (bs h0 λt b h0=>?_))));have b3:∀c g,t=(c,g)->∀s,Wk 0 s ⟨49,AP [(1,i64 p1),(5,ow 0 0 g),(6,.bool c)],[BY g]⟩->K4 s:=by
  rintro c g rfl s k;refine b2 _ (AG k (AE λb4 B=>bs h0 λC b h0=>?_));have D:∀h,C=h->∀s,Wk 0 s ⟨49,AP [(5,ow 0 0 h)],[BY h]⟩->b4 s:=by
   intro h hq s k;subst C;try dsimp only at h0
   refine B _ (AG k (Ap AA ?_));obtain rfl:=Sh.BU h0;exact rt [(4,ow 0 0 h)]
  refine Ap AA ?_;refine ci b AA ?_ ?_<;>intro E b
  .have b8:c=false:=by simpa using E
   refine AF AA (Ac 2 AA ?_);refine CC 1 [p1] eI BF AA ?_;refine bs b λu F b=>Ct (l2:=[p1]) AN BF AA AA AA AA (HD AA AA) (λ_=>AA) F AA (AT AA ?_);exact AB (D u (AS b) _ (by refine Wk.trans (Da (L:=[(5,ow 0 0 u)]) (st':=[BY u,TW p1]) (.pure Bn (.pure Bn .nil)) (.same AA)) ?_;exact AM [0] AA AA (.p .nil) (.same AA)))
  .have b9:c=true:=by simpa using E
   exact AH (D g (AS b) _ Aq)
 refine AL (An (σ:=Bool×Int×(List Int)) (λn v=>Df p0 p1 n v.1 v.2.1 v.2.2=some t) (λ(d,p,q)=>⟨49,AP [(0,ls eI p0),(1,i64 p1),(5,ow 0 0 q),(6,.bool d),(7,i64 p)],[ro 0 3 1 eI q]⟩) N (false,0,[]) b Aq (λ_ hv=>by rw[Df]at hv;cases hv) ?_);rintro n ⟨d,p,q⟩ b;rw[Df]at b;refine AE λc0 G=>sr AA λc1 H=>Ac 2 AA (CY AA (AT AA (dn H AA ?_)));refine ci b AA ?_ ?_<;>intro c2 b
 .refine AH (G _ (AE λc3 I=>AL (AE λb5 J=>bs b λK i b=>?_)));have M:∀a o,K=(a,o)->∀s,Wk 0 s ⟨49,AP (fB p0 p1 o [(6,.bool a),(7,i64 p)]),[BY o]⟩->b5 s:=by
   rintro a o rfl s k;refine J _ (AG k (AF AA (Ac 3 AA (bs b λx O b=>zx BF O AA AA AA (AT AA ?_)))));refine CC 1 [x] eI BF AA ?_;refine bs b λy P b=>Ct (l2:=[x]) AN BF AA AA AA AA (HD AA AA) (λ_=>AA) P AA (AT AA (dn I AA (AF AA (Ac 3 AA ?_))));exact AB (xi (a,Sh.w (p+1),y) b (by refine Wk.trans (Da (L:=fB p0 p1 y [(6,.bool a),(7,Kt p)]) (st':=[BY y,TW x]) (.pure Bn (.pure Bn .nil)) (.same AA)) ?_;exact AM [0] AA AA (.p .nil) (.same AA)))
  refine AE λb6 Q=>bs i λR f i=>?_;have S:∀z,R=z->∀s,Wk 0 s ⟨49,AP (fB p0 p1 q [(6,.bool d),(7,i64 p),(24,.bool z)]),[BY q]⟩->b6 s:=by
   intro z hq s k;subst R;refine Q _ (AG k ?_);refine ci i AA ?_ ?_<;>intro c4 i
   .refine AE λb7 T=>bs i λU f i=>?_;have V:∀j,U=j->∀s,Wk 0 s ⟨49,AP (fB p0 p1 j [(7,i64 p)]),[BY j]⟩->b7 s:=by
     intro j hq s k;subst U;exact T _ (AG k (AF AA (AT AA (AB (M true j (AS i) _ Aq)))))
    refine sr AA λc5 W=>Ac 2 AA (bs f λc6 X f=>zx BF X AA AA AA (Ac 3 AA (dn W AA ?_)));refine ci f AA ?_ ?_<;>intro c7 f
    .refine AF AA (Ac 2 AA ?_);refine CC 1 [p1] eI BF AA ?_;refine bs f λA Y f=>Ct (l2:=[p1]) AN BF AA AA AA AA (HD AA AA) (λ_=>AA) Y AA (AT AA ?_);exact AB (V A (AS f) _ (by refine Wk.trans (Da (L:=fB p0 p1 A [(7,i64 p)]) (st':=[BY A,TW p1]) (.pure Bn (.pure Bn .nil)) (.same AA)) ?_;exact AM [0] AA AA (.p .nil) (.same AA)))
    .exact AH (V q (AS f) _ Aq)
   .exact AH (M d q (AS i) _ Aq)
  refine AF AA (Ac 3 AA ?_);rcases Sh.Ae f with ⟨e,f⟩|⟨e,f⟩
  .refine Ay e AA (Ay e AA (bs f λZ b0 f=>BW (v:=UD Z) (CR AA AA e) rfl (CZ BF AA AA b0 AA) ?_));iterate 3 refine Ay e rfl ?_
   exact zt e AA (AB (S (decide (p1<=Z)) (AS f) _ Aq))
  .refine zs e AA ?_;iterate 5 refine zs e rfl ?_
   exact zf e AA (AB (S false (AS f) _ Aq))
 .exact Au (b3 d q (AS b) _ Aq)
theorem RA {N:Nat}{uM:AD->(List Int)->Option (List Int)}(wN :∀{p0:AD} {p1:List Int} {r:List Int},uM p0 p1=some r->Bf 73 [Bd p0,ls eI p1] [] (ls eI r) []){p0:AD}{p1 r:List Int}(h0:Ji N uM p0 p1=some r):Bf 73 [Bd p0,ls eI p1] [] (ls eI r) []:=by
 unfold Ji at h0;refine ai Tryz.func73 AA AA AA AA (sr AA λU z=>Ee 0 AA (AT AA (dn z AA (AE λM A=>bs h0 λH a h0=>?_))));have I:∀b,H=b->∀s,Wk 0 s ⟨33,AP [(1,ls eI b),(2,BG)],[Mm p0.op p0.num p0.kids]⟩->M s:=by
  intro b J s i;subst H;refine A _ (AG i (AE λO B=>Ap AA (bs h0 λf a h0=>?_)));have C:∀c,f=c->∀s,Wk 0 s ⟨33,AP [(1,ls eI c)],[]⟩->O s:=by
   intro c J s i;subst f;try dsimp only at h0
   refine B _ (AG i (Ap AA ?_));obtain rfl:=Sh.BU h0;exact rt [(4,ls eI c)]
  refine AL (An (σ:=(List Int)×Int) (λn v=>Dv p0 uM n v.1 v.2=some f) (λ(e,D)=>⟨33,AP [(1,ls eI e),(2,.ptr 0 0 0 0),(5,i64 D)],[Mm p0.op p0.num p0.kids]⟩) N (b,0) a Aq (λ_ K=>by rw[Dv]at K;cases K) ?_);rintro n ⟨e,D⟩ a;rw[Dv]at a;refine AE λP j=>sr AA λQ k=>Ac 3 AA (CY AA (AT AA (dn k AA ?_)));refine ci a AA ?_ ?_<;>intro R a
  .refine AH (j _ (AE λS l=>AL (AF AA (Ac 3 AA (bs a λE o a=>zz (EP E) (Cb Ba AA AA o (Af _) rfl) rfl (Ac 2 AA (bs a λF p a=>G5 (hb 73) (wN p) rfl (AT AA (dn l AA ?_)))))))));exact AF AA (Ac 3 AA (AB (xi (F,Sh.w (D+1)) a Aq)))
  .exact Au (C e (AS a) _ (Be _ AA))
 refine AE λG q=>bs a λt u a=>?_;have x:∀g,t=g->∀s,Wk 0 s ⟨33,AP [(1,ls eI p1),(2,BG),(13,.bool g)],[Mm p0.op p0.num p0.kids]⟩->G s:=by
  intro g J s i;subst t;refine q _ (AG i ?_);refine ci a AA ?_ ?_<;>intro T a
  .refine AF AA (Ac 3 AA (bs a λh y a=>Bo (v':=ow 1 0 h) AN (hb 108) (P5 y) rfl AA ⟨(Bq λ_=>AA),oz⟩ AA AA (AT AA ?_)));exact AB (I h (AS a) _ (by refine Wk.trans (Wk.BZ (L:=[(1,ls eI h),(2,BG)]) (st':=[Mm p0.op p0.num p0.kids,⟨1,3,1,[]⟩]) (id:=1) rfl tV Bn ⟨.BZ AA,.rfl,oz⟩ AA) ?_;exact AM [0] AA AA (.w .nil) (.same AA)))
  .exact AH (I p1 (AS a) _ Aq)
 refine AF AA (Ac 4 AA ?_);rcases Sh.Ae u with ⟨d,u⟩|⟨d,u⟩
 .exact zs d AA (zs d AA (zs d AA (zt d AA (AB (x true (AS u) _ Aq)))))
 .exact Ay d AA (Ay d AA (Ay d AA (zf d AA (AB (x (decide (p0.op=10)) (AS u) _ Aq)))))
theorem Qr {N:Nat}:∀(n:Nat),∀{p0:AD} {p1:List Int} {r:List Int},Ff N n p0 p1=some r->Bf 73 [Bd p0,ls eI p1] [] (ls eI r) []:=by
 intro n
 induction n with
 |zero=>intro p0 p1 r a;cases a
 |succ n ih=>
  intro p0 p1 r a;rw[Ff]at a;exact RA (λh=>ih h) a
theorem NQ {N:Nat}:∀{p0:AD} {p1:List Int} {r:List Int},I7 N p0 p1=some r->Bf 73 [Bd p0,ls eI p1] [] (ls eI r) []:=by
 intro p0 p1 r a;exact Qr N a
theorem RF {N:Nat}{p0:AJ}{p1:Int}{r:List Int}(h0:Hv N p0 p1=some r):Bf 75 [KT p0,i64 p1] [] (ow 0 0 r) [BY r]:=by
 unfold Hv at h0;refine ai Tryz.func75 AA AA AA AA (sr AA λK1 V=>Ee 0 AA (AT AA (dn V AA (sr AA λK2 W=>AT AA ?_))));refine CC 1 [p1] eI BF AA ?_;refine AT AA (dn W AA (AE λK3 X=>Ap AA (bs h0 λY f h0=>?_)));have M8:∀x,Y=x->∀s,Wk 0 s ⟨50,AP [(5,ow 0 0 x)],[BY x]⟩->K3 s:=by
  intro x Z s p;subst Y;try dsimp only at h0
  refine X _ (AG p (Ap AA ?_));obtain rfl:=Sh.BU h0;exact rt [(4,ow 0 0 x)]
 refine AL (An (σ:=Int×(List Int)) (λn v=>Dt N p0 n v.1 v.2=some Y) (λ(vN,y)=>⟨50,AP [(2,.ptr 0 0 0 0),(5,ow 1 0 y),(6,i64 vN)],[Cx p0.decls p0.funcs,ro 0 3 1 eI y]⟩) N (0,[p1]) f Aq (λ_ o=>by rw[Dt]at o;cases o) ?_);rintro n ⟨vN,y⟩ f;rw[Dt]at f;refine AE λb8 z=>sr AA λb9 A=>Ac 3 AA (CY AA (AT AA (dn A AA ?_)));refine ci f AA ?_ ?_<;>intro c0 f
 .refine AH (z _ (AE λb0 B=>AL (Ap AA (bs f λq g f=>?_))));have b1:∀h,q=h->∀s,Wk 0 s ⟨50,AP (dL h [(6,i64 vN)]),[Cx p0.decls p0.funcs,BY h]⟩->b0 s:=by
   intro h Z s p;subst q;exact B _ (AG p (AF AA (Ac 3 AA (AB (xi (Sh.w (vN+1),h) f Aq)))))
  refine AL (An (σ:=Int×(List Int)) (λn v=>Dw N p0 n v.1 v.2=some q) (λ(a,b)=>⟨50,AP [(2,.ptr 0 0 0 0),(5,ow 1 0 b),(6,i64 vN),(7,i64 a)],[Cx p0.decls p0.funcs,ro 0 3 1 eI b]⟩) N (0,y) g Aq (λ_ o=>by rw[Dw]at o;cases o) ?_);rintro n ⟨a,b⟩ g;rw[Dw]at g;refine AE λc1 C=>sr AA λc2 D=>Ac 3 AA (CY AA (AT AA (dn D AA ?_)));refine ci g AA ?_ ?_<;>intro c3 g
  .refine AH (C _ (AE λb2 E=>bs g λF c g=>?_));have G:∀i,F=i->∀s,Wk 0 s ⟨50,AP (dL i [(6,i64 vN),(7,i64 a)]),[Cx p0.decls p0.funcs,BY i]⟩->b2 s:=by
    intro i Z s p;subst F;exact E _ (AG p (AF AA (Ac 3 AA (AB (xi (Sh.w (a+1),i) g Aq)))))
   refine AL (sr AA λc4 H=>Ac 2 AA (bs c λb3 I c=>Lw (v':=.bool b3) AN (hb 74) (MA I) rfl (.own AA AA (λ_=>AA) (.val AA .nil)) rfl oz AA AA (dn H AA ?_)));refine ci c AA ?_ ?_<;>intro c5 c
   .refine sr AA λc6 J=>Ac 3 AA (bs c λb4 K c=>zx Ck K AA AA AA (Ac 2 AA ?_));refine CC 2 ([]:List Int) eI BF AA ?_;refine EU (dL b [(6,i64 vN),(7,i64 a),(34,UZ b4),(35,Rp)]) [Cx p0.decls p0.funcs,BY b,⟨1,3,1,[]⟩] 2 AA ⟨.rfl,.rfl,.rfl,.rfl,.rfl,.BZ AA,oz⟩ (λ_=>AA) rfl (bs c λt M c=>G5 (hb 73) (NQ M) rfl (AT AA (dn J AA (Ap AA (RK λb5 O=>bs c λu d c=>?_)))));have b6:∀e,u=e->∀s,Wk 0 s ⟨50,AP (dL e [(6,i64 vN),(7,i64 a)]),[Cx p0.decls p0.funcs,BY e]⟩->b5 s:=by
     intro e Z s p;subst u;exact O _ (G e (AS c) _ (p.trans (Ag (L:=dL e [(6,i64 vN),(7,i64 a)]) (.same AA))))
    refine AL (An (σ:=Int×(List Int)) (λn v=>Du N t n v.1 v.2=some u) (λ(k,j)=>⟨50,AP [(2,.ptr 0 0 0 0),(5,ow 1 0 j),(6,i64 vN),(7,i64 a),(8,ls eI t),(9,i64 k)],[Cx p0.decls p0.funcs,ro 0 3 1 eI j]⟩) N (0,b) d (AM [0,1] AA AA (.w (.p .nil)) (.same AA)) (λ_ o=>by rw[Du]at o;cases o) ?_);rintro n ⟨k,j⟩ d;rw[Du]at d;refine AE λc7 P=>sr AA λc8 Q=>Ac 2 AA (CY AA (AT AA (dn Q AA ?_)));refine ci d AA ?_ ?_<;>intro c9 d
    .refine AH (P _ (AE λd0 R=>AL (AF AA (Ac 3 AA (bs d λb7 S d=>zx BF S AA AA AA (AT AA (EU [(2,BG),(6,i64 vN),(7,i64 a),(8,ls eI t),(9,i64 k),(43,ls eI j),(47,i64 b7)] [Cx p0.decls p0.funcs,⟨1,3,1,[]⟩] 1 AA ⟨.rfl,.rfl,.rfl,.rfl,.rfl,.BZ AA,.rfl,oz⟩ (λ_=>AA) rfl (bs d λT U d=>Bo (v':=ow 2 0 T) AN (hb 108) (P5 U) rfl AA ⟨(Bq λ_=>AA),oz⟩ AA AA (AT AA ?_)))))))));refine dn R AA (AF AA (Ac 3 AA ?_));exact AB (xi (Sh.w (k+1),T) d (AM [0,2] AA AA (.w (.p .nil)) (.same AA)))
    .exact Au (b6 j (AS d) _ Aq)
   .exact AH (G b (AS c) _ Aq)
  .exact Au (b1 b (AS g) _ Aq)
 .exact Au (M8 y (AS f) _ (AM [1] AA AA (.p .nil) (.same AA)))
theorem S7 {N:Nat}{p0:AJ}{p1:Int}{r:Bool}(h0:Di N p0 p1=some r):Bf 45 [KT p0,i64 p1] [] (.bool r) []:=by
 unfold Di at h0;refine ai Tryz.func45 AA AA AA AA (sr AA λS u=>Ee 0 AA (AT AA (dn u AA (AE λT x=>sr AA λU y=>Ac 3 AA (CY AA (AT AA (bs h0 λE z h0=>G5 (hb 72) (De z) rfl ?_)))))));refine AT AA (dn y AA ?_);refine ci h0 AA ?_ ?_<;>intro F h0
 .have V:E=false:=by simpa using F
  refine Ap AA ?_;cases h0;exact rd [(4,.bool false)]
 .have W:E=true:=by simpa using F
  refine AH (x _ (sr AA λX A=>Ac 3 AA (bs h0 λB d h0=>zx Ck d AA AA AA (Ac 2 AA ?_))));refine CC 1 ([]:List Int) eI BF AA ?_;refine EU [(1,i64 p1),(2,BG),(19,UZ B),(20,Rp)] [Cx p0.decls p0.funcs,⟨1,3,1,[]⟩] 1 AA ⟨.rfl,.rfl,.rfl,.BZ AA,oz⟩ (λ_=>AA) rfl (bs h0 λe f h0=>G5 (hb 73) (NQ f) rfl (AT AA (dn A AA (AE λC g=>Ap AA ?_))));obtain⟨b,a,h0⟩:=Sh.Bj h0;have D:∀(_:Unit),b=Sum.inr ()->∀s,Wk 0 s ⟨36,AP [],[]⟩->C s:=by
   intro _ Y s H;subst b;refine g _ (AG H (Ap AA ?_));cases h0;exact rt [(4,.bool true)]
  refine AL (An (σ:=Int) (λn v=>DN N p0 p1 e n v=some b) (λc=>⟨36,AP [(1,i64 p1),(2,.ptr 0 0 0 0),(5,ls eI e),(6,i64 c)],[Cx p0.decls p0.funcs]⟩) N 0 a (AM [0] AA AA (.w .nil) (.same AA)) (λ_ G=>by rw[DN]at G;cases G) ?_);rintro n c a;rw[DN]at a;refine AE λI h=>sr AA λJ i=>Ac 2 AA (CY AA (AT AA (dn i AA ?_)));refine ci a AA ?_ ?_<;>intro K a
  .refine AH (h _ (AE λM j=>AL (AE λO k=>?_)));refine CG 7 (by kernel_rfl) (by kernel_rfl) (by rfl) ?_;iterate 3 refine yq tb rfl ?_
   refine bs a λP o a=>yx BF o AA AA AA (yq tb AA (bs a λp q a=>?_));refine BV (v:=ls eI p) AN (hb 75) (BJ.wk (RF q) (by refine Wk.trans (Wk.BZ (L:=[(0,ls eI p)]) (st':=TV) (id:=0) rfl tM Bn ⟨.BZ AA,oz⟩ AA) ?_;exact AM [] AA AA .nil (.same AA))) rfl AA AA ?_;refine yq tb AA (Av (bs a λQ t a=>G5 (hb 74) (MA t) rfl (dn k AA ?_)));refine ci a AA ?_ ?_<;>intro R a
   .refine Ap AA ?_;cases a;cases h0;exact rd [(4,.bool false)]
   .exact AH (j _ (AF AA (Ac 3 AA (AB (xi (Sh.w (c+1)) a Aq)))))
  .exact Au (D () (AS a) _ (Be _ AA))
theorem U7 {N:Nat}{p0:AJ}{p1:AD}{p2 p3 r:Int}(h0:Kf N p0 p1 p2 p3=some r):Bf 67 [KT p0,Bd p1,i64 p2,i64 p3] [] (i64 r) []:=by
 unfold Kf at h0;refine ai Tryz.func67 AA AA AA AA (sr AA λp h=>Ee 0 AA (Ee 1 AA (AT AA (dn h AA (AE λq i=>Ap AA ?_)))));refine ci h0 AA ?_ ?_<;>intro s h0
 .refine Ap AA ?_;cases h0;exact rd [(8,i64 p3)]
 .refine AH (i _ (AE λt j=>Ap AA ?_));refine ci h0 AA ?_ ?_<;>intro u h0
  .refine Ap AA ?_;cases h0;exact rd [(8,Kt p3)]
  .refine AH (j _ (AE λk a=>Ap AA ?_));refine ci h0 AA ?_ ?_<;>intro l h0
   .refine AE λn b=>?_;refine CG 15 (by kernel_rfl) (by kernel_rfl) (by rfl) ?_;iterate 7 refine yq tb rfl ?_
    refine bs h0 λc d h0=>?_;refine BV (v:=ls eI c) AN (hb 104) (BJ.wk (JL d) (by refine Wk.trans (Wk.BZ (L:=[(0,ls eI c)]) (st':=TV) (id:=0) rfl tM Bn ⟨.BZ AA,oz⟩ AA) ?_;exact AM [] AA AA .nil (.same AA))) rfl AA AA ?_;iterate 2 refine yq tb rfl ?_
    refine bs h0 λo e h0=>yx BF e AA AA AA (yq tb AA (bs h0 λf g h0=>BV (v:=ls eI f) AN (hb 99) (FG g) rfl AA AA (yl tb AA AA (yq tb AA (Av (AT AA (dn b AA ?_)))))));cases h0;exact rd [(8,i64 (Sh.w (p3+Sh.len f)))]
   .refine AH (a _ (Ap AA ?_));cases h0;exact rd [(8,i64 p3)]
theorem TS {N:Nat}{uI:AD->Int->Int->Option (AD)}(vU :∀{p0:AD} {p1:Int} {p2:Int} {r:AD},uI p0 p1 p2=some r->Bf 77 (Z5 p0 p1 p2) [] (Bd r) []){p0:List AD}{p1 p2:Int}{r:List AD}(h0:LJ N uI p0 p1 p2=some r):Bf 109 [Ha p0,i64 p1,i64 p2] [] (ow 0 0 r) [G4 r]:=by
 unfold LJ at h0;refine ai Tryz.func109 AA AA AA AA (Ap AA (sr AA λF p=>?_));refine CC 0 ([]:List AD) Ar Ba (by simp only[List.map,Af];rfl) ?_;refine AT AA (dn p AA (AE λy q=>Ap AA (bs h0 λt a h0=>?_)));have z:∀d,t=d->∀s,Wk 0 s ⟨27,AP [(7,ow 0 0 d)],[G4 d]⟩->y s:=by
  intro d G s A;subst t;try dsimp only at h0
  refine q _ (AG A (Ap AA ?_));obtain rfl:=Sh.BU h0;exact rt [(6,ow 0 0 d)]
 refine AL (An (σ:=Int×(List AD)) (λn v=>Eu p0 p1 p2 uI n v.1 v.2=some t) (λ(k,o)=>⟨27,AP [(0,ls Ar p0),(1,i64 p1),(2,i64 p2),(7,ow 0 0 o),(8,i64 k)],[ro 0 35 3 Ar o]⟩) N (0,[]) a Aq (λ_ x=>by rw[Eu]at x;cases x) ?_);rintro n ⟨k,o⟩ a;rw[Eu]at a;refine AE λB e=>sr AA λC f=>Ac 2 AA (CY AA (AT AA (dn f AA ?_)));refine ci a AA ?_ ?_<;>intro D a
 .refine AH (e _ (AE λE g=>AL (AF AA (Ac 3 AA (bs a λu h a=>zz (EP u) (Cb Ba AA AA h (Af _) rfl) rfl (Ac 3 AA (bs a λb i a=>D0 (Bd b) (hb 77) (vU i) rfl ?_)))))));refine CC 1 [b] Ar Ba (by simp only[List.map,Af];rfl) ?_;refine bs a λc j a=>Ct (l2:=[b]) AN Ba AA AA AA AA (HD AA AA GN) DV j AA (AT AA (dn g AA (AF AA (Ac 3 AA ?_))));exact AB (xi (Sh.w (k+1),c) a (by refine Wk.trans (Da (L:=[(0,Ha p0),(1,i64 p1),(2,i64 p2),(7,ow 0 0 c),(8,Kt k)]) (st':=[G4 c,Sn b]) (.pure (Ai Aa) (.pure (Ai Aa) .nil)) (.same AA)) ?_;exact AM [0] AA AA (.pure (Ai Aa) .nil) (.same AA)))
 .exact Au (z o (AS a) _ Aq)
theorem VK {N:Nat}{uI:AD->Int->Int->Option (AD)}(vU :∀{p0:AD} {p1:Int} {p2:Int} {r:AD},uI p0 p1 p2=some r->Bf 77 (Z5 p0 p1 p2) [] (Bd r) []){p0:AD}{p1 p2:Int}{r:AD}(h0:MC N uI p0 p1 p2=some r):Bf 77 (Z5 p0 p1 p2) [] (Bd r) []:=by
 unfold MC at h0;refine Ci AA (ai Tryz.func77 AA AA AA AA (sr AA λz g=>Ee 0 AA (DL 1 Dd AA (dn g AA (Ap AA (AE λq h=>bs h0 λo b h0=>?_))))));have p:∀zk,o=zk->∀s,Wk 0 s ⟨30,AP (jX p1 p2 [(7,i64 zk)]),dc p0 []⟩->q s:=by
  intro zk t s i;subst o;refine h _ (AG i (AE λA j=>?_));refine CG 9 (by kernel_rfl) (by kernel_rfl) (by rfl) ?_;iterate 7 refine yq tb rfl ?_
  refine bs h0 λc k h0=>?_;refine BV (v:=Ha c) AN (hb 109) (BJ.wk (TS vU k) (by refine Wk.trans (Wk.BZ (L:=[(0,Ha c)]) (st':=[D1]) (id:=0) rfl tM (Ai Aa) ⟨.BZ AA,oz⟩ AA) ?_;exact AM [] AA AA .nil (.same AA))) rfl AA AA ?_;refine yz (.agg [i64 p0.op,i64 zk,Ha c]) (DK R3 R6 Dd AA AA) rfl (Av (Bx BI AA (dn j AA ?_)));cases h0;exact Am ⟨_,Wk.refl _ _,FY (.tmp 6) [i64 p0.op,i64 zk,Ha c] BI AA _ AA⟩
 refine AE λu l=>bs b λd e b=>?_;have f:∀n,d=n->∀s,Wk 0 s ⟨30,AP (jX p1 p2 [(7,i64 p0.num),(17,.bool n)]),dc p0 []⟩->u s:=by
  intro n t s i;subst d;refine l _ (AG i ?_);refine ci b AA ?_ ?_<;>intro y b
  .exact AF AA (Ac 4 AA (AB (p (Sh.w (p0.num+p2)) (AS b) _ Aq)))
  .exact AH (p p0.num (AS b) _ Aq)
 refine AF AA (Ac 4 AA ?_);rcases Sh.Ae e with ⟨a,e⟩|⟨a,e⟩
 .exact Ay a AA (Ay a AA (Ay a AA (zt a AA (AB (f (decide (p1<=p0.num)) (AS e) _ Aq)))))
 .exact zs a AA (zs a AA (zs a AA (zf a AA (AB (f false (AS e) _ Aq)))))
theorem VN {N:Nat}:∀(n:Nat),∀{p0:AD} {p1:Int} {p2:Int} {r:AD},HQ N n p0 p1 p2=some r->Bf 77 (Z5 p0 p1 p2) [] (Bd r) []:=by
 intro n
 induction n with
 |zero=>intro p0 p1 p2 r a;cases a
 |succ n ih=>
  intro p0 p1 p2 r a;rw[HQ]at a;exact VK (λh=>ih h) a
theorem Qy {N:Nat}:∀{p0:AD} {p1:Int} {p2:Int} {r:AD},MH N p0 p1 p2=some r->Bf 77 (Z5 p0 p1 p2) [] (Bd r) []:=by
 intro p0 p1 p2 r a;exact VN N a
theorem Yf {N:Nat}{p0:List AD}{p1:AD}{p2:Int}{r:AD}(h0:Ni N p0 p1 p2=some r):Bf 76 [Ha p0,Bd p1,i64 p2] [] (Bd r) []:=by
 unfold Ni at h0;refine Ci AA (ai Tryz.func76 AA AA AA AA (sr AA λK u=>Ee 0 AA (DL 1 Dd AA (dn u AA (sr AA λM y=>AT AA (DL 2 Dd AA (Bx BI AA (dn y AA (AE λE z=>?_)))))))));refine sr AA λO A=>AT AA (CY AA (Ac 2 AA (dn A AA (bs h0 λh a h0=>?_))));have B:∀i b c,h=(i,b,c)->∀s,Wk 0 s ⟨28,AP [(6,BG),(7,CM)],[jd,Mm i b c]⟩->E s:=by
  rintro i b c rfl s F;refine z _ (AG F (sr AA λG j=>AT AA (Bx BI AA (dn j AA ?_))));cases h0;exact Am ⟨_,Wk.refl _ _,FY (.tmp 6) (Tz i b c) BI AA _ AA⟩
 refine AL (An (σ:=Int×Int×Int×(List AD)) (λn v=>HS N p0 p2 n v.1 v.2.1 v.2.2.1 v.2.2.2=some h) (λ(t,e,f,g)=>⟨28,AP [(0,ls Ar p0),(2,i64 p2),(6,.ptr 0 0 0 0),(7,.ptr 1 0 0 0),(8,i64 t)],[jd,Mm e f g]⟩) N (Sh.w ((Sh.len p0)-1),p1.op,p1.num,p1.kids) a (AM [1,2] AA AA (.w (.w .nil)) (.same AA)) (λ_ D=>by rw[HS]at D;cases D) ?_);rintro n ⟨t,e,f,g⟩ a;rw[HS]at a;refine AE λH k=>Ap AA ?_;refine ci a AA ?_ ?_<;>intro I a
 .refine AH (k _ (AE λJ o=>AL ?_));refine CG 8 (by kernel_rfl) (by kernel_rfl) (by rfl) ?_;iterate 2 refine yq tb rfl ?_
  refine bs a λC p a=>yz (EP C) (Cb Ba AA AA p (Af _) rfl) rfl ?_;iterate 3 refine yq tb rfl ?_
  refine bs a λd q a=>BV (v:=Bd d) AN (hb 77) (Qy q) rfl AA AA (yq tb AA (Av ?_));refine CC 2 [d,AD.mk e f g] Ar Ba (by simp only[List.map,Af];rfl) ?_;refine zz (.agg [i64 13,i64 0,ow 2 0 [d,AD.mk e f g]]) (DK R3 R6 Dd AA AA) rfl (As (Wk.BZ (L:=[(0,Ha p0),(2,i64 p2),(6,BG),(7,CM),(8,i64 t),(26,.agg [i64 13,i64 0,ls Ar [d,AD.mk e f g]])]) (st':=[jd,Mm e f g,D1]) (id:=2) rfl (show 0<=2 by decide) (Ai Aa) ⟨.rfl,.rfl,.rfl,.rfl,.rfl,.agg ⟨.rfl,.rfl,.IF AA,oz⟩,oz⟩ AA) (Bx BI AA (dn o AA (AF AA (Ac 3 AA ?_)))));exact AB (xi (Sh.w (t-1),13,0,[d,AD.mk e f g]) a (AM [0,1] AA AA (.w (.w .nil)) (.same AA)))
 .exact Au (B e f g (AS a) _ Aq)
theorem UP {N:Nat}{uY:AJ->Int->AD->Int->Option (AD)}(xF :∀{p0:AJ} {p1:Int} {p2:AD} {p3:Int} {r:AD},uY p0 p1 p2 p3=some r->Bf 46 [KT p0,i64 p1,Bd p2,i64 p3] [] (Bd r) []){p0:AJ}{p1:Int}{p2:AD}{p3:Int}{r:AD}(h0:Lg N uY p0 p1 p2 p3=some r):Bf 46 [KT p0,i64 p1,Bd p2,i64 p3] [] (Bd r) []:=by
 unfold Lg at h0;refine Ci AA (ai Tryz.func46 AA AA AA AA (sr AA λK1 H=>Ee 0 AA (Ee 1 AA (DL 2 Dd AA (dn H AA (sr AA λK2 I=>?_))))));refine CC 3 ([]:List AD) Ar Ba (by simp only[List.map,Af];rfl) ?_;refine AT AA (dn I AA (AE λT J=>Ap AA (bs h0 λK a h0=>?_)));have U:∀c,K=c->∀s,Wk 0 s ⟨61,AP [(1,i64 p1),(3,i64 p3),(4,BG),(6,CM),(8,CV),(9,ow 3 0 c)],((Cx p0.decls p0.funcs)::dc p2 [G4 c])⟩->T s:=by
  intro c V s M;subst K;refine J _ (AG M (AE λK9 O=>AE λP h=>bs h0 λi a h0=>?_));have j:∀d,i=d->∀s,Wk 0 s ⟨61,AP [(1,i64 p1),(3,i64 p3),(4,BG),(6,CM),(8,CV),(9,ow 3 0 c),(43,.bool d)],((Cx p0.decls p0.funcs)::dc p2 [G4 c])⟩->P s:=by
   intro d V s M;subst i;refine h _ (AG M ?_);refine ci h0 AA ?_ ?_<;>intro W h0
   .refine sr AA λX k=>Ac 4 AA (bs h0 λY o h0=>zx Ck o AA AA AA (Ac 3 AA (bs h0 λp q h0=>D0 (Bd p) (hb 77) (Qy q) rfl (AT AA (As (Wk.BZ (L:=[(8,CV),(44,Ha c),(52,Bd p),(53,i64 p3)]) (st':=((Cx p0.decls p0.funcs)::dc p2 [D1])) (id:=3) rfl th (Ai Aa) ⟨.rfl,.BZ AA,.rfl,.rfl,oz⟩ AA) (bs h0 λe t h0=>D0 (Bd e) (hb 76) (Yf t) rfl (Bx BI AA ?_)))))));refine dn k AA ?_;obtain rfl:=Sh.BU h0;exact Am (Exists.intro _ (And.intro (Wk.refl _ _) (FY (.tmp 8) (LZ e) BI AA _ AA)))
   .refine AH (O _ (sr AA λZ u=>Ac 5 AA (zz (.agg [i64 p2.op,i64 p2.num,ow 3 0 c]) (DK R3 R6 Dd AA AA) rfl (As (Wk.BZ (L:=[(8,CV),(60,.agg (iR p2 c))]) (st':=((Cx p0.decls p0.funcs)::dc p2 [D1])) (id:=3) rfl th (Ai Aa) ⟨.rfl,.agg ⟨.rfl,.rfl,.IF AA,oz⟩,oz⟩ AA) (Bx BI AA (dn u AA ?_))))));cases h0;exact Am ⟨_,Wk.refl _ _,FY (.tmp 8) (iR p2 c) BI AA _ AA⟩
  refine AF AA (Ac 4 AA ?_);rcases Sh.Ae a with ⟨b,a⟩|⟨b,a⟩
  .refine Ay b AA ?_;iterate 3 refine Ay b rfl ?_
   exact zt b AA (AB (j (decide (p2.num=p1)) (AS a) _ Aq))
  .refine zs b AA ?_;iterate 3 refine zs b rfl ?_
   exact zf b AA (AB (j false (AS a) _ Aq))
 refine AL (An (σ:=Int×(List AD)) (λn v=>E0 N p0 p1 p2 p3 uY n v.1 v.2=some K) (λ(F,G)=>⟨61,AP [(1,i64 p1),(3,i64 p3),(4,.ptr 0 0 0 0),(6,.ptr 1 0 0 0),(8,.ptr 2 0 0 0),(9,ow 3 0 G),(10,i64 F)],[Cx p0.decls p0.funcs,Mm p2.op p2.num p2.kids,jd,ro 0 35 3 Ar G]⟩) N (0,[]) a Aq (λ_ S=>by rw[E0]at S;cases S) ?_);rintro n ⟨F,G⟩ a;rw[E0]at a;refine AE λb0 y=>sr AA λb1 z=>Ac 3 AA (CY AA (AT AA (dn z AA ?_)));refine ci a AA ?_ ?_<;>intro b2 a
 .refine AH (y _ (AE λb3 A=>AL ?_));refine CG 15 (by kernel_rfl) (by kernel_rfl) (by rfl) ?_;iterate 6 refine yq tb rfl ?_
  refine bs a λQ B a=>yz (EP Q) (Cb Ba AA AA B (Af _) rfl) rfl ?_;iterate 5 refine yq tb rfl ?_
  refine bs a λR C a=>BV (v:=i64 R) AN (hb 67) (U7 C) rfl AA AA (bs a λf D a=>BV (v:=Bd f) AN (hb 46) (xF D) rfl AA AA ?_);refine Gr (l:=[f]) (enc:=Ar) AN Ba (by decide) rfl AA AA (by simp only[List.map,Af];rfl) rfl (Ai Aa) ?_;exact Av (bs a λg E a=>Ct (l2:=[f]) AN Ba AA AA AA AA Mk DV E AA (AT AA (dn A AA (AF AA (Ac 3 AA (AB (xi (Sh.w (F+1),g) a (Da (L:=[(1,i64 p1),(3,i64 p3),(4,BG),(6,CM),(8,CV),(9,ow 3 0 g),(10,Kt F)]) (st':=((Cx p0.decls p0.funcs)::dc p2 [G4 g])) (.raw AA AA (.raw AA AA (.raw AA AA (.pure (Ai Aa) .nil)))) (.same AA)))))))))
 .exact Au (U G (AS a) _ Aq)
theorem Tq {N:Nat}:∀(n:Nat),∀{p0:AJ} {p1:Int} {p2:AD} {p3:Int} {r:AD},GV N n p0 p1 p2 p3=some r->Bf 46 [KT p0,i64 p1,Bd p2,i64 p3] [] (Bd r) []:=by
 intro n
 induction n with
 |zero=>intro p0 p1 p2 p3 r a;cases a
 |succ n ih=>
  intro p0 p1 p2 p3 r a;rw[GV]at a;exact UP (λh=>ih h) a
theorem Wh {N:Nat}:∀{p0:AJ} {p1:Int} {p2:AD} {p3:Int} {r:AD},PR N p0 p1 p2 p3=some r->Bf 46 [KT p0,i64 p1,Bd p2,i64 p3] [] (Bd r) []:=by
 intro p0 p1 p2 p3 r a;exact Tq N a
theorem S9 {N:Nat}{p0 r:List AK}(h0:I4 N p0=some r):Bf 61 [D5 p0] [] (ow 0 0 r) [I5 r]:=by
 unfold I4 at h0;refine ai Tryz.func61 AA AA AA AA (Ap AA (sr AA λK2 K=>?_));refine CC 0 ([]:List AK) Ah DI AA ?_;refine AT AA (dn K AA (AE λT M=>Ap AA (bs h0 λO c h0=>?_)));have U:∀t,O=t->∀s,Wk 0 s ⟨55,AP [(3,ow 0 0 t)],[I5 t]⟩->T s:=by
  intro t V s P;subst O;try dsimp only at h0
  refine M _ (AG P (Ap AA ?_));obtain rfl:=Sh.BU h0;exact rt [(2,ow 0 0 t)]
 refine AL (An (σ:=Int×(List AK)) (λn v=>FE N p0 n v.1 v.2=some O) (λ(i,d)=>⟨55,AP [(0,ls Ah p0),(3,ow 0 0 d),(4,i64 i)],[ro 0 80 3 Ah d]⟩) N (0,[]) c Aq (λ_ u=>by rw[FE]at u;cases u) ?_);rintro n ⟨i,d⟩ c;rw[FE]at c;refine AE λW y=>sr AA λX z=>Ac 2 AA (CY AA (AT AA (dn z AA ?_)));refine ci c AA ?_ ?_<;>intro Y c
 .refine AH (y _ (AE λZ A=>AL (sr AA λb0 B=>?_)));refine CC 1 ([]:List D7) CL JZ AA ?_;refine AT AA (dn B AA (AE λQ C=>Ap AA (bs c λo a c=>?_)));have R:∀b,o=b->∀s,Wk 0 s ⟨55,AP [(0,D5 p0),(3,ow 0 0 d),(4,i64 i),(5,ow 1 0 b)],[I5 d,ro 0 82 1 CL b]⟩->Q s:=by
   intro b V s P;subst o;refine C _ (AG P (AG (Wk.BZ (L:=[(0,D5 p0),(3,ow 0 0 d),(4,i64 i),(5,ls CL b)]) (st':=[I5 d,Mn]) (id:=1) rfl tV Bn ⟨.rfl,.rfl,.rfl,.BZ AA,oz⟩ AA) ?_));refine CG 14 (by kernel_rfl) (by kernel_rfl) (by rfl) ?_;iterate 3 refine yq tb rfl ?_
   refine bs c λe j c=>yx DI j AA AA AA ?_;iterate 4 refine yq tb rfl ?_
   refine yx DI j AA AA AA ?_;iterate 3 refine yq tb rfl ?_
   refine yz (.agg [i64 e.from_,i64 e.to,ls CL b]) (DK Mj Ml HV AA AA) rfl ?_;refine Gr (l:=[AK.mk e.from_ e.to b]) (enc:=Ah) AN DI (by decide) rfl AA AA AA AA Bn ?_;refine Av (bs c λp D c=>Ct (l2:=[AK.mk e.from_ e.to b]) AN DI AA AA AA AA Mk (λ_=>AA) D AA (AT AA (dn A AA (AF AA (Ac 3 AA ?_)))));exact AB (xi (Sh.w (i+1),p) c (by refine Wk.trans (Da (L:=[(0,D5 p0),(3,ow 0 0 p),(4,Kt i)]) (st':=[I5 p,⟨0,82,1,[]⟩]) (.pure Bn (.pure (by intro x S;cases S) .nil)) (.same AA)) ?_;exact AM [0] AA AA (.p .nil) (.same AA)))
  refine AL (An (σ:=Int×(List D7)) (λn v=>EY i p0 n v.1 v.2=some o) (λ(h,f)=>⟨55,AP [(0,ls Ah p0),(3,ow 0 0 d),(4,i64 i),(5,ow 1 0 f),(6,i64 h)],[ro 0 80 3 Ah d,ro 0 82 1 CL f]⟩) N (0,[]) a Aq (λ_ u=>by rw[EY]at u;cases u) ?_);rintro n ⟨h,f⟩ a;rw[EY]at a;refine AE λb1 E=>sr AA λb2 F=>Ac 3 AA (bs a λb3 k a=>zx DI k AA AA AA (Ac 2 AA (CY AA (AT AA (dn F AA ?_)))));refine ci a AA ?_ ?_<;>intro b4 a
  .refine AH (E _ (AE λb5 G=>AL (AF AA (Ac 3 AA (zx DI k AA AA AA (Ac 3 AA (bs a λb6 H a=>zx JZ H AA AA AA (Ac 2 AA (bs a λg I a=>Bo (v':=ow 2 0 g) AN (hb 62) (Lk I) rfl AA ⟨(Bq λ_=>AA),oz⟩ AA AA ?_)))))))));refine zz (.agg [ow 2 0 g]) (DK kU kT SB AA AA) rfl (EU [(0,D5 p0),(3,ow 0 0 d),(4,i64 i),(6,i64 h),(25,ow 1 0 f),(36,.agg [ls eI g])] [I5 d,ro 0 82 1 CL f,⟨1,3,1,[]⟩] 2 AA ⟨.rfl,.rfl,.rfl,.rfl,.rfl,.agg ⟨.IF AA,oz⟩,oz⟩ (λ_=>AA) rfl ?_);refine CC 3 [D7.mk g] CL JZ AA ?_;refine bs a λq J a=>Ct (l2:=[D7.mk g]) AN JZ AA AA AA AA (HD AA AA) (λ_=>AA) J AA (AT AA (dn G AA (AF AA (Ac 3 AA ?_))));exact AB (xi (Sh.w (h+1),q) a (by refine Wk.trans (Da (L:=[(0,D5 p0),(3,ow 0 0 d),(4,i64 i),(5,ow 1 0 q),(6,Kt h)]) (st':=[I5 d,ro 0 82 1 CL q,⟨0,3,1,[]⟩,ro 0 82 1 CL [D7.mk g]]) (.pure Bn (.pure Bn (.pure (by intro x S;cases S) (.pure Bn .nil)))) (.same AA)) ?_;exact AM [0,1] AA AA (.p (.p .nil)) (.same AA)))
  .exact Au (R f (AS a) _ Aq)
 .exact Au (U d (AS c) _ Aq)
theorem Rw {N:Nat}{p0 r:AD}(h0:Ic N p0=some r):Bf 63 [Bd p0] [] (Bd r) []:=by
 unfold Ic at h0;refine Ci AA (ai Tryz.func63 AA AA AA AA (sr AA λe b=>Ee 0 AA (DL 1 Dd AA (dn b AA (AE λf c=>?_)))));refine CG 8 (by kernel_rfl) (by kernel_rfl) (by rfl) ?_;iterate 6 refine yq tb rfl ?_
 refine bs h0 λa d h0=>?_;refine BV (v:=Ha a) AN (hb 60) (BJ.wk (Gm d) (by refine Wk.trans (Wk.BZ (L:=[(0,Ha a)]) (st':=[D1]) (id:=0) rfl tM (Ai Aa) ⟨.BZ AA,oz⟩ AA) ?_;exact AM [] AA AA .nil (.same AA))) rfl AA AA ?_;refine yz (.agg (iR p0 a)) (DK R3 R6 Dd AA AA) rfl (Av (Bx BI AA (dn c AA ?_)));cases h0;exact Am ⟨_,Wk.refl _ _,FY (.tmp 2) (iR p0 a) BI AA _ AA⟩
theorem Rl {N:Nat}{p0:AJ}{p1:List AD}{r:AJ×Bool}(h0:IW N p0 p1=some r):Bf 31 [KT p0,Ha p1] [] (lF r.1.decls r.1.funcs r.2) []:=by
 unfold IW at h0;refine Ci AA (ai Tryz.func31 AA AA AA AA (sr AA λK1 F=>Ee 0 AA (DL 1 Is AA (AT AA (dn F AA (sr AA λK2 G=>Ac 2 AA (bs h0 λb H h0=>Bo (v':=ow 2 0 b) AN (hb 61) (S9 H) rfl AA ⟨(Bq λ_=>AA),oz⟩ AA AA ?_)))))));refine CC 3 ([]:List AU) BP Ck AA ?_;refine zz (.agg [ow 2 0 b,.own 3 0 (List.length ([]:List AU))]) (DK Xn YD Is AA AA) rfl (DL 4 Is AA (EU [(1,Ha p1),(2,BG),(4,CM),(6,I0),(12,.agg [D5 b,.own 3 0 (List.length ([]:List AU))])] [Cx p0.decls p0.funcs,JV,OI,ro 0 37 5 BP ([]:List AU),JV] 2 AA ⟨.rfl,.rfl,.rfl,.rfl,.agg ⟨.IF AA,.rfl,oz⟩,oz⟩ (λ_=>AA) rfl (Bx Dz AA (dn G AA (AE λM I=>Ap AA ?_)))));obtain⟨J,a,h0⟩:=Sh.Bj h0;have O:∀(f:List AU),J=Sum.inr f->∀s,Wk 0 s ⟨52,AP [(4,BG),(6,CV)],(JV::KC f b [])⟩->M s:=by
  intro f hq s P;subst J;refine I _ (AG P (sr AA λQ k=>AT AA (EU [(4,BG),(51,.agg (Uc b f))] [JV,Ug,dp b f] 1 AA ⟨.rfl,.agg ⟨.rfl,.IF AA,oz⟩,oz⟩ (λ_=>AA) rfl (Bx Dz AA (AT AA (dn k AA ?_))))));cases h0;exact Am ⟨_,(AM (L:=[(4,BG),(5,.bool true)]) (st':=[Cx b f]) [0] AA AA (.w .nil) ⟨.rfl,.rfl,oz⟩).trans (Ag (L:=[(4,BG),(5,.bool true)]) ⟨.rfl,.rfl,oz⟩),FY (.tmp 4) (Uc b f) Dz AA _ AA⟩
 refine AL (An (σ:=Int×(List AU)) (λn v=>EF N p0 p1 n v.1 v.2=some J) (λ(E,d)=>⟨52,AP [(1,ls Ar p1),(2,.ptr 0 0 0 0),(4,.ptr 1 0 0 0),(6,.ptr 3 0 0 0),(7,i64 E)],[Cx p0.decls p0.funcs,JV,ro 0 37 5 BP d,⟨0,26,2,[[ls Ah b,ow 2 0 d]]⟩]⟩) N (0,[]) a (Ef (L:=[(1,ls Ar p1),(2,.ptr 0 0 0 0),(4,.ptr 1 0 0 0),(6,.ptr 3 0 0 0),(7,i64 0)]) (st':=[Cx p0.decls p0.funcs,JV,ro 0 37 5 BP ([]:List AU),⟨0,26,2,[[ls Ah b,.own 2 0 (List.length ([]:List AU))]]⟩]) (st1:=[Cx p0.decls p0.funcs,JV,ro 0 37 5 BP ([]:List AU),⟨0,26,2,[[ls Ah b,.own 3 0 (List.length ([]:List AU))]]⟩]) [0,1,3,4] AA AA (.w (.w (.p (.w .nil)))) (.same AA)) (λ_ K=>by rw[EF]at K;cases K) ?_);rintro n ⟨E,d⟩ a;rw[EF]at a;refine AE λR o=>sr AA λS p=>Ac 3 AA (CY AA (AT AA (dn p AA ?_)));refine ci a AA ?_ ?_<;>intro T a
 .refine AH (o _ (AE λU q=>AL (AE λV t=>sr AA λW u=>Ac 2 AA (bs a λy g a=>zz (EP y) (Cb Ba AA AA g (Af _) rfl) rfl (AT AA (bs a λX z a=>G5 (hb 58) (KA z) rfl (AT AA ?_)))))));refine dn u AA ?_;refine ci a AA ?_ ?_<;>intro Y a
  .refine sr AA λZ A=>zz (.agg [.zc,.zc]) (DK Xn YD Is AA AA) rfl (Bx Dz AA (AT AA (dn A AA ?_)));cases a;cases h0;exact Am ⟨_,(((HN (id:=1) (cs:=[.zc,.zc]) (cs':=aA) (st':=[Cx p0.decls p0.funcs,⟨0,26,2,[aA]⟩,ML d,gK b d]) rfl ⟨le.zc,le.rfl,oz⟩ AA AA).trans (HN (id:=1) (cs:=aA) (cs':=dS) (st':=[Cx p0.decls p0.funcs,gO,ML d,gK b d]) rfl ⟨le.rfl,le.zc,oz⟩ AA AA)).trans (AM (L:=eZ []) (st':=[gO]) [1] AA AA (.w .nil) ⟨.rfl,.rfl,oz⟩)).trans (Ag (L:=eZ []) ⟨.rfl,.rfl,oz⟩),FY (.tmp 4) dS Dz AA _ AA⟩
  .refine AH (t _ ?_);refine CG 22 (by kernel_rfl) (by kernel_rfl) (by rfl) ?_;iterate 5 refine yq tb rfl ?_
   refine bs a λi h a=>yx Ck h AA AA AA ?_;iterate 2 refine yq tb rfl ?_
   refine bs a λe B a=>?_;refine BV (v:=ls eI e) AN (hb 62) (BJ.wk (Lk B) (by refine Wk.trans (Wk.BZ (L:=[(0,ls eI e)]) (st':=TV) (id:=0) rfl tM Bn ⟨.BZ AA,oz⟩ AA) ?_;exact AM [] AA AA .nil (.same AA))) rfl AA AA ?_;iterate 3 refine yq tb rfl ?_
   refine yx Ck h AA AA AA ?_;iterate 4 refine yq tb rfl ?_
   refine yz (EP y) (Cb Ba AA AA g (Af _) rfl) rfl (yq tb AA (bs a λc C a=>BV (v:=Bd c) AN (hb 63) (Rw C) rfl AA AA (yz (.agg [ls eI e,i64 i.result,i64 c.op,i64 c.num,aj c]) (DK Vq Ve MQ AA AA) rfl ?_)));refine Gr (l:=[AU.mk e i.result c]) (enc:=BP) AN Ck (by decide) rfl AA AA AA AA Bn ?_;exact Av (bs a λj D a=>Ct (l2:=[AU.mk e i.result c]) AN Ck AA AA AA AA Mk (λ_=>AA) D AA (AT AA (Bx P1 AA (dn q AA (AF AA (Ac 3 AA (AB (xi (Sh.w (E+1),j) a (Da (L:=[(1,Ha p1),(2,BG),(4,CM),(6,IJ),(7,Kt E)]) (st':=[Cx p0.decls p0.funcs,JV,ML j,gK b j]) (.raw AA AA (.raw AA AA (.pure Bn (.raw AA AA .nil)))) (.same AA))))))))))
 .exact Au (O d (AS a) _ (Ef (L:=[(4,BG),(6,CV)]) (st':=(JV::KC d b [])) (st1:=[JV,ML d,gK b d]) [1,2,3] AA AA (.w (.p (.w .nil))) (.same AA)))
theorem WB {N:Nat}{p0:AJ}{p1:Int}{r:AJ×Bool}(h0:GZ N p0 p1=some r):Bf 20 [KT p0,i64 p1] [] (lF r.1.decls r.1.funcs r.2) []:=by
 unfold GZ at h0;refine Ci AA (ai Tryz.func20 AA AA AA AA (sr AA λK1 B=>Ee 0 AA (DL 1 Is AA (AT AA (dn B AA (AE λK2 C=>AE λQ D=>bs h0 λM a h0=>?_))))));have O:∀E,M=E->∀s,Wk 0 s ⟨50,AP [(1,i64 p1),(2,BG),(4,CM),(16,.bool E)],[Cx p0.decls p0.funcs,JV]⟩->Q s:=by
  intro E R s F;subst M;refine D _ (AG F ?_);refine ci h0 AA ?_ ?_<;>intro b6 h0
  .refine sr AA λK7 G=>zz (.agg [.zc,.zc]) (DK Xn YD Is AA AA) rfl (Bx Dz AA (AT AA (dn G AA ?_)));cases h0;exact Am ⟨_,(((HN (id:=1) (cs:=[.zc,.zc]) (cs':=aA) (st':=[Cx p0.decls p0.funcs,⟨0,26,2,[aA]⟩]) rfl ⟨le.zc,le.rfl,oz⟩ AA AA).trans (HN (id:=1) (cs:=aA) (cs':=dS) (st':=[Cx p0.decls p0.funcs,gO]) rfl ⟨le.rfl,le.zc,oz⟩ AA AA)).trans (AM (L:=eZ []) (st':=[gO]) [1] AA AA (.w .nil) ⟨.rfl,.rfl,oz⟩)).trans (Ag (L:=eZ []) ⟨.rfl,.rfl,oz⟩),FY (.tmp 4) dS Dz AA _ AA⟩
  .refine AH (C _ (sr AA λK8 H=>?_));refine CC 2 ([]:List AD) Ar Ba (by simp only[List.map,Af];rfl) ?_;refine AT AA (dn H AA (AE λS I=>Ap AA (bs h0 λh a h0=>?_)));have J:∀d,h=d->∀s,Wk 0 s ⟨50,AP [(2,BG),(4,CM),(6,ow 2 0 d)],[Cx p0.decls p0.funcs,JV,G4 d]⟩->S s:=by
    intro d R s F;subst h;refine I _ (AG F (sr AA λT k=>Ac 2 AA (As (Wk.BZ (L:=[(4,CM),(45,KT p0),(46,Ha d)]) (st':=[Cx p0.decls p0.funcs,JV,D1]) (id:=2) rfl (show 0<=2 by decide) (Ai Aa) ⟨.rfl,.rfl,.BZ AA,oz⟩ AA) (bs h0 λb o h0=>D0 (lF b.1.decls b.1.funcs b.2) (hb 31) (Rl o) rfl (Ac 2 AA (Bx Dz AA (AT AA (dn k AA ?_))))))));cases h0;exact Am ⟨_,(AM (L:=[(4,BG),(5,.bool b.2)]) (st':=[Cx b.1.decls b.1.funcs]) [1] AA AA (.w .nil) ⟨.rfl,.rfl,oz⟩).trans (Ag (L:=[(4,BG),(5,.bool b.2)]) ⟨.rfl,.rfl,oz⟩),FY (.tmp 4) (Uc b.1.decls b.1.funcs) Dz AA _ AA⟩
   refine AL (An (σ:=Int×(List AD)) (λn v=>F9 N p0 p1 n v.1 v.2=some h) (λ(e,f)=>⟨50,AP [(1,i64 p1),(2,.ptr 0 0 0 0),(4,.ptr 1 0 0 0),(6,ow 2 0 f),(7,i64 e)],[Cx p0.decls p0.funcs,JV,ro 0 35 3 Ar f]⟩) N (0,[]) a Aq (λ_ P=>by rw[F9]at P;cases P) ?_);rintro n ⟨e,f⟩ a;rw[F9]at a;refine AE λU p=>sr AA λV q=>Ac 3 AA (CY AA (AT AA (dn q AA ?_)));refine ci a AA ?_ ?_<;>intro W a
   .refine AH (p _ (AE λX t=>AL ?_));refine CG 18 (by kernel_rfl) (by kernel_rfl) (by rfl) ?_;iterate 6 refine yq tb rfl ?_
    refine bs a λY g a=>yx Ck g AA AA AA ?_;iterate 5 refine yq tb rfl ?_
    refine yx Ck g AA AA AA ?_;iterate 2 refine yq tb rfl ?_
    refine yl tb AA AA (bs a λi u a=>BV (v:=Bd i) AN (hb 46) (Wh u) rfl AA AA ?_);refine Gr (l:=[i]) (enc:=Ar) AN Ba (by decide) rfl AA AA (by simp only[List.map,Af];rfl) rfl (Ai Aa) ?_;exact Av (bs a λj y a=>Ct (l2:=[i]) AN Ba AA AA AA AA Mk DV y AA (AT AA (dn t AA (AF AA (Ac 3 AA (AB (xi (Sh.w (e+1),j) a (Da (L:=[(1,i64 p1),(2,BG),(4,CM),(6,ow 2 0 j),(7,Kt e)]) (st':=[Cx p0.decls p0.funcs,JV,G4 j]) (.raw AA AA (.raw AA AA (.pure (Ai Aa) .nil))) (.same AA)))))))))
   .exact Au (J f (AS a) _ Aq)
 refine AF AA (AT AA (bs a λZ z a=>G5 (hb 29) (QE z) rfl (Ac 2 AA ?_)));rcases Sh.Ae a with ⟨c,a⟩|⟨c,a⟩
 .refine zs c AA ?_;iterate 3 refine zs c rfl ?_
  exact zt c AA (AB (O true (AS a) _ Aq))
 .exact Ay c AA (Ay c AA (bs a λK A a=>zd c (hb 45) (S7 A) rfl AA AA AA (Ay c AA (zf c AA (AB (O (!K) (AS a) _ Aq))))))
theorem Nk {N:Nat}{p0 p1:List Int}{r:Bool}(h0:Hq N p0 p1=some r):Bf 21 [ls eI p0,ls eI p1] [] (.bool r) []:=by
 unfold Hq at h0;refine ai Tryz.func21 AA AA AA AA (Ap AA (AE λG m=>sr AA λH o=>AT AA (CY AA (AT AA (CY AA (AT AA (dn o AA ?_)))))));refine ci h0 AA ?_ ?_<;>intro t h0
 .have I:decide ((Sh.len p0)=Sh.len p1)=false:=by simpa using t
  refine Ap AA ?_;cases h0;exact rt [(4,.bool false)]
 .have J:decide ((Sh.len p0)=Sh.len p1)=true:=by simpa using t
  refine AH (m _ (AE λx p=>Ap AA ?_));obtain⟨b,a,h0⟩:=Sh.Bj h0;have q:∀(_:Unit),b=Sum.inr ()->∀s,Wk 0 s ⟨26,AP [],[]⟩->x s:=by
   intro _ K s y;subst b;refine p _ (AG y (Ap AA ?_));cases h0;exact rt [(4,.bool true)]
  refine AL (An (σ:=Int) (λn v=>EW p0 p1 n v=some b) (λc=>⟨26,AP [(0,ls eI p0),(1,ls eI p1),(5,i64 c)],[]⟩) N 0 a Aq (λ_ u=>by rw[EW]at u;cases u) ?_);rintro n c a;rw[EW]at a;refine AE λz d=>sr AA λA e=>Ac 2 AA (CY AA (AT AA (dn e AA ?_)));refine ci a AA ?_ ?_<;>intro B a
  .refine AH (d _ (AE λC f=>AL (AE λD g=>?_)));refine Cc (by kernel_rfl) (by kernel_rfl) (by rfl) ?_;iterate 2 refine yq tb rfl ?_
   refine bs a λh i a=>yx BF i AA AA AA ?_;iterate 3 refine yq tb rfl ?_
   refine bs a λj k a=>yx BF k AA AA AA ?_;iterate 2 refine yq tb rfl ?_
   refine Av (g _ ?_);refine ci a AA ?_ ?_<;>intro l a
   .have E:decide (h=j)=false:=by simpa using l
    refine Ap AA ?_;cases a;cases h0;exact rt [(4,.bool false)]
   .have F:decide (h=j)=true:=by simpa using l
    exact AH (f _ (AF AA (Ac 3 AA (AB (xi (Sh.w (c+1)) a Aq)))))
  .exact Au (q () (AS a) _ Aq)
theorem Rx {N:Nat}{p0 p1:List AK}{r:Bool}(h0:Ih N p0 p1=some r):Bf 32 [D5 p0,D5 p1] [] (.bool r) []:=by
 unfold Ih at h0;refine ai Tryz.func32 AA AA AA AA (Ap AA (AE λK2 M=>sr AA λK3 O=>AT AA (CY AA (AT AA (CY AA (AT AA (dn O AA ?_)))))));refine ci h0 AA ?_ ?_<;>intro U h0
 .have b5:decide ((Sh.len p0)=Sh.len p1)=false:=by simpa using U
  refine Ap AA ?_;cases h0;exact rt [(4,.bool false)]
 .have b7:decide ((Sh.len p0)=Sh.len p1)=true:=by simpa using U
  refine AH (M _ (AE λW P=>Ap AA ?_));obtain⟨k,d,h0⟩:=Sh.Bj h0;have Q:∀(_:Unit),k=Sum.inr ()->∀s,Wk 0 s ⟨87,AP [],[]⟩->W s:=by
   intro _ V s t;subst k;refine P _ (AG t (Ap AA ?_));cases h0;exact rt [(4,.bool true)]
  refine AL (An (σ:=Int) (λn v=>EA N p0 p1 n v=some k) (λe=>⟨87,AP [(0,ls Ah p0),(1,ls Ah p1),(5,i64 e)],[]⟩) N 0 d Aq (λ_ u=>by rw[EA]at u;cases u) ?_);rintro n e d;rw[EA]at d;refine AE λX x=>sr AA λY y=>Ac 2 AA (CY AA (AT AA (dn y AA ?_)));refine ci d AA ?_ ?_<;>intro Z d
  .refine AH (x _ (AE λR z=>AL (AE λb0 A=>AE λS B=>bs d λC a d=>?_)));have l:∀m,C=m->∀s,Wk 0 s ⟨87,AP [(0,D5 p0),(1,D5 p1),(5,i64 e),(56,.bool m)],[]⟩->S s:=by
    intro m V s t;subst C;refine B _ (AG t ?_);refine ci d AA ?_ ?_<;>intro b1 d
    .refine Ap AA ?_;cases d;cases h0;exact rt [(4,.bool false)]
    .refine AH (A _ (Ap AA ?_));obtain⟨o,a,d⟩:=Sh.Bj d;have T:∀(_:Unit),o=Sum.inr ()->∀s,Wk 0 s ⟨87,AP [(0,D5 p0),(1,D5 p1),(5,i64 e)],[]⟩->R s:=by
      intro _ V s t;subst o;exact z _ (AG t (AF AA (Ac 3 AA (AB (xi (Sh.w (e+1)) d Aq)))))
     refine AL (An (σ:=Int) (λn v=>EC N e p0 p1 n v=some o) (λp=>⟨87,AP [(0,ls Ah p0),(1,ls Ah p1),(5,i64 e),(6,i64 p)],[]⟩) N 0 a Aq (λ_ u=>by rw[EC]at u;cases u) ?_);rintro n p a;rw[EC]at a;refine AE λb2 D=>sr AA λb3 E=>Ac 3 AA (bs a λb6 j a=>zx DI j AA AA AA (Ac 2 AA (CY AA (AT AA (dn E AA ?_)))));refine ci a AA ?_ ?_<;>intro b8 a
     .refine AH (D _ (AE λb9 F=>AL (AE λc0 G=>?_)));refine Cc (by kernel_rfl) (by kernel_rfl) (by rfl) ?_;iterate 2 refine yq tb rfl ?_
      refine yx DI j AA AA AA ?_;iterate 3 refine yq tb rfl ?_
      refine bs a λc1 H a=>yx JZ H AA AA AA ?_;iterate 4 refine yq tb rfl ?_
      refine bs a λc2 I a=>yx DI I AA AA AA ?_;iterate 3 refine yq tb rfl ?_
      refine bs a λc3 J a=>yx JZ J AA AA AA ?_;iterate 2 refine yq tb rfl ?_
      refine bs a λq K a=>BV (v:=.bool q) AN (hb 21) (Nk K) rfl AA AA (yq tb AA (Av (G _ ?_)));refine ci a AA ?_ ?_<;>intro L a
      .have c4:q=false:=by simpa using L
       refine Ap AA ?_;cases a;cases d;cases h0;exact rt [(4,.bool false)]
      .have c5:q=true:=by simpa using L
       exact AH (F _ (AF AA (Ac 3 AA (AB (xi (Sh.w (p+1)) a Aq)))))
     .exact Au (T () (AS a) _ Aq)
   refine Cc (by kernel_rfl) (by kernel_rfl) (by rfl) ?_;iterate 2 refine yq tb rfl ?_
   refine bs a λh f a=>yx DI f AA AA AA ?_;iterate 4 refine yq tb rfl ?_
   refine bs a λi g a=>yx DI g AA AA AA ?_;iterate 4 refine yq tb rfl ?_
   rcases Sh.Ae a with ⟨c,a⟩|⟨c,a⟩
   .refine ys c AA ?_;iterate 10 refine ys c rfl ?_
    refine yt c AA (yq tb AA ?_);iterate 13 refine ys rfl rfl ?_
    exact yt AA AA (Av (l true (AS a) _ Aq))
   .refine yg tb c AA (yg tb c AA (Io (v:=TG h) (CR AA AA c) rfl (CZ DI AA AA f AA) ?_));iterate 4 refine yg tb c rfl ?_
    refine Io (v:=TG i) (CR AA AA c) rfl (CZ DI AA AA g AA) ?_;iterate 3 refine yg tb c rfl ?_
    refine yf c AA (yq tb AA ?_);rcases Sh.Ae a with ⟨b,a⟩|⟨b,a⟩
    .refine ys b AA ?_;iterate 12 refine ys b rfl ?_
     exact yt b AA (Av (l true (AS a) _ Aq))
    .refine yg tb b AA (yg tb b AA (Io (v:=TG h) (CR AA AA b) rfl (CZ DI AA AA f AA) ?_));iterate 2 refine yg tb b rfl ?_
     refine Io (v:=Ym h) (CR AA AA b) rfl (CU Q9 AA) ?_;iterate 2 refine yg tb b rfl ?_
     refine Io (v:=TG i) (CR AA AA b) rfl (CZ DI AA AA g AA) ?_;iterate 2 refine yg tb b rfl ?_
     exact Io (v:=Ym i) (CR AA AA b) rfl (CU Q9 AA) (yg tb b AA (yf b AA (Av (l (!decide ((Sh.len h.cons)=Sh.len i.cons)) (AS a) _ Aq))))
  .exact Au (Q () (AS d) _ Aq)
theorem Qm {N:Nat}{uN:AD->AD->Option (Bool)}(wO :∀{p0:AD} {p1:AD} {r:Bool},uN p0 p1=some r->Bf 33 [Bd p0,Bd p1] [] (.bool r) []){p0 p1:AD}{r:Bool}(h0:Jd N uN p0 p1=some r):Bf 33 [Bd p0,Bd p1] [] (.bool r) []:=by
 unfold Jd at h0;refine ai Tryz.func33 AA AA AA AA (sr AA λR q=>Ee 0 AA (Ee 1 AA (AT AA (dn q AA (AE λS t=>AE λG u=>bs h0 λE a h0=>?_)))));have x:∀y,E=y->∀s,Wk 0 s ⟨46,AP [(2,BG),(3,CM),(26,.bool y)],[Mm p0.op p0.num p0.kids,Mm p1.op p1.num p1.kids]⟩->G s:=by
  intro y H s z;subst E;refine u _ (AG z ?_);refine ci h0 AA ?_ ?_<;>intro T h0
  .refine Ap AA ?_;cases h0;exact rd [(4,.bool false)]
  .refine AH (t _ (AE λI A=>Ap AA ?_));obtain⟨d,a,h0⟩:=Sh.Bj h0;have B:∀(_:Unit),d=Sum.inr ()->∀s,Wk 0 s ⟨46,AP [],[]⟩->I s:=by
    intro _ H s z;subst d;refine A _ (AG z (Ap AA ?_));cases h0;exact rt [(4,.bool true)]
   refine AL (An (σ:=Int) (λn v=>Dl p0 p1 uN n v=some d) (λe=>⟨46,AP [(2,.ptr 0 0 0 0),(3,.ptr 1 0 0 0),(5,i64 e)],[Mm p0.op p0.num p0.kids,Mm p1.op p1.num p1.kids]⟩) N 0 a Aq (λ_ F=>by rw[Dl]at F;cases F) ?_);rintro n e a;rw[Dl]at a;refine AE λJ g=>sr AA λK h=>Ac 3 AA (CY AA (AT AA (dn h AA ?_)));refine ci a AA ?_ ?_<;>intro L a
   .refine AH (g _ (AE λM i=>AL (AE λO j=>?_)));refine Cc (by kernel_rfl) (by kernel_rfl) (by rfl) ?_;iterate 3 refine yq tb rfl ?_
    refine bs a λC k a=>yz (EP C) (Cb Ba AA AA k (Af _) rfl) rfl ?_;iterate 4 refine yq tb rfl ?_
    refine bs a λD l a=>yz (EP D) (Cb Ba AA AA l (Af _) rfl) rfl (yq tb AA (bs a λf o a=>BV (v:=.bool f) AN (hb 33) (wO o) rfl AA AA (yq tb AA (Av (j _ ?_)))));refine ci a AA ?_ ?_<;>intro p a
    .have P:f=false:=by simpa using p
     refine Ap AA ?_;cases a;cases h0;exact rd [(4,.bool false)]
    .have Q:f=true:=by simpa using p
     exact AH (i _ (AF AA (Ac 3 AA (AB (xi (Sh.w (e+1)) a Aq)))))
   .exact Au (B () (AS a) _ (Be _ AA))
 refine AF AA (Ac 6 AA ?_);rcases Sh.Ae a with ⟨c,a⟩|⟨c,a⟩
 .refine zs c AA ?_;iterate 4 refine zs c rfl ?_
  refine zt c AA (AT AA ?_);iterate 7 refine zs rfl rfl ?_
  exact zt AA AA (AB (x true (AS a) _ Aq))
 .refine Ay c AA ?_;iterate 4 refine Ay c rfl ?_
  refine zf c AA (AT AA ?_);rcases Sh.Ae a with ⟨b,a⟩|⟨b,a⟩
  .refine zs b AA ?_;iterate 6 refine zs b rfl ?_
   exact zt b AA (AB (x true (AS a) _ Aq))
  .exact Ay b AA (Ay b AA (BW (v:=bL p0) (CR AA AA b) rfl (CU TD AA) (Ay b AA (Ay b AA (BW (v:=bL p1) (CR AA AA b) rfl (CU TD AA) (Ay b AA (zf b AA (AB (x (!decide ((Sh.len p0.kids)=Sh.len p1.kids)) (AS a) _ Aq)))))))))
theorem Q5 {N:Nat}:∀(n:Nat),∀{p0:AD} {p1:AD} {r:Bool},Fg N n p0 p1=some r->Bf 33 [Bd p0,Bd p1] [] (.bool r) []:=by
 intro n
 induction n with
 |zero=>intro p0 p1 r a;cases a
 |succ n ih=>
  intro p0 p1 r a;rw[Fg]at a;exact Qm (λh=>ih h) a
theorem TA {N:Nat}:∀{p0:AD} {p1:AD} {r:Bool},MW N p0 p1=some r->Bf 33 [Bd p0,Bd p1] [] (.bool r) []:=by
 intro p0 p1 r a;exact Q5 N a
theorem Hj {N:Nat}{p0 p1:AJ}{r:Bool}(h0:FI N p0 p1=some r):Bf 11 [KT p0,KT p1] [] (.bool r) []:=by
 unfold FI at h0;refine ai Tryz.func11 AA AA AA AA (sr AA λY D=>Ee 0 AA (Ee 1 AA (AT AA (dn D AA (AE λZ E=>AE λQ F=>bs h0 λL c h0=>?_)))));have M:∀G,L=G->∀s,Wk 0 s ⟨73,AP [(2,BG),(3,CM),(20,.bool G)],[Cx p0.decls p0.funcs,Cx p1.decls p1.funcs]⟩->Q s:=by
  intro G O s l;subst L;refine F _ (AG l ?_);refine ci h0 AA ?_ ?_<;>intro b6 h0
  .refine Ap AA ?_;cases h0;exact rd [(4,.bool false)]
  .refine AH (E _ (AE λR H=>Ap AA ?_));obtain⟨i,c,h0⟩:=Sh.Bj h0;have I:∀(_:Unit),i=Sum.inr ()->∀s,Wk 0 s ⟨73,AP [],[]⟩->R s:=by
    intro _ O s l;subst i;refine H _ (AG l (Ap AA ?_));cases h0;exact rt [(4,.bool true)]
   refine AL (An (σ:=Int) (λn v=>DU N p0 p1 n v=some i) (λh=>⟨73,AP [(2,.ptr 0 0 0 0),(3,.ptr 1 0 0 0),(5,i64 h)],[Cx p0.decls p0.funcs,Cx p1.decls p1.funcs]⟩) N 0 c Aq (λ_ P=>by rw[DU]at P;cases P) ?_);rintro n h c;rw[DU]at c;refine AE λS o=>sr AA λT p=>Ac 3 AA (CY AA (AT AA (dn p AA ?_)));refine ci c AA ?_ ?_<;>intro U c
   .refine AH (o _ (AE λV q=>AL (AE λJ t=>bs c λu e c=>?_)));have j:∀k,u=k->∀s,Wk 0 s ⟨73,AP [(2,BG),(3,CM),(5,i64 h),(72,.bool k)],[Cx p0.decls p0.funcs,Cx p1.decls p1.funcs]⟩->J s:=by
     intro k O s l;subst u;refine t _ (AG l ?_);refine ci c AA ?_ ?_<;>intro W c
     .refine Ap AA ?_;cases c;cases h0;exact rd [(4,.bool false)]
     .exact AH (q _ (AF AA (Ac 3 AA (AB (xi (Sh.w (h+1)) c Aq)))))
    refine Cc (by kernel_rfl) (by kernel_rfl) (by rfl) ?_;iterate 3 refine yq tb rfl ?_
    refine bs e λx f e=>yx Ck f AA AA AA ?_;iterate 5 refine yq tb rfl ?_
    refine bs e λy g e=>yx Ck g AA AA AA ?_;iterate 2 refine yq tb rfl ?_
    refine bs e λK z e=>BV (v:=.bool K) AN (hb 21) (Nk z) rfl AA AA ?_;iterate 2 refine yq tb rfl ?_
    rcases Sh.Ae e with ⟨d,e⟩|⟨d,e⟩
    .refine ys d AA ?_;iterate 12 refine ys d rfl ?_
     refine yt d AA (yq tb AA ?_);iterate 14 refine ys rfl rfl ?_
     exact yt AA AA (Av (j true (AS e) _ Aq))
    .refine yg tb d AA ?_;iterate 2 refine yg tb d rfl ?_
     refine Io (v:=WX x) (CR AA AA d) rfl (CZ Ck AA AA f AA) ?_;iterate 5 refine yg tb d rfl ?_
     refine Io (v:=WX y) (CR AA AA d) rfl (CZ Ck AA AA g AA) ?_;iterate 3 refine yg tb d rfl ?_
     refine yf d AA (yq tb AA ?_);rcases Sh.Ae e with ⟨a,e⟩|⟨a,e⟩
     .refine ys a AA ?_;iterate 13 refine ys a rfl ?_
      exact yt a AA (Av (j true (AS e) _ Aq))
     .refine yg tb a AA ?_;iterate 2 refine yg tb a rfl ?_
      refine Io (v:=WX x) (CR AA AA a) rfl (CZ Ck AA AA f AA) ?_;iterate 5 refine yg tb a rfl ?_
      refine Io (v:=WX y) (CR AA AA a) rfl (CZ Ck AA AA g AA) ?_;iterate 2 refine yg tb a rfl ?_
      exact bs e λA B e=>BV (v:=.bool A) (CR AA AA a) (hb 33) (TA B) rfl AA AA (yg tb a AA (yf a AA (Av (j (!A) (AS e) _ Aq))))
   .exact Au (I () (AS c) _ (Be _ AA))
 refine AF AA (Ac 4 AA (bs c λX C c=>G5 (hb 32) (Rx C) rfl (Ac 2 AA ?_)));rcases Sh.Ae c with ⟨b,c⟩|⟨b,c⟩
 .refine zs b AA ?_;iterate 6 refine zs b rfl ?_
  exact zt b AA (AB (M true (AS c) _ Aq))
 .exact Ay b AA (Ay b AA (BW (v:=i64 (Sh.len p0.funcs)) (CR AA AA b) rfl (CU Pp AA) (Ay b AA (Ay b AA (BW (v:=i64 (Sh.len p1.funcs)) (CR AA AA b) rfl (CU Pp AA) (Ay b AA (zf b AA (AB (M (!decide ((Sh.len p0.funcs)=Sh.len p1.funcs)) (AS c) _ Aq)))))))))
theorem Qg {tl uA:Int}{p0:AD}{r:Int}(h0:JX tl uA p0=some r):Bf 50 [Bd p0,BG,CM] [DC tl,DC uA] (.C8 []) [DC tl,DC r]:=by
 unfold JX at h0;refine ai Tryz.func50 AA AA AA AA (sr AA λj c=>Ee 2 AA (dn c AA (AE λh d=>bs h0 λf b h0=>?_)));have g:∀e,f=e->∀s,Wk 2 s ⟨15,AP [(2,CM),(12,.bool e)],[DC tl,DC uA]⟩->h s:=by
  intro e k s i;subst f;refine d _ (AG i ?_);refine ci h0 AA ?_ ?_<;>intro l h0
  .refine AF AA (Ac 2 AA (Bx Hy AA ?_));cases h0;exact AB (xr (Ag (L:=[]) oz))
  .cases h0;exact AH (xi _ (Ag (L:=[]) oz) (And.intro AA AA))
 refine AF AA (Ac 4 AA ?_);rcases Sh.Ae b with ⟨a,b⟩|⟨a,b⟩
 .refine Ay a AA ?_;iterate 3 refine Ay a rfl ?_
  refine zt a AA ?_;exact AB (g (decide (p0.num=tl)) (AS b) _ (AM [0,1] AA AA (.w (.w .nil)) (.same AA)))
 .refine zs a AA ?_;iterate 3 refine zs a rfl ?_
  refine zf a AA ?_;exact AB (g false (AS b) _ (AM [0,1] AA AA (.w (.w .nil)) (.same AA)))
theorem WV {N:Nat}{uj:Int->Int->AD->Option (Int×Int)}(xx :∀{tl:Int} {uA:Int} {p0:AD} {r:Int×Int},uj tl uA p0=some r->Bf 49 [Bd p0,.fn 50 [BG,CM]] [DC tl,DC uA] (.C8 []) [DC r.1,DC r.2]){tl uA:Int}{p0:AD}{r:Int×Int}(h0:Mo N uj tl uA p0=some r):Bf 49 [Bd p0,.fn 50 [BG,CM]] [DC tl,DC uA] (.C8 []) [DC r.1,DC r.2]:=by
 unfold Mo at h0;refine ai Tryz.func49 AA AA AA AA (sr AA λI p=>Ee 2 AA (dn p AA (sr AA λJ q=>Ac 2 AA (bs h0 λk t h0=>?_))));refine S3 (rowsP:=[DC tl,DC uA]) (rows0:=[DC tl,DC uA]) (rows1:=[DC tl,DC k]) (rows2:=[]) (rows1':=[DC tl,DC k]) (rows2':=[]) (st':=[DC tl,DC k,Mm p0.op p0.num p0.kids]) (v':=.C8 []) [0,1] AN AA (hb 50) (Qg t) rfl (by decide) rfl AA (.raw AA AA (.raw AA AA .nil)) rfl AA (.raw AA AA (.raw AA AA .nil)) .nil AA AA ?_;refine dn q AA (sr AA λK u=>Ac 2 AA (CY AA (AT AA (dn u AA (RK λC x=>bs h0 λd a h0=>?_)))));have y:∀z e,d=(z,e)->∀s,Wk 2 s ⟨20,AP [],[DC z,DC e]⟩->C s:=by
  rintro z e rfl s D;refine x _ ?_;cases h0;exact Exists.intro _ (And.intro (D.trans (Ag (L:=[]) oz)) (And.intro AA AA))
 refine AL (An (σ:=Int×Int×Int) (λn v=>F3 p0 uj n v.1 v.2.1 v.2.2=some d) (λ(A,l,o)=>⟨20,AP [(1,.fn 50 [.ptr 0 0 0 0,.ptr 1 0 0 0]),(10,ls Ar p0.kids),(11,i64 (Sh.len p0.kids)),(12,i64 A)],[DC l,DC o]⟩) N (0,tl,k) a (AM [0,1] AA AA (.w (.w .nil)) (.same AA)) (λ_ B=>by rw[F3]at B;cases B) ?_);rintro n ⟨A,l,o⟩ a;rw[F3]at a;refine Ap AA (AE λE f=>?_);refine ci a AA ?_ ?_<;>intro F a
 .refine AH (f _ (AE λG g=>AL (sr AA λH h=>bs a λc i a=>zz (EP c) (Cb Ba AA AA i (Af _) rfl) rfl (AT AA (DL 2 Dd AA (Bx BI AA (dn h AA (AF AA (Ac 2 AA ?_)))))))));refine bs a λb j a=>?_;refine QK (rows0:=[DC l,DC o]) (rows1:=[DC b.1,DC b.2]) (st':=[DC b.1,DC b.2,Mm c.op c.num c.kids]) (v':=.C8 []) [0,1] AN (hb 49) (xx j) rfl (by decide) rfl AA (.raw AA AA (.raw AA AA .nil)) rfl AA (.raw AA AA (.raw AA AA .nil)) .nil AA AA ?_;refine dn g AA (AF AA (Ac 2 AA ?_));exact AB (xi (Sh.w (A+1),b.1,b.2) a (AM [0,1] AA AA (.w (.w .nil)) (.same AA)))
 .exact Au (y l o (AS a) _ Aq)
theorem WC {N:Nat}:∀(n:Nat),∀{tl:Int} {uA:Int} {p0:AD} {r:Int×Int},IB N n tl uA p0=some r->Bf 49 [Bd p0,.fn 50 [BG,CM]] [DC tl,DC uA] (.C8 []) [DC r.1,DC r.2]:=by
 intro n
 induction n with
 |zero=>intro tl uA p0 r a;cases a
 |succ n ih=>
  intro tl uA p0 r a;rw[IB]at a;exact WV (λh=>ih h) a
theorem Yp {N:Nat}:∀{tl:Int} {uA:Int} {p0:AD} {r:Int×Int},Sp N tl uA p0=some r->Bf 49 [Bd p0,.fn 50 [BG,CM]] [DC tl,DC uA] (.C8 []) [DC r.1,DC r.2]:=by
 intro tl uA p0 r a;exact WC N a
theorem Sy {N:Nat}{p0:AJ}{p1 r:Int}(h0:JI N p0 p1=some r):Bf 23 [KT p0,i64 p1] [] (i64 r) []:=by
 unfold JI at h0;refine ai Tryz.func23 AA AA AA AA (sr AA λS x=>Ee 0 AA (Ee 1 AA (AT AA (dn x AA (AE λT y=>AE λI z=>bs h0 λG a h0=>?_)))));have A:∀B,G=B->∀s,Wk 0 s ⟨35,AP [(2,BG),(3,CM),(21,.bool B)],[Cx p0.decls p0.funcs,DC p1]⟩->I s:=by
  intro B J s C;subst G;refine z _ (AG C ?_);refine ci h0 AA ?_ ?_<;>intro U h0
  .refine Ap AA ?_;cases h0;exact rd [(4,i64 (-1))]
  .refine AH (y _ (sr AA λV D=>DL 2 oC AA (Bx Hy AA (dn D AA (AE λK E=>sr AA λL k=>Ac 2 AA (CY AA (AT AA (dn k AA (bs h0 λh a h0=>?_)))))))));have F:∀f,h=f->∀s,Wk 0 s ⟨35,AP [(5,BG)],[DC f]⟩->K s:=by
    intro f J s C;subst h;try dsimp only at h0
    refine E _ (AG C (Ap AA ?_));obtain rfl:=Sh.BU h0;exact rd [(4,i64 f)]
   refine AL (An (σ:=Int×Int×Int) (λn v=>EV N p0 n v.1 v.2.1 v.2.2=some h) (λ(i,j,g)=>⟨35,AP [(3,.ptr 0 0 0 0),(5,.ptr 1 0 0 0),(23,ls BP p0.funcs),(24,i64 (Sh.len p0.funcs)),(25,i64 i)],[DC j,DC g]⟩) N (0,p1,0) a (AM [1,2] AA AA (.w (.w .nil)) (.same AA)) (λ_ H=>by rw[EV]at H;cases H) ?_);rintro n ⟨i,j,g⟩ a;rw[EV]at a;refine Ap AA (AE λM l=>?_);refine ci a AA ?_ ?_<;>intro O a
   .refine AH (l _ (AE λP o=>AL (sr AA λQ p=>bs a λe q a=>zx Ck q AA AA AA (AT AA (DL 2 MQ AA (Bx Ln AA (dn p AA (AF AA (Ac 2 AA ?_)))))))));refine zz (.fn 50 [BG,CM]) (bN AA) rfl (bs a λd t a=>?_);refine QK (rows0:=[DC j,DC g]) (rows1:=[DC d.1,DC d.2]) (st':=[DC d.1,DC d.2,nv e.params e.result e.body.op e.body.num e.body.kids]) (v':=.C8 []) [0,1] AN (hb 49) (Yp t) rfl (by decide) rfl AA (.raw AA AA (.raw AA AA .nil)) rfl AA (.raw AA AA (.raw AA AA .nil)) .nil AA AA ?_;refine dn o AA (AF AA (Ac 2 AA ?_));exact AB (xi (Sh.w (i+1),d.1,d.2) a (AM [0,1] AA AA (.w (.w .nil)) (.same AA)))
   .exact Au (F g (AS a) _ (AM [1] AA AA (.w .nil) (.same AA)))
 refine AF AA (AT AA (bs a λR u a=>G5 (hb 22) (Hi u) rfl (Ac 2 AA ?_)));rcases Sh.Ae a with ⟨c,a⟩|⟨c,a⟩
 .refine zs c AA (zs c AA (zt c AA (AT AA ?_)));iterate 5 refine zs rfl rfl ?_
  exact zt AA AA (AB (A true (AS a) _ Aq))
 .refine Ay c AA (Ay c AA (zf c AA (AT AA ?_)));rcases Sh.Ae a with ⟨b,a⟩|⟨b,a⟩
  .refine zs b AA ?_;iterate 4 refine zs b rfl ?_
   exact zt b AA (AB (A true (AS a) _ Aq))
  .exact Ay b AA (Ay b AA (Ay b AA (BW (v:=i64 (Sh.len p0.funcs)) (CR AA AA b) rfl (CU Pp AA) (Ay b AA (zf b AA (AB (A (decide ((Sh.len p0.funcs)<=p1)) (AS a) _ Aq)))))))
end Go.Proofs.YtihdgoiebmfapaaGreat
