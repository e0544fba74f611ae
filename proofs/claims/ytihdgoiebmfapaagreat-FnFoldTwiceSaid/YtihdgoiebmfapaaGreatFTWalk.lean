import Derived.Test.YtihdgoiebmfapaaGreatFTWalkP3
set_option linter.all false
namespace Go.Proofs.YtihdgoiebmfapaaGreat
open Go Go.Abs RC
attribute [local irreducible] Go.Abs.D6
set_option maxRecDepth 100000
set_option maxHeartbeats 4000000
theorem PL {N:Nat}{oR:(List AM)}{oV:(List Ac)}{p0:AP}{r:AP×Bool}(h0:It N oR oV p0=some r):Ab Tryz.prog 27 [H7 p0,.fn 35 [BJ]] [Cs oR oV] (λv st=>v=(.Dp [.agg [ow 1 0 r.1.decls,ow 2 0 r.1.funcs],.bool r.2])/\st=[Cs oR oV,QO r.1.decls,Mf r.1.funcs]):=by
 unfold It at h0;refine Ab.wk (r0:=(.Dp [.agg [ow 1 0 r.1.decls,ow 2 0 r.1.funcs],.bool r.2])) (st0:=[Cs oR oV,QO r.1.decls,Mf r.1.funcs,⟨0,26,2,[[ow 1 0 r.1.decls,ow 2 0 r.1.funcs]]⟩]) (ai Tryz.func27 AA AA AA AA (sr AA λK1 R=>Bf (m:=1) AI AA AA AA AA AA (AR (Wk.BL (L:=[(1,.fn 35 [BJ]),(2,.Bh (ba p0) 0)]) (st':=[Cs oR oV,⟨1,26,2,[]⟩]) (id:=1) rfl oI (EO AA) (.same AA) rfl) (Av (m:=2) AI Ix AA AA (zq tb AA (dn R AA (sr AA λK2 S=>zq tb AA (bs h0 λb T h0=>CM (v':=(.agg [ow 3 0 b.decls,ow 4 0 b.funcs])) AI (hb 55) (Oi T) rfl AA ⟨(Ah λ_=>AA),⟨(Ah λ_=>AA),jf⟩⟩ AA AA (Av (m:=5) AI Ix AA AA (Am AI D8 AA AA AA AA AA AA nk rfl (dn S AA (AG λK4 U=>sr AA λK5 V=>zm tb 2 AA (zz (i64 (Sh.len b.funcs)) (Cr Tp AA AA AA) rfl (zq tb AA (dn V AA ?_))))))))))))))) (De (L:=[(0,.Dp [.agg [ow 1 0 r.1.decls,ow 2 0 r.1.funcs],.bool r.2])]) (st':=[Cs oR oV,QO r.1.decls,Mf r.1.funcs]) [0,1,2] AA (by decide) rfl AA (.raw AA (.deep (Ah λ_=>AA) (.deep (Ah λ_=>AA) jf))) (.same AA));obtain⟨W,C,h0⟩:=Sh.Bi h0;have M9:∀(G:(List Ac)),W=Sum.inr G->∀s,Wk 1 s ⟨49,Aa [(4,CS),(6,LV)],[Cs oR oV,Gx,ro 0 80 3 (BZ 82 3) b.decls,Mf G,⟨0,26,2,[[ow 2 0 b.decls,ow 3 0 G]]⟩]⟩->K4 s:=by
  intro G hq s hw;subst W;try dsimp only at h0
  refine U _ (AK hw (sr AA λb0 I=>zq tb AA (Am AI D8 AA AA AA AA AA AA nk rfl (zq tb AA (dn I AA ?_)))));obtain rfl:=Sh.AB h0;exact Aq (Exists.intro _ (And.intro ((Bj (L:=[(4,HN),(5,.bool true)]) (st':=[Cs oR oV,ro 0 80 3 (BZ 82 3) b.decls,Mf G,⟨0,26,2,[[ow 1 0 b.decls,ow 2 0 G]]⟩]) (st1:=[Cs oR oV,ro 0 80 3 (BZ 82 3) b.decls,Mf G,⟨0,26,2,[[ow 2 0 b.decls,ow 3 0 G]]⟩]) [0,2,3,1] AA (.raw AA AA .nil) (by decide) rfl AA (.raw AA AA (.deep (Ah λ_=>AA) (.deep (Ah λ_=>AA) (.raw AA AA .nil)))) (.same AA)).trans (Ag (L:=[(4,HN),(5,.bool true)]) (.same AA))) (Ar (x:=.tmp 4) (off:=0) (cs:=[ow 1 0 b.decls,ow 2 0 G]) (vs:=[ow 1 0 b.decls,ow 2 0 G]) D8 AA AA AA nk rfl _ ⟨AA,AA⟩)))
 refine AU (Ax (σ:=Int×(List Ac)) (λn v=>Dh N oR oV p0 b n v.1 v.2=some W) (λ(d,l)=>⟨49,Aa [(1,.fn 35 [.ptr 0 0 0 0]),(2,.Bh [ls Aj p0.decls,ls BS p0.funcs] 0),(4,.ptr 1 0 0 0),(6,.ptr 4 0 0 0),(12,i64 (Sh.len b.funcs)),(13,i64 d)],[Cs oR oV,Gx,ro 0 80 3 (BZ 82 3) b.decls,ro 0 37 5 (DK 3 35) l,⟨0,26,2,[[ow 2 0 b.decls,ow 3 0 l]]⟩]⟩) N (0,b.funcs) C (Bj (L:=[(1,.fn 35 [.ptr 0 0 0 0]),(2,.Bh [ls Aj p0.decls,ls BS p0.funcs] 0),(4,.ptr 1 0 0 0),(6,.ptr 4 0 0 0),(12,i64 (Sh.len b.funcs)),(13,i64 0)]) (st':=[Cs oR oV,Gx,ro 0 80 3 (BZ 82 3) b.decls,ro 0 37 5 (DK 3 35) b.funcs,⟨0,26,2,[[ow 2 0 b.decls,ow 3 0 b.funcs]]⟩]) (st1:=[Cs oR oV,Gx,ro 0 80 3 (BZ 82 3) b.decls,ro 0 37 5 (DK 3 35) b.funcs,⟨0,26,2,[[ow 3 0 b.decls,ow 4 0 b.funcs]]⟩]) [0,2,3,4,5] AA (.raw AA AA .nil) (by decide) rfl AA (.raw AA AA (.raw AA AA (.deep (Ah λ_=>AA) (.deep (Ah λ_=>AA) (.raw AA AA .nil))))) (.same AA)) (λ_ Z=>by rw[Dh]at Z;cases Z) ?_);rintro n ⟨d,l⟩ C;try dsimp only at C⊢
 rw[Dh]at C;refine zr tb AA AA (AG λb1 J=>?_);refine ci C AA ?_ ?_<;>clear C<;>intro b2 C
 ·refine AL (J _ (AG λb3 K=>AU (zr tb AA AA (AG λb4 M=>?_))));refine PI (by kernel_rfl) ?_;refine bs C λa k C=>bs C λg H C=>?_;refine VY (f':=23) (listed':=(bm 23 0)) rfl (by kernel_rfl) ?_;refine DV 0 (v:=(.ptr 4 0 0 1)) rfl AA (by kernel_rfl) (by kernel_rfl) (by kernel_rfl) rfl (E3 (Jz KP AA AA ns rfl)) ?_;refine DV 2 (v:=(i64 d)) rfl AA (by kernel_rfl) (by kernel_rfl) (by kernel_rfl) rfl (E3 (Ia AA)) ?_;refine DV 3 (v:=(.Bh (ba p0) 0)) rfl AA (by kernel_rfl) (by kernel_rfl) (by kernel_rfl) rfl (E3 (Md UZ AA AA)) ?_;refine DV 4 (v:=(ls Aj p0.decls)) rfl AA (by kernel_rfl) (by kernel_rfl) (by kernel_rfl) rfl (OV YX AA AA) ?_;refine DV 5 (v:=(.ptr 4 0 0 1)) rfl AA (by kernel_rfl) (by kernel_rfl) (by kernel_rfl) rfl (E3 (Jz KP AA AA ns rfl)) ?_;refine DV 7 (v:=(i64 d)) rfl AA (by kernel_rfl) (by kernel_rfl) (by kernel_rfl) rfl (E3 (Ia AA)) ?_;refine DV 11 (v:=(.ptr 4 0 0 1)) rfl AA (by kernel_rfl) (by kernel_rfl) (by kernel_rfl) rfl (E3 (Jz KP AA AA ns rfl)) ?_;refine DV 13 (v:=(i64 d)) rfl AA (by kernel_rfl) (by kernel_rfl) (by kernel_rfl) rfl (E3 (Ia AA)) ?_;refine DV 18 (v:=(.fn 35 [BJ])) rfl AA (by kernel_rfl) (by kernel_rfl) (by kernel_rfl) rfl (E3 (Ia AA)) ?_;refine V3 (Sr λvo f=>?_);have t:vo 0 (bm 23 8388607) ⟨49,Aa (TF p0 d [(12,i64 (Sh.len b.funcs)),(13,i64 d)]),[Cs oR oV,Gx,⟨0,26,2,[[ow 3 0 b.decls,ow 4 0 (Sh.put l d (Ac.mk a.params a.result g))]]⟩,ro 0 80 3 (BZ 82 3) b.decls,ro 0 37 5 (DK 3 35) (Sh.put l d (Ac.mk a.params a.result g))]⟩:=(f _ _ _).2 (by
   refine Qu AA (by kernel_rfl) (M _ (sr AA λb5 O=>zm tb 3 AA (bs C λE D C=>zz (Ty d) (Bz Cu AA AA AA AA D) rfl (zq tb AA (AR (GK (id:=4) (j:=4) (i:=d) (c:=E) (ys:=E.body.kids) (encY:=(BP 35)) rfl D AA AA AA AA AA) (zz (dC E) (Ar BE AA AA (FB D) nw rfl) rfl (bs C λX P C=>L3 (v':=(i64 X)) AI (hb 12) (Nd P) rfl (.agg (.val AA (.val AA (.ownD AA AA Al (λx=>Lo x) .nil))) .nil) rfl jf AA AA (AR (Wk.take (id:=4) (m:=5) (j:=4) (i:=d) (c:=E) (ys:=E.body.kids) (encY:=(BP 35)) rfl D AA AA AA (by decide) oD Eu AA AA) (AR (Gz (id:=4) (i:=d) (c:=E) rfl D AA AA) (zq tb AA (dn O AA ?_)))))))))));refine ci C AA ?_ ?_<;>clear C<;>intro b6 C
   ·refine sr AA λb7 Q=>zz (.agg [.zc,.zc]) (C8 U4 VI Ix AA AA) rfl (Am AI D8 AA AA AA AA AA AA nk rfl (zq tb AA (dn Q AA ?_)));obtain rfl:=Sh.AB C;try dsimp only[id]at h0
    obtain rfl:=Sh.AB h0;exact Aq (Exists.intro _ (And.intro ((((JR (id:=1) (st':=[Cs oR oV,⟨0,26,2,[[.own 6 0 (List.length ([]:List AM)),.zc]]⟩,⟨0,26,2,[[ow 3 0 b.decls,ow 4 0 (Sh.put l d (Ac.mk a.params a.result g))]]⟩,ro 0 80 3 (BZ 82 3) b.decls,ro 0 37 5 (DK 3 35) (Sh.put l d (Ac.mk a.params a.result g)),CB,ro 0 80 3 (BZ 82 3) ([]:List AM)]) (j:=0) rfl AA 80 (size':=3) (by decide) rfl AA AA AA).trans (JR (id:=1) (st':=((Cs oR oV)::⟨0,26,2,[[.own 6 0 (List.length ([]:List AM)),.own 7 0 (List.length ([]:List Ac))]]⟩::⟨0,26,2,[[ow 3 0 b.decls,ow 4 0 (Sh.put l d (Ac.mk a.params a.result g))]]⟩::(ro 0 80 3 (BZ 82 3) b.decls)::(ro 0 37 5 (DK 3 35) (Sh.put l d (Ac.mk a.params a.result g)))::CB::iC [])) (j:=1) rfl AA 37 (size':=5) (by decide) rfl AA AA AA)).trans (Bj (L:=[(4,HN),(5,.bool false)]) (st':=((Cs oR oV)::iC [⟨0,26,2,[[.own 1 0 (List.length ([]:List AM)),.own 2 0 (List.length ([]:List Ac))]]⟩])) (st1:=((Cs oR oV)::iC [⟨0,26,2,[[.own 6 0 (List.length ([]:List AM)),.own 7 0 (List.length ([]:List Ac))]]⟩])) [0,6,7,1] AA (.raw AA AA .nil) (by decide) rfl AA (.raw AA AA (.deep (Ah λ_=>AA) (.deep (Ah λ_=>AA) (.raw AA AA .nil)))) (.same AA))).trans (Ag (L:=[(4,HN),(5,.bool false)]) (.same AA))) (Ar (x:=.tmp 4) (off:=0) (cs:=[.own 1 0 (List.length ([]:List AM)),.own 2 0 (List.length ([]:List Ac))]) (vs:=[.own 1 0 (List.length ([]:List AM)),.own 2 0 (List.length ([]:List Ac))]) D8 AA AA AA nk rfl _ ⟨AA,AA⟩)))
   ·refine AL (K _ (AH AA (zm tb 2 AA ?_)));exact AF (xi (Sh.w (d+1),Sh.put l d (Ac.mk a.params a.result g)) C (by exact Bj (L:=[(1,.fn 35 [BJ]),(2,.Bh (ba p0) 0),(4,CS),(6,LV),(12,i64 (Sh.len b.funcs)),(13,KA d)]) (st':=[Cs oR oV,Gx,ro 0 80 3 (BZ 82 3) b.decls,ro 0 37 5 (DK 3 35) (Sh.put l d (Ac.mk a.params a.result g)),⟨0,26,2,[[ow 2 0 b.decls,ow 3 0 (Sh.put l d (Ac.mk a.params a.result g))]]⟩]) (st1:=[Cs oR oV,Gx,ro 0 80 3 (BZ 82 3) b.decls,ro 0 37 5 (DK 3 35) (Sh.put l d (Ac.mk a.params a.result g)),⟨0,26,2,[[ow 3 0 b.decls,ow 4 0 (Sh.put l d (Ac.mk a.params a.result g))]]⟩]) [0,1,3,4,2] AA (.raw AA AA .nil) (by decide) rfl AA (.raw AA AA (.raw AA AA (.deep (Ah λ_=>AA) (.deep (Ah λ_=>AA) (.raw AA AA .nil))))) (.same AA))))
  have h:vo 1 (bm 23 4194303) ⟨49,Aa (TF p0 d [(12,i64 (Sh.len b.funcs)),(13,i64 d),(35,.agg [i64 g.op,i64 g.num,ow 7 0 g.kids]),(37,.ptr 4 0 (Int.toNat d) 2)]),[Cs oR oV,Gx,⟨0,26,2,[[ow 3 0 b.decls,ow 4 0 l]]⟩,ro 0 80 3 (BZ 82 3) b.decls,Xa l d a,ro 0 3 1 eI a.params,CB,DL g]⟩:=(f _ _ _).2 (by
   refine ya [22] ⟨?_,jf⟩
   ·refine yo 22 (bO (x':=[ow 5 0 a.params,i64 a.result,i64 g.op,i64 g.num,ow 7 0 g.kids]) (st':=[Cs oR oV,Gx,⟨0,26,2,[[ow 3 0 b.decls,ow 4 0 l]]⟩,ro 0 80 3 (BZ 82 3) b.decls,⟨0,37,5,hole l (DK 3 35) d [ow 5 0 a.params,i64 a.result,i64 g.op,i64 g.num,ow 7 0 g.kids]⟩,ro 0 3 1 eI a.params,CB,DL g]) AI BE AA AA k AA AA AA nw rfl AA (AR (Wk.take (id:=4) (m:=5) (j:=0) (i:=d) (c:=a) (ys:=a.params) (encY:=eI) rfl k AA AA AA (by decide) oD (λ_=>AA) rfl AA) (AR (Wk.take (id:=4) (m:=7) (j:=4) (i:=d) (c:=a) (ys:=g.kids) (encY:=(BP 35)) rfl k AA AA AA (by decide) oL Eu AA AA) (AR (R0 (id:=4) (i:=d) (u:=(Ac.mk a.params a.result g)) rfl AA AA) (AF ⟨AA,?_⟩)))));exact Rx (by refine Wk.trans (Ag (L:=[(1,.fn 35 [.ptr 0 0 0 0]),(2,.Bh [.sl (List.map Aj p0.decls),.sl (List.map BS p0.funcs)] 0),(4,.ptr 1 0 0 0),(6,.ptr 2 0 0 0),(7,i64 d),(12,i64 (Sh.len b.funcs)),(13,i64 d)]) (.same AA)) ?_;refine Wk.trans (Fo (st:=[⟨0,26,2,[[.sl (List.map Aj oR),.sl (List.map BS oV)]]⟩,Gx,⟨0,26,2,[[.own 3 0 (List.length b.decls),.own 4 0 (List.length l)]]⟩,⟨0,80,3,List.map (BZ 82 3) b.decls⟩,⟨0,37,5,List.map (DK 3 35) (Sh.put l d (Ac.mk a.params a.result g))⟩,⟨1,3,1,[]⟩,⟨1,35,3,[]⟩,⟨1,35,3,[]⟩]) (st':=[⟨0,26,2,[[.sl (List.map Aj oR),.sl (List.map BS oV)]]⟩,Gx,⟨0,26,2,[[.own 3 0 (List.length b.decls),.own 4 0 (List.length (Sh.put l d (Ac.mk a.params a.result g)))]]⟩,⟨0,80,3,List.map (BZ 82 3) b.decls⟩,⟨0,37,5,List.map (DK 3 35) (Sh.put l d (Ac.mk a.params a.result g))⟩,⟨1,3,1,[]⟩,⟨1,35,3,[]⟩,⟨1,35,3,[]⟩]) (by simp only[Sh.Ga])) ?_;exact AT [0,1,2,3,4] AA (by decide) rfl AA (.raw AA AA (.raw AA AA (.raw AA AA (.deep (Ah λ_=>AA) (.deep (Ah λ_=>AA) .nil))))) (.same AA)) (Wy (by kernel_rfl) ((f _ _ _).1 t)) rfl)
  have e:vo 4 (bm 23 524287) ⟨49,Aa (TF p0 d ((12,i64 (Sh.len b.funcs))::dS d l [(20,ls Aj p0.decls),(26,cf a),(33,i64 (Sh.len a.params)),(34,.fn 35 [BJ])])),[Cs oR oV,Gx,⟨0,26,2,[[ow 3 0 b.decls,ow 4 0 l]]⟩,ro 0 80 3 (BZ 82 3) b.decls,Xa l d a,ro 0 3 1 eI a.params,P7 a]⟩:=(f _ _ _).2 (by
   refine ya [19] ⟨?_,jf⟩
   ·refine yo 19 ?_;refine F6 (rowsP:=[P7 a,Cs oR oV]) (rows0:=[P7 a,Cs oR oV]) (rows1:=[CB,Cs oR oV]) (rows2:=[DL g]) (rows1':=[CB,Cs oR oV]) (rows2':=[DL g]) (st':=[Cs oR oV,Gx,⟨0,26,2,[[ow 3 0 b.decls,ow 4 0 l]]⟩,ro 0 80 3 (BZ 82 3) b.decls,Xa l d a,ro 0 3 1 eI a.params,CB,DL g]) (v':=(.agg [i64 g.op,i64 g.num,ow 7 0 g.kids])) [6,0] AI (hb 56) (KT H) rfl (by decide) rfl AA (.deep (Ah Al) (.raw AA AA .nil)) rfl AA (.pure (by intro x Y;cases Y) (.raw AA AA .nil)) (.deep (Ah Al) .nil) rfl AA ?_;refine AF ⟨AA,?_⟩;refine IM 20 (v:=(Ty d)) rfl (by kernel_rfl) (by kernel_rfl) (Ls Cu AA AA AA AA k) ?_;refine Hv tb 21 AA (by kernel_rfl) rfl ?_;exact Z0 f h)
  have q:vo 6 (bm 23 327679) ⟨49,Aa (TF p0 d ((12,i64 (Sh.len b.funcs))::dS d l [(20,ls Aj p0.decls),(26,dC a),(31,Ty d),(34,.fn 35 [BJ])])),[Cs oR oV,Gx,⟨0,26,2,[[ow 3 0 b.decls,ow 4 0 l]]⟩,ro 0 80 3 (BZ 82 3) b.decls,⟨0,37,5,hole l (DK 3 35) d [.dv 3 1 (List.map eI a.params),i64 a.result,i64 a.body.op,i64 a.body.num,ow 5 0 a.body.kids]⟩,P7 a]⟩:=(f _ _ _).2 (by
   refine ya [16] ⟨?_,jf⟩
   ·refine yo 16 (AR (Ln (id:=4) (j:=0) (i:=d) (ys:=a.params) (encY:=eI) (x':=(bt a)) (st':=[Cs oR oV,Gx,⟨0,26,2,[[ow 3 0 b.decls,ow 4 0 l]]⟩,ro 0 80 3 (BZ 82 3) b.decls,⟨0,37,5,hole l (DK 3 35) d (bt a)⟩,P7 a,ro 0 3 1 eI a.params]) rfl k AA AA AA AA) (zz (ow 6 0 a.params) (Bx JZ AA AA (FB k) rfl) rfl (AF ⟨AA,(IM 17 (v:=(i64 (Sh.len a.params))) rfl (by kernel_rfl) (by kernel_rfl) (Cr Fp AA AA AA) ?_)⟩)));exact yw f e (by exact Bj (L:=(TF p0 d ((12,i64 (Sh.len b.funcs))::dS d l [(20,ls Aj p0.decls),(26,cf a),(33,i64 (Sh.len a.params)),(34,.fn 35 [BJ])]))) (st':=[Cs oR oV,Gx,⟨0,26,2,[[ow 3 0 b.decls,ow 4 0 l]]⟩,ro 0 80 3 (BZ 82 3) b.decls,Xa l d a,ro 0 3 1 eI a.params,P7 a]) (st1:=[Cs oR oV,Gx,⟨0,26,2,[[ow 3 0 b.decls,ow 4 0 l]]⟩,ro 0 80 3 (BZ 82 3) b.decls,⟨0,37,5,hole l (DK 3 35) d (bt a)⟩,ro 0 3 1 eI a.params,P7 a]) [0,1,2,3,4,6,5] AA (.raw AA AA .nil) (by decide) rfl AA (.raw AA AA (.raw AA AA (.raw AA AA (.deep (Ah λ_=>AA) (.hol (Ah λ_=>AA) (HD λ_=>AA) rfl AA (.pure (AD λ_=>AA) (.deep (Ah Al) .nil))))))) (.same AA)))
  have o:vo 5 (bm 23 523263) ⟨49,Aa (TF p0 d ((12,i64 (Sh.len b.funcs))::dS d l [(20,ls Aj p0.decls),(25,.ptr 4 0 (Int.toNat d) 2),(33,i64 (Sh.len a.params)),(34,.fn 35 [BJ])])),[Cs oR oV,Gx,⟨0,26,2,[[ow 3 0 b.decls,ow 4 0 l]]⟩,ro 0 80 3 (BZ 82 3) b.decls,⟨0,37,5,hole l (DK 3 35) d [ow 5 0 a.params,i64 a.result,i64 a.body.op,i64 a.body.num,.dv 35 3 (List.map (BP 35) a.body.kids)]⟩,ro 0 3 1 eI a.params]⟩:=(f _ _ _).2 (by
   refine ya [10] ⟨?_,jf⟩
   ·refine yo 10 ?_;exact AR (Ln (id:=4) (j:=4) (i:=d) (ys:=a.body.kids) (encY:=(BP 35)) (x':=[ow 5 0 a.params,i64 a.result,i64 a.body.op,i64 a.body.num,ow 6 0 a.body.kids]) (st':=[Cs oR oV,Gx,⟨0,26,2,[[ow 3 0 b.decls,ow 4 0 l]]⟩,ro 0 80 3 (BZ 82 3) b.decls,Xa l d a,ro 0 3 1 eI a.params,P7 a]) rfl k AA AA AA AA) (zz (cf a) (Ar BE AA AA (FB k) nw rfl) rfl (yd f e)))
  have z:vo 7 (bm 23 326655) ⟨49,Aa (TF p0 d ((12,i64 (Sh.len b.funcs))::dS d l ((20,ls Aj p0.decls)::gx d []))),[Cs oR oV,Gx,⟨0,26,2,[[ow 3 0 b.decls,ow 4 0 l]]⟩,ro 0 80 3 (BZ 82 3) b.decls,Mf l]⟩:=(f _ _ _).2 (by
   refine ya [10,16] ⟨?_,?_,jf⟩
   ·refine yo 10 ?_;exact AR (GK (id:=4) (j:=4) (i:=d) (c:=a) (ys:=a.body.kids) (encY:=(BP 35)) rfl k AA AA AA AA AA) (zz (dC a) (Ar BE AA AA (FB k) nw rfl) rfl (yd f q))
   ·refine yo 16 ?_;refine AR (GK (id:=4) (j:=0) (i:=d) (c:=a) (ys:=a.params) (encY:=eI) rfl k AA AA AA AA AA) (zz (ow 5 0 a.params) (Bx JZ AA AA (FB k) rfl) rfl (AF ⟨AA,?_⟩));refine IM 17 (v:=(i64 (Sh.len a.params))) rfl (by kernel_rfl) (by kernel_rfl) (Cr Fp AA AA AA) ?_;exact Z0 f o)
  have p:vo 5 (bm 23 524285) ⟨49,Aa (TF p0 d ((12,i64 (Sh.len b.funcs))::bh d [(20,ls Aj p0.decls),(26,cf a),(33,i64 (Sh.len a.params)),(34,.fn 35 [BJ])])),[Cs oR oV,Gx,⟨0,26,2,[[ow 3 0 b.decls,ow 4 0 l]]⟩,ro 0 80 3 (BZ 82 3) b.decls,Xa l d a,ro 0 3 1 eI a.params,P7 a]⟩:=(f _ _ _).2 (by
   refine ya [1,19] ⟨?_,?_,jf⟩
   ·exact Z9 tb f e
   ·refine yo 19 ?_;refine F6 (rowsP:=[P7 a,Cs oR oV]) (rows0:=[P7 a,Cs oR oV]) (rows1:=[CB,Cs oR oV]) (rows2:=[DL g]) (rows1':=[CB,Cs oR oV]) (rows2':=[DL g]) (st':=[Cs oR oV,Gx,⟨0,26,2,[[ow 3 0 b.decls,ow 4 0 l]]⟩,ro 0 80 3 (BZ 82 3) b.decls,Xa l d a,ro 0 3 1 eI a.params,CB,DL g]) (v':=(.agg [i64 g.op,i64 g.num,ow 7 0 g.kids])) [6,0] AI (hb 56) (KT H) rfl (by decide) rfl AA (.deep (Ah Al) (.raw AA AA .nil)) rfl AA (.pure (by intro x Y;cases Y) (.raw AA AA .nil)) (.deep (Ah Al) .nil) rfl AA ?_;refine AF ⟨AA,?_⟩;refine Hv tb 1 AA (by kernel_rfl) rfl ?_;refine IM 20 (v:=(Ty d)) rfl (by kernel_rfl) (by kernel_rfl) (Ls Cu AA AA AA AA k) ?_;refine Hv tb 21 AA (by kernel_rfl) rfl ?_;exact Z0 f h)
  have A:vo 7 (bm 23 327677) ⟨49,Aa (TF p0 d ((12,i64 (Sh.len b.funcs))::bh d [(20,ls Aj p0.decls),(26,dC a),(31,Ty d),(34,.fn 35 [BJ])])),[Cs oR oV,Gx,⟨0,26,2,[[ow 3 0 b.decls,ow 4 0 l]]⟩,ro 0 80 3 (BZ 82 3) b.decls,⟨0,37,5,hole l (DK 3 35) d [.dv 3 1 (List.map eI a.params),i64 a.result,i64 a.body.op,i64 a.body.num,ow 5 0 a.body.kids]⟩,P7 a]⟩:=(f _ _ _).2 (by
   refine ya [1,16] ⟨?_,?_,jf⟩
   ·exact Z9 tb f q
   ·refine yo 16 (AR (Ln (id:=4) (j:=0) (i:=d) (ys:=a.params) (encY:=eI) (x':=(bt a)) (st':=[Cs oR oV,Gx,⟨0,26,2,[[ow 3 0 b.decls,ow 4 0 l]]⟩,ro 0 80 3 (BZ 82 3) b.decls,⟨0,37,5,hole l (DK 3 35) d (bt a)⟩,P7 a,ro 0 3 1 eI a.params]) rfl k AA AA AA AA) (zz (ow 6 0 a.params) (Bx JZ AA AA (FB k) rfl) rfl (AF ⟨AA,(IM 17 (v:=(i64 (Sh.len a.params))) rfl (by kernel_rfl) (by kernel_rfl) (Cr Fp AA AA AA) ?_)⟩)));exact yw f p (by exact Bj (L:=(TF p0 d ((12,i64 (Sh.len b.funcs))::bh d [(20,ls Aj p0.decls),(26,cf a),(33,i64 (Sh.len a.params)),(34,.fn 35 [BJ])]))) (st':=[Cs oR oV,Gx,⟨0,26,2,[[ow 3 0 b.decls,ow 4 0 l]]⟩,ro 0 80 3 (BZ 82 3) b.decls,Xa l d a,ro 0 3 1 eI a.params,P7 a]) (st1:=[Cs oR oV,Gx,⟨0,26,2,[[ow 3 0 b.decls,ow 4 0 l]]⟩,ro 0 80 3 (BZ 82 3) b.decls,⟨0,37,5,hole l (DK 3 35) d (bt a)⟩,ro 0 3 1 eI a.params,P7 a]) [0,1,2,3,4,6,5] AA (.raw AA AA .nil) (by decide) rfl AA (.raw AA AA (.raw AA AA (.raw AA AA (.deep (Ah λ_=>AA) (.hol (Ah λ_=>AA) (HD λ_=>AA) rfl AA (.pure (AD λ_=>AA) (.deep (Ah Al) .nil))))))) (.same AA)))
  have y:vo 6 (bm 23 523261) ⟨49,Aa (TF p0 d ((12,i64 (Sh.len b.funcs))::bh d [(20,ls Aj p0.decls),(25,.ptr 4 0 (Int.toNat d) 2),(33,i64 (Sh.len a.params)),(34,.fn 35 [BJ])])),[Cs oR oV,Gx,⟨0,26,2,[[ow 3 0 b.decls,ow 4 0 l]]⟩,ro 0 80 3 (BZ 82 3) b.decls,⟨0,37,5,hole l (DK 3 35) d [ow 5 0 a.params,i64 a.result,i64 a.body.op,i64 a.body.num,.dv 35 3 (List.map (BP 35) a.body.kids)]⟩,ro 0 3 1 eI a.params]⟩:=(f _ _ _).2 (by
   refine ya [1,10] ⟨?_,?_,jf⟩
   ·exact Z9 tb f o
   ·refine yo 10 ?_;exact AR (Ln (id:=4) (j:=4) (i:=d) (ys:=a.body.kids) (encY:=(BP 35)) (x':=[ow 5 0 a.params,i64 a.result,i64 a.body.op,i64 a.body.num,ow 6 0 a.body.kids]) (st':=[Cs oR oV,Gx,⟨0,26,2,[[ow 3 0 b.decls,ow 4 0 l]]⟩,ro 0 80 3 (BZ 82 3) b.decls,Xa l d a,ro 0 3 1 eI a.params,P7 a]) rfl k AA AA AA AA) (zz (cf a) (Ar BE AA AA (FB k) nw rfl) rfl (yd f p)))
  have B:vo 8 (bm 23 326653) ⟨49,Aa (TF p0 d ((12,i64 (Sh.len b.funcs))::bh d ((20,ls Aj p0.decls)::gx d []))),[Cs oR oV,Gx,⟨0,26,2,[[ow 3 0 b.decls,ow 4 0 l]]⟩,ro 0 80 3 (BZ 82 3) b.decls,Mf l]⟩:=(f _ _ _).2 (by
   refine ya [1,10,16] ⟨?_,?_,?_,jf⟩
   ·exact Z9 tb f z
   ·refine yo 10 ?_;exact AR (GK (id:=4) (j:=4) (i:=d) (c:=a) (ys:=a.body.kids) (encY:=(BP 35)) rfl k AA AA AA AA AA) (zz (dC a) (Ar BE AA AA (FB k) nw rfl) rfl (yd f A))
   ·refine yo 16 ?_;refine AR (GK (id:=4) (j:=0) (i:=d) (c:=a) (ys:=a.params) (encY:=eI) rfl k AA AA AA AA AA) (zz (ow 5 0 a.params) (Bx JZ AA AA (FB k) rfl) rfl (AF ⟨AA,?_⟩));refine IM 17 (v:=(i64 (Sh.len a.params))) rfl (by kernel_rfl) (by kernel_rfl) (Cr Fp AA AA AA) ?_;exact Z0 f y)
  refine (f _ _ _).2 (Hv tb 6 AA (by kernel_rfl) rfl (IM 8 (v:=(.ptr 3 0 (Int.toNat d) 0)) rfl (by kernel_rfl) (by kernel_rfl) (Bz Cu AA AA AA AA k) (Hv tb 9 AA (by kernel_rfl) rfl (Hv tb 12 AA (by kernel_rfl) rfl (IM 14 (v:=(.ptr 3 0 (Int.toNat d) 0)) rfl (by kernel_rfl) (by kernel_rfl) (Bz Cu AA AA AA AA k) (Hv tb 15 AA (by kernel_rfl) rfl ?_))))));exact yw f B (by exact Bj (L:=(TF p0 d ((12,i64 (Sh.len b.funcs))::bh d ((20,ls Aj p0.decls)::gx d [])))) (st':=[Cs oR oV,Gx,⟨0,26,2,[[ow 3 0 b.decls,ow 4 0 l]]⟩,ro 0 80 3 (BZ 82 3) b.decls,Mf l]) (st1:=[Cs oR oV,Gx,⟨0,26,2,[[ow 2 0 b.decls,ow 3 0 l]]⟩,ro 0 80 3 (BZ 82 3) b.decls,Mf l]) [0,1,4,2,3] AA (.raw AA AA .nil) (by decide) rfl AA (.raw AA AA (.raw AA AA (.raw AA AA (.deep (Ah λ_=>AA) (.deep (Ah λ_=>AA) .nil))))) (.same AA))
 ·exact BD (M9 l (Sh.AB C).symm _ (AJ AA))
theorem Qk {N:Nat}{p0:AP}{r:AP×Bool}(h0:II N p0=some r):Ab Tryz.prog 14 [H7 p0] [] (λv st=>v=(.Dp [.agg (Ou r.1.decls r.1.funcs),.bool r.2])/\st=[]):=by
 unfold II at h0;refine Cj AA (ai Tryz.func14 AA AA AA AA (sr AA λk c=>Bf (m:=0) AI AA AA AA AA AA (Av (m:=1) AI Ix AA AA (zq tb AA (dn c AA (AG λl d=>sr AA λn e=>zq tb AA (bs h0 λi f h0=>zc (hb 22) (Oo f) rfl AA AA (zq tb AA (dn e AA ?_)))))))));refine ci h0 AA ?_ ?_<;>clear h0<;>intro j h0
 ·have o:i=false:=by simpa using j
  refine sr AA λp g=>zz (.agg [.zc,.zc]) (C8 U4 VI Ix AA AA) rfl (Am AI D8 AA AA AA AA AA AA nk rfl (zq tb AA (dn g AA ?_)));obtain rfl:=Sh.AB h0;exact Aq (Exists.intro _ (And.intro ((((Gg (id:=1) (cs:=[.zc,.zc]) (cs':=X2) (st':=[Cs p0.decls p0.funcs,⟨0,26,2,[X2]⟩]) rfl ⟨le.zc,le.rfl,jf⟩ AA AA).trans (Gg (id:=1) (cs:=X2) (cs':=Qs) (st':=[Cs p0.decls p0.funcs,⟨0,26,2,[Qs]⟩]) rfl ⟨le.rfl,le.zc,jf⟩ AA AA)).trans (AT (L:=[(2,BJ),(3,.bool false)]) (st':=[⟨0,26,2,[Qs]⟩]) [1] AA (by decide) rfl AA (.raw AA AA .nil) ⟨.rfl,.rfl,jf⟩)).trans (Ag (L:=[(2,BJ),(3,.bool false)]) ⟨.rfl,.rfl,jf⟩)) (Ar (x:=.tmp 2) (off:=0) (cs:=Qs) (vs:=Qs) D8 AA AA AA nk rfl _ AA)))
 ·have q:i=true:=by simpa using j
  refine AL (d _ (sr AA λs h=>zq tb AA (zz (.fn 35 [BJ]) (dh AA) rfl (bs h0 λa b h0=>F6 (rowsP:=[Cs p0.decls p0.funcs]) (rows0:=[Cs p0.decls p0.funcs]) (rows1:=[Cs p0.decls p0.funcs]) (rows2:=[QO a.1.decls,Mf a.1.funcs]) (rows1':=[Cs p0.decls p0.funcs]) (rows2':=[QO a.1.decls,Mf a.1.funcs]) (st':=[Cs p0.decls p0.funcs,Gx,QO a.1.decls,Mf a.1.funcs]) (v':=(.Dp [.agg [ow 2 0 a.1.decls,ow 3 0 a.1.funcs],.bool a.2])) [0] AI (hb 27) (PL b) rfl (by decide) rfl AA (.raw AA AA .nil) rfl AA (.raw AA AA .nil) (.deep (Ah λ_=>AA) (.deep (Ah λ_=>AA) .nil)) rfl AA (zm tb 2 AA (AR (RD (L:=[(2,CS),(11,.agg [Ct a.1.decls,ow 3 0 a.1.funcs]),(12,.bool a.2)]) (st':=[Cs p0.decls p0.funcs,Gx,NO,Mf a.1.funcs]) (id:=2) rfl nz (Go.Abs.I1 (λ_=>AA)) ⟨.rfl,(.agg ⟨(.Ob AA (λx=>Xv x)),.rfl,jf⟩),.rfl,jf⟩ AA) (AR (RD (L:=[(2,CS),(11,.agg (Ou a.1.decls a.1.funcs)),(12,.bool a.2)]) (st':=[Cs p0.decls p0.funcs,Gx,NO,⟨1,37,5,[]⟩]) (id:=3) rfl (show 0<=3 by decide) (Go.Abs.I1 (λ_=>AA)) ⟨.rfl,(.agg ⟨.rfl,(.Ob AA (λx=>Xw x)),jf⟩),.rfl,jf⟩ AA) (Am AI D8 AA AA AA AA AA AA nk rfl (zq tb AA (dn h AA ?_))))))))));obtain rfl:=Sh.AB h0;exact Aq (Exists.intro _ (And.intro ((AT (L:=[(2,BJ),(3,.bool a.2)]) (st':=[Cs a.1.decls a.1.funcs]) [1] AA (by decide) rfl AA (.raw AA AA .nil) ⟨.rfl,.rfl,jf⟩).trans (Ag (L:=[(2,BJ),(3,.bool a.2)]) ⟨.rfl,.rfl,jf⟩)) (Ar (x:=.tmp 2) (off:=0) (cs:=(Ou a.1.decls a.1.funcs)) (vs:=(Ou a.1.decls a.1.funcs)) D8 AA AA AA nk rfl _ AA)))
theorem Mz {N:Nat}{p0:(List AM)}{p1:(List Int)}{r:Bool}(h0:Hk N p0 p1=some r):Ab Tryz.prog 94 [Ct p0,ls eI p1] [] (λv st=>v=(.bool r)/\st=[]):=by
 unfold Hk at h0;refine ai Tryz.func94 AA AA AA AA (zr tb AA AA (AG λo h=>zr tb AA AA ?_));obtain⟨i,a,h0⟩:=Sh.Bi h0;have p:∀(_:Unit),i=Sum.inr ()->∀s,Wk 0 s ⟨20,Aa [],[]⟩->o s:=by
  intro _ A s q;subst i;try dsimp only at h0
  refine h _ (AK q (zr tb AA AA ?_));obtain rfl:=Sh.AB h0;exact rt [(4,.bool true)]
 refine AU (Ax (σ:=Int) (λn v=>E7 p0 p1 n v=some i) (λj=>⟨20,Aa [(0,ls Aj p0),(1,ls eI p1),(5,i64 j)],[]⟩) N 0 a (AJ AA) (λ_ m=>by rw[E7]at m;cases m) ?_);rintro n j a;try dsimp only at a⊢
 rw[E7]at a;refine AG λB k=>sr AA λC l=>zm tb 2 AA (zl tb AA AA (zq tb AA (dn l AA ?_)));refine ci a AA ?_ ?_<;>clear a<;>intro D a
 ·refine AL (k _ (AG λt b=>AU (sr AA λu c=>zm tb 2 AA (bs a λx d a=>zx BQ d AA AA AA (zm tb 2 AA (zl tb AA AA (bs a λe f a=>zc (hb 72) (D1 f) rfl AA AA (zq tb AA (dn c AA ?_)))))))));refine ci a AA ?_ ?_<;>clear a<;>intro g a
  ·have y:e=false:=by simpa using g
   refine zr tb AA AA ?_;obtain rfl:=Sh.AB a;try dsimp only[id]at h0
   obtain rfl:=Sh.AB h0;exact rt [(4,.bool false)]
  ·have z:e=true:=by simpa using g
   exact AL (b _ (AH AA (zm tb 3 AA (AF (xi (Sh.w (j+1)) a (AJ AA))))))
 ·exact BD (p () (Sh.AB a).symm _ (AJ AA))
theorem Qz {N:Nat}{p0:(List AM)}{p1:Int}{r:Bool}(h0:IZ N p0 p1=some r):Ab Tryz.prog 127 [Ct p0,i64 p1] [] (λv st=>v=(.bool r)/\st=[]):=by
 unfold IZ at h0;refine ai Tryz.func127 AA AA AA AA (zr tb AA AA (sr AA λK2 Y=>zm tb 2 AA (bs h0 λk Z h0=>zx DH Z AA AA AA (zq tb AA (Av (m:=0) AI Gm AA AA (Am AI JY AA AA AA AA AA AA nj rfl (dn Y AA (AG λK4 b0=>sr AA λK5 b1=>zm tb 2 AA (zl tb AA AA (zq tb AA (dn b1 AA ?_)))))))))));refine ci h0 AA ?_ ?_<;>clear h0<;>intro b6 h0
 ·refine AG λK7 b2=>AG λK8 b3=>bs h0 λC a h0=>?_;have t:∀(t9:Bool),C=t9->∀s,Wk 0 s ⟨100,Aa [(0,Ct p0),(5,BJ),(29,.bool t9)],[Vd k]⟩->K8 s:=by
   intro t9 D s i;subst C;try dsimp only at h0
   refine b3 _ (AK i ?_);refine ci h0 AA ?_ ?_<;>clear h0<;>intro c6 h0
   ·refine zr tb AA AA ?_;obtain rfl:=Sh.AB h0;exact rd [(4,.bool false)]
   ·refine AL (b2 _ (AG λb4 E=>zr tb AA AA ?_));obtain⟨u,a,h0⟩:=Sh.Bi h0;have b5:∀(_:Unit),u=Sum.inr ()->∀s,Wk 0 s ⟨100,Aa [],[]⟩->b4 s:=by
     intro _ D s i;subst u;try dsimp only at h0
     refine E _ (AK i (zr tb AA AA ?_));obtain rfl:=Sh.AB h0;exact rt [(4,.bool true)]
    refine AU (Ax (σ:=Int) (λn v=>En N k p0 n v=some u) (λl=>⟨100,Aa [(0,ls Aj p0),(5,.ptr 0 0 0 0),(6,i64 l)],[⟨0,80,3,[Aj k]⟩]⟩) N 0 a (AJ AA) (λ_ F=>by rw[En]at F;cases F) ?_);rintro n l a;try dsimp only at a⊢
    rw[En]at a;refine AG λc7 G=>sr AA λc8 H=>zm tb 3 AA (zl tb AA AA (zq tb AA (dn H AA ?_)));refine ci a AA ?_ ?_<;>clear a<;>intro c9 a
    ·refine AL (G _ (AG λd1 I=>AU (AG λb7 J=>bs a λK c a=>?_)));have L:∀(x:Bool),K=x->∀s,Wk 0 s ⟨100,Aa [(0,Ct p0),(5,BJ),(6,i64 l),(55,.bool x)],[Vd k]⟩->b7 s:=by
      intro x D s i;subst K;try dsimp only at a
      refine J _ (AK i ?_);refine ci a AA ?_ ?_<;>clear a<;>intro d2 a
      ·refine zr tb AA AA ?_;obtain rfl:=Sh.AB a;try dsimp only[id]at h0
       obtain rfl:=Sh.AB h0;exact rd [(4,.bool false)]
      ·exact AL (I _ (AH AA (zm tb 3 AA (AF (xi (Sh.w (l+1)) a (AJ AA))))))
     refine AH AA (zm tb 3 AA (bs c λb8 q c=>zx Iw q AA AA AA (zm tb 2 AA (zl tb AA AA (zm tb 2 AA ?_)))));rcases Sh.Ak c with ⟨b,c⟩|⟨b,c⟩
     ·refine zs b AA ?_;iterate 8 refine zs b rfl ?_
      exact zt b AA (AF (L true (Sh.AB c).symm _ (AJ AA)))
     ·refine zg tb b AA ?_;iterate 3 refine zg tb b rfl ?_
      exact Ba (v:=(.Bh (CC b8) 0)) (CW AA AA b) rfl (Cg Iw AA AA q AA) (zg tb b AA (zg tb b AA (bs c λb9 M c=>zd b (hb 94) (Mz M) rfl AA AA AA (zg tb b AA (zf b AA (AF (L (!b9) (Sh.AB c).symm _ (AJ AA))))))))
    ·exact BD (b5 () (Sh.AB a).symm _ (Bn _ AA))
  refine AH AA (zm tb 2 AA (zl tb AA AA (zm tb 2 AA ?_)));rcases Sh.Ak a with ⟨e,a⟩|⟨e,a⟩
  ·refine zs e AA (zs e AA (zs e AA (zt e AA (zq tb AA ?_))));iterate 3 refine zs rfl rfl ?_
   exact zt AA AA (AF (t true (Sh.AB a).symm _ (AJ AA)))
  ·refine zg tb e AA (zg tb e AA (zg tb e AA (zf e AA (zq tb AA ?_))));rcases Sh.Ak a with ⟨f,a⟩|⟨f,a⟩
   ·exact zs f AA (zs f AA (zs f AA (zt f AA (AF (t true (Sh.AB a).symm _ (AJ AA))))))
   ·exact zg tb f AA (zg tb f AA (zg tb f AA (zf f AA (AF (t (!decide (k.to=0)) (Sh.AB a).symm _ (AJ AA))))))
 ·refine AL (b0 _ (AG λc0 O=>zr tb AA AA ?_));obtain⟨y,a,h0⟩:=Sh.Bi h0;have c1:∀(_:Unit),y=Sum.inr ()->∀s,Wk 0 s ⟨100,Aa [(0,Ct p0),(5,BJ)],[Vd k]⟩->c0 s:=by
   intro _ D s i;subst y;try dsimp only at h0
   refine O _ (AK i (AG λc2 P=>bs h0 λQ a h0=>?_));have R:∀(o:Bool),Q=o->∀s,Wk 0 s ⟨100,Aa [(4,.bool o)],[]⟩->c2 s:=by
    intro o D s i;subst Q;try dsimp only at h0
    refine P _ (AK i ?_);obtain rfl:=Sh.AB h0;exact rt [(4,.bool o)]
   refine AH AA (zm tb 3 AA (zl tb AA AA (bs a λd3 S a=>zc (hb 72) (D1 S) rfl AA AA (zq tb AA ?_))));rcases Sh.Ak a with ⟨d,a⟩|⟨d,a⟩
   ·exact zg tb d AA (zg tb d AA (zg tb d AA (Ba (v:=(G8 p0)) (CW AA AA d) rfl (Ch Rk AA) (bs a λc4 T a=>zd d (hb 72) (D1 T) rfl AA AA AA (zt d AA (zq tb AA (AF (R c4 (Sh.AB a).symm _ (Bn _ AA)))))))))
   ·refine zs d AA ?_;iterate 4 refine zs d rfl ?_
    exact zf d AA (zq tb AA (AF (R false (Sh.AB a).symm _ (Bn _ AA))))
  refine AU (Ax (σ:=Int) (λn v=>Eo k p0 p1 n v=some y) (λp=>⟨100,Aa [(0,ls Aj p0),(1,i64 p1),(5,.ptr 0 0 0 0),(7,i64 p)],[⟨0,80,3,[Aj k]⟩]⟩) N 0 a (AJ AA) (λ_ F=>by rw[Eo]at F;cases F) ?_);rintro n p a;try dsimp only at a⊢
  rw[Eo]at a;refine AG λd4 U=>zr tb AA AA ?_;refine ci a AA ?_ ?_<;>clear a<;>intro d5 a
  ·refine AL (U _ (AG λd6 V=>AU (AG λc5 W=>bs a λX c a=>?_)));have z:∀(A:Bool),X=A->∀s,Wk 0 s ⟨100,Aa [(0,Ct p0),(1,i64 p1),(5,BJ),(7,i64 p),(87,.bool A)],[Vd k]⟩->c5 s:=by
    intro A D s i;subst X;try dsimp only at a
    refine W _ (AK i ?_);refine ci a AA ?_ ?_<;>clear a<;>intro d7 a
    ·refine zr tb AA AA ?_;obtain rfl:=Sh.AB a;try dsimp only[id]at h0
     obtain rfl:=Sh.AB h0;exact rd [(4,.bool false)]
    ·exact AL (V _ (AH AA (zm tb 3 AA (AF (xi (Sh.w (p+1)) a (AJ AA))))))
   refine Cd (by kernel_rfl) (by kernel_rfl) (by rfl) ?_;iterate 2 refine yq tb rfl ?_
   refine bs c λB j c=>yx DH j AA AA AA ?_;iterate 2 refine yq tb rfl ?_
   refine yl tb AA AA ?_;iterate 2 refine yq tb rfl ?_
   rcases Sh.Ak c with ⟨g,c⟩|⟨g,c⟩
   ·refine yg tb g AA (yg tb g AA (H5 (v:=(.Bh (Aj B) 0)) (CW AA AA g) rfl (Cg DH AA AA j AA) ?_));iterate 5 refine yg tb g rfl ?_
    refine yt g AA (yq tb AA ?_);rcases Sh.Ak c with ⟨h,c⟩|⟨h,c⟩
    ·refine yg tb h AA (yg tb h AA (H5 (v:=(.Bh (Aj B) 0)) (CW AA AA h) rfl (Cg DH AA AA j AA) ?_));iterate 5 refine yg tb h rfl ?_
     exact yt h AA (Aw (z (decide (B.to=k.to)) (Sh.AB c).symm _ (AJ AA)))
    ·refine ys h AA ?_;iterate 7 refine ys h rfl ?_
     exact yf h AA (Aw (z false (Sh.AB c).symm _ (AJ AA)))
   ·refine ys g AA ?_;iterate 7 refine ys g rfl ?_
    refine yf g AA (yq tb AA ?_);iterate 8 refine ys rfl rfl ?_
    exact yf AA AA (Aw (z false (Sh.AB c).symm _ (AJ AA)))
  ·exact BD (c1 () (Sh.AB a).symm _ (AJ AA))
theorem QF {N:Nat}{p0:(List AM)}{r:Bool}(h0:H0 N p0=some r):Ab Tryz.prog 93 [Ct p0] [] (λv st=>v=(.bool r)/\st=[]):=by
 unfold H0 at h0;refine ai Tryz.func93 AA AA AA AA (zr tb AA AA (AG λD i=>sr AA λE j=>zq tb AA (zl tb AA AA (zq tb AA (dn j AA ?_)))));refine ci h0 AA ?_ ?_<;>clear h0<;>intro F h0
 ·refine zr tb AA AA ?_;obtain rfl:=Sh.AB h0;exact rt [(2,.bool false)]
 ·refine AL (i _ (AG λp k=>zr tb AA AA ?_));obtain⟨l,a,h0⟩:=Sh.Bi h0;have q:∀(_:Unit),l=Sum.inr ()->∀s,Wk 0 s ⟨17,Aa [],[]⟩->p s:=by
   intro _ G s t;subst l;try dsimp only at h0
   refine k _ (AK t (zr tb AA AA ?_));obtain rfl:=Sh.AB h0;exact rt [(2,.bool true)]
  refine AU (Ax (σ:=Int) (λn v=>EU N p0 n v=some l) (λm=>⟨17,Aa [(0,ls Aj p0),(3,i64 m)],[]⟩) N 0 a (AJ AA) (λ_ o=>by rw[EU]at o;cases o) ?_);rintro n m a;try dsimp only at a⊢
  rw[EU]at a;refine AG λu b=>sr AA λx c=>zm tb 2 AA (zl tb AA AA (zq tb AA (dn c AA ?_)));refine ci a AA ?_ ?_<;>clear a<;>intro y a
  ·refine AL (b _ (AG λz d=>AU (sr AA λA e=>zm tb 2 AA (bs a λf g a=>zc (hb 127) (Qz g) rfl AA AA (zq tb AA (dn e AA ?_))))));refine ci a AA ?_ ?_<;>clear a<;>intro h a
   ·have B:f=false:=by simpa using h
    refine zr tb AA AA ?_;obtain rfl:=Sh.AB a;try dsimp only[id]at h0
    obtain rfl:=Sh.AB h0;exact rt [(2,.bool false)]
   ·have C:f=true:=by simpa using h
    exact AL (d _ (AH AA (zm tb 3 AA (AF (xi (Sh.w (m+1)) a (AJ AA))))))
  ·exact BD (q () (Sh.AB a).symm _ (AJ AA))
theorem Qo {N:Nat}{p0:AP}{r:Bool}(h0:HA N p0=some r):Ab Tryz.prog 57 [H7 p0] [] (λv st=>v=(.bool r)/\st=[]):=by
 unfold HA at h0;refine ai Tryz.func57 AA AA AA AA (sr AA λK1 I=>Bf (m:=0) AI AA AA AA AA AA (zq tb AA (dn I AA (AG λK2 J=>AG λX K=>bs h0 λU a h0=>?_))));have V:∀(L:Bool),U=L->∀s,Wk 0 s ⟨64,Aa [(1,BJ),(15,.bool L)],[Cs p0.decls p0.funcs]⟩->X s:=by
  intro L M s j;subst U;try dsimp only at h0
  refine K _ (AK j ?_);refine ci h0 AA ?_ ?_<;>clear h0<;>intro b6 h0
  ·refine zr tb AA AA ?_;obtain rfl:=Sh.AB h0;exact rd [(2,.bool false)]
  ·refine AL (J _ (AG λY O=>zr tb AA AA ?_));obtain⟨k,a,h0⟩:=Sh.Bi h0;have P:∀(_:Unit),k=Sum.inr ()->∀s,Wk 0 s ⟨64,Aa [(1,BJ)],[Cs p0.decls p0.funcs]⟩->Y s:=by
    intro _ M s j;subst k;try dsimp only at h0
    refine O _ (AK j (AG λQ p=>bs h0 λq a h0=>?_));have t:∀(g:Bool),q=g->∀s,Wk 0 s ⟨64,Aa [(2,.bool g)],[]⟩->Q s:=by
     intro g M s j;subst q;try dsimp only at h0
     refine p _ (AK j ?_);obtain rfl:=Sh.AB h0;exact rt [(2,.bool g)]
    refine AH AA (zm tb 2 AA (bs a λu i a=>zx Cu i AA AA AA (zm tb 2 AA (zl tb AA AA (zm tb 2 AA ?_)))));rcases Sh.Ak a with ⟨d,a⟩|⟨d,a⟩
    ·refine zg tb d AA (zg tb d AA (Ba (v:=(.Bh (BS u) 0)) (CW AA AA d) rfl (Cg Cu AA AA i AA) ?_));iterate 3 refine zg tb d rfl ?_
     exact zt d AA (zq tb AA (AF (t (decide (u.result=0)) (Sh.AB a).symm _ (Bn _ AA))))
    ·refine zs d AA ?_;iterate 5 refine zs d rfl ?_
     exact zf d AA (zq tb AA (AF (t false (Sh.AB a).symm _ (Bn _ AA))))
   refine AU (Ax (σ:=Int) (λn v=>EG N p0 n v=some k) (λh=>⟨64,Aa [(1,.ptr 0 0 0 0),(3,i64 h)],[Cs p0.decls p0.funcs]⟩) N 0 a (AJ AA) (λ_ W=>by rw[EG]at W;cases W) ?_);rintro n h a;try dsimp only at a⊢
   rw[EG]at a;refine AG λZ x=>sr AA λb0 y=>zm tb 3 AA (zl tb AA AA (zq tb AA (dn y AA ?_)));refine ci a AA ?_ ?_<;>clear a<;>intro b1 a
   ·refine AL (x _ (AG λb2 z=>AU (sr AA λb3 A=>zm tb 3 AA (bs a λb4 B a=>zx Cu B AA AA AA (zq tb AA (Av (m:=1) AI Lg AA AA (Am AI LA AA AA AA AA AA AA nm rfl (dn A AA (AG λR C=>bs a λD f a=>?_)))))))));have l:∀(o:Bool),D=o->∀s,Wk 0 s ⟨64,Aa [(1,BJ),(3,i64 h),(48,.bool o)],[Cs p0.decls p0.funcs]⟩->R s:=by
     intro o M s j;subst D;try dsimp only at a
     refine C _ (AK j ?_);refine ci a AA ?_ ?_<;>clear a<;>intro b5 a
     ·refine zr tb AA AA ?_;obtain rfl:=Sh.AB a;try dsimp only[id]at h0
      obtain rfl:=Sh.AB h0;exact rd [(2,.bool false)]
     ·exact AL (z _ (AH AA (zm tb 3 AA (AF (xi (Sh.w (h+1)) a (AJ AA))))))
    refine AH AA (zm tb 2 AA (zl tb AA AA (zm tb 2 AA ?_)));rcases Sh.Ak f with ⟨e,f⟩|⟨e,f⟩
    ·refine zs e AA ?_;iterate 5 refine zs e rfl ?_
     refine zt e AA (zq tb AA ?_);iterate 7 refine zs rfl rfl ?_
     exact zt AA AA (AF (l true (Sh.AB f).symm _ (AT [0] AA (by decide) rfl AA (.raw AA AA .nil) (.same AA))))
    ·refine zg tb e AA ?_;iterate 3 refine zg tb e rfl ?_
     refine bs f λb7 E f=>zd e (hb 94) (Mz E) rfl AA AA AA (zg tb e AA (zf e AA (zq tb AA ?_)));rcases Sh.Ak f with ⟨b,f⟩|⟨b,f⟩
     ·refine zs b AA ?_;iterate 6 refine zs b rfl ?_
      exact zt b AA (AF (l true (Sh.AB f).symm _ (AT [0] AA (by decide) rfl AA (.raw AA AA .nil) (.same AA))))
     ·refine zg tb b AA ?_;iterate 3 refine zg tb b rfl ?_
      exact Ba (v:=(i64 (Sh.len p0.decls))) (CW AA AA b) rfl (Ch Rk AA) (bs f λS F f=>zd b (hb 72) (D1 F) rfl AA AA AA (zg tb b AA (zf b AA (AF (l (!S) (Sh.AB f).symm _ (AT [0] AA (by decide) rfl AA (.raw AA AA .nil) (.same AA)))))))
   ·exact BD (P () (Sh.AB a).symm _ (AJ AA))
 refine AH AA (zm tb 2 AA (bs a λb8 G a=>zc (hb 93) (QF G) rfl AA AA (zm tb 2 AA ?_)));rcases Sh.Ak a with ⟨c,a⟩|⟨c,a⟩
 ·refine zs c AA ?_;iterate 4 refine zs c rfl ?_
  exact zt c AA (AF (V true (Sh.AB a).symm _ (AJ AA)))
 ·exact zg tb c AA (zg tb c AA (Ba (v:=(i64 (Sh.len p0.funcs))) (CW AA AA c) rfl (Ch Tp AA) (bs a λT H a=>zd c (hb 72) (D1 H) rfl AA AA AA (zg tb c AA (zf c AA (AF (V (!T) (Sh.AB a).symm _ (AJ AA))))))))
theorem Nn {N:Nat}{oU:AP->(List Int)->AE->Option (Int)}(oZ :∀{p0:AP} {p1:(List Int)} {p2:AE} {r:Int},oU p0 p1 p2=some r->Ab Tryz.prog 59 [H7 p0,ls eI p1,Bc p2] [] (λv st=>v=(i64 r)/\st=[])){p0:AP}{p1:(List Int)}{p2:(List AE)}{p3:Int}{r:Bool}(h0:Ij N oU p0 p1 p2 p3=some r):Ab Tryz.prog 96 [H7 p0,ls eI p1,GV p2,i64 p3] [] (λv st=>v=(.bool r)/\st=[]):=by
 unfold Ij at h0;refine ai Tryz.func96 AA AA AA AA (sr AA λG k=>Bf (m:=0) AI AA AA AA AA AA (zq tb AA (dn k AA (AG λH l=>sr AA λI o=>zq tb AA (zl tb AA AA (zm tb 2 AA (dn o AA ?_)))))));refine ci h0 AA ?_ ?_<;>clear h0<;>intro u h0
 ·have J:decide ((Sh.len p2)=p3)=false:=by simpa using u
  refine zr tb AA AA ?_;obtain rfl:=Sh.AB h0;exact rd [(8,.bool false)]
 ·have K:decide ((Sh.len p2)=p3)=true:=by simpa using u
  refine AL (l _ (AG λy p=>zr tb AA AA ?_));obtain⟨b,a,h0⟩:=Sh.Bi h0;have q:∀(_:Unit),b=Sum.inr ()->∀s,Wk 0 s ⟨27,Aa [],[]⟩->y s:=by
   intro _ L s z;subst b;try dsimp only at h0
   refine p _ (AK z (zr tb AA AA ?_));obtain rfl:=Sh.AB h0;exact rt [(8,.bool true)]
  refine AU (Ax (σ:=Int) (λn v=>Fb p0 p1 p2 p3 oU n v=some b) (λc=>⟨27,Aa [(1,ls eI p1),(2,ls Au p2),(3,i64 p3),(4,.ptr 0 0 0 0),(9,i64 c)],[Cs p0.decls p0.funcs]⟩) N 0 a (AJ AA) (λ_ x=>by rw[Fb]at x;cases x) ?_);rintro n c a;try dsimp only at a⊢
  rw[Fb]at a;refine AG λA e=>zr tb AA AA ?_;refine ci a AA ?_ ?_<;>clear a<;>intro B a
  ·refine AL (e _ (AG λC f=>AU (AG λD g=>Cd (by kernel_rfl) (by kernel_rfl) (by rfl) ?_)));iterate 4 refine yq tb rfl ?_
   refine bs a λt h a=>yz (Da t) (By BU AA AA h (Ai _) rfl) rfl (yq tb AA (bs a λd i a=>BW (v:=(i64 d)) AI (hb 59) (oZ i) rfl AA AA (yq tb AA (Aw (g _ ?_)))));refine ci a AA ?_ ?_<;>clear a<;>intro j a
   ·have E:decide (d=0)=false:=by simpa using j
    refine zr tb AA AA ?_;obtain rfl:=Sh.AB a;try dsimp only[id]at h0
    obtain rfl:=Sh.AB h0;exact rd [(8,.bool false)]
   ·have F:decide (d=0)=true:=by simpa using j
    exact AL (f _ (AH AA (zm tb 3 AA (AF (xi (Sh.w (c+1)) a (AJ AA))))))
  ·exact BD (q () (Sh.AB a).symm _ (Bn _ AA))
theorem L6 {N:Nat}{oU:AP->(List Int)->AE->Option (Int)}(oZ :∀{p0:AP} {p1:(List Int)} {p2:AE} {r:Int},oU p0 p1 p2=some r->Ab Tryz.prog 59 [H7 p0,ls eI p1,Bc p2] [] (λv st=>v=(i64 r)/\st=[])){p0:AP}{p1:(List Int)}{p2:(List AE)}{p3:(List Int)}{r:Bool}(h0:I4 N oU p0 p1 p2 p3=some r):Ab Tryz.prog 98 [H7 p0,ls eI p1,GV p2,ls eI p3] [] (λv st=>v=(.bool r)/\st=[]):=by
 unfold I4 at h0;refine ai Tryz.func98 AA AA AA AA (sr AA λK p=>Bf (m:=0) AI AA AA AA AA AA (zq tb AA (dn p AA (AG λL q=>sr AA λM t=>zq tb AA (zl tb AA AA (zq tb AA (zl tb AA AA (zq tb AA (dn t AA ?_)))))))));refine ci h0 AA ?_ ?_<;>clear h0<;>intro z h0
 ·have O:decide ((Sh.len p2)=(Sh.len p3))=false:=by simpa using z
  refine zr tb AA AA ?_;obtain rfl:=Sh.AB h0;exact rd [(8,.bool false)]
 ·have P:decide ((Sh.len p2)=(Sh.len p3))=true:=by simpa using z
  refine AL (q _ (AG λB u=>zr tb AA AA ?_));obtain⟨b,a,h0⟩:=Sh.Bi h0;have x:∀(_:Unit),b=Sum.inr ()->∀s,Wk 0 s ⟨33,Aa [],[]⟩->B s:=by
   intro _ Q s C;subst b;try dsimp only at h0
   refine u _ (AK C (zr tb AA AA ?_));obtain rfl:=Sh.AB h0;exact rt [(8,.bool true)]
  refine AU (Ax (σ:=Int) (λn v=>GR p0 p1 p2 p3 oU n v=some b) (λc=>⟨33,Aa [(1,ls eI p1),(2,ls Au p2),(3,ls eI p3),(4,.ptr 0 0 0 0),(9,i64 c)],[Cs p0.decls p0.funcs]⟩) N 0 a (AJ AA) (λ_ A=>by rw[GR]at A;cases A) ?_);rintro n c a;try dsimp only at a⊢
  rw[GR]at a;refine AG λD e=>sr AA λE f=>zm tb 2 AA (zl tb AA AA (zq tb AA (dn f AA ?_)));refine ci a AA ?_ ?_<;>clear a<;>intro F a
  ·refine AL (e _ (AG λG g=>AU (AG λH h=>Cd (by kernel_rfl) (by kernel_rfl) (by rfl) ?_)));iterate 4 refine yq tb rfl ?_
   refine bs a λy i a=>yz (Da y) (By BU AA AA i (Ai _) rfl) rfl (yq tb AA (bs a λd j a=>BW (v:=(i64 d)) AI (hb 59) (oZ j) rfl AA AA ?_));iterate 2 refine yq tb rfl ?_
   refine bs a λk l a=>yx BQ l AA AA AA ?_;iterate 2 refine yq tb rfl ?_
   refine Aw (h _ ?_);refine ci a AA ?_ ?_<;>clear a<;>intro o a
   ·have I:decide (d=k)=false:=by simpa using o
    refine zr tb AA AA ?_;obtain rfl:=Sh.AB a;try dsimp only[id]at h0
    obtain rfl:=Sh.AB h0;exact rd [(8,.bool false)]
   ·have J:decide (d=k)=true:=by simpa using o
    exact AL (g _ (AH AA (zm tb 3 AA (AF (xi (Sh.w (c+1)) a (AJ AA))))))
  ·exact BD (x () (Sh.AB a).symm _ (Bn _ AA))
theorem Qv {N:Nat}{oU:AP->(List Int)->AE->Option (Int)}(oZ :∀{p0:AP} {p1:(List Int)} {p2:AE} {r:Int},oU p0 p1 p2=some r->Ab Tryz.prog 59 [H7 p0,ls eI p1,Bc p2] [] (λv st=>v=(i64 r)/\st=[])){p0:AP}{p1:(List Int)}{p2:AE}{r:Int}(h0:Jr N oU p0 p1 p2=some r):Ab Tryz.prog 100 [H7 p0,ls eI p1,Bc p2] [] (λv st=>v=(i64 r)/\st=[]):=by
 unfold Jr at h0;refine ai Tryz.func100 AA AA AA AA (sr AA λK1 K=>Bf (m:=0) AI AA AA AA AA AA (Bf (m:=1) AI AA AA AA AA AA (zq tb AA (dn K AA (sr AA λK2 M=>zm tb 4 AA (bs h0 λe O h0=>CM (v':=(ow 2 0 e)) AI (hb 104) (IV O) rfl AA ⟨(CQ λ_=>AA),jf⟩ AA AA (zq tb AA (dn M AA (AG λK4 P=>AG λK5 Q=>bs h0 λo7 a h0=>?_)))))))));have R:∀(S:Bool),o7=S->∀s,Wk 0 s ⟨79,Aa [(1,ls eI p1),(3,BJ),(5,CS),(7,ow 2 0 e),(38,.bool S)],[Cs p0.decls p0.funcs,Om p2.op p2.num p2.kids,Bl e]⟩->K5 s:=by
  intro S hq s T;subst o7;try dsimp only at h0
  refine Q _ (AK T ?_);refine ci h0 AA ?_ ?_<;>clear h0<;>intro b8 h0
  ·refine zr tb AA AA ?_;obtain rfl:=Sh.AB h0;exact rd [(6,i64 (-1))]
  ·refine AL (P _ (AG λb3 k=>Bv 14 (by kernel_rfl) (by kernel_rfl) (by rfl) ?_));iterate 5 refine yq tb rfl ?_
   refine bs h0 λU g h0=>yz (.ptr 2 0 (Int.toNat 0) 0) (Bz BQ AA AA AA AA g) rfl (yz (i64 U) (Bx HV AA AA (CU g) rfl) rfl (bs h0 λV l h0=>BW (v:=(ls eI V)) AI (hb 99) (Es l) rfl AA AA (bs h0 λo p h0=>?_)));refine BW (v:=(ls eI o)) AI (hb 85) (Ab.wk (FV p) (by refine Wk.trans (Wk.BL (L:=[(0,ls eI o)]) (st':=S9) (id:=0) rfl np (AD λ_=>AA) ⟨.BL AA,jf⟩ AA) ?_;exact AT [] AA (by decide) rfl AA .nil (.same AA))) rfl AA AA ?_;iterate 2 refine yq tb rfl ?_
   refine bs h0 λW q h0=>yz (Da W) (By BU AA AA q (Ai _) rfl) rfl (yq tb AA (bs h0 λd t h0=>BW (v:=(i64 d)) AI (hb 59) (oZ t) rfl AA AA (Aw (zq tb AA (dn k AA (AG λX u=>zr tb AA AA ?_))))));obtain⟨i,a,h0⟩:=Sh.Bi h0;have Y:∀(_:Unit),i=Sum.inr ()->∀s,Wk 0 s ⟨79,Aa [(8,i64 d)],[]⟩->X s:=by
    intro _ hq s T;subst i;try dsimp only at h0
    refine u _ (AK T (zr tb AA AA ?_));obtain rfl:=Sh.AB h0;exact rt [(6,i64 d)]
   refine AU (Ax (σ:=Int) (λn v=>EI N p0 p1 p2 d e oU n v=some i) (λf=>⟨79,Aa [(1,ls eI p1),(3,.ptr 0 0 0 0),(5,.ptr 1 0 0 0),(7,ow 2 0 e),(8,i64 d),(9,i64 f)],[Cs p0.decls p0.funcs,Om p2.op p2.num p2.kids,ro 0 3 1 eI e]⟩) N 1 a (AJ AA) (λ_ hv=>by rw[EI]at hv;cases hv) ?_);rintro n f a;try dsimp only at a⊢
   rw[EI]at a;refine AG λb4 x=>sr AA λb5 y=>zm tb 2 AA (zz (G8 e) (Cr Fp AA AA AA) rfl (zq tb AA (dn y AA ?_)));refine ci a AA ?_ ?_<;>clear a<;>intro b6 a
   ·refine AL (x _ (AG λb7 z=>AU (AG λb9 A=>Bv 18 (by kernel_rfl) (by kernel_rfl) (by rfl) ?_)));iterate 6 refine yq tb rfl ?_
    refine bs a λZ h a=>yz (.ptr 2 0 (Int.toNat f) 0) (Bz BQ AA AA AA AA h) rfl (yz (i64 Z) (Bx HV AA AA (CU h) rfl) rfl (bs a λb0 B a=>BW (v:=(ls eI b0)) AI (hb 99) (Es B) rfl AA AA (bs a λC D a=>?_)));refine BW (v:=(ls eI C)) AI (hb 85) (Ab.wk (FV D) (by refine Wk.trans (Wk.BL (L:=[(0,ls eI C)]) (st':=S9) (id:=0) rfl np (AD λ_=>AA) ⟨.BL AA,jf⟩ AA) ?_;exact AT [] AA (by decide) rfl AA .nil (.same AA))) rfl AA AA ?_;iterate 4 refine yq tb rfl ?_
    refine bs a λb1 E a=>yz (Da b1) (By BU AA AA E (Ai _) rfl) rfl (yq tb AA (bs a λj F a=>BW (v:=(i64 j)) AI (hb 59) (oZ F) rfl AA AA (yq tb AA (Aw (zq tb AA (dn A AA ?_))))));refine ci a AA ?_ ?_<;>clear a<;>intro G a
    ·have c0:decide (j=d)=false:=by simpa using G
     refine zr tb AA AA ?_;obtain rfl:=Sh.AB a;try dsimp only[id]at h0
     obtain rfl:=Sh.AB h0;exact rd [(6,i64 (-1))]
    ·have c1:decide (j=d)=true:=by simpa using G
     exact AL (z _ (AH AA (zm tb 3 AA (AF (xi (Sh.w (f+1)) a (AJ AA))))))
   ·exact BD (Y () (Sh.AB a).symm _ (Bn _ AA))
 refine Cd (by kernel_rfl) (by kernel_rfl) (by rfl) (yq tb AA (yz (G8 e) (Cr Fp AA AA AA) rfl ?_));iterate 2 refine yq tb rfl ?_
 rcases Sh.Ak a with ⟨b,a⟩|⟨b,a⟩
 ·refine ys b AA ?_;iterate 6 refine ys b rfl ?_
  refine yt b AA (yq tb AA ?_);iterate 10 refine ys rfl rfl ?_
  exact yt AA AA (Aw (R true (Sh.AB a).symm _ (AJ AA)))
 ·refine yg tb b AA (yg tb b AA (H5 (v:=(YJ p2)) (CW AA AA b) rfl (Ch SH AA) (yg tb b AA (H5 (v:=(G8 e)) (CW AA AA b) rfl (Cr Fp AA AA AA) ?_))));iterate 2 refine yg tb b rfl ?_
  refine yf b AA (yq tb AA ?_);rcases Sh.Ak a with ⟨c,a⟩|⟨c,a⟩
  ·refine ys c AA ?_;iterate 9 refine ys c rfl ?_
   exact yt c AA (Aw (R true (Sh.AB a).symm _ (AJ AA)))
  ·refine yg tb c AA ?_;iterate 3 refine yg tb c rfl ?_
   refine bs a λb2 H a=>H5 (v:=(Da b2)) (CW AA AA c) rfl (By BU AA AA H (Ai _) rfl) (yg tb c AA (bs a λI J a=>BW (v:=(i64 I)) (CW AA AA c) (hb 59) (oZ J) rfl AA AA ?_));iterate 3 refine yg tb c rfl ?_
   exact yf c AA (Aw (R (!decide (I=p2.num)) (Sh.AB a).symm _ (AJ AA)))
theorem SL {N:Nat}{oU:AP->(List Int)->AE->Option (Int)}(oZ :∀{p0:AP} {p1:(List Int)} {p2:AE} {r:Int},oU p0 p1 p2=some r->Ab Tryz.prog 59 [H7 p0,ls eI p1,Bc p2] [] (λv st=>v=(i64 r)/\st=[])){p0:AP}{p1:(List Int)}{p2:AE}{r:Int}(h0:GS N oU p0 p1 p2=some r):Ab Tryz.prog 101 [H7 p0,ls eI p1,Bc p2] [] (λv st=>v=(i64 r)/\st=[]):=by
 unfold GS at h0;refine ai Tryz.func101 AA AA AA AA (sr AA λK1 E=>Bf (m:=0) AI AA AA AA AA AA (Bf (m:=1) AI AA AA AA AA AA (zq tb AA (dn E AA (AG λK2 F=>sr AA λK3 G=>zm tb 4 AA (zl tb AA AA (zq tb AA (bs h0 λK H h0=>zc (hb 72) (D1 H) rfl AA AA (zq tb AA (dn G AA ?_))))))))));refine ci h0 AA ?_ ?_<;>clear h0<;>intro L h0
 ·have b6:K=false:=by simpa using L
  refine zr tb AA AA ?_;obtain rfl:=Sh.AB h0;exact rd [(6,i64 (-1))]
 ·have b8:K=true:=by simpa using L
  refine AL (F _ (sr AA λK9 I=>zm tb 4 AA (bs h0 λb e h0=>zx Cu e AA AA AA (zq tb AA (Av (m:=2) AI Lg AA AA (Am AI LA AA AA AA AA AA AA nm rfl (dn I AA (sr AA λM f=>zm tb 2 AA (zl tb AA AA (zq tb AA (dn f AA (AG λO g=>zr tb AA AA ?_))))))))))));refine ci h0 AA ?_ ?_<;>clear h0<;>intro P h0
  ·refine AG λQ h=>sr AA λR k=>zm tb 6 AA (bs h0 λl n h0=>zc (hb 98) (L6 oZ n) rfl AA AA (zq tb AA (dn k AA ?_)));refine ci h0 AA ?_ ?_<;>clear h0<;>intro o h0
   ·have S:l=false:=by simpa using o
    refine zr tb AA AA ?_;obtain rfl:=Sh.AB h0;exact rd [(6,i64 (-1))]
   ·have T:l=true:=by simpa using o
    refine AL (h _ (zr tb AA AA ?_));obtain rfl:=Sh.AB h0;exact rd [(6,i64 b.result)]
  ·refine AL (g _ (AG λU p=>AG λJ q=>bs h0 λt c h0=>?_));have u:∀(d:Bool),t=d->∀s,Wk 0 s ⟨65,Aa [(3,BJ),(7,CS),(8,i64 (Sh.len b.params)),(53,.bool d)],[Cs p0.decls p0.funcs,⟨0,37,5,[PF b]⟩]⟩->J s:=by
    intro d hq s V;subst t;try dsimp only at h0
    refine q _ (AK V ?_);refine ci h0 AA ?_ ?_<;>clear h0<;>intro W h0
    ·refine zr tb AA AA ?_;obtain rfl:=Sh.AB h0;exact rd [(6,i64 (-1))]
    ·refine AL (p _ (AG λX x=>Cd (by kernel_rfl) (by kernel_rfl) (by rfl) ?_));iterate 6 refine yq tb rfl ?_
     refine bs h0 λY y h0=>yx BQ y AA AA AA ?_;iterate 3 refine yq tb rfl ?_
     refine bs h0 λz A h0=>BW (v:=(i64 z)) AI (hb 128) (Nj A) rfl AA AA (yq tb AA (Aw (x _ ?_)));obtain rfl:=Sh.AB h0;exact rd [(6,i64 z)]
   refine Bv 14 (by kernel_rfl) (by kernel_rfl) (by rfl) ?_;iterate 3 refine yq tb rfl ?_
   rcases Sh.Ak c with ⟨a,c⟩|⟨a,c⟩
   ·refine ys a AA ?_;iterate 10 refine ys a rfl ?_
    exact Aw (zt a AA (AF (u true (Sh.AB c).symm _ (AT [0,2] AA (by decide) rfl AA (.raw AA AA (.raw AA AA .nil)) (.same AA)))))
   ·refine yg tb a AA ?_;iterate 7 refine yg tb a rfl ?_
    exact bs c λZ B c=>ae (i:=0) (j:=Sh.w ((Sh.len b.params)-1)) (CW AA AA a) BQ AA AA AA (λ_=>AA) B (bs c λC D c=>BW (v:=(.bool C)) (CW AA AA a) (hb 98) (L6 oZ D) rfl AA AA (yg tb a AA (Aw (zf a AA (AF (u (!C) (Sh.AB c).symm _ (AT [0,2] AA (by decide) rfl AA (.raw AA AA (.raw AA AA .nil)) (.same AA))))))))
theorem R8 {N:Nat}{oU:AP->(List Int)->AE->Option (Int)}(oZ :∀{p0:AP} {p1:(List Int)} {p2:AE} {r:Int},oU p0 p1 p2=some r->Ab Tryz.prog 59 [H7 p0,ls eI p1,Bc p2] [] (λv st=>v=(i64 r)/\st=[])){p0:AP}{p1:(List Int)}{p2:AE}{r:Int}(h0:Bp N oU p0 p1 p2=some r):Ab Tryz.prog 59 [H7 p0,ls eI p1,Bc p2] [] (λv st=>v=(i64 r)/\st=[]):=by
 unfold Bp at h0;refine ai Tryz.func59 AA AA AA AA (sr AA λK1 m7=>Bf (m:=0) AI AA AA AA AA AA (Bf (m:=1) AI AA AA AA AA AA (zq tb AA (dn m7 AA (zr tb AA AA (AG λK3 m8=>?_))))));obtain⟨o4,a,h0⟩:=Sh.Bi h0;have p:∀(_:Unit),o4=Sum.inr ()->∀s,Wk 0 s ⟨215,Aa [],[]⟩->K3 s:=by
  intro _ q s e;subst o4;try dsimp only at h0
  refine m8 _ (AK e (zr tb AA AA ?_));obtain rfl:=Sh.AB h0;exact rt [(6,i64 (-1))]
 refine zr tb AA AA (AU (zr tb AA AA ?_));refine ci a AA ?_ ?_<;>clear a<;>intro b8 a
 ·refine AG λK9 m9=>bs a λb3 b a=>?_;have b4:∀(E:Bool),b3=E->∀s,Wk 0 s ⟨215,Aa [(26,.bool E)],[]⟩->K9 s:=by
   intro E q s e;subst b3;try dsimp only at a
   refine m9 _ (AK e ?_);refine ci a AA ?_ ?_<;>clear a<;>intro v9 a
   ·refine zr tb AA AA ?_;obtain rfl:=Sh.AB a;try dsimp only[id]at h0
    obtain rfl:=Sh.AB h0;exact rt [(6,i64 0)]
   ·exact AL (p () (Sh.AB a).symm _ (AJ AA))
  refine AH AA (zm tb 2 AA (zl tb AA AA (zm tb 2 AA ?_)));rcases Sh.Ak b with ⟨h,b⟩|⟨h,b⟩
  ·exact zg tb h AA (zg tb h AA (bs b λq0 b5 b=>zd h (hb 72) (D1 b5) rfl AA AA AA (zt h AA (AF (b4 q0 (Sh.AB b).symm _ (Bn _ AA))))))
  ·exact zs h AA (zs h AA (zs h AA (zf h AA (AF (b4 false (Sh.AB b).symm _ (Bn _ AA))))))
 ·refine zr tb AA AA ?_;refine ci a AA ?_ ?_<;>clear a<;>intro w0 a
  ·refine AG λq1 b6=>bs a λb7 b a=>?_;have b9:∀(F:Bool),b7=F->∀s,Wk 0 s ⟨215,Aa [(1,ls eI p1),(5,BJ),(40,.bool F)],[Om p2.op p2.num p2.kids]⟩->q1 s:=by
    intro F q s e;subst b7;try dsimp only at a
    refine b6 _ (AK e ?_);refine ci a AA ?_ ?_<;>clear a<;>intro w1 a
    ·refine sr AA λw2 c0=>zm tb 3 AA (bs a λq2 c1 a=>zx BQ c1 AA AA AA (zm tb 2 AA (dn c0 AA ?_)));obtain rfl:=Sh.AB a;try dsimp only[id]at h0
     obtain rfl:=Sh.AB h0;exact rd [(6,i64 q2)]
    ·exact AL (p () (Sh.AB a).symm _ (Bn _ AA))
   refine AH AA (zm tb 2 AA (zl tb AA AA (zm tb 2 AA ?_)));rcases Sh.Ak b with ⟨f,b⟩|⟨f,b⟩
   ·exact zg tb f AA (zg tb f AA (zg tb f AA (Ba (v:=(G8 p1)) (CW AA AA f) rfl (Ch Fp AA) (zg tb f AA (bs b λq3 c2 b=>zd f (hb 72) (D1 c2) rfl AA AA AA (zt f AA (AF (b9 q3 (Sh.AB b).symm _ (AT [1] AA (by decide) rfl AA (.raw AA AA .nil) (.same AA))))))))))
   ·refine zs f AA ?_;iterate 5 refine zs f rfl ?_
    exact zf f AA (AF (b9 false (Sh.AB b).symm _ (AT [1] AA (by decide) rfl AA (.raw AA AA .nil) (.same AA))))
  ·refine AG λq4 c3=>bs a λc4 b a=>?_;have w:∀(G:Bool),c4=G->∀s,Wk 0 s ⟨215,Aa (cS p1 p2 [(46,.bool G)]),[Cs p0.decls p0.funcs,Om p2.op p2.num p2.kids]⟩->q4 s:=by
    intro G q s e;subst c4;try dsimp only at a
    refine c3 _ (AK e ?_);refine ci a AA ?_ ?_<;>clear a<;>intro w3 a
    ·refine AG λq5 c5=>bs a λc6 b a=>?_;have c7:∀(H:Bool),c6=H->∀s,Wk 0 s ⟨215,Aa [(58,.bool H)],[]⟩->q5 s:=by
      intro H q s e;subst c6;try dsimp only at a
      refine c5 _ (AK e ?_);refine ci a AA ?_ ?_<;>clear a<;>intro w4 a
      ·refine zr tb AA AA ?_;obtain rfl:=Sh.AB a;try dsimp only[id]at h0
       obtain rfl:=Sh.AB h0;exact rt [(6,i64 0)]
      ·exact AL (p () (Sh.AB a).symm _ (AJ AA))
     refine AH AA (zm tb 2 AA ?_);rcases Sh.Ak b with ⟨n,b⟩|⟨n,b⟩
     ·refine zg tb n AA ?_;iterate 3 refine zg tb n rfl ?_
      exact bs b λq6 c8 b=>zd n (hb 96) (Nn oZ c8) rfl AA AA AA (zt n AA (AF (c7 q6 (Sh.AB b).symm _ (Bn _ AA))))
     ·refine zs n AA ?_;iterate 4 refine zs n rfl ?_
      exact zf n AA (AF (c7 false (Sh.AB b).symm _ (Bn _ AA)))
    ·refine zr tb AA AA ?_;refine ci a AA ?_ ?_<;>clear a<;>intro w5 a
     ·refine AG λq7 c9=>bs a λd1 b a=>?_;have d2:∀(I:Bool),d1=I->∀s,Wk 0 s ⟨215,Aa [(68,.bool I)],[]⟩->q7 s:=by
       intro I q s e;subst d1;try dsimp only at a
       refine c9 _ (AK e ?_);refine ci a AA ?_ ?_<;>clear a<;>intro w6 a
       ·refine zr tb AA AA ?_;obtain rfl:=Sh.AB a;try dsimp only[id]at h0
        obtain rfl:=Sh.AB h0;exact rt [(6,i64 0)]
       ·exact AL (p () (Sh.AB a).symm _ (AJ AA))
      refine AH AA (zm tb 2 AA ?_);rcases Sh.Ak b with ⟨o,b⟩|⟨o,b⟩
      ·refine zg tb o AA ?_;iterate 3 refine zg tb o rfl ?_
       exact bs b λq8 d3 b=>zd o (hb 96) (Nn oZ d3) rfl AA AA AA (zt o AA (AF (d2 q8 (Sh.AB b).symm _ (Bn _ AA))))
      ·refine zs o AA ?_;iterate 4 refine zs o rfl ?_
       exact zf o AA (AF (d2 false (Sh.AB b).symm _ (Bn _ AA)))
     ·refine zr tb AA AA ?_;refine ci a AA ?_ ?_<;>clear a<;>intro w7 a
      ·refine AG λq9 d4=>bs a λd5 b a=>?_;have d6:∀(J:Bool),d5=J->∀s,Wk 0 s ⟨215,Aa [(3,BJ),(5,CS),(88,.bool J)],[Cs p0.decls p0.funcs,Om p2.op p2.num p2.kids]⟩->q9 s:=by
        intro J q s e;subst d5;try dsimp only at a
        refine d4 _ (AK e ?_);refine ci a AA ?_ ?_<;>clear a<;>intro w8 a
        ·refine sr AA λw9 d7=>zm tb 4 AA (bs a λt0 d8 a=>zc (hb 97) (Kr d8) rfl AA AA (zq tb AA (dn d7 AA ?_)));obtain rfl:=Sh.AB a;try dsimp only[id]at h0
         obtain rfl:=Sh.AB h0;exact rd [(6,i64 t0)]
        ·exact AL (p () (Sh.AB a).symm _ (Bn _ AA))
       refine Bv 17 (by kernel_rfl) (by kernel_rfl) (by rfl) ?_;iterate 4 refine yq tb rfl ?_
       refine bs b λt1 d9 b=>BW (v:=(i64 t1)) AI (hb 97) (Kr d9) rfl AA AA ?_;iterate 2 refine yq tb rfl ?_
       rcases Sh.Ak b with ⟨i,b⟩|⟨i,b⟩
       ·refine yg tb i AA ?_;iterate 7 refine yg tb i rfl ?_
        exact bs b λt2 g0 b=>BW (v:=(ls eI t2)) (CW AA AA i) (hb 99) (Es g0) rfl AA AA (bs b λg1 g2 b=>BW (v:=(.bool g1)) (CW AA AA i) (hb 98) (L6 oZ g2) rfl AA AA (Aw (zt i AA (AF (d6 g1 (Sh.AB b).symm _ (AJ AA))))))
       ·refine ys i AA ?_;iterate 9 refine ys i rfl ?_
        exact Aw (zf i AA (AF (d6 false (Sh.AB b).symm _ (AJ AA))))
      ·refine zr tb AA AA ?_;refine ci a AA ?_ ?_<;>clear a<;>intro A0 a
       ·refine AG λt3 g3=>bs a λg4 b a=>?_;have g5:∀(K:Bool),g4=K->∀s,Wk 0 s ⟨215,Aa [(1,ls eI p1),(3,BJ),(5,CS),(102,.bool K)],[Cs p0.decls p0.funcs,Om p2.op p2.num p2.kids]⟩->t3 s:=by
         intro K q s e;subst g4;try dsimp only at a
         refine g3 _ (AK e ?_);refine ci a AA ?_ ?_<;>clear a<;>intro A1 a
         ·refine AG λA2 g6=>Cd (by kernel_rfl) (by kernel_rfl) (by rfl) ?_;iterate 4 refine yq tb rfl ?_
          refine bs a λt4 g7 a=>yz (Da t4) (By BU AA AA g7 (Ai _) rfl) rfl (yq tb AA (bs a λg8 g9 a=>BW (v:=(i64 g8)) AI (hb 59) (oZ g9) rfl AA AA (yq tb AA (Aw (g6 _ (zr tb AA AA ?_))))));refine ci a AA ?_ ?_<;>clear a<;>intro A3 a
          ·refine AG λA4 h3=>Bv 10 (by kernel_rfl) (by kernel_rfl) (by rfl) ?_;iterate 3 refine yq tb rfl ?_
           refine F3 (l:=[g8]) (enc:=eI) AI BQ (by decide) rfl AA AA AA AA (AD λ_=>AA) (bs a λh4 h5 a=>?_);refine BW (v:=(ls eI h4)) AI (hb 85) (Ab.wk (FV h5) (by refine Wk.trans (Wk.BL (L:=[(0,ls eI h4)]) (st':=S9) (id:=0) rfl np (AD λ_=>AA) ⟨.BL AA,jf⟩ AA) ?_;exact AT [] AA (by decide) rfl AA .nil (.same AA))) rfl AA AA ?_;iterate 2 refine yq tb rfl ?_
           refine bs a λt5 h6 a=>yz (Da t5) (By BU AA AA h6 (Ai _) rfl) rfl (yq tb AA (bs a λh7 h8 a=>BW (v:=(i64 h7)) AI (hb 59) (oZ h8) rfl AA AA (Aw (zq tb AA (dn h3 AA ?_)))));obtain rfl:=Sh.AB a;try dsimp only[id]at h0
           obtain rfl:=Sh.AB h0;exact rd [(6,i64 h7)]
          ·exact AL (p () (Sh.AB a).symm _ (Bn _ AA))
         ·exact AL (p () (Sh.AB a).symm _ (Bn _ AA))
        refine AH AA (zm tb 2 AA ?_);rcases Sh.Ak b with ⟨j,b⟩|⟨j,b⟩
        ·exact zg tb j AA (zg tb j AA (Ba (v:=(YJ p2)) (CW AA AA j) rfl (Ch SH AA) (zg tb j AA (zt j AA (AF (g5 (decide ((Sh.len p2.kids)=2)) (Sh.AB b).symm _ (AJ AA)))))))
        ·refine zs j AA ?_;iterate 3 refine zs j rfl ?_
         exact zf j AA (AF (g5 false (Sh.AB b).symm _ (AJ AA)))
       ·refine zr tb AA AA ?_;refine ci a AA ?_ ?_<;>clear a<;>intro A5 a
        ·refine AG λt6 h9=>bs a λk0 b a=>?_;have M:∀(O:Bool),k0=O->∀s,Wk 0 s ⟨215,Aa [(1,ls eI p1),(3,BJ),(5,CS),(140,.bool O)],[Cs p0.decls p0.funcs,Om p2.op p2.num p2.kids]⟩->t6 s:=by
          intro O q s e;subst k0;try dsimp only at a
          refine h9 _ (AK e ?_);refine ci a AA ?_ ?_<;>clear a<;>intro A6 a
          ·refine AG λA7 k1=>Cd (by kernel_rfl) (by kernel_rfl) (by rfl) ?_;iterate 4 refine yq tb rfl ?_
           refine bs a λt7 k2 a=>yz (Da t7) (By BU AA AA k2 (Ai _) rfl) rfl (yq tb AA (bs a λk3 k4 a=>BW (v:=(i64 k3)) AI (hb 59) (oZ k4) rfl AA AA (yq tb AA (Aw (k1 _ (AG λA8 k5=>Cd (by kernel_rfl) (by kernel_rfl) (by rfl) ?_))))));iterate 4 refine yq tb rfl ?_
           refine bs a λt8 k6 a=>yz (Da t8) (By BU AA AA k6 (Ai _) rfl) rfl (yq tb AA (bs a λt9 k7 a=>BW (v:=(i64 t9)) AI (hb 59) (oZ k7) rfl AA AA ?_));iterate 2 refine yq tb rfl ?_
           refine Aw (k5 _ ?_);refine ci a AA ?_ ?_<;>clear a<;>intro A9 a
           ·refine zr tb AA AA ?_;obtain rfl:=Sh.AB a;try dsimp only[id]at h0
            obtain rfl:=Sh.AB h0;exact rd [(6,i64 k3)]
           ·exact AL (p () (Sh.AB a).symm _ (Bn _ AA))
          ·exact AL (p () (Sh.AB a).symm _ (Bn _ AA))
         refine Cd (by kernel_rfl) (by kernel_rfl) (by rfl) ?_;iterate 2 refine yq tb rfl ?_
         rcases Sh.Ak b with ⟨k,b⟩|⟨k,b⟩
         ·refine yg tb k AA (yg tb k AA (H5 (v:=(YJ p2)) (CW AA AA k) rfl (Ch SH AA) (yg tb k AA (yt k AA (yq tb AA ?_)))));rcases Sh.Ak b with ⟨g,b⟩|⟨g,b⟩
          ·refine yg tb g AA ?_;iterate 3 refine yg tb g rfl ?_
           exact bs b λv0 k8 b=>H5 (v:=(Da v0)) (CW AA AA g) rfl (By BU AA AA k8 (Ai _) rfl) (yg tb g AA (bs b λk9 l0 b=>BW (v:=(i64 k9)) (CW AA AA g) (hb 59) (oZ l0) rfl AA AA (yg tb g AA (yt g AA (Aw (M (decide (k9=0)) (Sh.AB b).symm _ (AJ AA)))))))
          ·refine ys g AA ?_;iterate 7 refine ys g rfl ?_
           exact yf g AA (Aw (M false (Sh.AB b).symm _ (AJ AA)))
         ·refine ys k AA ?_;iterate 3 refine ys k rfl ?_
          refine yf k AA (yq tb AA ?_);iterate 8 refine ys rfl rfl ?_
          exact yf AA AA (Aw (M false (Sh.AB b).symm _ (AJ AA)))
        ·refine zr tb AA AA ?_;refine ci a AA ?_ ?_<;>clear a<;>intro B0 a
         ·refine sr AA λB1 l1=>zm tb 3 AA (bs a λv1 l2 a=>zc (hb 100) (Qv oZ l2) rfl AA AA (zq tb AA (dn l1 AA ?_)));obtain rfl:=Sh.AB a;try dsimp only[id]at h0
          obtain rfl:=Sh.AB h0;exact rd [(6,i64 v1)]
         ·refine AG λv2 l3=>bs a λl4 b a=>?_;have l5:∀(P:Bool),l4=P->∀s,Wk 0 s ⟨215,Aa (cS p1 p2 [(164,.bool P)]),[Cs p0.decls p0.funcs,Om p2.op p2.num p2.kids]⟩->v2 s:=by
           intro P q s e;subst l4;try dsimp only at a
           refine l3 _ (AK e ?_);refine ci a AA ?_ ?_<;>clear a<;>intro B2 a
           ·refine sr AA λv3 Q=>zm tb 3 AA (bs a λl6 R a=>zc (hb 101) (SL oZ R) rfl AA AA (zq tb AA (dn Q AA ?_)));obtain rfl:=Sh.AB a;try dsimp only[id]at h0
            obtain rfl:=Sh.AB h0;exact rd [(6,i64 l6)]
           ·refine zr tb AA AA ?_;refine ci a AA ?_ ?_<;>clear a<;>intro v4 a
            ·refine AG λl7 S=>bs a λx b a=>?_;have y:∀(t:Bool),x=t->∀s,Wk 0 s ⟨215,Aa [(1,ls eI p1),(3,BJ),(5,CS),(179,.bool t)],[Cs p0.decls p0.funcs,Om p2.op p2.num p2.kids]⟩->l7 s:=by
              intro t q s e;subst x;try dsimp only at a
              refine S _ (AK e ?_);refine ci a AA ?_ ?_<;>clear a<;>intro v5 a
              ·refine AG λv6 T=>Cd (by kernel_rfl) (by kernel_rfl) (by rfl) ?_;iterate 4 refine yq tb rfl ?_
               refine bs a λl8 U a=>yz (Da l8) (By BU AA AA U (Ai _) rfl) rfl (yq tb AA (bs a λz V a=>BW (v:=(i64 z)) AI (hb 59) (oZ V) rfl AA AA (yq tb AA (Aw (T _ (AG λl9 W=>bs a λA b a=>?_))))));have B:∀(u:Bool),A=u->∀s,Wk 0 s ⟨215,Aa [(3,BJ),(10,i64 z),(207,.bool u)],[Cs p0.decls p0.funcs]⟩->l9 s:=by
                intro u q s e;subst A;try dsimp only at a
                refine W _ (AK e ?_);refine ci a AA ?_ ?_<;>clear a<;>intro v7 a
                ·refine sr AA λv8 X=>zm tb 4 AA (bs a λm0 Y a=>zx DH Y AA AA AA (zm tb 3 AA (dn X AA ?_)));obtain rfl:=Sh.AB a;try dsimp only[id]at h0
                 obtain rfl:=Sh.AB h0;exact rd [(6,i64 m0.to)]
                ·exact AL (p () (Sh.AB a).symm _ (Bn _ AA))
               refine Cd (by kernel_rfl) (by kernel_rfl) (by rfl) ?_;iterate 3 refine yq tb rfl ?_
               refine bs b λm1 Z b=>BW (v:=(.bool m1)) AI (hb 102) (JT Z) rfl AA AA (yq tb AA ?_);rcases Sh.Ak b with ⟨c,b⟩|⟨c,b⟩
               ·refine yg tb c AA ?_;iterate 3 refine yg tb c rfl ?_
                refine bs b λm2 b0 b=>H5 (v:=(Da m2)) (CW AA AA c) rfl (By BU AA AA b0 (Ai _) rfl) (yg tb c AA (bs b λC b1 b=>BW (v:=(i64 C)) (CW AA AA c) (hb 59) (oZ b1) rfl AA AA ?_));iterate 4 refine yg tb c rfl ?_
                refine bs b λD b2 b=>H5 (v:=(.Bh (Aj D) 0)) (CW AA AA c) rfl (Cg DH AA AA b2 AA) ?_;iterate 3 refine yg tb c rfl ?_
                exact yt c AA (Aw (B (decide (C=D.from_)) (Sh.AB b).symm _ (AT [0] AA (by decide) rfl AA (.raw AA AA .nil) (.same AA))))
               ·refine ys c AA ?_;iterate 14 refine ys c rfl ?_
                exact yf c AA (Aw (B false (Sh.AB b).symm _ (AT [0] AA (by decide) rfl AA (.raw AA AA .nil) (.same AA))))
              ·exact AL (p () (Sh.AB a).symm _ (Bn _ AA))
             refine AH AA (zm tb 2 AA ?_);rcases Sh.Ak b with ⟨d,b⟩|⟨d,b⟩
             ·exact zg tb d AA (zg tb d AA (Ba (v:=(YJ p2)) (CW AA AA d) rfl (Ch SH AA) (zg tb d AA (zt d AA (AF (y (decide ((Sh.len p2.kids)=2)) (Sh.AB b).symm _ (AJ AA)))))))
             ·refine zs d AA ?_;iterate 3 refine zs d rfl ?_
              exact zf d AA (AF (y false (Sh.AB b).symm _ (AJ AA)))
            ·exact AL (p () (Sh.AB a).symm _ (Bn _ AA))
          refine zr tb AA AA ?_;refine ci b AA ?_ ?_<;>clear b<;>intro m3 b
          ·exact AL (l5 true (Sh.AB b).symm _ (Ag (L:=(cS p1 p2 [(164,.bool true)])) ⟨.rfl,.rfl,.rfl,.rfl,.rfl,.of (kf AV.bool m3),jf⟩))
          ·exact AH AA (zm tb 2 AA (AF (l5 (decide (p2.op=10)) (Sh.AB b).symm _ (AJ AA))))
   refine zr tb AA AA ?_;refine ci b AA ?_ ?_<;>clear b<;>intro m4 b
   ·exact AL (w true (Sh.AB b).symm _ (Ag (L:=(cS p1 p2 [(46,.bool true)])) ⟨.rfl,.rfl,.rfl,.rfl,.rfl,.of (kf AV.bool m4),jf⟩))
   ·refine zr tb AA AA ?_;refine ci b AA ?_ ?_<;>clear b<;>intro m5 b
    ·exact AL (w true (Sh.AB b).symm _ (Ag (L:=(cS p1 p2 [(46,.bool true)])) ⟨.rfl,.rfl,.rfl,.rfl,.rfl,.of (kf AV.bool m5),jf⟩))
    ·refine zr tb AA AA ?_;refine ci b AA ?_ ?_<;>clear b<;>intro m6 b
     ·exact AL (w true (Sh.AB b).symm _ (Ag (L:=(cS p1 p2 [(46,.bool true)])) ⟨.rfl,.rfl,.rfl,.rfl,.rfl,.of (kf AV.bool m6),jf⟩))
     ·exact AH AA (zm tb 2 AA (AF (w (decide (p2.op=4)) (Sh.AB b).symm _ (AJ AA))))
theorem R9 {N:Nat}:∀(n:Nat),∀{p0:AP} {p1:(List Int)} {p2:AE} {r:Int},Cw N n p0 p1 p2=some r->Ab Tryz.prog 59 [H7 p0,ls eI p1,Bc p2] [] (λv st=>v=(i64 r)/\st=[]):=by
 intro n
 induction n with
 | zero=>intro p0 p1 p2 r a;cases a
 | succ n ih=>
  intro p0 p1 p2 r a;rw[Cw]at a;exact R8 (λh=>ih h) a
theorem Tz {N:Nat}:∀{p0:AP} {p1:(List Int)} {p2:AE} {r:Int},KQ N p0 p1 p2=some r->Ab Tryz.prog 59 [H7 p0,ls eI p1,Bc p2] [] (λv st=>v=(i64 r)/\st=[]):=by
 intro p0 p1 p2 r a;exact R9 N a
theorem Oj {N:Nat}{p0:AP}{r:Bool}(h0:Bm N p0=some r):Ab Tryz.prog 29 [H7 p0] [] (λv st=>v=(.bool r)/\st=[]):=by
 unfold Bm at h0;refine ai Tryz.func29 AA AA AA AA (sr AA λR x=>Bf (m:=0) AI AA AA AA AA AA (zq tb AA (dn x AA (AG λS y=>sr AA λT z=>zq tb AA (bs h0 λG A h0=>zc (hb 57) (Qo A) rfl AA AA (zq tb AA (dn z AA ?_)))))));refine ci h0 AA ?_ ?_<;>clear h0<;>intro H h0
 ·have U:G=false:=by simpa using H
  refine zr tb AA AA ?_;obtain rfl:=Sh.AB h0;exact rd [(2,.bool false)]
 ·have V:G=true:=by simpa using H
  refine AL (y _ (AG λJ B=>zr tb AA AA ?_));obtain⟨g,b,h0⟩:=Sh.Bi h0;have C:∀(_:Unit),g=Sum.inr ()->∀s,Wk 0 s ⟨45,Aa [],[]⟩->J s:=by
   intro _ K s D;subst g;try dsimp only at h0
   refine B _ (AK D (zr tb AA AA ?_));obtain rfl:=Sh.AB h0;exact rt [(2,.bool true)]
  refine AU (Ax (σ:=Int) (λn v=>CI N p0 n v=some g) (λe=>⟨45,Aa [(1,.ptr 0 0 0 0),(3,i64 e)],[Cs p0.decls p0.funcs]⟩) N 0 b (AJ AA) (λ_ I=>by rw[CI]at I;cases I) ?_);rintro n e b;try dsimp only at b⊢
  rw[CI]at b;refine AG λL i=>sr AA λM j=>zm tb 3 AA (zl tb AA AA (zq tb AA (dn j AA ?_)));refine ci b AA ?_ ?_<;>clear b<;>intro O b
  ·refine AL (i _ (AG λP k=>AU (AG λE l=>bs b λo d b=>?_)));have p:∀(h:Bool),o=h->∀s,Wk 0 s ⟨45,Aa [(1,BJ),(3,i64 e),(44,.bool h)],[Cs p0.decls p0.funcs]⟩->E s:=by
    intro h K s D;subst o;try dsimp only at b
    refine l _ (AK D ?_);refine ci b AA ?_ ?_<;>clear b<;>intro Q b
    ·refine zr tb AA AA ?_;obtain rfl:=Sh.AB b;try dsimp only[id]at h0
     obtain rfl:=Sh.AB h0;exact rd [(2,.bool false)]
    ·exact AL (k _ (AH AA (zm tb 3 AA (AF (xi (Sh.w (e+1)) b (AJ AA))))))
   refine Cd (by kernel_rfl) (by kernel_rfl) (by rfl) ?_;iterate 3 refine yq tb rfl ?_
   refine bs d λf c d=>yx Cu c AA AA AA ?_;iterate 2 refine yq tb rfl ?_
   refine bs d λF q d=>BW (v:=(i64 F)) AI (hb 58) (JO q) rfl AA AA ?_;iterate 2 refine yq tb rfl ?_
   rcases Sh.Ak d with ⟨a,d⟩|⟨a,d⟩
   ·refine ys a AA ?_;iterate 20 refine ys a rfl ?_
    exact yt a AA (Aw (p true (Sh.AB d).symm _ (AJ AA)))
   ·refine yg tb a AA ?_;iterate 3 refine yg tb a rfl ?_
    refine H5 (v:=(.Bh (BS f) 0)) (CW AA AA a) rfl (Cg Cu AA AA c AA) ?_;iterate 5 refine yg tb a rfl ?_
    refine H5 (v:=(.Bh (BS f) 0)) (CW AA AA a) rfl (Cg Cu AA AA c AA) ?_;iterate 2 refine yg tb a rfl ?_
    refine bs d λt u d=>BW (v:=(i64 t)) (CW AA AA a) (hb 59) (Tz u) rfl AA AA ?_;iterate 3 refine yg tb a rfl ?_
    refine H5 (v:=(.Bh (BS f) 0)) (CW AA AA a) rfl (Cg Cu AA AA c AA) ?_;iterate 3 refine yg tb a rfl ?_
    exact yf a AA (Aw (p (!decide (t=f.result)) (Sh.AB d).symm _ (AJ AA)))
  ·exact BD (C () (Sh.AB b).symm _ (Bn _ AA))
theorem S3 {N:Nat}{p0:AP}{p1:AE}{p2 p3 r:Int}(h0:Jm N p0 p1 p2 p3=some r):Ab Tryz.prog 67 [H7 p0,Bc p1,i64 p2,i64 p3] [] (λv st=>v=(i64 r)/\st=[]):=by
 unfold Jm at h0;refine ai Tryz.func67 AA AA AA AA (sr AA λp h=>Bf (m:=0) AI AA AA AA AA AA (Bf (m:=1) AI AA AA AA AA AA (zq tb AA (dn h AA (AG λq i=>zr tb AA AA ?_)))));refine ci h0 AA ?_ ?_<;>clear h0<;>intro s h0
 ·refine zr tb AA AA ?_;obtain rfl:=Sh.AB h0;exact rd [(8,i64 p3)]
 ·refine AL (i _ (AG λt j=>zr tb AA AA ?_));refine ci h0 AA ?_ ?_<;>clear h0<;>intro u h0
  ·refine zr tb AA AA ?_;obtain rfl:=Sh.AB h0;exact rd [(8,KA p3)]
  ·refine AL (j _ (AG λk a=>zr tb AA AA ?_));refine ci h0 AA ?_ ?_<;>clear h0<;>intro l h0
   ·refine AG λn b=>Bv 15 (by kernel_rfl) (by kernel_rfl) (by rfl) ?_;iterate 7 refine yq tb rfl ?_
    refine bs h0 λc d h0=>?_;refine BW (v:=(ls eI c)) AI (hb 104) (Ab.wk (IV d) (by refine Wk.trans (Wk.BL (L:=[(0,ls eI c)]) (st':=S9) (id:=0) rfl np (AD λ_=>AA) ⟨.BL AA,jf⟩ AA) ?_;exact AT [] AA (by decide) rfl AA .nil (.same AA))) rfl AA AA ?_;iterate 2 refine yq tb rfl ?_
    refine bs h0 λo e h0=>yx BQ e AA AA AA (yq tb AA (bs h0 λf g h0=>BW (v:=(ls eI f)) AI (hb 99) (Es g) rfl AA AA (yl tb AA AA (yq tb AA (Aw (zq tb AA (dn b AA ?_)))))));obtain rfl:=Sh.AB h0;exact rd [(8,i64 (Sh.w (p3+(Sh.len f))))]
   ·refine AL (a _ (zr tb AA AA ?_));obtain rfl:=Sh.AB h0;exact rd [(8,i64 p3)]
theorem MW {p0 r:Int}(h0:I2 p0=some r):Ab Tryz.prog 129 [i64 p0] [] (λv st=>v=(i64 r)/\st=[]):=by
 unfold I2 at h0;refine ai Tryz.func129 AA AA AA AA (zr tb AA AA (sr AA λb a=>zq tb AA (zz (i64 (if p0<999 then p0 else 999)) (bQ AA AA) rfl (zz (i64 (if (if p0<999 then p0 else 999) > (-999) then (if p0<999 then p0 else 999) else (-999))) (ak AA AA) rfl (zq tb AA (dn a AA ?_))))));obtain rfl:=Sh.AB h0;exact rt [(2,i64 (if (if p0<999 then p0 else 999) > (-999) then (if p0<999 then p0 else 999) else (-999)))]
theorem WT {p0 p1 p2 r:Int}(h0:MU p0 p1 p2=some r):Ab Tryz.prog 105 [i64 p0,i64 p1,i64 p2] [] (λv st=>v=(i64 r)/\st=[]):=by
 unfold MU at h0;refine ai Tryz.func105 AA AA AA AA (zr tb AA AA (AG λB l=>zr tb AA AA (AU (zr tb AA AA ?_))));refine ci h0 AA ?_ ?_<;>clear h0<;>intro C h0
 ·refine sr AA λD m=>zm tb 3 AA (bs h0 λt n h0=>zc (hb 129) (MW n) rfl AA AA (zq tb AA (dn m AA ?_)));obtain rfl:=Sh.AB h0;exact rt [(6,i64 t)]
 ·refine zr tb AA AA ?_;refine ci h0 AA ?_ ?_<;>clear h0<;>intro E h0
  ·refine sr AA λu c=>zm tb 3 AA (bs h0 λo d h0=>zc (hb 129) (MW d) rfl AA AA (zq tb AA (dn c AA ?_)));obtain rfl:=Sh.AB h0;exact rt [(6,i64 o)]
  ·refine zr tb AA AA ?_;refine ci h0 AA ?_ ?_<;>clear h0<;>intro w h0
   ·refine sr AA λx e=>zm tb 3 AA (bs h0 λp f h0=>zc (hb 129) (MW f) rfl AA AA (zq tb AA (dn e AA ?_)));obtain rfl:=Sh.AB h0;exact rt [(6,i64 p)]
   ·refine AL (l _ (AG λy g=>AG λq h=>bs h0 λi j h0=>?_));have k:∀(b:Bool),i=b->∀s,Wk 0 s ⟨33,Aa [(32,.bool b)],[]⟩->q s:=by
     intro b F s z;subst i;try dsimp only at h0
     refine h _ (AK z ?_);refine ci h0 AA ?_ ?_<;>clear h0<;>intro A h0
     ·refine zr tb AA AA ?_;obtain rfl:=Sh.AB h0;exact rt [(6,i64 1)]
     ·refine AL (g _ (zr tb AA AA ?_));obtain rfl:=Sh.AB h0;exact rt [(6,i64 0)]
    refine AH AA (zm tb 3 AA ?_);rcases Sh.Ak j with ⟨a,j⟩|⟨a,j⟩
    ·exact zg tb a AA (zg tb a AA (zg tb a AA (zt a AA (AF (k (decide (p1<p2)) (Sh.AB j).symm _ (AJ AA))))))
    ·exact zs a AA (zs a AA (zs a AA (zf a AA (AF (k false (Sh.AB j).symm _ (AJ AA))))))
theorem Ru {N:Nat}{ot:AE->Int->Int->Option (AE)}(pj :∀{p0:AE} {p1:Int} {p2:Int} {r:AE},ot p0 p1 p2=some r->Ab Tryz.prog 77 [Bc p0,i64 p1,i64 p2] [] (λv st=>v=(Bc r)/\st=[])){p0:(List AE)}{p1 p2:Int}{r:(List AE)}(h0:KM N ot p0 p1 p2=some r):Ab Tryz.prog 109 [GV p0,i64 p1,i64 p2] [] (λv st=>v=(ow 0 0 r)/\st=[GW r]):=by
 unfold KM at h0;refine ai Tryz.func109 AA AA AA AA (zr tb AA AA (sr AA λF p=>?_));refine BF (m:=0) (l:=([]:List AE)) (enc:=Au) AI BU (by decide) rfl AA (by simp only[List.map,Ai];rfl) rfl AA AA ?_;refine zq tb AA (dn p AA (AG λy q=>zr tb AA AA (bs h0 λt a h0=>?_)));have z:∀(d:(List AE)),t=d->∀s,Wk 0 s ⟨27,Aa [(7,ow 0 0 d)],[GW d]⟩->y s:=by
  intro d G s A;subst t;try dsimp only at h0
  refine q _ (AK A (zr tb AA AA ?_));obtain rfl:=Sh.AB h0;exact rt [(6,ow 0 0 d)]
 refine AU (Ax (σ:=Int×(List AE)) (λn v=>Ei p0 p1 p2 ot n v.1 v.2=some t) (λ(k,o)=>⟨27,Aa [(0,ls Au p0),(1,i64 p1),(2,i64 p2),(7,ow 0 0 o),(8,i64 k)],[ro 0 35 3 Au o]⟩) N (0,[]) a (AJ AA) (λ_ x=>by rw[Ei]at x;cases x) ?_);rintro n ⟨k,o⟩ a;try dsimp only at a⊢
 rw[Ei]at a;refine AG λB e=>sr AA λC f=>zm tb 2 AA (zl tb AA AA (zq tb AA (dn f AA ?_)));refine ci a AA ?_ ?_<;>clear a<;>intro D a
 ·refine AL (e _ (AG λE g=>AU (AH AA (zm tb 3 AA (bs a λu h a=>zz (Da u) (By BU AA AA h (Ai _) rfl) rfl (zm tb 3 AA (bs a λb i a=>zc (v':=(Bc b)) (hb 77) (pj i) rfl AA AA ?_)))))));refine BF (m:=1) (l:=[b]) (enc:=Au) AI BU (by decide) rfl AA (by simp only[List.map,Ai];rfl) rfl AA AA ?_;refine bs a λc j a=>C9 (l2:=[b]) AI BU AA AA AA AA (HO AA AA Fj) DS j AA (zq tb AA (dn g AA (AH AA (zm tb 3 AA ?_))));exact AF (xi (Sh.w (k+1),c) a (by refine Wk.trans (EX (L:=[(0,GV p0),(1,i64 p1),(2,i64 p2),(7,ow 0 0 c),(8,KA k)]) (st':=[GW c,Q5 b]) (.pure (AD Ad) (.pure (AD Ad) .nil)) (.same AA)) ?_;exact AT [0] AA (by decide) rfl AA (.pure (AD Ad) .nil) (.same AA)))
 ·exact BD (z o (Sh.AB a).symm _ (AJ AA))
theorem Ss {N:Nat}{ot:AE->Int->Int->Option (AE)}(pj :∀{p0:AE} {p1:Int} {p2:Int} {r:AE},ot p0 p1 p2=some r->Ab Tryz.prog 77 [Bc p0,i64 p1,i64 p2] [] (λv st=>v=(Bc r)/\st=[])){p0:AE}{p1 p2:Int}{r:AE}(h0:Kv N ot p0 p1 p2=some r):Ab Tryz.prog 77 [Bc p0,i64 p1,i64 p2] [] (λv st=>v=(Bc r)/\st=[]):=by
 unfold Kv at h0;refine Cj AA (ai Tryz.func77 AA AA AA AA (sr AA λz g=>Bf (m:=0) AI AA AA AA AA AA (Av (m:=1) AI DF AA AA (dn g AA (zr tb AA AA (AG λq h=>bs h0 λo b h0=>?_))))));have p:∀(sw:Int),o=sw->∀s,Wk 0 s ⟨30,Aa (ct p1 p2 [(7,i64 sw)]),XU p0 []⟩->q s:=by
  intro sw t s i;subst o;try dsimp only at h0
  refine h _ (AK i (AG λA j=>Bv 9 (by kernel_rfl) (by kernel_rfl) (by rfl) ?_));iterate 7 refine yq tb rfl ?_
  refine bs h0 λc k h0=>?_;refine BW (v:=(GV c)) AI (hb 109) (Ab.wk (Ru pj k) (by refine Wk.trans (Wk.BL (L:=[(0,GV c)]) (st':=[CB]) (id:=0) rfl np (AD Ad) ⟨.BL AA,jf⟩ AA) ?_;exact AT [] AA (by decide) rfl AA .nil (.same AA))) rfl AA AA ?_;refine yz (.agg [i64 p0.op,i64 sw,GV c]) (C8 Oa Oe DF AA AA) rfl (Aw (Am AI BE AA AA AA AA AA AA nj rfl (dn j AA ?_)));obtain rfl:=Sh.AB h0;exact Aq (Exists.intro _ (And.intro (Wk.refl _ _) (Ar (x:=.tmp 6) (off:=0) (cs:=[i64 p0.op,i64 sw,GV c]) (vs:=[i64 p0.op,i64 sw,GV c]) BE AA AA AA nj rfl _ AA)))
 refine AG λu l=>bs b λd e b=>?_;have f:∀(n:Bool),d=n->∀s,Wk 0 s ⟨30,Aa (ct p1 p2 [(7,i64 p0.num),(17,.bool n)]),XU p0 []⟩->u s:=by
  intro n t s i;subst d;try dsimp only at b
  refine l _ (AK i ?_);refine ci b AA ?_ ?_<;>clear b<;>intro y b
  ·exact AH AA (zm tb 4 AA (AF (p (Sh.w (p0.num+p2)) (Sh.AB b).symm _ (AJ AA))))
  ·exact AL (p p0.num (Sh.AB b).symm _ (AJ AA))
 refine AH AA (zm tb 4 AA ?_);rcases Sh.Ak e with ⟨a,e⟩|⟨a,e⟩
 ·exact zg tb a AA (zg tb a AA (zg tb a AA (zt a AA (AF (f (decide (p1<=p0.num)) (Sh.AB e).symm _ (AJ AA))))))
 ·exact zs a AA (zs a AA (zs a AA (zf a AA (AF (f false (Sh.AB e).symm _ (AJ AA))))))
theorem Sd {N:Nat}:∀(n:Nat),∀{p0:AE} {p1:Int} {p2:Int} {r:AE},Gp N n p0 p1 p2=some r->Ab Tryz.prog 77 [Bc p0,i64 p1,i64 p2] [] (λv st=>v=(Bc r)/\st=[]):=by
 intro n
 induction n with
 | zero=>intro p0 p1 p2 r a;cases a
 | succ n ih=>
  intro p0 p1 p2 r a;rw[Gp]at a;exact Ss (λh=>ih h) a
theorem Uf {N:Nat}:∀{p0:AE} {p1:Int} {p2:Int} {r:AE},Mr N p0 p1 p2=some r->Ab Tryz.prog 77 [Bc p0,i64 p1,i64 p2] [] (λv st=>v=(Bc r)/\st=[]):=by
 intro p0 p1 p2 r a;exact Sd N a
theorem WW {N:Nat}{p0:(List AE)}{p1:AE}{p2:Int}{r:AE}(h0:Ma N p0 p1 p2=some r):Ab Tryz.prog 76 [GV p0,Bc p1,i64 p2] [] (λv st=>v=(Bc r)/\st=[]):=by
 unfold Ma at h0;refine Cj AA (ai Tryz.func76 AA AA AA AA (sr AA λK u=>Bf (m:=0) AI AA AA AA AA AA (Av (m:=1) AI DF AA AA (dn u AA (sr AA λM y=>zq tb AA (Av (m:=2) AI DF AA AA (Am AI BE AA AA AA AA AA AA nj rfl (dn y AA (AG λE z=>sr AA λO A=>zq tb AA (zl tb AA AA (zm tb 2 AA (dn A AA (bs h0 λh a h0=>?_)))))))))))));have B:∀(i:Int) (b:Int) (c:(List AE)),h=(i,b,c)->∀s,Wk 0 s ⟨28,Aa [(6,BJ),(7,CS)],[dX,Om i b c]⟩->E s:=by
  intro i b c P s F;subst h;try dsimp only at h0
  refine z _ (AK F (sr AA λG j=>zq tb AA (Am AI BE AA AA AA AA AA AA nj rfl (dn j AA ?_))));obtain rfl:=Sh.AB h0;exact Aq (Exists.intro _ (And.intro (Wk.refl _ _) (Ar (x:=.tmp 6) (off:=0) (cs:=(LL i b c)) (vs:=(LL i b c)) BE AA AA AA nj rfl _ AA)))
 refine AU (Ax (σ:=Int×Int×Int×(List AE)) (λn v=>Gq N p0 p2 n v.1 v.2.1 v.2.2.1 v.2.2.2=some h) (λ(t,e,f,g)=>⟨28,Aa [(0,ls Au p0),(2,i64 p2),(6,.ptr 0 0 0 0),(7,.ptr 1 0 0 0),(8,i64 t)],[dX,Om e f g]⟩) N (Sh.w ((Sh.len p0)-1),p1.op,p1.num,p1.kids) a (AT [1,2] AA (by decide) rfl AA (.raw AA AA (.raw AA AA .nil)) (.same AA)) (λ_ D=>by rw[Gq]at D;cases D) ?_);rintro n ⟨t,e,f,g⟩ a;try dsimp only at a⊢
 rw[Gq]at a;refine AG λH k=>zr tb AA AA ?_;refine ci a AA ?_ ?_<;>clear a<;>intro I a
 ·refine AL (k _ (AG λJ o=>AU (Bv 8 (by kernel_rfl) (by kernel_rfl) (by rfl) ?_)));iterate 2 refine yq tb rfl ?_
  refine bs a λC p a=>yz (Da C) (By BU AA AA p (Ai _) rfl) rfl ?_;iterate 3 refine yq tb rfl ?_
  refine bs a λd q a=>BW (v:=(Bc d)) AI (hb 77) (Uf q) rfl AA AA (yq tb AA (Aw ?_));refine BF (m:=2) (l:=[d,AE.mk e f g]) (enc:=Au) AI BU (by decide) rfl AA (by simp only[List.map,Ai];rfl) rfl AA AA ?_;exact zz (.agg [i64 13,i64 0,ow 2 0 [d,AE.mk e f g]]) (C8 Oa Oe DF AA AA) rfl (AR (Wk.BL (L:=[(0,GV p0),(2,i64 p2),(6,BJ),(7,CS),(8,i64 t),(26,.agg [i64 13,i64 0,ls Au [d,AE.mk e f g]])]) (st':=[dX,Om e f g,CB]) (id:=2) rfl nz (AD Ad) ⟨.rfl,.rfl,.rfl,.rfl,.rfl,.agg ⟨.rfl,.rfl,.HR AA,jf⟩,jf⟩ AA) (Am AI BE AA AA AA AA AA AA nj rfl (dn o AA (AH AA (zm tb 3 AA (AF (xi (Sh.w (t-1),13,0,[d,AE.mk e f g]) a (AT [0,1] AA (by decide) rfl AA (.raw AA AA (.raw AA AA .nil)) (.same AA)))))))))
 ·exact BD (B e f g (Sh.AB a).symm _ (AJ AA))
theorem SJ {N:Nat}{p0:AP}{p1:AE}{p2:Int}{r:AE}(h0:Hh N p0 p1 p2=some r):Ab Tryz.prog 68 [H7 p0,Bc p1,i64 p2] [] (λv st=>v=(Bc r)/\st=[]):=by
 unfold Hh at h0;refine Cj AA (ai Tryz.func68 AA AA AA AA (sr AA λK1 Y=>Bf (m:=0) AI AA AA AA AA AA (Bf (m:=1) AI AA AA AA AA AA (Av (m:=2) AI DF AA AA (dn Y AA (AG λK2 Z=>?_))))));obtain⟨o3,a,h0⟩:=Sh.Bi h0;have W:∀(_:Unit),o3=Sum.inr ()->∀s,Wk 0 s ⟨106,Aa [(4,BJ),(6,CS)],XU p1 []⟩->K2 s:=by
  intro _ hq s h;subst o3;try dsimp only at h0
  refine Z _ (AK h (sr AA λK4 b0=>zq tb AA (Am AI BE AA AA AA AA AA AA nj rfl (dn b0 AA ?_))));obtain rfl:=Sh.AB h0;exact Aq (Exists.intro _ (And.intro (Wk.refl _ _) (Ar (x:=.tmp 6) (off:=0) (cs:=(FI p1)) (vs:=(FI p1)) BE AA AA AA nj rfl _ AA)))
 refine zr tb AA AA (AU (AG λK6 b1=>bs a λo8 b a=>?_));have X:∀(t7:Bool),o8=t7->∀s,Wk 0 s ⟨106,Aa (cN p2 [(8,i64 p1.op),(9,.bool t7)]),((Cs p0.decls p0.funcs)::XU p1 [])⟩->K6 s:=by
  intro t7 hq s h;subst o8;try dsimp only at a
  refine b1 _ (AK h ?_);refine ci a AA ?_ ?_<;>clear a<;>intro b9 a
  ·refine AG λb2 t=>bs a λu b a=>?_;have w:∀(i:Bool),u=i->∀s,Wk 0 s ⟨106,Aa [(4,BJ),(6,CS),(27,.bool i)],XU p1 []⟩->b2 s:=by
    intro i hq s h;subst u;try dsimp only at a
    refine t _ (AK h ?_);refine ci a AA ?_ ?_<;>clear a<;>intro c4 a
    ·refine AG λc5 y=>Bv 15 (by kernel_rfl) (by kernel_rfl) (by rfl) ?_;iterate 4 refine yq tb rfl ?_
     refine bs a λb3 z a=>yz (Da b3) (By BU AA AA z (Ai _) rfl) rfl ?_;iterate 4 refine yq tb rfl ?_
     refine bs a λb4 A a=>yz (Da b4) (By BU AA AA A (Ai _) rfl) rfl ?_;iterate 2 refine yq tb rfl ?_
     refine bs a λf B a=>BW (v:=(i64 f)) AI (hb 105) (WT B) rfl AA AA ?_;refine F3 (l:=([]:List AE)) (enc:=Au) AI BU (by decide) rfl AA AA (by simp only[List.map,Ai];rfl) rfl (AD Ad) ?_;refine yz (.agg [i64 0,i64 f,RF]) (C8 Oa Oe DF AA AA) rfl (Aw (Am AI BE AA AA AA AA AA AA nj rfl (dn y AA ?_)));obtain rfl:=Sh.AB a;try dsimp only[id]at h0
     obtain rfl:=Sh.AB h0;exact Aq (Exists.intro _ (And.intro (Wk.refl _ _) (Ar (x:=.tmp 6) (off:=0) (cs:=[i64 0,i64 f,RF]) (vs:=[i64 0,i64 f,RF]) BE AA AA AA nj rfl _ AA)))
    ·exact AL (W () (Sh.AB a).symm _ (AJ AA))
   refine AH AA (zm tb 2 AA (bs b λb5 C b=>zz (Da b5) (By BU AA AA C (Ai _) rfl) rfl (zm tb 4 AA ?_)));rcases Sh.Ak b with ⟨c,b⟩|⟨c,b⟩
   ·refine zg tb c AA (zg tb c AA (bs b λD E b=>Ba (v:=(Da D)) (CW AA AA c) rfl (By BU AA AA E (Ai _) rfl) ?_));iterate 3 refine zg tb c rfl ?_
    exact zt c AA (AF (w (decide (D.op=0)) (Sh.AB b).symm _ (AT [1,2] AA (by decide) rfl AA (.raw AA AA (.raw AA AA .nil)) (.same AA))))
   ·refine zs c AA ?_;iterate 5 refine zs c rfl ?_
    exact zf c AA (AF (w false (Sh.AB b).symm _ (AT [1,2] AA (by decide) rfl AA (.raw AA AA (.raw AA AA .nil)) (.same AA))))
  ·refine zr tb AA AA ?_;refine ci a AA ?_ ?_<;>clear a<;>intro c6 a
   ·refine AG λc7 F=>AG λb6 G=>bs a λH b a=>?_;have I:∀(j:Bool),H=j->∀s,Wk 0 s ⟨106,Aa [(4,BJ),(6,CS),(58,.bool j)],XU p1 []⟩->b6 s:=by
     intro j hq s h;subst H;try dsimp only at a
     refine G _ (AK h ?_);refine ci a AA ?_ ?_<;>clear a<;>intro c8 a
     ·refine sr AA λc9 J=>zm tb 2 AA (bs a λk K a=>zz (Da k) (By BU AA AA K (Ai _) rfl) rfl (zq tb AA (Am AI BE AA AA AA AA AA AA nj rfl (dn J AA ?_))));obtain rfl:=Sh.AB a;try dsimp only[id]at h0
      obtain rfl:=Sh.AB h0;exact Aq (Exists.intro _ (And.intro (Wk.refl _ _) (Ar (x:=.tmp 6) (off:=0) (cs:=(FI k)) (vs:=(FI k)) BE AA AA AA nj rfl _ AA)))
     ·refine AL (F _ (sr AA λd0 M=>zm tb 2 AA (bs a λb7 O a=>zz (Da b7) (By BU AA AA O (Ai _) rfl) rfl (zm tb 3 AA (dn M AA ?_)))));refine ci a AA ?_ ?_<;>clear a<;>intro d1 a
      ·refine sr AA λd2 P=>zm tb 2 AA (bs a λn Q a=>zz (Da n) (By BU AA AA Q (Ai _) rfl) rfl (zq tb AA (Am AI BE AA AA AA AA AA AA nj rfl (dn P AA ?_))));obtain rfl:=Sh.AB a;try dsimp only[id]at h0
       obtain rfl:=Sh.AB h0;exact Aq (Exists.intro _ (And.intro (Wk.refl _ _) (Ar (x:=.tmp 6) (off:=0) (cs:=(FI n)) (vs:=(FI n)) BE AA AA AA nj rfl _ AA)))
      ·exact AL (W () (Sh.AB a).symm _ (AJ AA))
    refine AH AA (zm tb 2 AA (bs b λo g b=>zz (Da o) (By BU AA AA g (Ai _) rfl) rfl (zm tb 4 AA ?_)));rcases Sh.Ak b with ⟨d,b⟩|⟨d,b⟩
    ·refine zg tb d AA (zg tb d AA (Ba (v:=(Da o)) (CW AA AA d) rfl (By BU AA AA g (Ai _) rfl) ?_));iterate 3 refine zg tb d rfl ?_
     exact zt d AA (AF (I (!decide (o.num=0)) (Sh.AB b).symm _ (AT [1,2] AA (by decide) rfl AA (.raw AA AA (.raw AA AA .nil)) (.same AA))))
    ·refine zs d AA ?_;iterate 5 refine zs d rfl ?_
     exact zf d AA (AF (I false (Sh.AB b).symm _ (AT [1,2] AA (by decide) rfl AA (.raw AA AA (.raw AA AA .nil)) (.same AA))))
   ·refine zr tb AA AA ?_;refine ci a AA ?_ ?_<;>clear a<;>intro d3 a
    ·refine sr AA λd4 R=>zm tb 2 AA (bs a λp e a=>zz (Da p) (By BU AA AA e (Ai _) rfl) rfl (zm tb 3 AA (dn R AA ?_)));refine ci a AA ?_ ?_<;>clear a<;>intro d5 a
     ·refine AG λd6 S=>Bv 24 (by kernel_rfl) (by kernel_rfl) (by rfl) ?_;iterate 2 refine yq tb rfl ?_
      refine yz (Da p) (By BU AA AA e (Ai _) rfl) rfl ?_;iterate 6 refine yq tb rfl ?_
      refine yz (Da p) (By BU AA AA e (Ai _) rfl) rfl ?_;iterate 8 refine yq tb rfl ?_
      refine bs a λb8 T a=>BW (v:=(i64 b8)) AI (hb 106) (Ip T) rfl AA AA (yq tb AA (bs a λc0 U a=>yz (Da c0) (By BU AA AA U (Ai _) rfl) rfl ?_));iterate 2 refine yq tb rfl ?_
      refine bs a λq V a=>BW (v:=(Bc q)) AI (hb 76) (WW V) rfl AA AA (Aw (Am AI BE AA AA AA AA AA AA nj rfl (dn S AA ?_)));obtain rfl:=Sh.AB a;try dsimp only[id]at h0
      obtain rfl:=Sh.AB h0;exact Aq (Exists.intro _ (And.intro (Wk.refl _ _) (Ar (x:=.tmp 6) (off:=0) (cs:=(FI q)) (vs:=(FI q)) BE AA AA AA nj rfl _ AA)))
     ·exact AL (W () (Sh.AB a).symm _ (AT [1,2] AA (by decide) rfl AA (.raw AA AA (.raw AA AA .nil)) (.same AA)))
    ·exact AL (W () (Sh.AB a).symm _ (AT [1,2] AA (by decide) rfl AA (.raw AA AA (.raw AA AA .nil)) (.same AA)))
 refine zr tb AA AA ?_;refine ci b AA ?_ ?_<;>clear b<;>intro c1 b
 ·exact AL (X true (Sh.AB b).symm _ (Ag (L:=(cN p2 [(8,i64 p1.op),(9,.bool true)])) ⟨.rfl,.rfl,.rfl,.rfl,.rfl,.of (kf AV.bool c1),jf⟩))
 ·refine zr tb AA AA ?_;refine ci b AA ?_ ?_<;>clear b<;>intro c2 b
  ·exact AL (X true (Sh.AB b).symm _ (Ag (L:=(cN p2 [(8,i64 p1.op),(9,.bool true)])) ⟨.rfl,.rfl,.rfl,.rfl,.rfl,.of (kf AV.bool c2),jf⟩))
  ·refine zr tb AA AA ?_;refine ci b AA ?_ ?_<;>clear b<;>intro c3 b
   ·exact AL (X true (Sh.AB b).symm _ (Ag (L:=(cN p2 [(8,i64 p1.op),(9,.bool true)])) ⟨.rfl,.rfl,.rfl,.rfl,.rfl,.of (kf AV.bool c3),jf⟩))
   ·exact AH AA (zm tb 2 AA (AF (X (decide (p1.op=4)) (Sh.AB b).symm _ (AJ AA))))
theorem UJ {N:Nat}{pM:AP->AE->Int->Option (AE)}(rh :∀{p0:AP} {p1:AE} {p2:Int} {r:AE},pM p0 p1 p2=some r->Ab Tryz.prog 37 [H7 p0,Bc p1,i64 p2] [] (λv st=>v=(Bc r)/\st=[])){p0:AP}{p1:AE}{p2:Int}{r:AE}(h0:Lt N pM p0 p1 p2=some r):Ab Tryz.prog 37 [H7 p0,Bc p1,i64 p2] [] (λv st=>v=(Bc r)/\st=[]):=by
 unfold Lt at h0;refine Cj AA (ai Tryz.func37 AA AA AA AA (sr AA λO u=>Bf (m:=0) AI AA AA AA AA AA (Bf (m:=1) AI AA AA AA AA AA (Av (m:=2) AI DF AA AA (dn u AA (sr AA λP y=>?_))))));refine BF (m:=3) (l:=([]:List AE)) (enc:=Au) AI BU (by decide) rfl AA (by simp only[List.map,Ai];rfl) rfl AA AA ?_;refine zq tb AA (dn y AA (AG λF z=>zr tb AA AA (bs h0 λA a h0=>?_)));have G:∀(e:(List AE)),A=e->∀s,Wk 0 s ⟨41,Aa (cN p2 [(7,ow 3 0 e)]),((Cs p0.decls p0.funcs)::XU p1 [GW e])⟩->F s:=by
  intro e Q s H;subst A;try dsimp only at h0
  refine z _ (AK H (sr AA λR B=>zm tb 6 AA (zz (.agg [i64 p1.op,i64 p1.num,ow 3 0 e]) (C8 Oa Oe DF AA AA) rfl (zq tb AA (AR (Wk.BL (L:=[(6,CY),(32,H7 p0),(38,.agg [i64 p1.op,i64 p1.num,GV e]),(39,i64 p2)]) (st':=((Cs p0.decls p0.funcs)::XU p1 [CB])) (id:=3) rfl (show 0<=3 by decide) (AD Ad) ⟨.rfl,.rfl,.agg ⟨.rfl,.rfl,.HR AA,jf⟩,.rfl,jf⟩ AA) (bs h0 λb f h0=>zc (v':=(Bc b)) (hb 68) (SJ f) rfl AA AA (Am AI BE AA AA AA AA AA AA nj rfl (dn B AA ?_))))))));obtain rfl:=Sh.AB h0;exact Aq (Exists.intro _ (And.intro (Wk.refl _ _) (Ar (x:=.tmp 6) (off:=0) (cs:=(FI b)) (vs:=(FI b)) BE AA AA AA nj rfl _ AA)))
 refine AU (Ax (σ:=Int×(List AE)) (λn v=>FU N p0 p1 p2 pM n v.1 v.2=some A) (λ(q,t)=>⟨41,Aa [(2,i64 p2),(3,.ptr 0 0 0 0),(4,.ptr 1 0 0 0),(6,.ptr 2 0 0 0),(7,ow 3 0 t),(8,i64 q)],[Cs p0.decls p0.funcs,Om p1.op p1.num p1.kids,dX,ro 0 35 3 Au t]⟩) N (0,[]) a (AJ AA) (λ_ E=>by rw[FU]at E;cases E) ?_);rintro n ⟨q,t⟩ a;try dsimp only at a⊢
 rw[FU]at a;refine AG λI g=>sr AA λJ h=>zm tb 3 AA (zl tb AA AA (zq tb AA (dn h AA ?_)));refine ci a AA ?_ ?_<;>clear a<;>intro K a
 ·refine AL (g _ (AG λM i=>AU (Bv 14 (by kernel_rfl) (by kernel_rfl) (by rfl) ?_)));iterate 5 refine yq tb rfl ?_
  refine bs a λC j a=>yz (Da C) (By BU AA AA j (Ai _) rfl) rfl ?_;iterate 5 refine yq tb rfl ?_
  refine bs a λD k a=>BW (v:=(i64 D)) AI (hb 67) (S3 k) rfl AA AA (bs a λc o a=>BW (v:=(Bc c)) AI (hb 37) (rh o) rfl AA AA ?_);refine F3 (l:=[c]) (enc:=Au) AI BU (by decide) rfl AA AA (by simp only[List.map,Ai];rfl) rfl (AD Ad) ?_;exact Aw (bs a λd p a=>C9 (l2:=[c]) AI BU AA AA AA AA Lh DS p AA (zq tb AA (dn i AA (AH AA (zm tb 3 AA (AF (xi (Sh.w (q+1),d) a (EX (L:=(cN p2 [(7,ow 3 0 d),(8,KA q)])) (st':=((Cs p0.decls p0.funcs)::XU p1 [GW d])) (.raw AA AA (.raw AA AA (.raw AA AA (.pure (AD Ad) .nil)))) (.same AA)))))))))
 ·exact BD (G t (Sh.AB a).symm _ (AJ AA))
theorem UH {N:Nat}:∀(n:Nat),∀{p0:AP} {p1:AE} {p2:Int} {r:AE},Gi N n p0 p1 p2=some r->Ab Tryz.prog 37 [H7 p0,Bc p1,i64 p2] [] (λv st=>v=(Bc r)/\st=[]):=by
 intro n
 induction n with
 | zero=>intro p0 p1 p2 r a;cases a
 | succ n ih=>
  intro p0 p1 p2 r a;rw[Gi]at a;exact UJ (λh=>ih h) a
theorem WY {N:Nat}:∀{p0:AP} {p1:AE} {p2:Int} {r:AE},RK N p0 p1 p2=some r->Ab Tryz.prog 37 [H7 p0,Bc p1,i64 p2] [] (λv st=>v=(Bc r)/\st=[]):=by
 intro p0 p1 p2 r a;exact UH N a
theorem RJ {N:Nat}{p0:(List AM)}{r:(List AM)}(h0:IQ N p0=some r):Ab Tryz.prog 61 [Ct p0] [] (λv st=>v=(ow 0 0 r)/\st=[IP r]):=by
 unfold IQ at h0;refine ai Tryz.func61 AA AA AA AA (zr tb AA AA (sr AA λK2 K=>BF (m:=0) (l:=([]:List AM)) (enc:=Aj) AI DH (by decide) rfl AA AA AA AA AA (zq tb AA (dn K AA (AG λT M=>zr tb AA AA (bs h0 λO c h0=>?_))))));have U:∀(t:(List AM)),O=t->∀s,Wk 0 s ⟨55,Aa [(3,ow 0 0 t)],[IP t]⟩->T s:=by
  intro t V s P;subst O;try dsimp only at h0
  refine M _ (AK P (zr tb AA AA ?_));obtain rfl:=Sh.AB h0;exact rt [(2,ow 0 0 t)]
 refine AU (Ax (σ:=Int×(List AM)) (λn v=>Em N p0 n v.1 v.2=some O) (λ(i,d)=>⟨55,Aa [(0,ls Aj p0),(3,ow 0 0 d),(4,i64 i)],[ro 0 80 3 Aj d]⟩) N (0,[]) c (AJ AA) (λ_ u=>by rw[Em]at u;cases u) ?_);rintro n ⟨i,d⟩ c;try dsimp only at c⊢
 rw[Em]at c;refine AG λW y=>sr AA λX z=>zm tb 2 AA (zl tb AA AA (zq tb AA (dn z AA ?_)));refine ci c AA ?_ ?_<;>clear c<;>intro Y c
 ·refine AL (y _ (AG λZ A=>AU (sr AA λb0 B=>BF (m:=1) (l:=([]:List Db)) (enc:=CC) AI Iw (by decide) rfl AA AA AA AA AA (zq tb AA (dn B AA (AG λQ C=>zr tb AA AA (bs c λo a c=>?_)))))));have R:∀(b:(List Db)),o=b->∀s,Wk 0 s ⟨55,Aa [(0,Ct p0),(3,ow 0 0 d),(4,i64 i),(5,ow 1 0 b)],[IP d,ro 0 82 1 CC b]⟩->Q s:=by
   intro b V s P;subst o;try dsimp only at c
   refine C _ (AK P (AK (Wk.BL (L:=[(0,Ct p0),(3,ow 0 0 d),(4,i64 i),(5,ls CC b)]) (st':=[IP d,Lq]) (id:=1) rfl oE (AD λ_=>AA) ⟨.rfl,.rfl,.rfl,.BL AA,jf⟩ AA) (Bv 14 (by kernel_rfl) (by kernel_rfl) (by rfl) ?_)));iterate 3 refine yq tb rfl ?_
   refine bs c λe j c=>yx DH j AA AA AA ?_;iterate 4 refine yq tb rfl ?_
   refine yx DH j AA AA AA ?_;iterate 3 refine yq tb rfl ?_
   refine yz (.agg [i64 e.from_,i64 e.to,ls CC b]) (C8 Lj Lf Gm AA AA) rfl (F3 (l:=[AM.mk e.from_ e.to b]) (enc:=Aj) AI DH (by decide) rfl AA AA AA AA (AD λ_=>AA) (Aw (bs c λp D c=>C9 (l2:=[AM.mk e.from_ e.to b]) AI DH AA AA AA AA Lh (λ_=>AA) D AA (zq tb AA (dn A AA (AH AA (zm tb 3 AA ?_)))))));exact AF (xi (Sh.w (i+1),p) c (by refine Wk.trans (EX (L:=[(0,Ct p0),(3,ow 0 0 p),(4,KA i)]) (st':=[IP p,⟨0,82,1,[]⟩]) (.pure (AD λ_=>AA) (.pure (by intro x S;cases S) .nil)) (.same AA)) ?_;exact AT [0] AA (by decide) rfl AA (.pure (AD λ_=>AA) .nil) (.same AA)))
  refine AU (Ax (σ:=Int×(List Db)) (λn v=>ED i p0 n v.1 v.2=some o) (λ(h,f)=>⟨55,Aa [(0,ls Aj p0),(3,ow 0 0 d),(4,i64 i),(5,ow 1 0 f),(6,i64 h)],[ro 0 80 3 Aj d,ro 0 82 1 CC f]⟩) N (0,[]) a (AJ AA) (λ_ u=>by rw[ED]at u;cases u) ?_);rintro n ⟨h,f⟩ a;try dsimp only at a⊢
  rw[ED]at a;refine AG λb1 E=>sr AA λb2 F=>zm tb 3 AA (bs a λb3 k a=>zx DH k AA AA AA (zm tb 2 AA (zl tb AA AA (zq tb AA (dn F AA ?_)))));refine ci a AA ?_ ?_<;>clear a<;>intro b4 a
  ·refine AL (E _ (AG λb5 G=>AU (AH AA (zm tb 3 AA (zx DH k AA AA AA (zm tb 3 AA (bs a λb6 H a=>zx Iw H AA AA AA (zm tb 2 AA (bs a λg I a=>CM (v':=(ow 2 0 g)) AI (hb 62) (KE I) rfl AA ⟨(CQ λ_=>AA),jf⟩ AA AA (zz (.agg [ow 2 0 g]) (C8 eX dH QV AA AA) rfl (AR (Wk.BL (L:=[(0,Ct p0),(3,ow 0 0 d),(4,i64 i),(6,i64 h),(25,ow 1 0 f),(36,.agg [ls eI g])]) (st':=[IP d,ro 0 82 1 CC f,⟨1,3,1,[]⟩]) (id:=2) rfl nz (AD λ_=>AA) ⟨.rfl,.rfl,.rfl,.rfl,.rfl,.agg ⟨.HR AA,jf⟩,jf⟩ AA) (BF (m:=3) (l:=[Db.mk g]) (enc:=CC) AI Iw (by decide) rfl AA AA AA AA AA (bs a λq J a=>C9 (l2:=[Db.mk g]) AI Iw AA AA AA AA (HO AA AA) (λ_=>AA) J AA (zq tb AA (dn G AA (AH AA (zm tb 3 AA ?_)))))))))))))))));exact AF (xi (Sh.w (h+1),q) a (by refine Wk.trans (EX (L:=[(0,Ct p0),(3,ow 0 0 d),(4,i64 i),(5,ow 1 0 q),(6,KA h)]) (st':=[IP d,ro 0 82 1 CC q,⟨0,3,1,[]⟩,ro 0 82 1 CC [Db.mk g]]) (.pure (AD λ_=>AA) (.pure (AD λ_=>AA) (.pure (by intro x S;cases S) (.pure (AD λ_=>AA) .nil)))) (.same AA)) ?_;exact AT [0,1] AA (by decide) rfl AA (.pure (AD λ_=>AA) (.pure (AD λ_=>AA) .nil)) (.same AA)))
  ·exact BD (R f (Sh.AB a).symm _ (AJ AA))
 ·exact BD (U d (Sh.AB c).symm _ (AJ AA))
theorem P8 {N:Nat}{p0 r:AE}(h0:Hy N p0=some r):Ab Tryz.prog 63 [Bc p0] [] (λv st=>v=(Bc r)/\st=[]):=by
 unfold Hy at h0;refine Cj AA (ai Tryz.func63 AA AA AA AA (sr AA λe b=>Bf (m:=0) AI AA AA AA AA AA (Av (m:=1) AI DF AA AA (dn b AA (AG λf c=>Bv 8 (by kernel_rfl) (by kernel_rfl) (by rfl) ?_)))));iterate 6 refine yq tb rfl ?_
 refine bs h0 λa d h0=>?_;refine BW (v:=(GV a)) AI (hb 60) (Ab.wk (F8 d) (by refine Wk.trans (Wk.BL (L:=[(0,GV a)]) (st':=[CB]) (id:=0) rfl np (AD Ad) ⟨.BL AA,jf⟩ AA) ?_;exact AT [] AA (by decide) rfl AA .nil (.same AA))) rfl AA AA ?_;refine yz (.agg [i64 p0.op,i64 p0.num,GV a]) (C8 Oa Oe DF AA AA) rfl (Aw (Am AI BE AA AA AA AA AA AA nj rfl (dn c AA ?_)));obtain rfl:=Sh.AB h0;exact Aq (Exists.intro _ (And.intro (Wk.refl _ _) (Ar (x:=.tmp 2) (off:=0) (cs:=[i64 p0.op,i64 p0.num,GV a]) (vs:=[i64 p0.op,i64 p0.num,GV a]) BE AA AA AA nj rfl _ AA)))
theorem QC {N:Nat}{p0:AP}{p1:(List AE)}{r:AP×Bool}(h0:Hu N p0 p1=some r):Ab Tryz.prog 31 [H7 p0,GV p1] [] (λv st=>v=(.Dp [.agg (Ou r.1.decls r.1.funcs),.bool r.2])/\st=[]):=by
 unfold Hu at h0;refine Cj AA (ai Tryz.func31 AA AA AA AA (sr AA λK1 F=>Bf (m:=0) AI AA AA AA AA AA (Av (m:=1) AI Ix AA AA (zq tb AA (dn F AA (sr AA λK2 G=>zm tb 2 AA (bs h0 λb H h0=>CM (v':=(ow 2 0 b)) AI (hb 61) (RJ H) rfl AA ⟨(CQ λ_=>AA),jf⟩ AA AA (BF (m:=3) (l:=([]:List Ac)) (enc:=BS) AI Cu (by decide) rfl AA AA AA AA AA (zz (.agg [ow 2 0 b,.own 3 0 (List.length ([]:List Ac))]) (C8 U4 VI Ix AA AA) rfl (Av (m:=4) AI Ix AA AA (AR (Wk.BL (L:=[(1,GV p1),(2,BJ),(4,CS),(6,LV),(12,.agg [Ct b,.own 3 0 (List.length ([]:List Ac))])]) (st':=[Cs p0.decls p0.funcs,Gx,NO,ro 0 37 5 BS ([]:List Ac),Gx]) (id:=2) rfl nz (AD λ_=>AA) ⟨.rfl,.rfl,.rfl,.rfl,.agg ⟨.HR AA,.rfl,jf⟩,jf⟩ AA) (Am AI D8 AA AA AA AA AA AA nk rfl (dn G AA (AG λM I=>zr tb AA AA ?_))))))))))))));obtain⟨J,a,h0⟩:=Sh.Bi h0;have O:∀(e:(List Ac)),J=Sum.inr e->∀s,Wk 0 s ⟨52,Aa [(4,BJ),(6,CY)],(Gx::JW e b [])⟩->M s:=by
  intro e hq s P;subst J;try dsimp only at h0
  refine I _ (AK P (sr AA λQ j=>zq tb AA (AR (Wk.BL (L:=[(4,BJ),(51,.agg (Ou b e))]) (st':=[Gx,⟨1,37,5,[]⟩,Zd b e]) (id:=1) rfl oE (AD λ_=>AA) ⟨.rfl,.agg ⟨.rfl,.HR AA,jf⟩,jf⟩ AA) (Am AI D8 AA AA AA AA AA AA nk rfl (zq tb AA (dn j AA ?_))))));obtain rfl:=Sh.AB h0;exact Aq (Exists.intro _ (And.intro ((AT (L:=[(4,BJ),(5,.bool true)]) (st':=[Cs b e]) [0] AA (by decide) rfl AA (.raw AA AA .nil) ⟨.rfl,.rfl,jf⟩).trans (Ag (L:=[(4,BJ),(5,.bool true)]) ⟨.rfl,.rfl,jf⟩)) (Ar (x:=.tmp 4) (off:=0) (cs:=(Ou b e)) (vs:=(Ou b e)) D8 AA AA AA nk rfl _ AA)))
 refine AU (Ax (σ:=Int×(List Ac)) (λn v=>Dy N p0 p1 n v.1 v.2=some J) (λ(E,f)=>⟨52,Aa [(1,ls Au p1),(2,.ptr 0 0 0 0),(4,.ptr 1 0 0 0),(6,.ptr 3 0 0 0),(7,i64 E)],[Cs p0.decls p0.funcs,Gx,ro 0 37 5 BS f,⟨0,26,2,[[ls Aj b,ow 2 0 f]]⟩]⟩) N (0,[]) a (Bj (L:=[(1,ls Au p1),(2,.ptr 0 0 0 0),(4,.ptr 1 0 0 0),(6,.ptr 3 0 0 0),(7,i64 0)]) (st':=[Cs p0.decls p0.funcs,Gx,ro 0 37 5 BS ([]:List Ac),⟨0,26,2,[[ls Aj b,.own 2 0 (List.length ([]:List Ac))]]⟩]) (st1:=[Cs p0.decls p0.funcs,Gx,ro 0 37 5 BS ([]:List Ac),⟨0,26,2,[[ls Aj b,.own 3 0 (List.length ([]:List Ac))]]⟩]) [0,1,3,4] AA .nil (by decide) rfl AA (.raw AA AA (.raw AA AA (.pure (AD λ_=>AA) (.raw AA AA .nil)))) (.same AA)) (λ_ K=>by rw[Dy]at K;cases K) ?_);rintro n ⟨E,f⟩ a;try dsimp only at a⊢
 rw[Dy]at a;refine AG λR k=>sr AA λS o=>zm tb 3 AA (zl tb AA AA (zq tb AA (dn o AA ?_)));refine ci a AA ?_ ?_<;>clear a<;>intro T a
 ·refine AL (k _ (AG λU p=>AU (AG λV q=>sr AA λW t=>zm tb 2 AA (bs a λu g a=>zz (Da u) (By BU AA AA g (Ai _) rfl) rfl (zq tb AA (bs a λX y a=>zc (hb 58) (JO y) rfl AA AA (zq tb AA (dn t AA ?_))))))));refine ci a AA ?_ ?_<;>clear a<;>intro Y a
  ·refine sr AA λZ z=>zz (.agg [.zc,.zc]) (C8 U4 VI Ix AA AA) rfl (Am AI D8 AA AA AA AA AA AA nk rfl (zq tb AA (dn z AA ?_)));obtain rfl:=Sh.AB a;try dsimp only[id]at h0
   obtain rfl:=Sh.AB h0;exact Aq (Exists.intro _ (And.intro ((((Gg (id:=1) (cs:=[.zc,.zc]) (cs':=X2) (st':=((Cs p0.decls p0.funcs)::⟨0,26,2,[X2]⟩::dt f b [])) rfl ⟨le.zc,le.rfl,jf⟩ AA AA).trans (Gg (id:=1) (cs:=X2) (cs':=Qs) (st':=((Cs p0.decls p0.funcs)::⟨0,26,2,[Qs]⟩::dt f b [])) rfl ⟨le.rfl,le.zc,jf⟩ AA AA)).trans (AT (L:=[(4,BJ),(5,.bool false)]) (st':=[⟨0,26,2,[Qs]⟩]) [1] AA (by decide) rfl AA (.raw AA AA .nil) ⟨.rfl,.rfl,jf⟩)).trans (Ag (L:=[(4,BJ),(5,.bool false)]) ⟨.rfl,.rfl,jf⟩)) (Ar (x:=.tmp 4) (off:=0) (cs:=Qs) (vs:=Qs) D8 AA AA AA nk rfl _ AA)))
  ·refine AL (q _ (Bv 22 (by kernel_rfl) (by kernel_rfl) (by rfl) ?_));iterate 5 refine yq tb rfl ?_
   refine bs a λi h a=>yx Cu h AA AA AA ?_;iterate 2 refine yq tb rfl ?_
   refine bs a λd A a=>?_;refine BW (v:=(ls eI d)) AI (hb 62) (Ab.wk (KE A) (by refine Wk.trans (Wk.BL (L:=[(0,ls eI d)]) (st':=S9) (id:=0) rfl np (AD λ_=>AA) ⟨.BL AA,jf⟩ AA) ?_;exact AT [] AA (by decide) rfl AA .nil (.same AA))) rfl AA AA ?_;iterate 3 refine yq tb rfl ?_
   refine yx Cu h AA AA AA ?_;iterate 4 refine yq tb rfl ?_
   exact yz (Da u) (By BU AA AA g (Ai _) rfl) rfl (yq tb AA (bs a λc B a=>BW (v:=(Bc c)) AI (hb 63) (P8 B) rfl AA AA (yz (.agg [ls eI d,i64 i.result,i64 c.op,i64 c.num,ls Au c.kids]) (C8 Tb Tc Lg AA AA) rfl (F3 (l:=[Ac.mk d i.result c]) (enc:=BS) AI Cu (by decide) rfl AA AA AA AA (AD λ_=>AA) (Aw (bs a λC D a=>C9 (l2:=[Ac.mk d i.result c]) AI Cu AA AA AA AA Lh (λ_=>AA) D AA (zq tb AA (Am AI Oc AA AA AA AA AA AA oB rfl (dn p AA (AH AA (zm tb 3 AA (AF (xi (Sh.w (E+1),C) a (EX (L:=[(1,GV p1),(2,BJ),(4,CS),(6,HN),(7,KA E)]) (st':=((Cs p0.decls p0.funcs)::Gx::dt C b [])) (.raw AA AA (.raw AA AA (.pure (AD λ_=>AA) (.raw AA AA .nil)))) (.same AA)))))))))))))))
 ·exact BD (O f (Sh.AB a).symm _ (Bj (L:=[(4,BJ),(6,CY)]) (st':=(Gx::JW f b [])) (st1:=(Gx::dt f b [])) [1,2,3] AA .nil (by decide) rfl AA (.raw AA AA (.pure (AD λ_=>AA) (.raw AA AA .nil))) (.same AA)))
theorem WA {N:Nat}{p0:AP}{r:AP×Bool}(h0:J3 N p0=some r):Ab Tryz.prog 15 [H7 p0] [] (λv st=>v=(.Dp [.agg (Ou r.1.decls r.1.funcs),.bool r.2])/\st=[]):=by
 unfold J3 at h0;refine Cj AA (ai Tryz.func15 AA AA AA AA (sr AA λT z=>Bf (m:=0) AI AA AA AA AA AA (Av (m:=1) AI Ix AA AA (zq tb AA (dn z AA (AG λU A=>sr AA λV B=>zq tb AA (bs h0 λH C h0=>zc (hb 29) (Oj C) rfl AA AA (zq tb AA (dn B AA ?_)))))))));refine ci h0 AA ?_ ?_<;>clear h0<;>intro I h0
 ·have W:H=false:=by simpa using I
  refine sr AA λX D=>zz (.agg [.zc,.zc]) (C8 U4 VI Ix AA AA) rfl (Am AI D8 AA AA AA AA AA AA nk rfl (zq tb AA (dn D AA ?_)));obtain rfl:=Sh.AB h0;exact Aq (Exists.intro _ (And.intro ((((Gg (id:=1) (cs:=[.zc,.zc]) (cs':=X2) (st':=[Cs p0.decls p0.funcs,⟨0,26,2,[X2]⟩]) rfl ⟨le.zc,le.rfl,jf⟩ AA AA).trans (Gg (id:=1) (cs:=X2) (cs':=Qs) (st':=[Cs p0.decls p0.funcs,⟨0,26,2,[Qs]⟩]) rfl ⟨le.rfl,le.zc,jf⟩ AA AA)).trans (AT (L:=[(2,BJ),(3,.bool false)]) (st':=[⟨0,26,2,[Qs]⟩]) [1] AA (by decide) rfl AA (.raw AA AA .nil) ⟨.rfl,.rfl,jf⟩)).trans (Ag (L:=[(2,BJ),(3,.bool false)]) ⟨.rfl,.rfl,jf⟩)) (Ar (x:=.tmp 2) (off:=0) (cs:=Qs) (vs:=Qs) D8 AA AA AA nk rfl _ AA)))
 ·have Y:H=true:=by simpa using I
  refine AL (A _ (sr AA λZ E=>?_));refine BF (m:=2) (l:=([]:List AE)) (enc:=Au) AI BU (by decide) rfl AA (by simp only[List.map,Ai];rfl) rfl AA AA ?_;refine zq tb AA (dn E AA (AG λF j=>zr tb AA AA (bs h0 λg b h0=>?_)));have G:∀(c:(List AE)),g=c->∀s,Wk 0 s ⟨41,Aa [(1,BJ),(2,CS),(4,ow 2 0 c)],[Cs p0.decls p0.funcs,Gx,GW c]⟩->F s:=by
   intro c hq s K;subst g;try dsimp only at h0
   refine j _ (AK K (sr AA λM k=>zm tb 2 AA (AR (Wk.BL (L:=[(2,CS),(36,H7 p0),(37,GV c)]) (st':=[Cs p0.decls p0.funcs,Gx,CB]) (id:=2) rfl nz (AD Ad) ⟨.rfl,.rfl,.BL AA,jf⟩ AA) (bs h0 λa o h0=>zc (v':=(.Dp [.agg (Ou a.1.decls a.1.funcs),.bool a.2])) (hb 31) (QC o) rfl AA AA (zm tb 2 AA (Am AI D8 AA AA AA AA AA AA nk rfl (zq tb AA (dn k AA ?_))))))));obtain rfl:=Sh.AB h0;exact Aq (Exists.intro _ (And.intro ((AT (L:=[(2,BJ),(3,.bool a.2)]) (st':=[Cs a.1.decls a.1.funcs]) [1] AA (by decide) rfl AA (.raw AA AA .nil) ⟨.rfl,.rfl,jf⟩).trans (Ag (L:=[(2,BJ),(3,.bool a.2)]) ⟨.rfl,.rfl,jf⟩)) (Ar (x:=.tmp 2) (off:=0) (cs:=(Ou a.1.decls a.1.funcs)) (vs:=(Ou a.1.decls a.1.funcs)) D8 AA AA AA nk rfl _ AA)))
  refine AU (Ax (σ:=Int×(List AE)) (λn v=>GF N p0 n v.1 v.2=some g) (λ(d,e)=>⟨41,Aa [(1,.ptr 0 0 0 0),(2,.ptr 1 0 0 0),(4,ow 2 0 e),(5,i64 d)],[Cs p0.decls p0.funcs,Gx,ro 0 35 3 Au e]⟩) N (0,[]) b (AJ AA) (λ_ J=>by rw[GF]at J;cases J) ?_);rintro n ⟨d,e⟩ b;try dsimp only at b⊢
  rw[GF]at b;refine AG λO p=>sr AA λP q=>zm tb 3 AA (zl tb AA AA (zq tb AA (dn q AA ?_)));refine ci b AA ?_ ?_<;>clear b<;>intro Q b
  ·refine AL (p _ (AG λR t=>AU (Bv 17 (by kernel_rfl) (by kernel_rfl) (by rfl) ?_)));iterate 5 refine yq tb rfl ?_
   refine bs b λS f b=>yx Cu f AA AA AA ?_;iterate 5 refine yq tb rfl ?_
   refine yx Cu f AA AA AA ?_;iterate 2 refine yq tb rfl ?_
   refine yl tb AA AA (bs b λh u b=>BW (v:=(Bc h)) AI (hb 37) (WY u) rfl AA AA ?_);refine F3 (l:=[h]) (enc:=Au) AI BU (by decide) rfl AA AA (by simp only[List.map,Ai];rfl) rfl (AD Ad) ?_;exact Aw (bs b λi y b=>C9 (l2:=[h]) AI BU AA AA AA AA Lh DS y AA (zq tb AA (dn t AA (AH AA (zm tb 3 AA (AF (xi (Sh.w (d+1),i) b (EX (L:=[(1,BJ),(2,CS),(4,ow 2 0 i),(5,KA d)]) (st':=[Cs p0.decls p0.funcs,Gx,GW i]) (.raw AA AA (.raw AA AA (.pure (AD Ad) .nil))) (.same AA)))))))))
  ·exact BD (G e (Sh.AB b).symm _ (AJ AA))
theorem MA {N:Nat}{p0:(List Int)}{p1:(List Int)}{r:Bool}(h0:G9 N p0 p1=some r):Ab Tryz.prog 21 [ls eI p0,ls eI p1] [] (λv st=>v=(.bool r)/\st=[]):=by
 unfold G9 at h0;refine ai Tryz.func21 AA AA AA AA (zr tb AA AA (AG λG m=>sr AA λH o=>zq tb AA (zl tb AA AA (zq tb AA (zl tb AA AA (zq tb AA (dn o AA ?_)))))));refine ci h0 AA ?_ ?_<;>clear h0<;>intro t h0
 ·have I:decide ((Sh.len p0)=(Sh.len p1))=false:=by simpa using t
  refine zr tb AA AA ?_;obtain rfl:=Sh.AB h0;exact rt [(4,.bool false)]
 ·have J:decide ((Sh.len p0)=(Sh.len p1))=true:=by simpa using t
  refine AL (m _ (AG λx p=>zr tb AA AA ?_));obtain⟨b,a,h0⟩:=Sh.Bi h0;have q:∀(_:Unit),b=Sum.inr ()->∀s,Wk 0 s ⟨26,Aa [],[]⟩->x s:=by
   intro _ K s y;subst b;try dsimp only at h0
   refine p _ (AK y (zr tb AA AA ?_));obtain rfl:=Sh.AB h0;exact rt [(4,.bool true)]
  refine AU (Ax (σ:=Int) (λn v=>EH p0 p1 n v=some b) (λc=>⟨26,Aa [(0,ls eI p0),(1,ls eI p1),(5,i64 c)],[]⟩) N 0 a (AJ AA) (λ_ u=>by rw[EH]at u;cases u) ?_);rintro n c a;try dsimp only at a⊢
  rw[EH]at a;refine AG λz d=>sr AA λA e=>zm tb 2 AA (zl tb AA AA (zq tb AA (dn e AA ?_)));refine ci a AA ?_ ?_<;>clear a<;>intro B a
  ·refine AL (d _ (AG λC f=>AU (AG λD g=>Cd (by kernel_rfl) (by kernel_rfl) (by rfl) ?_)));iterate 2 refine yq tb rfl ?_
   refine bs a λh i a=>yx BQ i AA AA AA ?_;iterate 3 refine yq tb rfl ?_
   refine bs a λj k a=>yx BQ k AA AA AA ?_;iterate 2 refine yq tb rfl ?_
   refine Aw (g _ ?_);refine ci a AA ?_ ?_<;>clear a<;>intro l a
   ·have E:decide (h=j)=false:=by simpa using l
    refine zr tb AA AA ?_;obtain rfl:=Sh.AB a;try dsimp only[id]at h0
    obtain rfl:=Sh.AB h0;exact rt [(4,.bool false)]
   ·have F:decide (h=j)=true:=by simpa using l
    exact AL (f _ (AH AA (zm tb 3 AA (AF (xi (Sh.w (c+1)) a (AJ AA))))))
  ·exact BD (q () (Sh.AB a).symm _ (AJ AA))
theorem QJ {N:Nat}{p0:(List AM)}{p1:(List AM)}{r:Bool}(h0:Hi N p0 p1=some r):Ab Tryz.prog 32 [Ct p0,Ct p1] [] (λv st=>v=(.bool r)/\st=[]):=by
 unfold Hi at h0;refine ai Tryz.func32 AA AA AA AA (zr tb AA AA (AG λK2 M=>sr AA λK3 O=>zq tb AA (zl tb AA AA (zq tb AA (zl tb AA AA (zq tb AA (dn O AA ?_)))))));refine ci h0 AA ?_ ?_<;>clear h0<;>intro U h0
 ·have b5:decide ((Sh.len p0)=(Sh.len p1))=false:=by simpa using U
  refine zr tb AA AA ?_;obtain rfl:=Sh.AB h0;exact rt [(4,.bool false)]
 ·have b7:decide ((Sh.len p0)=(Sh.len p1))=true:=by simpa using U
  refine AL (M _ (AG λW P=>zr tb AA AA ?_));obtain⟨k,d,h0⟩:=Sh.Bi h0;have Q:∀(_:Unit),k=Sum.inr ()->∀s,Wk 0 s ⟨87,Aa [],[]⟩->W s:=by
   intro _ V s t;subst k;try dsimp only at h0
   refine P _ (AK t (zr tb AA AA ?_));obtain rfl:=Sh.AB h0;exact rt [(4,.bool true)]
  refine AU (Ax (σ:=Int) (λn v=>Du N p0 p1 n v=some k) (λe=>⟨87,Aa [(0,ls Aj p0),(1,ls Aj p1),(5,i64 e)],[]⟩) N 0 d (AJ AA) (λ_ u=>by rw[Du]at u;cases u) ?_);rintro n e d;try dsimp only at d⊢
  rw[Du]at d;refine AG λX x=>sr AA λY y=>zm tb 2 AA (zl tb AA AA (zq tb AA (dn y AA ?_)));refine ci d AA ?_ ?_<;>clear d<;>intro Z d
  ·refine AL (x _ (AG λR z=>AU (AG λb0 A=>AG λS B=>bs d λC a d=>?_)));have l:∀(m:Bool),C=m->∀s,Wk 0 s ⟨87,Aa [(0,Ct p0),(1,Ct p1),(5,i64 e),(56,.bool m)],[]⟩->S s:=by
    intro m V s t;subst C;try dsimp only at d
    refine B _ (AK t ?_);refine ci d AA ?_ ?_<;>clear d<;>intro b1 d
    ·refine zr tb AA AA ?_;obtain rfl:=Sh.AB d;try dsimp only[id]at h0
     obtain rfl:=Sh.AB h0;exact rt [(4,.bool false)]
    ·refine AL (A _ (zr tb AA AA ?_));obtain⟨o,a,d⟩:=Sh.Bi d;have T:∀(_:Unit),o=Sum.inr ()->∀s,Wk 0 s ⟨87,Aa [(0,Ct p0),(1,Ct p1),(5,i64 e)],[]⟩->R s:=by
      intro _ V s t;subst o;try dsimp only at d
      exact z _ (AK t (AH AA (zm tb 3 AA (AF (xi (Sh.w (e+1)) d (AJ AA))))))
     refine AU (Ax (σ:=Int) (λn v=>Dw N e p0 p1 n v=some o) (λp=>⟨87,Aa [(0,ls Aj p0),(1,ls Aj p1),(5,i64 e),(6,i64 p)],[]⟩) N 0 a (AJ AA) (λ_ u=>by rw[Dw]at u;cases u) ?_);rintro n p a;try dsimp only at a⊢
     rw[Dw]at a;refine AG λb2 D=>sr AA λb3 E=>zm tb 3 AA (bs a λb6 j a=>zx DH j AA AA AA (zm tb 2 AA (zl tb AA AA (zq tb AA (dn E AA ?_)))));refine ci a AA ?_ ?_<;>clear a<;>intro b8 a
     ·refine AL (D _ (AG λb9 F=>AU (AG λc0 G=>Cd (by kernel_rfl) (by kernel_rfl) (by rfl) ?_)));iterate 2 refine yq tb rfl ?_
      refine yx DH j AA AA AA ?_;iterate 3 refine yq tb rfl ?_
      refine bs a λc1 H a=>yx Iw H AA AA AA ?_;iterate 4 refine yq tb rfl ?_
      refine bs a λc2 I a=>yx DH I AA AA AA ?_;iterate 3 refine yq tb rfl ?_
      refine bs a λc3 J a=>yx Iw J AA AA AA ?_;iterate 2 refine yq tb rfl ?_
      refine bs a λq K a=>BW (v:=(.bool q)) AI (hb 21) (MA K) rfl AA AA (yq tb AA (Aw (G _ ?_)));refine ci a AA ?_ ?_<;>clear a<;>intro L a
      ·have c4:q=false:=by simpa using L
       refine zr tb AA AA ?_;obtain rfl:=Sh.AB a;try dsimp only[id]at d
       obtain rfl:=Sh.AB d;try dsimp only[id]at h0
       obtain rfl:=Sh.AB h0;exact rt [(4,.bool false)]
      ·have c5:q=true:=by simpa using L
       exact AL (F _ (AH AA (zm tb 3 AA (AF (xi (Sh.w (p+1)) a (AJ AA))))))
     ·exact BD (T () (Sh.AB a).symm _ (AJ AA))
   refine Cd (by kernel_rfl) (by kernel_rfl) (by rfl) ?_;iterate 2 refine yq tb rfl ?_
   refine bs a λh f a=>yx DH f AA AA AA ?_;iterate 4 refine yq tb rfl ?_
   refine bs a λi g a=>yx DH g AA AA AA ?_;iterate 4 refine yq tb rfl ?_
   rcases Sh.Ak a with ⟨c,a⟩|⟨c,a⟩
   ·refine ys c AA ?_;iterate 10 refine ys c rfl ?_
    refine yt c AA (yq tb AA ?_);iterate 13 refine ys rfl rfl ?_
    exact yt AA AA (Aw (l true (Sh.AB a).symm _ (AJ AA)))
   ·refine yg tb c AA (yg tb c AA (H5 (v:=(.Bh (Aj h) 0)) (CW AA AA c) rfl (Cg DH AA AA f AA) ?_));iterate 4 refine yg tb c rfl ?_
    refine H5 (v:=(.Bh (Aj i) 0)) (CW AA AA c) rfl (Cg DH AA AA g AA) ?_;iterate 3 refine yg tb c rfl ?_
    refine yf c AA (yq tb AA ?_);rcases Sh.Ak a with ⟨b,a⟩|⟨b,a⟩
    ·refine ys b AA ?_;iterate 12 refine ys b rfl ?_
     exact yt b AA (Aw (l true (Sh.AB a).symm _ (AJ AA)))
    ·refine yg tb b AA (yg tb b AA (H5 (v:=(.Bh (Aj h) 0)) (CW AA AA b) rfl (Cg DH AA AA f AA) ?_));iterate 2 refine yg tb b rfl ?_
     refine H5 (v:=(i64 (Sh.len h.cons))) (CW AA AA b) rfl (Ch Pa AA) ?_;iterate 2 refine yg tb b rfl ?_
     refine H5 (v:=(.Bh (Aj i) 0)) (CW AA AA b) rfl (Cg DH AA AA g AA) ?_;iterate 2 refine yg tb b rfl ?_
     exact H5 (v:=(i64 (Sh.len i.cons))) (CW AA AA b) rfl (Ch Pa AA) (yg tb b AA (yf b AA (Aw (l (!decide ((Sh.len h.cons)=(Sh.len i.cons))) (Sh.AB a).symm _ (AJ AA)))))
  ·exact BD (Q () (Sh.AB d).symm _ (AJ AA))
theorem PR {N:Nat}{pA:AE->AE->Option (Bool)}(qb :∀{p0:AE} {p1:AE} {r:Bool},pA p0 p1=some r->Ab Tryz.prog 33 [Bc p0,Bc p1] [] (λv st=>v=(.bool r)/\st=[])){p0 p1:AE}{r:Bool}(h0:Is N pA p0 p1=some r):Ab Tryz.prog 33 [Bc p0,Bc p1] [] (λv st=>v=(.bool r)/\st=[]):=by
 unfold Is at h0;refine ai Tryz.func33 AA AA AA AA (sr AA λR q=>Bf (m:=0) AI AA AA AA AA AA (Bf (m:=1) AI AA AA AA AA AA (zq tb AA (dn q AA (AG λS t=>AG λG u=>bs h0 λE a h0=>?_)))));have x:∀(y:Bool),E=y->∀s,Wk 0 s ⟨46,Aa [(2,BJ),(3,CS),(26,.bool y)],[Om p0.op p0.num p0.kids,Om p1.op p1.num p1.kids]⟩->G s:=by
  intro y H s z;subst E;try dsimp only at h0
  refine u _ (AK z ?_);refine ci h0 AA ?_ ?_<;>clear h0<;>intro T h0
  ·refine zr tb AA AA ?_;obtain rfl:=Sh.AB h0;exact rd [(4,.bool false)]
  ·refine AL (t _ (AG λI A=>zr tb AA AA ?_));obtain⟨d,a,h0⟩:=Sh.Bi h0;have B:∀(_:Unit),d=Sum.inr ()->∀s,Wk 0 s ⟨46,Aa [],[]⟩->I s:=by
    intro _ H s z;subst d;try dsimp only at h0
    refine A _ (AK z (zr tb AA AA ?_));obtain rfl:=Sh.AB h0;exact rt [(4,.bool true)]
   refine AU (Ax (σ:=Int) (λn v=>Di p0 p1 pA n v=some d) (λe=>⟨46,Aa [(2,.ptr 0 0 0 0),(3,.ptr 1 0 0 0),(5,i64 e)],[Om p0.op p0.num p0.kids,Om p1.op p1.num p1.kids]⟩) N 0 a (AJ AA) (λ_ F=>by rw[Di]at F;cases F) ?_);rintro n e a;try dsimp only at a⊢
   rw[Di]at a;refine AG λJ g=>sr AA λK h=>zm tb 3 AA (zl tb AA AA (zq tb AA (dn h AA ?_)));refine ci a AA ?_ ?_<;>clear a<;>intro L a
   ·refine AL (g _ (AG λM i=>AU (AG λO j=>Cd (by kernel_rfl) (by kernel_rfl) (by rfl) ?_)));iterate 3 refine yq tb rfl ?_
    refine bs a λC k a=>yz (Da C) (By BU AA AA k (Ai _) rfl) rfl ?_;iterate 4 refine yq tb rfl ?_
    refine bs a λD l a=>yz (Da D) (By BU AA AA l (Ai _) rfl) rfl (yq tb AA (bs a λf o a=>BW (v:=(.bool f)) AI (hb 33) (qb o) rfl AA AA (yq tb AA (Aw (j _ ?_)))));refine ci a AA ?_ ?_<;>clear a<;>intro p a
    ·have P:f=false:=by simpa using p
     refine zr tb AA AA ?_;obtain rfl:=Sh.AB a;try dsimp only[id]at h0
     obtain rfl:=Sh.AB h0;exact rd [(4,.bool false)]
    ·have Q:f=true:=by simpa using p
     exact AL (i _ (AH AA (zm tb 3 AA (AF (xi (Sh.w (e+1)) a (AJ AA))))))
   ·exact BD (B () (Sh.AB a).symm _ (Bn _ AA))
 refine AH AA (zm tb 6 AA ?_);rcases Sh.Ak a with ⟨c,a⟩|⟨c,a⟩
 ·refine zs c AA ?_;iterate 4 refine zs c rfl ?_
  refine zt c AA (zq tb AA ?_);iterate 7 refine zs rfl rfl ?_
  exact zt AA AA (AF (x true (Sh.AB a).symm _ (AJ AA)))
 ·refine zg tb c AA ?_;iterate 4 refine zg tb c rfl ?_
  refine zf c AA (zq tb AA ?_);rcases Sh.Ak a with ⟨b,a⟩|⟨b,a⟩
  ·refine zs b AA ?_;iterate 6 refine zs b rfl ?_
   exact zt b AA (AF (x true (Sh.AB a).symm _ (AJ AA)))
  ·exact zg tb b AA (zg tb b AA (Ba (v:=(YJ p0)) (CW AA AA b) rfl (Ch SH AA) (zg tb b AA (zg tb b AA (Ba (v:=(YJ p1)) (CW AA AA b) rfl (Ch SH AA) (zg tb b AA (zf b AA (AF (x (!decide ((Sh.len p0.kids)=(Sh.len p1.kids))) (Sh.AB a).symm _ (AJ AA))))))))))
theorem PC {N:Nat}:∀(n:Nat),∀{p0:AE} {p1:AE} {r:Bool},E6 N n p0 p1=some r->Ab Tryz.prog 33 [Bc p0,Bc p1] [] (λv st=>v=(.bool r)/\st=[]):=by
 intro n
 induction n with
 | zero=>intro p0 p1 r a;cases a
 | succ n ih=>
  intro p0 p1 r a;rw[E6]at a;exact PR (λh=>ih h) a
theorem Qx {N:Nat}:∀{p0:AE} {p1:AE} {r:Bool},Lb N p0 p1=some r->Ab Tryz.prog 33 [Bc p0,Bc p1] [] (λv st=>v=(.bool r)/\st=[]):=by
 intro p0 p1 r a;exact PC N a
theorem Il {N:Nat}{p0 p1:AP}{r:Bool}(h0:FW N p0 p1=some r):Ab Tryz.prog 11 [H7 p0,H7 p1] [] (λv st=>v=(.bool r)/\st=[]):=by
 unfold FW at h0;refine ai Tryz.func11 AA AA AA AA (sr AA λY D=>Bf (m:=0) AI AA AA AA AA AA (Bf (m:=1) AI AA AA AA AA AA (zq tb AA (dn D AA (AG λZ E=>AG λQ F=>bs h0 λL c h0=>?_)))));have M:∀(G:Bool),L=G->∀s,Wk 0 s ⟨73,Aa [(2,BJ),(3,CS),(20,.bool G)],[Cs p0.decls p0.funcs,Cs p1.decls p1.funcs]⟩->Q s:=by
  intro G O s l;subst L;try dsimp only at h0
  refine F _ (AK l ?_);refine ci h0 AA ?_ ?_<;>clear h0<;>intro b6 h0
  ·refine zr tb AA AA ?_;obtain rfl:=Sh.AB h0;exact rd [(4,.bool false)]
  ·refine AL (E _ (AG λR H=>zr tb AA AA ?_));obtain⟨i,c,h0⟩:=Sh.Bi h0;have I:∀(_:Unit),i=Sum.inr ()->∀s,Wk 0 s ⟨73,Aa [],[]⟩->R s:=by
    intro _ O s l;subst i;try dsimp only at h0
    refine H _ (AK l (zr tb AA AA ?_));obtain rfl:=Sh.AB h0;exact rt [(4,.bool true)]
   refine AU (Ax (σ:=Int) (λn v=>DQ N p0 p1 n v=some i) (λh=>⟨73,Aa [(2,.ptr 0 0 0 0),(3,.ptr 1 0 0 0),(5,i64 h)],[Cs p0.decls p0.funcs,Cs p1.decls p1.funcs]⟩) N 0 c (AJ AA) (λ_ P=>by rw[DQ]at P;cases P) ?_);rintro n h c;try dsimp only at c⊢
   rw[DQ]at c;refine AG λS o=>sr AA λT p=>zm tb 3 AA (zl tb AA AA (zq tb AA (dn p AA ?_)));refine ci c AA ?_ ?_<;>clear c<;>intro U c
   ·refine AL (o _ (AG λV q=>AU (AG λJ t=>bs c λu e c=>?_)));have j:∀(k:Bool),u=k->∀s,Wk 0 s ⟨73,Aa [(2,BJ),(3,CS),(5,i64 h),(72,.bool k)],[Cs p0.decls p0.funcs,Cs p1.decls p1.funcs]⟩->J s:=by
     intro k O s l;subst u;try dsimp only at c
     refine t _ (AK l ?_);refine ci c AA ?_ ?_<;>clear c<;>intro W c
     ·refine zr tb AA AA ?_;obtain rfl:=Sh.AB c;try dsimp only[id]at h0
      obtain rfl:=Sh.AB h0;exact rd [(4,.bool false)]
     ·exact AL (q _ (AH AA (zm tb 3 AA (AF (xi (Sh.w (h+1)) c (AJ AA))))))
    refine Cd (by kernel_rfl) (by kernel_rfl) (by rfl) ?_;iterate 3 refine yq tb rfl ?_
    refine bs e λx f e=>yx Cu f AA AA AA ?_;iterate 5 refine yq tb rfl ?_
    refine bs e λy g e=>yx Cu g AA AA AA ?_;iterate 2 refine yq tb rfl ?_
    refine bs e λK z e=>BW (v:=(.bool K)) AI (hb 21) (MA z) rfl AA AA ?_;iterate 2 refine yq tb rfl ?_
    rcases Sh.Ak e with ⟨d,e⟩|⟨d,e⟩
    ·refine ys d AA ?_;iterate 12 refine ys d rfl ?_
     refine yt d AA (yq tb AA ?_);iterate 14 refine ys rfl rfl ?_
     exact yt AA AA (Aw (j true (Sh.AB e).symm _ (AJ AA)))
    ·refine yg tb d AA ?_;iterate 2 refine yg tb d rfl ?_
     refine H5 (v:=(.Bh (BS x) 0)) (CW AA AA d) rfl (Cg Cu AA AA f AA) ?_;iterate 5 refine yg tb d rfl ?_
     refine H5 (v:=(.Bh (BS y) 0)) (CW AA AA d) rfl (Cg Cu AA AA g AA) ?_;iterate 3 refine yg tb d rfl ?_
     refine yf d AA (yq tb AA ?_);rcases Sh.Ak e with ⟨a,e⟩|⟨a,e⟩
     ·refine ys a AA ?_;iterate 13 refine ys a rfl ?_
      exact yt a AA (Aw (j true (Sh.AB e).symm _ (AJ AA)))
     ·refine yg tb a AA ?_;iterate 2 refine yg tb a rfl ?_
      refine H5 (v:=(.Bh (BS x) 0)) (CW AA AA a) rfl (Cg Cu AA AA f AA) ?_;iterate 5 refine yg tb a rfl ?_
      refine H5 (v:=(.Bh (BS y) 0)) (CW AA AA a) rfl (Cg Cu AA AA g AA) ?_;iterate 2 refine yg tb a rfl ?_
      exact bs e λA B e=>BW (v:=(.bool A)) (CW AA AA a) (hb 33) (Qx B) rfl AA AA (yg tb a AA (yf a AA (Aw (j (!A) (Sh.AB e).symm _ (AJ AA)))))
   ·exact BD (I () (Sh.AB c).symm _ (Bn _ AA))
 refine AH AA (zm tb 4 AA (bs c λX C c=>zc (hb 32) (QJ C) rfl AA AA (zm tb 2 AA ?_)));rcases Sh.Ak c with ⟨b,c⟩|⟨b,c⟩
 ·refine zs b AA ?_;iterate 6 refine zs b rfl ?_
  exact zt b AA (AF (M true (Sh.AB c).symm _ (AJ AA)))
 ·exact zg tb b AA (zg tb b AA (Ba (v:=(i64 (Sh.len p0.funcs))) (CW AA AA b) rfl (Ch Tp AA) (zg tb b AA (zg tb b AA (Ba (v:=(i64 (Sh.len p1.funcs))) (CW AA AA b) rfl (Ch Tp AA) (zg tb b AA (zf b AA (AF (M (!decide ((Sh.len p0.funcs)=(Sh.len p1.funcs))) (Sh.AB c).symm _ (AJ AA))))))))))
theorem Pb {N:Nat}{p0:(List Int)}{r:Bool}(h0:Iq N p0=some r):Ab Tryz.prog 4 [ls E4 p0] [] (λv st=>v=(.bool r)/\st=[]):=by
 unfold Iq at h0;refine ai Tryz.func4 AA AA AA AA (zr tb AA AA (AG λK2 H=>sr AA λK3 I=>zq tb AA (zl tb AA AA (zq tb AA (dn I AA ?_)))));refine ci h0 AA ?_ ?_<;>clear h0<;>intro b4 h0
 ·refine zr tb AA AA ?_;obtain rfl:=Sh.AB h0;exact rt [(2,.bool true)]
 ·refine AL (H _ (sr AA λK6 J=>zq tb AA (bs h0 λT K h0=>zc (v':=(H7 T)) (hb 13) (SC K) rfl AA AA (Av (m:=0) AI Ix AA AA (Am AI D8 AA AA AA AA AA AA nk rfl (dn J AA (sr AA λK8 L=>zq tb AA (bs h0 λi M h0=>zc (v':=(.Dp [.agg (Ou i.1.decls i.1.funcs),.bool i.2])) (hb 14) (Qk M) rfl AA AA (zm tb 3 AA (Av (m:=1) AI Ix AA AA (Am AI D8 AA AA AA AA AA AA nk rfl (zq tb AA (dn L AA (sr AA λU n=>zq tb AA (bs h0 λe o h0=>zc (v':=(.Dp [.agg (Ou e.1.decls e.1.funcs),.bool e.2])) (hb 15) (WA o) rfl AA AA (zm tb 3 AA (Av (m:=2) AI Ix AA AA (Am AI D8 AA AA AA AA AA AA nk rfl (zq tb AA (dn n AA (AG λV p=>AG λO q=>bs h0 λt a h0=>?_)))))))))))))))))))));have j:∀(k:Bool),t=k->∀s,Wk 0 s ⟨57,Aa [(4,BJ),(5,.bool i.2),(6,CS),(7,.bool e.2),(37,.bool k)],[Cs i.1.decls i.1.funcs,Cs e.1.decls e.1.funcs]⟩->O s:=by
   intro k S s u;subst t;try dsimp only at h0
   refine q _ (AK u ?_);refine ci h0 AA ?_ ?_<;>clear h0<;>intro W h0
   ·refine AG λP w=>bs h0 λx a h0=>?_;have y:∀(g:Bool),x=g->∀s,Wk 0 s ⟨57,Aa [(2,.bool g)],[]⟩->P s:=by
     intro g S s u;subst x;try dsimp only at h0
     refine w _ (AK u ?_);obtain rfl:=Sh.AB h0;exact rt [(2,.bool g)]
    refine AH AA (zm tb 2 AA (bs a λX z a=>zc (hb 11) (Il z) rfl AA AA (zq tb AA ?_)));rcases Sh.Ak a with ⟨b,a⟩|⟨b,a⟩
    ·exact zg tb b AA (zg tb b AA (zg tb b AA (zt b AA (zq tb AA (AF (y (i.2==e.2) (Sh.AB a).symm _ (Bn _ AA)))))))
    ·exact zs b AA (zs b AA (zs b AA (zf b AA (zq tb AA (AF (y false (Sh.AB a).symm _ (Bn _ AA)))))))
   ·refine AL (p _ (sr AA λY A=>zq tb AA (bs h0 λl B h0=>zc (v':=(.Dp [.agg (Ou l.1.decls l.1.funcs),.bool l.2])) (hb 14) (Qk B) rfl AA AA (zm tb 3 AA (Av (m:=2) AI Ix AA AA (Am AI D8 AA AA AA AA AA AA nk rfl (zq tb AA (dn A AA (AG λQ C=>bs h0 λD a h0=>?_)))))))));have E:∀(h:Bool),D=h->∀s,Wk 0 s ⟨57,Aa [(2,.bool h)],[]⟩->Q s:=by
     intro h S s u;subst D;try dsimp only at h0
     refine C _ (AK u ?_);obtain rfl:=Sh.AB h0;exact rt [(2,.bool h)]
    refine AH AA (zm tb 2 AA ?_);rcases Sh.Ak a with ⟨c,a⟩|⟨c,a⟩
    ·exact zg tb c AA (zg tb c AA (bs a λR F a=>zd c (hb 11) (Il F) rfl AA AA AA (zt c AA (zq tb AA (AF (E R (Sh.AB a).symm _ (Bn _ AA)))))))
    ·exact zs c AA (zs c AA (zs c AA (zf c AA (zq tb AA (AF (E false (Sh.AB a).symm _ (Bn _ AA)))))))
  refine AH AA (zm tb 2 AA (bs a λZ G a=>zc (hb 11) (Il G) rfl AA AA (zm tb 2 AA ?_)));rcases Sh.Ak a with ⟨d,a⟩|⟨d,a⟩
  ·exact zs d AA (zs d AA (zs d AA (zt d AA (zq tb AA (zs AA AA (zs AA AA (zt AA AA (AF (j true (Sh.AB a).symm _ (AT [1,2] AA (by decide) rfl AA (.raw AA AA (.raw AA AA .nil)) (.same AA)))))))))))
  ·refine zg tb d AA (zg tb d AA (zg tb d AA (zf d AA (zq tb AA ?_))));rcases Sh.Ak a with ⟨f,a⟩|⟨f,a⟩
   ·exact zs f AA (zs f AA (zt f AA (AF (j true (Sh.AB a).symm _ (AT [1,2] AA (by decide) rfl AA (.raw AA AA (.raw AA AA .nil)) (.same AA))))))
   ·exact zg tb f AA (zg tb f AA (zf f AA (AF (j (!i.2) (Sh.AB a).symm _ (AT [1,2] AA (by decide) rfl AA (.raw AA AA (.raw AA AA .nil)) (.same AA))))))
end Go.Proofs.YtihdgoiebmfapaaGreat
