import Derived.Test.YtihdgoiebmfapaaGreatFEWalkP3
set_option linter.all false
namespace Go.Proofs.YtihdgoiebmfapaaGreat
open Go Go.Abs RC
attribute [local irreducible] Go.Abs.D7
set_option maxRecDepth 100000
set_option maxHeartbeats 4000000
theorem gS:Ds Tryz.prog 62=some ⟨4,1,1,[.bool false]⟩:=by kernel_rfl
theorem lD:Dr Tryz.prog 4=some (false,1):=by kernel_rfl
theorem kE:Dr Tryz.prog 62=some (false,1):=by kernel_rfl
theorem kS:ID Tryz.prog 62=some [.zc]:=by kernel_rfl
theorem Po {N:Nat}{qV:(List AN)}{qZ:(List Ac)}{p0:AP}{r:AP×Bool}(h0:I4 N qV qZ p0=some r):Ab Tryz.prog 27 [Hs p0,.fn 35 [BI]] [Cy qV qZ] (λv st=>v=(.Dd [.agg [ow 1 0 r.1.decls,ow 2 0 r.1.funcs],.bool r.2])/\st=[Cy qV qZ,Qp r.1.decls,NF r.1.funcs]):=by
 unfold I4 at h0;refine Ab.wk (r0:=(.Dd [.agg [ow 1 0 r.1.decls,ow 2 0 r.1.funcs],.bool r.2])) (st0:=[Cy qV qZ,Qp r.1.decls,NF r.1.funcs,⟨0,26,2,[[ow 1 0 r.1.decls,ow 2 0 r.1.funcs]]⟩]) (ai Tryz.func27 AA AA AA AA (sr AA λK1 R=>Bd (m:=1) AI AA AA AA AA AA (AR (Wk.BL (L:=[(1,.fn 35 [BI]),(2,.Bn (dW p0) 0)]) (st':=[Cy qV qZ,⟨1,26,2,[]⟩]) (id:=1) rfl qM (ET AA) (.same AA) rfl) (Av (m:=2) AI JV AA AA (zq tb AA (dn R AA (sr AA λK2 S=>zq tb AA (bs h0 λb T h0=>CH (v':=(.agg [ow 3 0 b.decls,ow 4 0 b.funcs])) AI (hb 55) (PI T) rfl AA ⟨(Ah λ_=>AA),⟨(Ah λ_=>AA),lU⟩⟩ AA AA (Av (m:=5) AI JV AA AA (Am AI EM AA AA AA AA AA AA pk rfl (dn S AA (AG λK4 U=>sr AA λK5 V=>zm tb 2 AA (zz (i64 (Sh.len b.funcs)) (Cv Rz AA AA AA) rfl (zq tb AA (dn V AA ?_))))))))))))))) (Dg (L:=[(0,.Dd [.agg [ow 1 0 r.1.decls,ow 2 0 r.1.funcs],.bool r.2])]) (st':=[Cy qV qZ,Qp r.1.decls,NF r.1.funcs]) [0,1,2] AA (by decide) rfl AA (.raw AA (.deep (Ah λ_=>AA) (.deep (Ah λ_=>AA) lU))) (.same AA));obtain⟨W,C,h0⟩:=Sh.Bg h0;have M9:∀(G:(List Ac)),W=Sum.inr G->∀s,Wk 1 s ⟨49,Aa [(4,CT),(6,Ls)],[Cy qV qZ,G2,ro 0 80 3 (BY 82 3) b.decls,NF G,⟨0,26,2,[[ow 2 0 b.decls,ow 3 0 G]]⟩]⟩->K4 s:=by
  intro G hq s hw;subst W;refine U _ (AK hw (sr AA λb0 I=>zq tb AA (Am AI EM AA AA AA AA AA AA pk rfl (zq tb AA (dn I AA ?_)))));obtain rfl:=Sh.AB h0;exact Ao (Exists.intro _ (And.intro ((Bq (L:=[(4,Hd),(5,.bool true)]) (st':=[Cy qV qZ,ro 0 80 3 (BY 82 3) b.decls,NF G,⟨0,26,2,[[ow 1 0 b.decls,ow 2 0 G]]⟩]) (st1:=[Cy qV qZ,ro 0 80 3 (BY 82 3) b.decls,NF G,⟨0,26,2,[[ow 2 0 b.decls,ow 3 0 G]]⟩]) [0,2,3,1] AA (.raw AA AA .nil) (by decide) rfl AA (.raw AA AA (.deep (Ah λ_=>AA) (.deep (Ah λ_=>AA) (.raw AA AA .nil)))) (.same AA)).trans (Af (L:=[(4,Hd),(5,.bool true)]) (.same AA))) (As (x:=.tmp 4) (off:=0) (cs:=[ow 1 0 b.decls,ow 2 0 G]) (vs:=[ow 1 0 b.decls,ow 2 0 G]) EM AA AA AA pk rfl _ ⟨AA,AA⟩)))
 refine AT (Ax (σ:=Int×(List Ac)) (λn v=>Di N qV qZ p0 b n v.1 v.2=some W) (λ(d,l)=>⟨49,Aa [(1,.fn 35 [.ptr 0 0 0 0]),(2,.Bn [ls Ak p0.decls,ls BO p0.funcs] 0),(4,.ptr 1 0 0 0),(6,.ptr 4 0 0 0),(12,i64 (Sh.len b.funcs)),(13,i64 d)],[Cy qV qZ,G2,ro 0 80 3 (BY 82 3) b.decls,ro 0 37 5 (DM 3 35) l,⟨0,26,2,[[ow 2 0 b.decls,ow 3 0 l]]⟩]⟩) N (0,b.funcs) C (Bq (L:=[(1,.fn 35 [.ptr 0 0 0 0]),(2,.Bn [ls Ak p0.decls,ls BO p0.funcs] 0),(4,.ptr 1 0 0 0),(6,.ptr 4 0 0 0),(12,i64 (Sh.len b.funcs)),(13,i64 0)]) (st':=[Cy qV qZ,G2,ro 0 80 3 (BY 82 3) b.decls,ro 0 37 5 (DM 3 35) b.funcs,⟨0,26,2,[[ow 2 0 b.decls,ow 3 0 b.funcs]]⟩]) (st1:=[Cy qV qZ,G2,ro 0 80 3 (BY 82 3) b.decls,ro 0 37 5 (DM 3 35) b.funcs,⟨0,26,2,[[ow 3 0 b.decls,ow 4 0 b.funcs]]⟩]) [0,2,3,4,5] AA (.raw AA AA .nil) (by decide) rfl AA (.raw AA AA (.raw AA AA (.deep (Ah λ_=>AA) (.deep (Ah λ_=>AA) (.raw AA AA .nil))))) (.same AA)) (λ_ Z=>by rw[Di]at Z;cases Z) ?_);rintro n ⟨d,l⟩ C;rw[Di]at C;refine zr tb AA AA (AG λb1 J=>?_);refine ci C AA ?_ ?_<;>clear C<;>intro b2 C
 ·refine AL (J _ (AG λb3 K=>AT (zr tb AA AA (AG λb4 M=>?_))));refine P9 (by kernel_rfl) ?_;refine bs C λa k C=>bs C λg H C=>?_;refine WL (f':=23) (listed':=(bm 23 0)) rfl (by kernel_rfl) ?_;refine DX 0 (v:=(.ptr 4 0 0 1)) rfl AA (by kernel_rfl) (by kernel_rfl) (by kernel_rfl) rfl (E9 (KB KX AA AA pw rfl)) ?_;refine DX 2 (v:=(i64 d)) rfl AA (by kernel_rfl) (by kernel_rfl) (by kernel_rfl) rfl (E9 (Iq AA)) ?_;refine DX 3 (v:=(.Bn (dW p0) 0)) rfl AA (by kernel_rfl) (by kernel_rfl) (by kernel_rfl) rfl (E9 (MW U6 AA AA)) ?_;refine DX 4 (v:=(ls Ak p0.decls)) rfl AA (by kernel_rfl) (by kernel_rfl) (by kernel_rfl) rfl (Ol aO AA AA) ?_;refine DX 5 (v:=(.ptr 4 0 0 1)) rfl AA (by kernel_rfl) (by kernel_rfl) (by kernel_rfl) rfl (E9 (KB KX AA AA pw rfl)) ?_;refine DX 7 (v:=(i64 d)) rfl AA (by kernel_rfl) (by kernel_rfl) (by kernel_rfl) rfl (E9 (Iq AA)) ?_;refine DX 11 (v:=(.ptr 4 0 0 1)) rfl AA (by kernel_rfl) (by kernel_rfl) (by kernel_rfl) rfl (E9 (KB KX AA AA pw rfl)) ?_;refine DX 13 (v:=(i64 d)) rfl AA (by kernel_rfl) (by kernel_rfl) (by kernel_rfl) rfl (E9 (Iq AA)) ?_;refine DX 18 (v:=(.fn 35 [BI])) rfl AA (by kernel_rfl) (by kernel_rfl) (by kernel_rfl) rfl (E9 (Iq AA)) ?_;refine Vg (TI λxm f=>?_);have t:xm 0 (bm 23 8388607) ⟨49,Aa (TW p0 d [(12,i64 (Sh.len b.funcs)),(13,i64 d)]),[Cy qV qZ,G2,⟨0,26,2,[[ow 3 0 b.decls,ow 4 0 (Sh.put l d (Ac.mk a.params a.result g))]]⟩,ro 0 80 3 (BY 82 3) b.decls,ro 0 37 5 (DM 3 35) (Sh.put l d (Ac.mk a.params a.result g))]⟩:=(f _ _ _).2 (by
   refine Rq AA (by kernel_rfl) (M _ (sr AA λb5 O=>zm tb 3 AA (bs C λE D C=>zz (Ud d) (CB Ct AA AA AA AA D) rfl (zq tb AA (AR (Gd (id:=4) (j:=4) (i:=d) (c:=E) (ys:=E.body.kids) (encY:=(BS 35)) rfl D AA AA AA AA AA) (zz (fP E) (As BE AA AA (FG D) pz rfl) rfl (bs C λX P C=>MP (v':=(i64 X)) AI (hb 12) (OE P) rfl (.agg (.val AA (.val AA (.ownD AA AA Al (λx=>MK x) .nil))) .nil) rfl lU AA AA (AR (Wk.take (id:=4) (m:=5) (j:=4) (i:=d) (c:=E) (ys:=E.body.kids) (encY:=(BS 35)) rfl D AA AA AA (by decide) qH Ey AA AA) (AR (G6 (id:=4) (i:=d) (c:=E) rfl D AA AA) (zq tb AA (dn O AA ?_)))))))))));refine ci C AA ?_ ?_<;>clear C<;>intro b6 C
   ·refine sr AA λb7 Q=>zz (.agg [.zc,.zc]) (DC WO WH JV AA AA) rfl (Am AI EM AA AA AA AA AA AA pk rfl (zq tb AA (dn Q AA ?_)));obtain rfl:=Sh.AB C;obtain rfl:=Sh.AB h0;exact Ao (Exists.intro _ (And.intro ((((Jj (id:=1) (st':=[Cy qV qZ,⟨0,26,2,[[.own 6 0 (List.length ([]:List AN)),.zc]]⟩,⟨0,26,2,[[ow 3 0 b.decls,ow 4 0 (Sh.put l d (Ac.mk a.params a.result g))]]⟩,ro 0 80 3 (BY 82 3) b.decls,ro 0 37 5 (DM 3 35) (Sh.put l d (Ac.mk a.params a.result g)),CE,ro 0 80 3 (BY 82 3) ([]:List AN)]) (j:=0) rfl AA 80 (size':=3) (by decide) rfl AA AA AA).trans (Jj (id:=1) (st':=((Cy qV qZ)::⟨0,26,2,[[.own 6 0 (List.length ([]:List AN)),.own 7 0 (List.length ([]:List Ac))]]⟩::⟨0,26,2,[[ow 3 0 b.decls,ow 4 0 (Sh.put l d (Ac.mk a.params a.result g))]]⟩::(ro 0 80 3 (BY 82 3) b.decls)::(ro 0 37 5 (DM 3 35) (Sh.put l d (Ac.mk a.params a.result g)))::CE::jq [])) (j:=1) rfl AA 37 (size':=5) (by decide) rfl AA AA AA)).trans (Bq (L:=[(4,Hd),(5,.bool false)]) (st':=((Cy qV qZ)::jq [⟨0,26,2,[[.own 1 0 (List.length ([]:List AN)),.own 2 0 (List.length ([]:List Ac))]]⟩])) (st1:=((Cy qV qZ)::jq [⟨0,26,2,[[.own 6 0 (List.length ([]:List AN)),.own 7 0 (List.length ([]:List Ac))]]⟩])) [0,6,7,1] AA (.raw AA AA .nil) (by decide) rfl AA (.raw AA AA (.deep (Ah λ_=>AA) (.deep (Ah λ_=>AA) (.raw AA AA .nil)))) (.same AA))).trans (Af (L:=[(4,Hd),(5,.bool false)]) (.same AA))) (As (x:=.tmp 4) (off:=0) (cs:=[.own 1 0 (List.length ([]:List AN)),.own 2 0 (List.length ([]:List Ac))]) (vs:=[.own 1 0 (List.length ([]:List AN)),.own 2 0 (List.length ([]:List Ac))]) EM AA AA AA pk rfl _ ⟨AA,AA⟩)))
   ·refine AL (K _ (AH AA (zm tb 2 AA ?_)));exact AF (xi (Sh.w (d+1),Sh.put l d (Ac.mk a.params a.result g)) C (by exact Bq (L:=[(1,.fn 35 [BI]),(2,.Bn (dW p0) 0),(4,CT),(6,Ls),(12,i64 (Sh.len b.funcs)),(13,KW d)]) (st':=[Cy qV qZ,G2,ro 0 80 3 (BY 82 3) b.decls,ro 0 37 5 (DM 3 35) (Sh.put l d (Ac.mk a.params a.result g)),⟨0,26,2,[[ow 2 0 b.decls,ow 3 0 (Sh.put l d (Ac.mk a.params a.result g))]]⟩]) (st1:=[Cy qV qZ,G2,ro 0 80 3 (BY 82 3) b.decls,ro 0 37 5 (DM 3 35) (Sh.put l d (Ac.mk a.params a.result g)),⟨0,26,2,[[ow 3 0 b.decls,ow 4 0 (Sh.put l d (Ac.mk a.params a.result g))]]⟩]) [0,1,3,4,2] AA (.raw AA AA .nil) (by decide) rfl AA (.raw AA AA (.raw AA AA (.deep (Ah λ_=>AA) (.deep (Ah λ_=>AA) (.raw AA AA .nil))))) (.same AA))))
  have h:xm 1 (bm 23 4194303) ⟨49,Aa (TW p0 d [(12,i64 (Sh.len b.funcs)),(13,i64 d),(35,.agg [i64 g.op,i64 g.num,ow 7 0 g.kids]),(37,.ptr 4 0 (Int.toNat d) 2)]),[Cy qV qZ,G2,⟨0,26,2,[[ow 3 0 b.decls,ow 4 0 l]]⟩,ro 0 80 3 (BY 82 3) b.decls,YJ l d a,ro 0 3 1 eI a.params,CE,DN g]⟩:=(f _ _ _).2 (by
   refine ya [22] ⟨?_,lU⟩
   ·refine yo 22 (dH (x':=[ow 5 0 a.params,i64 a.result,i64 g.op,i64 g.num,ow 7 0 g.kids]) (st':=[Cy qV qZ,G2,⟨0,26,2,[[ow 3 0 b.decls,ow 4 0 l]]⟩,ro 0 80 3 (BY 82 3) b.decls,⟨0,37,5,hole l (DM 3 35) d [ow 5 0 a.params,i64 a.result,i64 g.op,i64 g.num,ow 7 0 g.kids]⟩,ro 0 3 1 eI a.params,CE,DN g]) AI BE AA AA k AA AA AA pz rfl AA (AR (Wk.take (id:=4) (m:=5) (j:=0) (i:=d) (c:=a) (ys:=a.params) (encY:=eI) rfl k AA AA AA (by decide) qH (λ_=>AA) rfl AA) (AR (Wk.take (id:=4) (m:=7) (j:=4) (i:=d) (c:=a) (ys:=g.kids) (encY:=(BS 35)) rfl k AA AA AA (by decide) qP Ey AA AA) (AR (SW (id:=4) (i:=d) (u:=(Ac.mk a.params a.result g)) rfl AA AA) (AF ⟨AA,?_⟩)))));exact Sy (by refine Wk.trans (Af (L:=[(1,.fn 35 [.ptr 0 0 0 0]),(2,.Bn [.sl (List.map Ak p0.decls),.sl (List.map BO p0.funcs)] 0),(4,.ptr 1 0 0 0),(6,.ptr 2 0 0 0),(7,i64 d),(12,i64 (Sh.len b.funcs)),(13,i64 d)]) (.same AA)) ?_;refine Wk.trans (Fc (st:=[⟨0,26,2,[[.sl (List.map Ak qV),.sl (List.map BO qZ)]]⟩,G2,⟨0,26,2,[[.own 3 0 (List.length b.decls),.own 4 0 (List.length l)]]⟩,⟨0,80,3,List.map (BY 82 3) b.decls⟩,⟨0,37,5,List.map (DM 3 35) (Sh.put l d (Ac.mk a.params a.result g))⟩,⟨1,3,1,[]⟩,⟨1,35,3,[]⟩,⟨1,35,3,[]⟩]) (st':=[⟨0,26,2,[[.sl (List.map Ak qV),.sl (List.map BO qZ)]]⟩,G2,⟨0,26,2,[[.own 3 0 (List.length b.decls),.own 4 0 (List.length (Sh.put l d (Ac.mk a.params a.result g)))]]⟩,⟨0,80,3,List.map (BY 82 3) b.decls⟩,⟨0,37,5,List.map (DM 3 35) (Sh.put l d (Ac.mk a.params a.result g))⟩,⟨1,3,1,[]⟩,⟨1,35,3,[]⟩,⟨1,35,3,[]⟩]) (by simp only[Sh.GX])) ?_;exact AS [0,1,2,3,4] AA (by decide) rfl AA (.raw AA AA (.raw AA AA (.raw AA AA (.deep (Ah λ_=>AA) (.deep (Ah λ_=>AA) .nil))))) (.same AA)) (YH (by kernel_rfl) ((f _ _ _).1 t)) rfl)
  have e:xm 4 (bm 23 524287) ⟨49,Aa (TW p0 d ((12,i64 (Sh.len b.funcs))::fw d l [(20,ls Ak p0.decls),(26,dP a),(33,i64 (Sh.len a.params)),(34,.fn 35 [BI])])),[Cy qV qZ,G2,⟨0,26,2,[[ow 3 0 b.decls,ow 4 0 l]]⟩,ro 0 80 3 (BY 82 3) b.decls,YJ l d a,ro 0 3 1 eI a.params,Qg a]⟩:=(f _ _ _).2 (by
   refine ya [19] ⟨?_,lU⟩
   ·refine yo 19 ?_;refine GH (rowsP:=[Qg a,Cy qV qZ]) (rows0:=[Qg a,Cy qV qZ]) (rows1:=[CE,Cy qV qZ]) (rows2:=[DN g]) (rows1':=[CE,Cy qV qZ]) (rows2':=[DN g]) (st':=[Cy qV qZ,G2,⟨0,26,2,[[ow 3 0 b.decls,ow 4 0 l]]⟩,ro 0 80 3 (BY 82 3) b.decls,YJ l d a,ro 0 3 1 eI a.params,CE,DN g]) (v':=(.agg [i64 g.op,i64 g.num,ow 7 0 g.kids])) [6,0] AI (hb 56) (Kf H) rfl (by decide) rfl AA (.deep (Ah Al) (.raw AA AA .nil)) rfl AA (.pure (by intro x Y;cases Y) (.raw AA AA .nil)) (.deep (Ah Al) .nil) rfl AA ?_;refine AF ⟨AA,?_⟩;refine Ib 20 (v:=(Ud d)) rfl (by kernel_rfl) (by kernel_rfl) (MB Ct AA AA AA AA k) ?_;refine IC tb 21 AA (by kernel_rfl) rfl ?_;exact bC f h)
  have q:xm 6 (bm 23 327679) ⟨49,Aa (TW p0 d ((12,i64 (Sh.len b.funcs))::fw d l [(20,ls Ak p0.decls),(26,fP a),(31,Ud d),(34,.fn 35 [BI])])),[Cy qV qZ,G2,⟨0,26,2,[[ow 3 0 b.decls,ow 4 0 l]]⟩,ro 0 80 3 (BY 82 3) b.decls,⟨0,37,5,hole l (DM 3 35) d [.dv 3 1 (List.map eI a.params),i64 a.result,i64 a.body.op,i64 a.body.num,ow 5 0 a.body.kids]⟩,Qg a]⟩:=(f _ _ _).2 (by
   refine ya [16] ⟨?_,lU⟩
   ·refine yo 16 (AR (L9 (id:=4) (j:=0) (i:=d) (ys:=a.params) (encY:=eI) (x':=(eH a)) (st':=[Cy qV qZ,G2,⟨0,26,2,[[ow 3 0 b.decls,ow 4 0 l]]⟩,ro 0 80 3 (BY 82 3) b.decls,⟨0,37,5,hole l (DM 3 35) d (eH a)⟩,Qg a,ro 0 3 1 eI a.params]) rfl k AA AA AA AA) (zz (ow 6 0 a.params) (CA Jo AA AA (FG k) rfl) rfl (AF ⟨AA,(Ib 17 (v:=(i64 (Sh.len a.params))) rfl (by kernel_rfl) (by kernel_rfl) (Cv Fz AA AA AA) ?_)⟩)));exact yw f e (by exact Bq (L:=(TW p0 d ((12,i64 (Sh.len b.funcs))::fw d l [(20,ls Ak p0.decls),(26,dP a),(33,i64 (Sh.len a.params)),(34,.fn 35 [BI])]))) (st':=[Cy qV qZ,G2,⟨0,26,2,[[ow 3 0 b.decls,ow 4 0 l]]⟩,ro 0 80 3 (BY 82 3) b.decls,YJ l d a,ro 0 3 1 eI a.params,Qg a]) (st1:=[Cy qV qZ,G2,⟨0,26,2,[[ow 3 0 b.decls,ow 4 0 l]]⟩,ro 0 80 3 (BY 82 3) b.decls,⟨0,37,5,hole l (DM 3 35) d (eH a)⟩,ro 0 3 1 eI a.params,Qg a]) [0,1,2,3,4,6,5] AA (.raw AA AA .nil) (by decide) rfl AA (.raw AA AA (.raw AA AA (.raw AA AA (.deep (Ah λ_=>AA) (.hol (Ah λ_=>AA) (HO λ_=>AA) rfl AA (.pure (AD λ_=>AA) (.deep (Ah Al) .nil))))))) (.same AA)))
  have o:xm 5 (bm 23 523263) ⟨49,Aa (TW p0 d ((12,i64 (Sh.len b.funcs))::fw d l [(20,ls Ak p0.decls),(25,.ptr 4 0 (Int.toNat d) 2),(33,i64 (Sh.len a.params)),(34,.fn 35 [BI])])),[Cy qV qZ,G2,⟨0,26,2,[[ow 3 0 b.decls,ow 4 0 l]]⟩,ro 0 80 3 (BY 82 3) b.decls,⟨0,37,5,hole l (DM 3 35) d [ow 5 0 a.params,i64 a.result,i64 a.body.op,i64 a.body.num,.dv 35 3 (List.map (BS 35) a.body.kids)]⟩,ro 0 3 1 eI a.params]⟩:=(f _ _ _).2 (by
   refine ya [10] ⟨?_,lU⟩
   ·refine yo 10 ?_;exact AR (L9 (id:=4) (j:=4) (i:=d) (ys:=a.body.kids) (encY:=(BS 35)) (x':=[ow 5 0 a.params,i64 a.result,i64 a.body.op,i64 a.body.num,ow 6 0 a.body.kids]) (st':=[Cy qV qZ,G2,⟨0,26,2,[[ow 3 0 b.decls,ow 4 0 l]]⟩,ro 0 80 3 (BY 82 3) b.decls,YJ l d a,ro 0 3 1 eI a.params,Qg a]) rfl k AA AA AA AA) (zz (dP a) (As BE AA AA (FG k) pz rfl) rfl (yd f e)))
  have z:xm 7 (bm 23 326655) ⟨49,Aa (TW p0 d ((12,i64 (Sh.len b.funcs))::fw d l ((20,ls Ak p0.decls)::js d []))),[Cy qV qZ,G2,⟨0,26,2,[[ow 3 0 b.decls,ow 4 0 l]]⟩,ro 0 80 3 (BY 82 3) b.decls,NF l]⟩:=(f _ _ _).2 (by
   refine ya [10,16] ⟨?_,?_,lU⟩
   ·refine yo 10 ?_;exact AR (Gd (id:=4) (j:=4) (i:=d) (c:=a) (ys:=a.body.kids) (encY:=(BS 35)) rfl k AA AA AA AA AA) (zz (fP a) (As BE AA AA (FG k) pz rfl) rfl (yd f q))
   ·refine yo 16 ?_;refine AR (Gd (id:=4) (j:=0) (i:=d) (c:=a) (ys:=a.params) (encY:=eI) rfl k AA AA AA AA AA) (zz (ow 5 0 a.params) (CA Jo AA AA (FG k) rfl) rfl (AF ⟨AA,?_⟩));refine Ib 17 (v:=(i64 (Sh.len a.params))) rfl (by kernel_rfl) (by kernel_rfl) (Cv Fz AA AA AA) ?_;exact bC f o)
  have p:xm 5 (bm 23 524285) ⟨49,Aa (TW p0 d ((12,i64 (Sh.len b.funcs))::eE d [(20,ls Ak p0.decls),(26,dP a),(33,i64 (Sh.len a.params)),(34,.fn 35 [BI])])),[Cy qV qZ,G2,⟨0,26,2,[[ow 3 0 b.decls,ow 4 0 l]]⟩,ro 0 80 3 (BY 82 3) b.decls,YJ l d a,ro 0 3 1 eI a.params,Qg a]⟩:=(f _ _ _).2 (by
   refine ya [1,19] ⟨?_,?_,lU⟩
   ·exact bU tb f e
   ·refine yo 19 ?_;refine GH (rowsP:=[Qg a,Cy qV qZ]) (rows0:=[Qg a,Cy qV qZ]) (rows1:=[CE,Cy qV qZ]) (rows2:=[DN g]) (rows1':=[CE,Cy qV qZ]) (rows2':=[DN g]) (st':=[Cy qV qZ,G2,⟨0,26,2,[[ow 3 0 b.decls,ow 4 0 l]]⟩,ro 0 80 3 (BY 82 3) b.decls,YJ l d a,ro 0 3 1 eI a.params,CE,DN g]) (v':=(.agg [i64 g.op,i64 g.num,ow 7 0 g.kids])) [6,0] AI (hb 56) (Kf H) rfl (by decide) rfl AA (.deep (Ah Al) (.raw AA AA .nil)) rfl AA (.pure (by intro x Y;cases Y) (.raw AA AA .nil)) (.deep (Ah Al) .nil) rfl AA ?_;refine AF ⟨AA,?_⟩;refine IC tb 1 AA (by kernel_rfl) rfl ?_;refine Ib 20 (v:=(Ud d)) rfl (by kernel_rfl) (by kernel_rfl) (MB Ct AA AA AA AA k) ?_;refine IC tb 21 AA (by kernel_rfl) rfl ?_;exact bC f h)
  have A:xm 7 (bm 23 327677) ⟨49,Aa (TW p0 d ((12,i64 (Sh.len b.funcs))::eE d [(20,ls Ak p0.decls),(26,fP a),(31,Ud d),(34,.fn 35 [BI])])),[Cy qV qZ,G2,⟨0,26,2,[[ow 3 0 b.decls,ow 4 0 l]]⟩,ro 0 80 3 (BY 82 3) b.decls,⟨0,37,5,hole l (DM 3 35) d [.dv 3 1 (List.map eI a.params),i64 a.result,i64 a.body.op,i64 a.body.num,ow 5 0 a.body.kids]⟩,Qg a]⟩:=(f _ _ _).2 (by
   refine ya [1,16] ⟨?_,?_,lU⟩
   ·exact bU tb f q
   ·refine yo 16 (AR (L9 (id:=4) (j:=0) (i:=d) (ys:=a.params) (encY:=eI) (x':=(eH a)) (st':=[Cy qV qZ,G2,⟨0,26,2,[[ow 3 0 b.decls,ow 4 0 l]]⟩,ro 0 80 3 (BY 82 3) b.decls,⟨0,37,5,hole l (DM 3 35) d (eH a)⟩,Qg a,ro 0 3 1 eI a.params]) rfl k AA AA AA AA) (zz (ow 6 0 a.params) (CA Jo AA AA (FG k) rfl) rfl (AF ⟨AA,(Ib 17 (v:=(i64 (Sh.len a.params))) rfl (by kernel_rfl) (by kernel_rfl) (Cv Fz AA AA AA) ?_)⟩)));exact yw f p (by exact Bq (L:=(TW p0 d ((12,i64 (Sh.len b.funcs))::eE d [(20,ls Ak p0.decls),(26,dP a),(33,i64 (Sh.len a.params)),(34,.fn 35 [BI])]))) (st':=[Cy qV qZ,G2,⟨0,26,2,[[ow 3 0 b.decls,ow 4 0 l]]⟩,ro 0 80 3 (BY 82 3) b.decls,YJ l d a,ro 0 3 1 eI a.params,Qg a]) (st1:=[Cy qV qZ,G2,⟨0,26,2,[[ow 3 0 b.decls,ow 4 0 l]]⟩,ro 0 80 3 (BY 82 3) b.decls,⟨0,37,5,hole l (DM 3 35) d (eH a)⟩,ro 0 3 1 eI a.params,Qg a]) [0,1,2,3,4,6,5] AA (.raw AA AA .nil) (by decide) rfl AA (.raw AA AA (.raw AA AA (.raw AA AA (.deep (Ah λ_=>AA) (.hol (Ah λ_=>AA) (HO λ_=>AA) rfl AA (.pure (AD λ_=>AA) (.deep (Ah Al) .nil))))))) (.same AA)))
  have y:xm 6 (bm 23 523261) ⟨49,Aa (TW p0 d ((12,i64 (Sh.len b.funcs))::eE d [(20,ls Ak p0.decls),(25,.ptr 4 0 (Int.toNat d) 2),(33,i64 (Sh.len a.params)),(34,.fn 35 [BI])])),[Cy qV qZ,G2,⟨0,26,2,[[ow 3 0 b.decls,ow 4 0 l]]⟩,ro 0 80 3 (BY 82 3) b.decls,⟨0,37,5,hole l (DM 3 35) d [ow 5 0 a.params,i64 a.result,i64 a.body.op,i64 a.body.num,.dv 35 3 (List.map (BS 35) a.body.kids)]⟩,ro 0 3 1 eI a.params]⟩:=(f _ _ _).2 (by
   refine ya [1,10] ⟨?_,?_,lU⟩
   ·exact bU tb f o
   ·refine yo 10 ?_;exact AR (L9 (id:=4) (j:=4) (i:=d) (ys:=a.body.kids) (encY:=(BS 35)) (x':=[ow 5 0 a.params,i64 a.result,i64 a.body.op,i64 a.body.num,ow 6 0 a.body.kids]) (st':=[Cy qV qZ,G2,⟨0,26,2,[[ow 3 0 b.decls,ow 4 0 l]]⟩,ro 0 80 3 (BY 82 3) b.decls,YJ l d a,ro 0 3 1 eI a.params,Qg a]) rfl k AA AA AA AA) (zz (dP a) (As BE AA AA (FG k) pz rfl) rfl (yd f p)))
  have B:xm 8 (bm 23 326653) ⟨49,Aa (TW p0 d ((12,i64 (Sh.len b.funcs))::eE d ((20,ls Ak p0.decls)::js d []))),[Cy qV qZ,G2,⟨0,26,2,[[ow 3 0 b.decls,ow 4 0 l]]⟩,ro 0 80 3 (BY 82 3) b.decls,NF l]⟩:=(f _ _ _).2 (by
   refine ya [1,10,16] ⟨?_,?_,?_,lU⟩
   ·exact bU tb f z
   ·refine yo 10 ?_;exact AR (Gd (id:=4) (j:=4) (i:=d) (c:=a) (ys:=a.body.kids) (encY:=(BS 35)) rfl k AA AA AA AA AA) (zz (fP a) (As BE AA AA (FG k) pz rfl) rfl (yd f A))
   ·refine yo 16 ?_;refine AR (Gd (id:=4) (j:=0) (i:=d) (c:=a) (ys:=a.params) (encY:=eI) rfl k AA AA AA AA AA) (zz (ow 5 0 a.params) (CA Jo AA AA (FG k) rfl) rfl (AF ⟨AA,?_⟩));refine Ib 17 (v:=(i64 (Sh.len a.params))) rfl (by kernel_rfl) (by kernel_rfl) (Cv Fz AA AA AA) ?_;exact bC f y)
  refine (f _ _ _).2 (IC tb 6 AA (by kernel_rfl) rfl (Ib 8 (v:=(.ptr 3 0 (Int.toNat d) 0)) rfl (by kernel_rfl) (by kernel_rfl) (CB Ct AA AA AA AA k) (IC tb 9 AA (by kernel_rfl) rfl (IC tb 12 AA (by kernel_rfl) rfl (Ib 14 (v:=(.ptr 3 0 (Int.toNat d) 0)) rfl (by kernel_rfl) (by kernel_rfl) (CB Ct AA AA AA AA k) (IC tb 15 AA (by kernel_rfl) rfl ?_))))));exact yw f B (by exact Bq (L:=(TW p0 d ((12,i64 (Sh.len b.funcs))::eE d ((20,ls Ak p0.decls)::js d [])))) (st':=[Cy qV qZ,G2,⟨0,26,2,[[ow 3 0 b.decls,ow 4 0 l]]⟩,ro 0 80 3 (BY 82 3) b.decls,NF l]) (st1:=[Cy qV qZ,G2,⟨0,26,2,[[ow 2 0 b.decls,ow 3 0 l]]⟩,ro 0 80 3 (BY 82 3) b.decls,NF l]) [0,1,4,2,3] AA (.raw AA AA .nil) (by decide) rfl AA (.raw AA AA (.raw AA AA (.raw AA AA (.deep (Ah λ_=>AA) (.deep (Ah λ_=>AA) .nil))))) (.same AA))
 ·exact Az (M9 l (Sh.AB C).symm _ (AJ AA))
theorem XN {N:Nat}{p0:AP}{r:AP×Bool}(h0:JX N p0=some r):Ab Tryz.prog 14 [Hs p0] [] (λv st=>v=(.Dd [.agg (Pp r.1.decls r.1.funcs),.bool r.2])/\st=[]):=by
 unfold JX at h0;refine Ci AA (ai Tryz.func14 AA AA AA AA (sr AA λk c=>Bd (m:=0) AI AA AA AA AA AA (Av (m:=1) AI JV AA AA (zq tb AA (dn c AA (AG λl d=>sr AA λn e=>zq tb AA (bs h0 λi f h0=>zc (hb 22) (Ks f) rfl AA AA (zq tb AA (dn e AA ?_)))))))));refine ci h0 AA ?_ ?_<;>clear h0<;>intro j h0
 ·have o:i=false:=by simpa using j
  refine sr AA λp g=>zz (.agg [.zc,.zc]) (DC WO WH JV AA AA) rfl (Am AI EM AA AA AA AA AA AA pk rfl (zq tb AA (dn g AA ?_)));obtain rfl:=Sh.AB h0;exact Ao (Exists.intro _ (And.intro ((((Gq (id:=1) (cs:=[.zc,.zc]) (cs':=Yp) (st':=[Cy p0.decls p0.funcs,⟨0,26,2,[Yp]⟩]) rfl ⟨le.zc,le.rfl,lU⟩ AA AA).trans (Gq (id:=1) (cs:=Yp) (cs':=RS) (st':=[Cy p0.decls p0.funcs,⟨0,26,2,[RS]⟩]) rfl ⟨le.rfl,le.zc,lU⟩ AA AA)).trans (AS (L:=[(2,BI),(3,.bool false)]) (st':=[⟨0,26,2,[RS]⟩]) [1] AA (by decide) rfl AA (.raw AA AA .nil) ⟨.rfl,.rfl,lU⟩)).trans (Af (L:=[(2,BI),(3,.bool false)]) ⟨.rfl,.rfl,lU⟩)) (As (x:=.tmp 2) (off:=0) (cs:=RS) (vs:=RS) EM AA AA AA pk rfl _ AA)))
 ·have q:i=true:=by simpa using j
  refine AL (d _ (sr AA λs h=>zq tb AA (zz (.fn 35 [BI]) (bW AA) rfl (bs h0 λa b h0=>GH (rowsP:=[Cy p0.decls p0.funcs]) (rows0:=[Cy p0.decls p0.funcs]) (rows1:=[Cy p0.decls p0.funcs]) (rows2:=[Qp a.1.decls,NF a.1.funcs]) (rows1':=[Cy p0.decls p0.funcs]) (rows2':=[Qp a.1.decls,NF a.1.funcs]) (st':=[Cy p0.decls p0.funcs,G2,Qp a.1.decls,NF a.1.funcs]) (v':=(.Dd [.agg [ow 2 0 a.1.decls,ow 3 0 a.1.funcs],.bool a.2])) [0] AI (hb 27) (Po b) rfl (by decide) rfl AA (.raw AA AA .nil) rfl AA (.raw AA AA .nil) (.deep (Ah λ_=>AA) (.deep (Ah λ_=>AA) .nil)) rfl AA (zm tb 2 AA (AR (Rm (L:=[(2,CT),(11,.agg [Cu a.1.decls,ow 3 0 a.1.funcs]),(12,.bool a.2)]) (st':=[Cy p0.decls p0.funcs,G2,Ng,NF a.1.funcs]) (id:=2) rfl qC (Go.Abs.JI (λ_=>AA)) ⟨.rfl,(.agg ⟨(.PE AA (λx=>Yh x)),.rfl,lU⟩),.rfl,lU⟩ AA) (AR (Rm (L:=[(2,CT),(11,.agg (Pp a.1.decls a.1.funcs)),(12,.bool a.2)]) (st':=[Cy p0.decls p0.funcs,G2,Ng,⟨1,37,5,[]⟩]) (id:=3) rfl (show 0<=3 by decide) (Go.Abs.JI (λ_=>AA)) ⟨.rfl,(.agg ⟨.rfl,(.PE AA (λx=>Y6 x)),lU⟩),.rfl,lU⟩ AA) (Am AI EM AA AA AA AA AA AA pk rfl (zq tb AA (dn h AA ?_))))))))));obtain rfl:=Sh.AB h0;exact Ao (Exists.intro _ (And.intro ((AS (L:=[(2,BI),(3,.bool a.2)]) (st':=[Cy a.1.decls a.1.funcs]) [1] AA (by decide) rfl AA (.raw AA AA .nil) ⟨.rfl,.rfl,lU⟩).trans (Af (L:=[(2,BI),(3,.bool a.2)]) ⟨.rfl,.rfl,lU⟩)) (As (x:=.tmp 2) (off:=0) (cs:=(Pp a.1.decls a.1.funcs)) (vs:=(Pp a.1.decls a.1.funcs)) EM AA AA AA pk rfl _ AA)))
theorem NT {N:Nat}{p0:(List AN)}{p1:(List Int)}{r:Bool}(h0:IG N p0 p1=some r):Ab Tryz.prog 94 [Cu p0,ls eI p1] [] (λv st=>v=(.bool r)/\st=[]):=by
 unfold IG at h0;refine ai Tryz.func94 AA AA AA AA (zr tb AA AA (AG λo h=>zr tb AA AA ?_));obtain⟨i,a,h0⟩:=Sh.Bg h0;have p:∀(_:Unit),i=Sum.inr ()->∀s,Wk 0 s ⟨20,Aa [],[]⟩->o s:=by
  intro _ A s q;subst i;refine h _ (AK q (zr tb AA AA ?_));obtain rfl:=Sh.AB h0;exact rt [(4,.bool true)]
 refine AT (Ax (σ:=Int) (λn v=>FC p0 p1 n v=some i) (λj=>⟨20,Aa [(0,ls Ak p0),(1,ls eI p1),(5,i64 j)],[]⟩) N 0 a (AJ AA) (λ_ m=>by rw[FC]at m;cases m) ?_);rintro n j a;rw[FC]at a;refine AG λB k=>sr AA λC l=>zm tb 2 AA (zl tb AA AA (zq tb AA (dn l AA ?_)));refine ci a AA ?_ ?_<;>clear a<;>intro D a
 ·refine AL (k _ (AG λt b=>AT (sr AA λu c=>zm tb 2 AA (bs a λx d a=>zx BM d AA AA AA (zm tb 2 AA (zl tb AA AA (bs a λe f a=>zc (hb 72) (D6 f) rfl AA AA (zq tb AA (dn c AA ?_)))))))));refine ci a AA ?_ ?_<;>clear a<;>intro g a
  ·have y:e=false:=by simpa using g
   refine zr tb AA AA ?_;obtain rfl:=Sh.AB a;obtain rfl:=Sh.AB h0;exact rt [(4,.bool false)]
  ·have z:e=true:=by simpa using g
   exact AL (b _ (AH AA (zm tb 3 AA (AF (xi (Sh.w (j+1)) a (AJ AA))))))
 ·exact Az (p () (Sh.AB a).symm _ (AJ AA))
theorem RM {N:Nat}{p0:(List AN)}{p1:Int}{r:Bool}(h0:Ic N p0 p1=some r):Ab Tryz.prog 127 [Cu p0,i64 p1] [] (λv st=>v=(.bool r)/\st=[]):=by
 unfold Ic at h0;refine ai Tryz.func127 AA AA AA AA (zr tb AA AA (sr AA λK2 Y=>zm tb 2 AA (bs h0 λk Z h0=>zx DI Z AA AA AA (zq tb AA (Av (m:=0) AI Gw AA AA (Am AI Jn AA AA AA AA AA AA pj rfl (dn Y AA (AG λK4 b0=>sr AA λK5 b1=>zm tb 2 AA (zl tb AA AA (zq tb AA (dn b1 AA ?_)))))))))));refine ci h0 AA ?_ ?_<;>clear h0<;>intro b6 h0
 ·refine AG λK7 b2=>AG λK8 b3=>bs h0 λC a h0=>?_;have t:∀(t9:Bool),C=t9->∀s,Wk 0 s ⟨100,Aa [(0,Cu p0),(5,BI),(29,.bool t9)],[V0 k]⟩->K8 s:=by
   intro t9 D s i;subst C;refine b3 _ (AK i ?_);refine ci h0 AA ?_ ?_<;>clear h0<;>intro c6 h0
   ·refine zr tb AA AA ?_;obtain rfl:=Sh.AB h0;exact rd [(4,.bool false)]
   ·refine AL (b2 _ (AG λb4 E=>zr tb AA AA ?_));obtain⟨u,a,h0⟩:=Sh.Bg h0;have b5:∀(_:Unit),u=Sum.inr ()->∀s,Wk 0 s ⟨100,Aa [],[]⟩->b4 s:=by
     intro _ D s i;subst u;refine E _ (AK i (zr tb AA AA ?_));obtain rfl:=Sh.AB h0;exact rt [(4,.bool true)]
    refine AT (Ax (σ:=Int) (λn v=>Ew N k p0 n v=some u) (λl=>⟨100,Aa [(0,ls Ak p0),(5,.ptr 0 0 0 0),(6,i64 l)],[⟨0,80,3,[Ak k]⟩]⟩) N 0 a (AJ AA) (λ_ F=>by rw[Ew]at F;cases F) ?_);rintro n l a;rw[Ew]at a;refine AG λc7 G=>sr AA λc8 H=>zm tb 3 AA (zl tb AA AA (zq tb AA (dn H AA ?_)));refine ci a AA ?_ ?_<;>clear a<;>intro c9 a
    ·refine AL (G _ (AG λd1 I=>AT (AG λb7 J=>bs a λK c a=>?_)));have L:∀(x:Bool),K=x->∀s,Wk 0 s ⟨100,Aa [(0,Cu p0),(5,BI),(6,i64 l),(55,.bool x)],[V0 k]⟩->b7 s:=by
      intro x D s i;subst K;refine J _ (AK i ?_);refine ci a AA ?_ ?_<;>clear a<;>intro d2 a
      ·refine zr tb AA AA ?_;obtain rfl:=Sh.AB a;obtain rfl:=Sh.AB h0;exact rd [(4,.bool false)]
      ·exact AL (I _ (AH AA (zm tb 3 AA (AF (xi (Sh.w (l+1)) a (AJ AA))))))
     refine AH AA (zm tb 3 AA (bs c λb8 q c=>zx I7 q AA AA AA (zm tb 2 AA (zl tb AA AA (zm tb 2 AA ?_)))));rcases Sh.Aj c with ⟨b,c⟩|⟨b,c⟩
     ·refine zs b AA ?_;iterate 8 refine zs b rfl ?_
      exact zt b AA (AF (L true (Sh.AB c).symm _ (AJ AA)))
     ·refine zg tb b AA ?_;iterate 3 refine zg tb b rfl ?_
      exact Ba (v:=(.Bn (CD b8) 0)) (CS AA AA b) rfl (Ch I7 AA AA q AA) (zg tb b AA (zg tb b AA (bs c λb9 M c=>zd b (hb 94) (NT M) rfl AA AA AA (zg tb b AA (zf b AA (AF (L (!b9) (Sh.AB c).symm _ (AJ AA))))))))
    ·exact Az (b5 () (Sh.AB a).symm _ (Bt _ AA))
  refine AH AA (zm tb 2 AA (zl tb AA AA (zm tb 2 AA ?_)));rcases Sh.Aj a with ⟨e,a⟩|⟨e,a⟩
  ·refine zs e AA (zs e AA (zs e AA (zt e AA (zq tb AA ?_))));iterate 3 refine zs rfl rfl ?_
   exact zt AA AA (AF (t true (Sh.AB a).symm _ (AJ AA)))
  ·refine zg tb e AA (zg tb e AA (zg tb e AA (zf e AA (zq tb AA ?_))));rcases Sh.Aj a with ⟨f,a⟩|⟨f,a⟩
   ·exact zs f AA (zs f AA (zs f AA (zt f AA (AF (t true (Sh.AB a).symm _ (AJ AA))))))
   ·exact zg tb f AA (zg tb f AA (zg tb f AA (zf f AA (AF (t (!decide (k.to=0)) (Sh.AB a).symm _ (AJ AA))))))
 ·refine AL (b0 _ (AG λc0 O=>zr tb AA AA ?_));obtain⟨y,a,h0⟩:=Sh.Bg h0;have c1:∀(_:Unit),y=Sum.inr ()->∀s,Wk 0 s ⟨100,Aa [(0,Cu p0),(5,BI)],[V0 k]⟩->c0 s:=by
   intro _ D s i;subst y;refine O _ (AK i (AG λc2 P=>bs h0 λQ a h0=>?_));have R:∀(o:Bool),Q=o->∀s,Wk 0 s ⟨100,Aa [(4,.bool o)],[]⟩->c2 s:=by
    intro o D s i;subst Q;refine P _ (AK i ?_);obtain rfl:=Sh.AB h0;exact rt [(4,.bool o)]
   refine AH AA (zm tb 3 AA (zl tb AA AA (bs a λd3 S a=>zc (hb 72) (D6 S) rfl AA AA (zq tb AA ?_))));rcases Sh.Aj a with ⟨d,a⟩|⟨d,a⟩
   ·exact zg tb d AA (zg tb d AA (zg tb d AA (Ba (v:=(HB p0)) (CS AA AA d) rfl (Cd SK AA) (bs a λc4 T a=>zd d (hb 72) (D6 T) rfl AA AA AA (zt d AA (zq tb AA (AF (R c4 (Sh.AB a).symm _ (Bt _ AA)))))))))
   ·refine zs d AA ?_;iterate 4 refine zs d rfl ?_
    exact zf d AA (zq tb AA (AF (R false (Sh.AB a).symm _ (Bt _ AA))))
  refine AT (Ax (σ:=Int) (λn v=>Eu k p0 p1 n v=some y) (λp=>⟨100,Aa [(0,ls Ak p0),(1,i64 p1),(5,.ptr 0 0 0 0),(7,i64 p)],[⟨0,80,3,[Ak k]⟩]⟩) N 0 a (AJ AA) (λ_ F=>by rw[Eu]at F;cases F) ?_);rintro n p a;rw[Eu]at a;refine AG λd4 U=>zr tb AA AA ?_;refine ci a AA ?_ ?_<;>clear a<;>intro d5 a
  ·refine AL (U _ (AG λd6 V=>AT (AG λc5 W=>bs a λX c a=>?_)));have z:∀(A:Bool),X=A->∀s,Wk 0 s ⟨100,Aa [(0,Cu p0),(1,i64 p1),(5,BI),(7,i64 p),(87,.bool A)],[V0 k]⟩->c5 s:=by
    intro A D s i;subst X;refine W _ (AK i ?_);refine ci a AA ?_ ?_<;>clear a<;>intro d7 a
    ·refine zr tb AA AA ?_;obtain rfl:=Sh.AB a;obtain rfl:=Sh.AB h0;exact rd [(4,.bool false)]
    ·exact AL (V _ (AH AA (zm tb 3 AA (AF (xi (Sh.w (p+1)) a (AJ AA))))))
   refine Ce (by kernel_rfl) (by kernel_rfl) (by rfl) ?_;iterate 2 refine yq tb rfl ?_
   refine bs c λB j c=>yx DI j AA AA AA ?_;iterate 2 refine yq tb rfl ?_
   refine yl tb AA AA ?_;iterate 2 refine yq tb rfl ?_
   rcases Sh.Aj c with ⟨g,c⟩|⟨g,c⟩
   ·refine yg tb g AA (yg tb g AA (IN (v:=(.Bn (Ak B) 0)) (CS AA AA g) rfl (Ch DI AA AA j AA) ?_));iterate 5 refine yg tb g rfl ?_
    refine yt g AA (yq tb AA ?_);rcases Sh.Aj c with ⟨h,c⟩|⟨h,c⟩
    ·refine yg tb h AA (yg tb h AA (IN (v:=(.Bn (Ak B) 0)) (CS AA AA h) rfl (Ch DI AA AA j AA) ?_));iterate 5 refine yg tb h rfl ?_
     exact yt h AA (Aw (z (decide (B.to=k.to)) (Sh.AB c).symm _ (AJ AA)))
    ·refine ys h AA ?_;iterate 7 refine ys h rfl ?_
     exact yf h AA (Aw (z false (Sh.AB c).symm _ (AJ AA)))
   ·refine ys g AA ?_;iterate 7 refine ys g rfl ?_
    refine yf g AA (yq tb AA ?_);iterate 8 refine ys rfl rfl ?_
    exact yf AA AA (Aw (z false (Sh.AB c).symm _ (AJ AA)))
  ·exact Az (c1 () (Sh.AB a).symm _ (AJ AA))
theorem Qt {N:Nat}{p0:(List AN)}{r:Bool}(h0:H8 N p0=some r):Ab Tryz.prog 93 [Cu p0] [] (λv st=>v=(.bool r)/\st=[]):=by
 unfold H8 at h0;refine ai Tryz.func93 AA AA AA AA (zr tb AA AA (AG λD i=>sr AA λE j=>zq tb AA (zl tb AA AA (zq tb AA (dn j AA ?_)))));refine ci h0 AA ?_ ?_<;>clear h0<;>intro F h0
 ·refine zr tb AA AA ?_;obtain rfl:=Sh.AB h0;exact rt [(2,.bool false)]
 ·refine AL (i _ (AG λp k=>zr tb AA AA ?_));obtain⟨l,a,h0⟩:=Sh.Bg h0;have q:∀(_:Unit),l=Sum.inr ()->∀s,Wk 0 s ⟨17,Aa [],[]⟩->p s:=by
   intro _ G s t;subst l;refine k _ (AK t (zr tb AA AA ?_));obtain rfl:=Sh.AB h0;exact rt [(2,.bool true)]
  refine AT (Ax (σ:=Int) (λn v=>EW N p0 n v=some l) (λm=>⟨17,Aa [(0,ls Ak p0),(3,i64 m)],[]⟩) N 0 a (AJ AA) (λ_ o=>by rw[EW]at o;cases o) ?_);rintro n m a;rw[EW]at a;refine AG λu b=>sr AA λx c=>zm tb 2 AA (zl tb AA AA (zq tb AA (dn c AA ?_)));refine ci a AA ?_ ?_<;>clear a<;>intro y a
  ·refine AL (b _ (AG λz d=>AT (sr AA λA e=>zm tb 2 AA (bs a λf g a=>zc (hb 127) (RM g) rfl AA AA (zq tb AA (dn e AA ?_))))));refine ci a AA ?_ ?_<;>clear a<;>intro h a
   ·have B:f=false:=by simpa using h
    refine zr tb AA AA ?_;obtain rfl:=Sh.AB a;obtain rfl:=Sh.AB h0;exact rt [(2,.bool false)]
   ·have C:f=true:=by simpa using h
    exact AL (d _ (AH AA (zm tb 3 AA (AF (xi (Sh.w (m+1)) a (AJ AA))))))
  ·exact Az (q () (Sh.AB a).symm _ (AJ AA))
theorem Re {N:Nat}{p0:AP}{r:Bool}(h0:HJ N p0=some r):Ab Tryz.prog 57 [Hs p0] [] (λv st=>v=(.bool r)/\st=[]):=by
 unfold HJ at h0;refine ai Tryz.func57 AA AA AA AA (sr AA λK1 I=>Bd (m:=0) AI AA AA AA AA AA (zq tb AA (dn I AA (AG λK2 J=>AG λX K=>bs h0 λU a h0=>?_))));have V:∀(L:Bool),U=L->∀s,Wk 0 s ⟨64,Aa [(1,BI),(15,.bool L)],[Cy p0.decls p0.funcs]⟩->X s:=by
  intro L M s j;subst U;refine K _ (AK j ?_);refine ci h0 AA ?_ ?_<;>clear h0<;>intro b6 h0
  ·refine zr tb AA AA ?_;obtain rfl:=Sh.AB h0;exact rd [(2,.bool false)]
  ·refine AL (J _ (AG λY O=>zr tb AA AA ?_));obtain⟨k,a,h0⟩:=Sh.Bg h0;have P:∀(_:Unit),k=Sum.inr ()->∀s,Wk 0 s ⟨64,Aa [(1,BI)],[Cy p0.decls p0.funcs]⟩->Y s:=by
    intro _ M s j;subst k;refine O _ (AK j (AG λQ p=>bs h0 λq a h0=>?_));have t:∀(g:Bool),q=g->∀s,Wk 0 s ⟨64,Aa [(2,.bool g)],[]⟩->Q s:=by
     intro g M s j;subst q;refine p _ (AK j ?_);obtain rfl:=Sh.AB h0;exact rt [(2,.bool g)]
    refine AH AA (zm tb 2 AA (bs a λu i a=>zx Ct i AA AA AA (zm tb 2 AA (zl tb AA AA (zm tb 2 AA ?_)))));rcases Sh.Aj a with ⟨d,a⟩|⟨d,a⟩
    ·refine zg tb d AA (zg tb d AA (Ba (v:=(.Bn (BO u) 0)) (CS AA AA d) rfl (Ch Ct AA AA i AA) ?_));iterate 3 refine zg tb d rfl ?_
     exact zt d AA (zq tb AA (AF (t (decide (u.result=0)) (Sh.AB a).symm _ (Bt _ AA))))
    ·refine zs d AA ?_;iterate 5 refine zs d rfl ?_
     exact zf d AA (zq tb AA (AF (t false (Sh.AB a).symm _ (Bt _ AA))))
   refine AT (Ax (σ:=Int) (λn v=>EG N p0 n v=some k) (λh=>⟨64,Aa [(1,.ptr 0 0 0 0),(3,i64 h)],[Cy p0.decls p0.funcs]⟩) N 0 a (AJ AA) (λ_ W=>by rw[EG]at W;cases W) ?_);rintro n h a;rw[EG]at a;refine AG λZ x=>sr AA λb0 y=>zm tb 3 AA (zl tb AA AA (zq tb AA (dn y AA ?_)));refine ci a AA ?_ ?_<;>clear a<;>intro b1 a
   ·refine AL (x _ (AG λb2 z=>AT (sr AA λb3 A=>zm tb 3 AA (bs a λb4 B a=>zx Ct B AA AA AA (zq tb AA (Av (m:=1) AI L4 AA AA (Am AI LV AA AA AA AA AA AA pq rfl (dn A AA (AG λR C=>bs a λD f a=>?_)))))))));have l:∀(o:Bool),D=o->∀s,Wk 0 s ⟨64,Aa [(1,BI),(3,i64 h),(48,.bool o)],[Cy p0.decls p0.funcs]⟩->R s:=by
     intro o M s j;subst D;refine C _ (AK j ?_);refine ci a AA ?_ ?_<;>clear a<;>intro b5 a
     ·refine zr tb AA AA ?_;obtain rfl:=Sh.AB a;obtain rfl:=Sh.AB h0;exact rd [(2,.bool false)]
     ·exact AL (z _ (AH AA (zm tb 3 AA (AF (xi (Sh.w (h+1)) a (AJ AA))))))
    refine AH AA (zm tb 2 AA (zl tb AA AA (zm tb 2 AA ?_)));rcases Sh.Aj f with ⟨e,f⟩|⟨e,f⟩
    ·refine zs e AA ?_;iterate 5 refine zs e rfl ?_
     refine zt e AA (zq tb AA ?_);iterate 7 refine zs rfl rfl ?_
     exact zt AA AA (AF (l true (Sh.AB f).symm _ (AS [0] AA (by decide) rfl AA (.raw AA AA .nil) (.same AA))))
    ·refine zg tb e AA ?_;iterate 3 refine zg tb e rfl ?_
     refine bs f λb7 E f=>zd e (hb 94) (NT E) rfl AA AA AA (zg tb e AA (zf e AA (zq tb AA ?_)));rcases Sh.Aj f with ⟨b,f⟩|⟨b,f⟩
     ·refine zs b AA ?_;iterate 6 refine zs b rfl ?_
      exact zt b AA (AF (l true (Sh.AB f).symm _ (AS [0] AA (by decide) rfl AA (.raw AA AA .nil) (.same AA))))
     ·refine zg tb b AA ?_;iterate 3 refine zg tb b rfl ?_
      exact Ba (v:=(i64 (Sh.len p0.decls))) (CS AA AA b) rfl (Cd SK AA) (bs f λS F f=>zd b (hb 72) (D6 F) rfl AA AA AA (zg tb b AA (zf b AA (AF (l (!S) (Sh.AB f).symm _ (AS [0] AA (by decide) rfl AA (.raw AA AA .nil) (.same AA)))))))
   ·exact Az (P () (Sh.AB a).symm _ (AJ AA))
 refine AH AA (zm tb 2 AA (bs a λb8 G a=>zc (hb 93) (Qt G) rfl AA AA (zm tb 2 AA ?_)));rcases Sh.Aj a with ⟨c,a⟩|⟨c,a⟩
 ·refine zs c AA ?_;iterate 4 refine zs c rfl ?_
  exact zt c AA (AF (V true (Sh.AB a).symm _ (AJ AA)))
 ·exact zg tb c AA (zg tb c AA (Ba (v:=(i64 (Sh.len p0.funcs))) (CS AA AA c) rfl (Cd Rz AA) (bs a λT H a=>zd c (hb 72) (D6 H) rfl AA AA AA (zg tb c AA (zf c AA (AF (V (!T) (Sh.AB a).symm _ (AJ AA))))))))
theorem N2 {N:Nat}{qY:AP->(List Int)->AE->Option (Int)}(qd :∀{p0:AP} {p1:(List Int)} {p2:AE} {r:Int},qY p0 p1 p2=some r->Ab Tryz.prog 59 [Hs p0,ls eI p1,Bc p2] [] (λv st=>v=(i64 r)/\st=[])){p0:AP}{p1:(List Int)}{p2:(List AE)}{p3:Int}{r:Bool}(h0:Iy N qY p0 p1 p2 p3=some r):Ab Tryz.prog 96 [Hs p0,ls eI p1,Gc p2,i64 p3] [] (λv st=>v=(.bool r)/\st=[]):=by
 unfold Iy at h0;refine ai Tryz.func96 AA AA AA AA (sr AA λG k=>Bd (m:=0) AI AA AA AA AA AA (zq tb AA (dn k AA (AG λH l=>sr AA λI o=>zq tb AA (zl tb AA AA (zm tb 2 AA (dn o AA ?_)))))));refine ci h0 AA ?_ ?_<;>clear h0<;>intro u h0
 ·have J:decide ((Sh.len p2)=p3)=false:=by simpa using u
  refine zr tb AA AA ?_;obtain rfl:=Sh.AB h0;exact rd [(8,.bool false)]
 ·have K:decide ((Sh.len p2)=p3)=true:=by simpa using u
  refine AL (l _ (AG λy p=>zr tb AA AA ?_));obtain⟨b,a,h0⟩:=Sh.Bg h0;have q:∀(_:Unit),b=Sum.inr ()->∀s,Wk 0 s ⟨27,Aa [],[]⟩->y s:=by
   intro _ L s z;subst b;refine p _ (AK z (zr tb AA AA ?_));obtain rfl:=Sh.AB h0;exact rt [(8,.bool true)]
  refine AT (Ax (σ:=Int) (λn v=>Fj p0 p1 p2 p3 qY n v=some b) (λc=>⟨27,Aa [(1,ls eI p1),(2,ls Ar p2),(3,i64 p3),(4,.ptr 0 0 0 0),(9,i64 c)],[Cy p0.decls p0.funcs]⟩) N 0 a (AJ AA) (λ_ x=>by rw[Fj]at x;cases x) ?_);rintro n c a;rw[Fj]at a;refine AG λA e=>zr tb AA AA ?_;refine ci a AA ?_ ?_<;>clear a<;>intro B a
  ·refine AL (e _ (AG λC f=>AT (AG λD g=>Ce (by kernel_rfl) (by kernel_rfl) (by rfl) ?_)));iterate 4 refine yq tb rfl ?_
   refine bs a λt h a=>yz (Dc t) (By BU AA AA h (Ai _) rfl) rfl (yq tb AA (bs a λd i a=>BV (v:=(i64 d)) AI (hb 59) (qd i) rfl AA AA (yq tb AA (Aw (g _ ?_)))));refine ci a AA ?_ ?_<;>clear a<;>intro j a
   ·have E:decide (d=0)=false:=by simpa using j
    refine zr tb AA AA ?_;obtain rfl:=Sh.AB a;obtain rfl:=Sh.AB h0;exact rd [(8,.bool false)]
   ·have F:decide (d=0)=true:=by simpa using j
    exact AL (f _ (AH AA (zm tb 3 AA (AF (xi (Sh.w (c+1)) a (AJ AA))))))
  ·exact Az (q () (Sh.AB a).symm _ (Bt _ AA))
theorem MX {N:Nat}{qY:AP->(List Int)->AE->Option (Int)}(qd :∀{p0:AP} {p1:(List Int)} {p2:AE} {r:Int},qY p0 p1 p2=some r->Ab Tryz.prog 59 [Hs p0,ls eI p1,Bc p2] [] (λv st=>v=(i64 r)/\st=[])){p0:AP}{p1:(List Int)}{p2:(List AE)}{p3:(List Int)}{r:Bool}(h0:JN N qY p0 p1 p2 p3=some r):Ab Tryz.prog 98 [Hs p0,ls eI p1,Gc p2,ls eI p3] [] (λv st=>v=(.bool r)/\st=[]):=by
 unfold JN at h0;refine ai Tryz.func98 AA AA AA AA (sr AA λK p=>Bd (m:=0) AI AA AA AA AA AA (zq tb AA (dn p AA (AG λL q=>sr AA λM t=>zq tb AA (zl tb AA AA (zq tb AA (zl tb AA AA (zq tb AA (dn t AA ?_)))))))));refine ci h0 AA ?_ ?_<;>clear h0<;>intro z h0
 ·have O:decide ((Sh.len p2)=(Sh.len p3))=false:=by simpa using z
  refine zr tb AA AA ?_;obtain rfl:=Sh.AB h0;exact rd [(8,.bool false)]
 ·have P:decide ((Sh.len p2)=(Sh.len p3))=true:=by simpa using z
  refine AL (q _ (AG λB u=>zr tb AA AA ?_));obtain⟨b,a,h0⟩:=Sh.Bg h0;have x:∀(_:Unit),b=Sum.inr ()->∀s,Wk 0 s ⟨33,Aa [],[]⟩->B s:=by
   intro _ Q s C;subst b;refine u _ (AK C (zr tb AA AA ?_));obtain rfl:=Sh.AB h0;exact rt [(8,.bool true)]
  refine AT (Ax (σ:=Int) (λn v=>GZ p0 p1 p2 p3 qY n v=some b) (λc=>⟨33,Aa [(1,ls eI p1),(2,ls Ar p2),(3,ls eI p3),(4,.ptr 0 0 0 0),(9,i64 c)],[Cy p0.decls p0.funcs]⟩) N 0 a (AJ AA) (λ_ A=>by rw[GZ]at A;cases A) ?_);rintro n c a;rw[GZ]at a;refine AG λD e=>sr AA λE f=>zm tb 2 AA (zl tb AA AA (zq tb AA (dn f AA ?_)));refine ci a AA ?_ ?_<;>clear a<;>intro F a
  ·refine AL (e _ (AG λG g=>AT (AG λH h=>Ce (by kernel_rfl) (by kernel_rfl) (by rfl) ?_)));iterate 4 refine yq tb rfl ?_
   refine bs a λy i a=>yz (Dc y) (By BU AA AA i (Ai _) rfl) rfl (yq tb AA (bs a λd j a=>BV (v:=(i64 d)) AI (hb 59) (qd j) rfl AA AA ?_));iterate 2 refine yq tb rfl ?_
   refine bs a λk l a=>yx BM l AA AA AA ?_;iterate 2 refine yq tb rfl ?_
   refine Aw (h _ ?_);refine ci a AA ?_ ?_<;>clear a<;>intro o a
   ·have I:decide (d=k)=false:=by simpa using o
    refine zr tb AA AA ?_;obtain rfl:=Sh.AB a;obtain rfl:=Sh.AB h0;exact rd [(8,.bool false)]
   ·have J:decide (d=k)=true:=by simpa using o
    exact AL (g _ (AH AA (zm tb 3 AA (AF (xi (Sh.w (c+1)) a (AJ AA))))))
  ·exact Az (x () (Sh.AB a).symm _ (Bt _ AA))
theorem RZ {N:Nat}{qY:AP->(List Int)->AE->Option (Int)}(qd :∀{p0:AP} {p1:(List Int)} {p2:AE} {r:Int},qY p0 p1 p2=some r->Ab Tryz.prog 59 [Hs p0,ls eI p1,Bc p2] [] (λv st=>v=(i64 r)/\st=[])){p0:AP}{p1:(List Int)}{p2:AE}{r:Int}(h0:J4 N qY p0 p1 p2=some r):Ab Tryz.prog 100 [Hs p0,ls eI p1,Bc p2] [] (λv st=>v=(i64 r)/\st=[]):=by
 unfold J4 at h0;refine ai Tryz.func100 AA AA AA AA (sr AA λK1 K=>Bd (m:=0) AI AA AA AA AA AA (Bd (m:=1) AI AA AA AA AA AA (zq tb AA (dn K AA (sr AA λK2 M=>zm tb 4 AA (bs h0 λe O h0=>CH (v':=(ow 2 0 e)) AI (hb 104) (Ia O) rfl AA ⟨(CL λ_=>AA),lU⟩ AA AA (zq tb AA (dn M AA (AG λK4 P=>AG λK5 Q=>bs h0 λo7 a h0=>?_)))))))));have R:∀(S:Bool),o7=S->∀s,Wk 0 s ⟨79,Aa [(1,ls eI p1),(3,BI),(5,CT),(7,ow 2 0 e),(38,.bool S)],[Cy p0.decls p0.funcs,N0 p2.op p2.num p2.kids,Bm e]⟩->K5 s:=by
  intro S hq s T;subst o7;refine Q _ (AK T ?_);refine ci h0 AA ?_ ?_<;>clear h0<;>intro b8 h0
  ·refine zr tb AA AA ?_;obtain rfl:=Sh.AB h0;exact rd [(6,i64 (-1))]
  ·refine AL (P _ (AG λb3 k=>Br 14 (by kernel_rfl) (by kernel_rfl) (by rfl) ?_));iterate 5 refine yq tb rfl ?_
   refine bs h0 λU g h0=>yz (.ptr 2 0 (Int.toNat 0) 0) (CB BM AA AA AA AA g) rfl (yz (i64 U) (CA HV AA AA (CW g) rfl) rfl (bs h0 λV l h0=>BV (v:=(ls eI V)) AI (hb 99) (Ex l) rfl AA AA (bs h0 λo p h0=>?_)));refine BV (v:=(ls eI o)) AI (hb 85) (Ab.wk (FV p) (by refine Wk.trans (Wk.BL (L:=[(0,ls eI o)]) (st':=Rk) (id:=0) rfl pn (AD λ_=>AA) ⟨.BL AA,lU⟩ AA) ?_;exact AS [] AA (by decide) rfl AA .nil (.same AA))) rfl AA AA ?_;iterate 2 refine yq tb rfl ?_
   refine bs h0 λW q h0=>yz (Dc W) (By BU AA AA q (Ai _) rfl) rfl (yq tb AA (bs h0 λd t h0=>BV (v:=(i64 d)) AI (hb 59) (qd t) rfl AA AA (Aw (zq tb AA (dn k AA (AG λX u=>zr tb AA AA ?_))))));obtain⟨i,a,h0⟩:=Sh.Bg h0;have Y:∀(_:Unit),i=Sum.inr ()->∀s,Wk 0 s ⟨79,Aa [(8,i64 d)],[]⟩->X s:=by
    intro _ hq s T;subst i;refine u _ (AK T (zr tb AA AA ?_));obtain rfl:=Sh.AB h0;exact rt [(6,i64 d)]
   refine AT (Ax (σ:=Int) (λn v=>EJ N p0 p1 p2 d e qY n v=some i) (λf=>⟨79,Aa [(1,ls eI p1),(3,.ptr 0 0 0 0),(5,.ptr 1 0 0 0),(7,ow 2 0 e),(8,i64 d),(9,i64 f)],[Cy p0.decls p0.funcs,N0 p2.op p2.num p2.kids,ro 0 3 1 eI e]⟩) N 1 a (AJ AA) (λ_ hv=>by rw[EJ]at hv;cases hv) ?_);rintro n f a;rw[EJ]at a;refine AG λb4 x=>sr AA λb5 y=>zm tb 2 AA (zz (HB e) (Cv Fz AA AA AA) rfl (zq tb AA (dn y AA ?_)));refine ci a AA ?_ ?_<;>clear a<;>intro b6 a
   ·refine AL (x _ (AG λb7 z=>AT (AG λb9 A=>Br 18 (by kernel_rfl) (by kernel_rfl) (by rfl) ?_)));iterate 6 refine yq tb rfl ?_
    refine bs a λZ h a=>yz (.ptr 2 0 (Int.toNat f) 0) (CB BM AA AA AA AA h) rfl (yz (i64 Z) (CA HV AA AA (CW h) rfl) rfl (bs a λb0 B a=>BV (v:=(ls eI b0)) AI (hb 99) (Ex B) rfl AA AA (bs a λC D a=>?_)));refine BV (v:=(ls eI C)) AI (hb 85) (Ab.wk (FV D) (by refine Wk.trans (Wk.BL (L:=[(0,ls eI C)]) (st':=Rk) (id:=0) rfl pn (AD λ_=>AA) ⟨.BL AA,lU⟩ AA) ?_;exact AS [] AA (by decide) rfl AA .nil (.same AA))) rfl AA AA ?_;iterate 4 refine yq tb rfl ?_
    refine bs a λb1 E a=>yz (Dc b1) (By BU AA AA E (Ai _) rfl) rfl (yq tb AA (bs a λj F a=>BV (v:=(i64 j)) AI (hb 59) (qd F) rfl AA AA (yq tb AA (Aw (zq tb AA (dn A AA ?_))))));refine ci a AA ?_ ?_<;>clear a<;>intro G a
    ·have c0:decide (j=d)=false:=by simpa using G
     refine zr tb AA AA ?_;obtain rfl:=Sh.AB a;obtain rfl:=Sh.AB h0;exact rd [(6,i64 (-1))]
    ·have c1:decide (j=d)=true:=by simpa using G
     exact AL (z _ (AH AA (zm tb 3 AA (AF (xi (Sh.w (f+1)) a (AJ AA))))))
   ·exact Az (Y () (Sh.AB a).symm _ (Bt _ AA))
 refine Ce (by kernel_rfl) (by kernel_rfl) (by rfl) (yq tb AA (yz (HB e) (Cv Fz AA AA AA) rfl ?_));iterate 2 refine yq tb rfl ?_
 rcases Sh.Aj a with ⟨b,a⟩|⟨b,a⟩
 ·refine ys b AA ?_;iterate 6 refine ys b rfl ?_
  refine yt b AA (yq tb AA ?_);iterate 10 refine ys rfl rfl ?_
  exact yt AA AA (Aw (R true (Sh.AB a).symm _ (AJ AA)))
 ·refine yg tb b AA (yg tb b AA (IN (v:=(ZF p2)) (CS AA AA b) rfl (Cd R9 AA) (yg tb b AA (IN (v:=(HB e)) (CS AA AA b) rfl (Cv Fz AA AA AA) ?_))));iterate 2 refine yg tb b rfl ?_
  refine yf b AA (yq tb AA ?_);rcases Sh.Aj a with ⟨c,a⟩|⟨c,a⟩
  ·refine ys c AA ?_;iterate 9 refine ys c rfl ?_
   exact yt c AA (Aw (R true (Sh.AB a).symm _ (AJ AA)))
  ·refine yg tb c AA ?_;iterate 3 refine yg tb c rfl ?_
   refine bs a λb2 H a=>IN (v:=(Dc b2)) (CS AA AA c) rfl (By BU AA AA H (Ai _) rfl) (yg tb c AA (bs a λI J a=>BV (v:=(i64 I)) (CS AA AA c) (hb 59) (qd J) rfl AA AA ?_));iterate 3 refine yg tb c rfl ?_
   exact yf c AA (Aw (R (!decide (I=p2.num)) (Sh.AB a).symm _ (AJ AA)))
theorem Sm {N:Nat}{qY:AP->(List Int)->AE->Option (Int)}(qd :∀{p0:AP} {p1:(List Int)} {p2:AE} {r:Int},qY p0 p1 p2=some r->Ab Tryz.prog 59 [Hs p0,ls eI p1,Bc p2] [] (λv st=>v=(i64 r)/\st=[])){p0:AP}{p1:(List Int)}{p2:AE}{r:Int}(h0:Fq N qY p0 p1 p2=some r):Ab Tryz.prog 101 [Hs p0,ls eI p1,Bc p2] [] (λv st=>v=(i64 r)/\st=[]):=by
 unfold Fq at h0;refine ai Tryz.func101 AA AA AA AA (sr AA λK1 E=>Bd (m:=0) AI AA AA AA AA AA (Bd (m:=1) AI AA AA AA AA AA (zq tb AA (dn E AA (AG λK2 F=>sr AA λK3 G=>zm tb 4 AA (zl tb AA AA (zq tb AA (bs h0 λK H h0=>zc (hb 72) (D6 H) rfl AA AA (zq tb AA (dn G AA ?_))))))))));refine ci h0 AA ?_ ?_<;>clear h0<;>intro L h0
 ·have b6:K=false:=by simpa using L
  refine zr tb AA AA ?_;obtain rfl:=Sh.AB h0;exact rd [(6,i64 (-1))]
 ·have b8:K=true:=by simpa using L
  refine AL (F _ (sr AA λK9 I=>zm tb 4 AA (bs h0 λb e h0=>zx Ct e AA AA AA (zq tb AA (Av (m:=2) AI L4 AA AA (Am AI LV AA AA AA AA AA AA pq rfl (dn I AA (sr AA λM f=>zm tb 2 AA (zl tb AA AA (zq tb AA (dn f AA (AG λO g=>zr tb AA AA ?_))))))))))));refine ci h0 AA ?_ ?_<;>clear h0<;>intro P h0
  ·refine AG λQ h=>sr AA λR k=>zm tb 6 AA (bs h0 λl n h0=>zc (hb 98) (MX qd n) rfl AA AA (zq tb AA (dn k AA ?_)));refine ci h0 AA ?_ ?_<;>clear h0<;>intro o h0
   ·have S:l=false:=by simpa using o
    refine zr tb AA AA ?_;obtain rfl:=Sh.AB h0;exact rd [(6,i64 (-1))]
   ·have T:l=true:=by simpa using o
    refine AL (h _ (zr tb AA AA ?_));obtain rfl:=Sh.AB h0;exact rd [(6,i64 b.result)]
  ·refine AL (g _ (AG λU p=>AG λJ q=>bs h0 λt c h0=>?_));have u:∀(d:Bool),t=d->∀s,Wk 0 s ⟨65,Aa [(3,BI),(7,CT),(8,i64 (Sh.len b.params)),(53,.bool d)],[Cy p0.decls p0.funcs,⟨0,37,5,[Pf b]⟩]⟩->J s:=by
    intro d hq s V;subst t;refine q _ (AK V ?_);refine ci h0 AA ?_ ?_<;>clear h0<;>intro W h0
    ·refine zr tb AA AA ?_;obtain rfl:=Sh.AB h0;exact rd [(6,i64 (-1))]
    ·refine AL (p _ (AG λX x=>Ce (by kernel_rfl) (by kernel_rfl) (by rfl) ?_));iterate 6 refine yq tb rfl ?_
     refine bs h0 λY y h0=>yx BM y AA AA AA ?_;iterate 3 refine yq tb rfl ?_
     refine bs h0 λz A h0=>BV (v:=(i64 z)) AI (hb 128) (OD A) rfl AA AA (yq tb AA (Aw (x _ ?_)));obtain rfl:=Sh.AB h0;exact rd [(6,i64 z)]
   refine Br 14 (by kernel_rfl) (by kernel_rfl) (by rfl) ?_;iterate 3 refine yq tb rfl ?_
   rcases Sh.Aj c with ⟨a,c⟩|⟨a,c⟩
   ·refine ys a AA ?_;iterate 10 refine ys a rfl ?_
    exact Aw (zt a AA (AF (u true (Sh.AB c).symm _ (AS [0,2] AA (by decide) rfl AA (.raw AA AA (.raw AA AA .nil)) (.same AA)))))
   ·refine yg tb a AA ?_;iterate 7 refine yg tb a rfl ?_
    exact bs c λZ B c=>bu (i:=0) (j:=Sh.w ((Sh.len b.params)-1)) (CS AA AA a) BM AA AA AA (λ_=>AA) B (bs c λC D c=>BV (v:=(.bool C)) (CS AA AA a) (hb 98) (MX qd D) rfl AA AA (yg tb a AA (Aw (zf a AA (AF (u (!C) (Sh.AB c).symm _ (AS [0,2] AA (by decide) rfl AA (.raw AA AA (.raw AA AA .nil)) (.same AA))))))))
theorem R6 {N:Nat}{qY:AP->(List Int)->AE->Option (Int)}(qd :∀{p0:AP} {p1:(List Int)} {p2:AE} {r:Int},qY p0 p1 p2=some r->Ab Tryz.prog 59 [Hs p0,ls eI p1,Bc p2] [] (λv st=>v=(i64 r)/\st=[])){p0:AP}{p1:(List Int)}{p2:AE}{r:Int}(h0:Bo N qY p0 p1 p2=some r):Ab Tryz.prog 59 [Hs p0,ls eI p1,Bc p2] [] (λv st=>v=(i64 r)/\st=[]):=by
 unfold Bo at h0;refine ai Tryz.func59 AA AA AA AA (sr AA λK1 m7=>Bd (m:=0) AI AA AA AA AA AA (Bd (m:=1) AI AA AA AA AA AA (zq tb AA (dn m7 AA (zr tb AA AA (AG λK3 m8=>?_))))));obtain⟨o4,a,h0⟩:=Sh.Bg h0;have p:∀(_:Unit),o4=Sum.inr ()->∀s,Wk 0 s ⟨215,Aa [],[]⟩->K3 s:=by
  intro _ q s e;subst o4;refine m8 _ (AK e (zr tb AA AA ?_));obtain rfl:=Sh.AB h0;exact rt [(6,i64 (-1))]
 refine zr tb AA AA (AT (zr tb AA AA ?_));refine ci a AA ?_ ?_<;>clear a<;>intro b8 a
 ·refine AG λK9 m9=>bs a λb3 b a=>?_;have b4:∀(E:Bool),b3=E->∀s,Wk 0 s ⟨215,Aa [(26,.bool E)],[]⟩->K9 s:=by
   intro E q s e;subst b3;refine m9 _ (AK e ?_);refine ci a AA ?_ ?_<;>clear a<;>intro v9 a
   ·refine zr tb AA AA ?_;obtain rfl:=Sh.AB a;obtain rfl:=Sh.AB h0;exact rt [(6,i64 0)]
   ·exact AL (p () (Sh.AB a).symm _ (AJ AA))
  refine AH AA (zm tb 2 AA (zl tb AA AA (zm tb 2 AA ?_)));rcases Sh.Aj b with ⟨h,b⟩|⟨h,b⟩
  ·exact zg tb h AA (zg tb h AA (bs b λq0 b5 b=>zd h (hb 72) (D6 b5) rfl AA AA AA (zt h AA (AF (b4 q0 (Sh.AB b).symm _ (Bt _ AA))))))
  ·exact zs h AA (zs h AA (zs h AA (zf h AA (AF (b4 false (Sh.AB b).symm _ (Bt _ AA))))))
 ·refine zr tb AA AA ?_;refine ci a AA ?_ ?_<;>clear a<;>intro w0 a
  ·refine AG λq1 b6=>bs a λb7 b a=>?_;have b9:∀(F:Bool),b7=F->∀s,Wk 0 s ⟨215,Aa [(1,ls eI p1),(5,BI),(40,.bool F)],[N0 p2.op p2.num p2.kids]⟩->q1 s:=by
    intro F q s e;subst b7;refine b6 _ (AK e ?_);refine ci a AA ?_ ?_<;>clear a<;>intro w1 a
    ·refine sr AA λw2 c0=>zm tb 3 AA (bs a λq2 c1 a=>zx BM c1 AA AA AA (zm tb 2 AA (dn c0 AA ?_)));obtain rfl:=Sh.AB a;obtain rfl:=Sh.AB h0;exact rd [(6,i64 q2)]
    ·exact AL (p () (Sh.AB a).symm _ (Bt _ AA))
   refine AH AA (zm tb 2 AA (zl tb AA AA (zm tb 2 AA ?_)));rcases Sh.Aj b with ⟨f,b⟩|⟨f,b⟩
   ·exact zg tb f AA (zg tb f AA (zg tb f AA (Ba (v:=(HB p1)) (CS AA AA f) rfl (Cd Fz AA) (zg tb f AA (bs b λq3 c2 b=>zd f (hb 72) (D6 c2) rfl AA AA AA (zt f AA (AF (b9 q3 (Sh.AB b).symm _ (AS [1] AA (by decide) rfl AA (.raw AA AA .nil) (.same AA))))))))))
   ·refine zs f AA ?_;iterate 5 refine zs f rfl ?_
    exact zf f AA (AF (b9 false (Sh.AB b).symm _ (AS [1] AA (by decide) rfl AA (.raw AA AA .nil) (.same AA))))
  ·refine AG λq4 c3=>bs a λc4 b a=>?_;have w:∀(G:Bool),c4=G->∀s,Wk 0 s ⟨215,Aa (dY p1 p2 [(46,.bool G)]),[Cy p0.decls p0.funcs,N0 p2.op p2.num p2.kids]⟩->q4 s:=by
    intro G q s e;subst c4;refine c3 _ (AK e ?_);refine ci a AA ?_ ?_<;>clear a<;>intro w3 a
    ·refine AG λq5 c5=>bs a λc6 b a=>?_;have c7:∀(H:Bool),c6=H->∀s,Wk 0 s ⟨215,Aa [(58,.bool H)],[]⟩->q5 s:=by
      intro H q s e;subst c6;refine c5 _ (AK e ?_);refine ci a AA ?_ ?_<;>clear a<;>intro w4 a
      ·refine zr tb AA AA ?_;obtain rfl:=Sh.AB a;obtain rfl:=Sh.AB h0;exact rt [(6,i64 0)]
      ·exact AL (p () (Sh.AB a).symm _ (AJ AA))
     refine AH AA (zm tb 2 AA ?_);rcases Sh.Aj b with ⟨n,b⟩|⟨n,b⟩
     ·refine zg tb n AA ?_;iterate 3 refine zg tb n rfl ?_
      exact bs b λq6 c8 b=>zd n (hb 96) (N2 qd c8) rfl AA AA AA (zt n AA (AF (c7 q6 (Sh.AB b).symm _ (Bt _ AA))))
     ·refine zs n AA ?_;iterate 4 refine zs n rfl ?_
      exact zf n AA (AF (c7 false (Sh.AB b).symm _ (Bt _ AA)))
    ·refine zr tb AA AA ?_;refine ci a AA ?_ ?_<;>clear a<;>intro w5 a
     ·refine AG λq7 c9=>bs a λd1 b a=>?_;have d2:∀(I:Bool),d1=I->∀s,Wk 0 s ⟨215,Aa [(68,.bool I)],[]⟩->q7 s:=by
       intro I q s e;subst d1;refine c9 _ (AK e ?_);refine ci a AA ?_ ?_<;>clear a<;>intro w6 a
       ·refine zr tb AA AA ?_;obtain rfl:=Sh.AB a;obtain rfl:=Sh.AB h0;exact rt [(6,i64 0)]
       ·exact AL (p () (Sh.AB a).symm _ (AJ AA))
      refine AH AA (zm tb 2 AA ?_);rcases Sh.Aj b with ⟨o,b⟩|⟨o,b⟩
      ·refine zg tb o AA ?_;iterate 3 refine zg tb o rfl ?_
       exact bs b λq8 d3 b=>zd o (hb 96) (N2 qd d3) rfl AA AA AA (zt o AA (AF (d2 q8 (Sh.AB b).symm _ (Bt _ AA))))
      ·refine zs o AA ?_;iterate 4 refine zs o rfl ?_
       exact zf o AA (AF (d2 false (Sh.AB b).symm _ (Bt _ AA)))
     ·refine zr tb AA AA ?_;refine ci a AA ?_ ?_<;>clear a<;>intro w7 a
      ·refine AG λq9 d4=>bs a λd5 b a=>?_;have d6:∀(J:Bool),d5=J->∀s,Wk 0 s ⟨215,Aa [(3,BI),(5,CT),(88,.bool J)],[Cy p0.decls p0.funcs,N0 p2.op p2.num p2.kids]⟩->q9 s:=by
        intro J q s e;subst d5;refine d4 _ (AK e ?_);refine ci a AA ?_ ?_<;>clear a<;>intro w8 a
        ·refine sr AA λw9 d7=>zm tb 4 AA (bs a λt0 d8 a=>zc (hb 97) (LJ d8) rfl AA AA (zq tb AA (dn d7 AA ?_)));obtain rfl:=Sh.AB a;obtain rfl:=Sh.AB h0;exact rd [(6,i64 t0)]
        ·exact AL (p () (Sh.AB a).symm _ (Bt _ AA))
       refine Br 17 (by kernel_rfl) (by kernel_rfl) (by rfl) ?_;iterate 4 refine yq tb rfl ?_
       refine bs b λt1 d9 b=>BV (v:=(i64 t1)) AI (hb 97) (LJ d9) rfl AA AA ?_;iterate 2 refine yq tb rfl ?_
       rcases Sh.Aj b with ⟨i,b⟩|⟨i,b⟩
       ·refine yg tb i AA ?_;iterate 7 refine yg tb i rfl ?_
        exact bs b λt2 g0 b=>BV (v:=(ls eI t2)) (CS AA AA i) (hb 99) (Ex g0) rfl AA AA (bs b λg1 g2 b=>BV (v:=(.bool g1)) (CS AA AA i) (hb 98) (MX qd g2) rfl AA AA (Aw (zt i AA (AF (d6 g1 (Sh.AB b).symm _ (AJ AA))))))
       ·refine ys i AA ?_;iterate 9 refine ys i rfl ?_
        exact Aw (zf i AA (AF (d6 false (Sh.AB b).symm _ (AJ AA))))
      ·refine zr tb AA AA ?_;refine ci a AA ?_ ?_<;>clear a<;>intro A0 a
       ·refine AG λt3 g3=>bs a λg4 b a=>?_;have g5:∀(K:Bool),g4=K->∀s,Wk 0 s ⟨215,Aa [(1,ls eI p1),(3,BI),(5,CT),(102,.bool K)],[Cy p0.decls p0.funcs,N0 p2.op p2.num p2.kids]⟩->t3 s:=by
         intro K q s e;subst g4;refine g3 _ (AK e ?_);refine ci a AA ?_ ?_<;>clear a<;>intro A1 a
         ·refine AG λA2 g6=>Ce (by kernel_rfl) (by kernel_rfl) (by rfl) ?_;iterate 4 refine yq tb rfl ?_
          refine bs a λt4 g7 a=>yz (Dc t4) (By BU AA AA g7 (Ai _) rfl) rfl (yq tb AA (bs a λg8 g9 a=>BV (v:=(i64 g8)) AI (hb 59) (qd g9) rfl AA AA (yq tb AA (Aw (g6 _ (zr tb AA AA ?_))))));refine ci a AA ?_ ?_<;>clear a<;>intro A3 a
          ·refine AG λA4 h3=>Br 10 (by kernel_rfl) (by kernel_rfl) (by rfl) ?_;iterate 3 refine yq tb rfl ?_
           refine GA (l:=[g8]) (enc:=eI) AI BM (by decide) rfl AA AA AA AA (AD λ_=>AA) (bs a λh4 h5 a=>?_);refine BV (v:=(ls eI h4)) AI (hb 85) (Ab.wk (FV h5) (by refine Wk.trans (Wk.BL (L:=[(0,ls eI h4)]) (st':=Rk) (id:=0) rfl pn (AD λ_=>AA) ⟨.BL AA,lU⟩ AA) ?_;exact AS [] AA (by decide) rfl AA .nil (.same AA))) rfl AA AA ?_;iterate 2 refine yq tb rfl ?_
           refine bs a λt5 h6 a=>yz (Dc t5) (By BU AA AA h6 (Ai _) rfl) rfl (yq tb AA (bs a λh7 h8 a=>BV (v:=(i64 h7)) AI (hb 59) (qd h8) rfl AA AA (Aw (zq tb AA (dn h3 AA ?_)))));obtain rfl:=Sh.AB a;obtain rfl:=Sh.AB h0;exact rd [(6,i64 h7)]
          ·exact AL (p () (Sh.AB a).symm _ (Bt _ AA))
         ·exact AL (p () (Sh.AB a).symm _ (Bt _ AA))
        refine AH AA (zm tb 2 AA ?_);rcases Sh.Aj b with ⟨j,b⟩|⟨j,b⟩
        ·exact zg tb j AA (zg tb j AA (Ba (v:=(ZF p2)) (CS AA AA j) rfl (Cd R9 AA) (zg tb j AA (zt j AA (AF (g5 (decide ((Sh.len p2.kids)=2)) (Sh.AB b).symm _ (AJ AA)))))))
        ·refine zs j AA ?_;iterate 3 refine zs j rfl ?_
         exact zf j AA (AF (g5 false (Sh.AB b).symm _ (AJ AA)))
       ·refine zr tb AA AA ?_;refine ci a AA ?_ ?_<;>clear a<;>intro A5 a
        ·refine AG λt6 h9=>bs a λk0 b a=>?_;have M:∀(O:Bool),k0=O->∀s,Wk 0 s ⟨215,Aa [(1,ls eI p1),(3,BI),(5,CT),(140,.bool O)],[Cy p0.decls p0.funcs,N0 p2.op p2.num p2.kids]⟩->t6 s:=by
          intro O q s e;subst k0;refine h9 _ (AK e ?_);refine ci a AA ?_ ?_<;>clear a<;>intro A6 a
          ·refine AG λA7 k1=>Ce (by kernel_rfl) (by kernel_rfl) (by rfl) ?_;iterate 4 refine yq tb rfl ?_
           refine bs a λt7 k2 a=>yz (Dc t7) (By BU AA AA k2 (Ai _) rfl) rfl (yq tb AA (bs a λk3 k4 a=>BV (v:=(i64 k3)) AI (hb 59) (qd k4) rfl AA AA (yq tb AA (Aw (k1 _ (AG λA8 k5=>Ce (by kernel_rfl) (by kernel_rfl) (by rfl) ?_))))));iterate 4 refine yq tb rfl ?_
           refine bs a λt8 k6 a=>yz (Dc t8) (By BU AA AA k6 (Ai _) rfl) rfl (yq tb AA (bs a λt9 k7 a=>BV (v:=(i64 t9)) AI (hb 59) (qd k7) rfl AA AA ?_));iterate 2 refine yq tb rfl ?_
           refine Aw (k5 _ ?_);refine ci a AA ?_ ?_<;>clear a<;>intro A9 a
           ·refine zr tb AA AA ?_;obtain rfl:=Sh.AB a;obtain rfl:=Sh.AB h0;exact rd [(6,i64 k3)]
           ·exact AL (p () (Sh.AB a).symm _ (Bt _ AA))
          ·exact AL (p () (Sh.AB a).symm _ (Bt _ AA))
         refine Ce (by kernel_rfl) (by kernel_rfl) (by rfl) ?_;iterate 2 refine yq tb rfl ?_
         rcases Sh.Aj b with ⟨k,b⟩|⟨k,b⟩
         ·refine yg tb k AA (yg tb k AA (IN (v:=(ZF p2)) (CS AA AA k) rfl (Cd R9 AA) (yg tb k AA (yt k AA (yq tb AA ?_)))));rcases Sh.Aj b with ⟨g,b⟩|⟨g,b⟩
          ·refine yg tb g AA ?_;iterate 3 refine yg tb g rfl ?_
           exact bs b λv0 k8 b=>IN (v:=(Dc v0)) (CS AA AA g) rfl (By BU AA AA k8 (Ai _) rfl) (yg tb g AA (bs b λk9 l0 b=>BV (v:=(i64 k9)) (CS AA AA g) (hb 59) (qd l0) rfl AA AA (yg tb g AA (yt g AA (Aw (M (decide (k9=0)) (Sh.AB b).symm _ (AJ AA)))))))
          ·refine ys g AA ?_;iterate 7 refine ys g rfl ?_
           exact yf g AA (Aw (M false (Sh.AB b).symm _ (AJ AA)))
         ·refine ys k AA ?_;iterate 3 refine ys k rfl ?_
          refine yf k AA (yq tb AA ?_);iterate 8 refine ys rfl rfl ?_
          exact yf AA AA (Aw (M false (Sh.AB b).symm _ (AJ AA)))
        ·refine zr tb AA AA ?_;refine ci a AA ?_ ?_<;>clear a<;>intro B0 a
         ·refine sr AA λB1 l1=>zm tb 3 AA (bs a λv1 l2 a=>zc (hb 100) (RZ qd l2) rfl AA AA (zq tb AA (dn l1 AA ?_)));obtain rfl:=Sh.AB a;obtain rfl:=Sh.AB h0;exact rd [(6,i64 v1)]
         ·refine AG λv2 l3=>bs a λl4 b a=>?_;have l5:∀(P:Bool),l4=P->∀s,Wk 0 s ⟨215,Aa (dY p1 p2 [(164,.bool P)]),[Cy p0.decls p0.funcs,N0 p2.op p2.num p2.kids]⟩->v2 s:=by
           intro P q s e;subst l4;refine l3 _ (AK e ?_);refine ci a AA ?_ ?_<;>clear a<;>intro B2 a
           ·refine sr AA λv3 Q=>zm tb 3 AA (bs a λl6 R a=>zc (hb 101) (Sm qd R) rfl AA AA (zq tb AA (dn Q AA ?_)));obtain rfl:=Sh.AB a;obtain rfl:=Sh.AB h0;exact rd [(6,i64 l6)]
           ·refine zr tb AA AA ?_;refine ci a AA ?_ ?_<;>clear a<;>intro v4 a
            ·refine AG λl7 S=>bs a λx b a=>?_;have y:∀(t:Bool),x=t->∀s,Wk 0 s ⟨215,Aa [(1,ls eI p1),(3,BI),(5,CT),(179,.bool t)],[Cy p0.decls p0.funcs,N0 p2.op p2.num p2.kids]⟩->l7 s:=by
              intro t q s e;subst x;refine S _ (AK e ?_);refine ci a AA ?_ ?_<;>clear a<;>intro v5 a
              ·refine AG λv6 T=>Ce (by kernel_rfl) (by kernel_rfl) (by rfl) ?_;iterate 4 refine yq tb rfl ?_
               refine bs a λl8 U a=>yz (Dc l8) (By BU AA AA U (Ai _) rfl) rfl (yq tb AA (bs a λz V a=>BV (v:=(i64 z)) AI (hb 59) (qd V) rfl AA AA (yq tb AA (Aw (T _ (AG λl9 W=>bs a λA b a=>?_))))));have B:∀(u:Bool),A=u->∀s,Wk 0 s ⟨215,Aa [(3,BI),(10,i64 z),(207,.bool u)],[Cy p0.decls p0.funcs]⟩->l9 s:=by
                intro u q s e;subst A;refine W _ (AK e ?_);refine ci a AA ?_ ?_<;>clear a<;>intro v7 a
                ·refine sr AA λv8 X=>zm tb 4 AA (bs a λm0 Y a=>zx DI Y AA AA AA (zm tb 3 AA (dn X AA ?_)));obtain rfl:=Sh.AB a;obtain rfl:=Sh.AB h0;exact rd [(6,i64 m0.to)]
                ·exact AL (p () (Sh.AB a).symm _ (Bt _ AA))
               refine Ce (by kernel_rfl) (by kernel_rfl) (by rfl) ?_;iterate 3 refine yq tb rfl ?_
               refine bs b λm1 Z b=>BV (v:=(.bool m1)) AI (hb 102) (Jg Z) rfl AA AA (yq tb AA ?_);rcases Sh.Aj b with ⟨c,b⟩|⟨c,b⟩
               ·refine yg tb c AA ?_;iterate 3 refine yg tb c rfl ?_
                refine bs b λm2 b0 b=>IN (v:=(Dc m2)) (CS AA AA c) rfl (By BU AA AA b0 (Ai _) rfl) (yg tb c AA (bs b λC b1 b=>BV (v:=(i64 C)) (CS AA AA c) (hb 59) (qd b1) rfl AA AA ?_));iterate 4 refine yg tb c rfl ?_
                refine bs b λD b2 b=>IN (v:=(.Bn (Ak D) 0)) (CS AA AA c) rfl (Ch DI AA AA b2 AA) ?_;iterate 3 refine yg tb c rfl ?_
                exact yt c AA (Aw (B (decide (C=D.from_)) (Sh.AB b).symm _ (AS [0] AA (by decide) rfl AA (.raw AA AA .nil) (.same AA))))
               ·refine ys c AA ?_;iterate 14 refine ys c rfl ?_
                exact yf c AA (Aw (B false (Sh.AB b).symm _ (AS [0] AA (by decide) rfl AA (.raw AA AA .nil) (.same AA))))
              ·exact AL (p () (Sh.AB a).symm _ (Bt _ AA))
             refine AH AA (zm tb 2 AA ?_);rcases Sh.Aj b with ⟨d,b⟩|⟨d,b⟩
             ·exact zg tb d AA (zg tb d AA (Ba (v:=(ZF p2)) (CS AA AA d) rfl (Cd R9 AA) (zg tb d AA (zt d AA (AF (y (decide ((Sh.len p2.kids)=2)) (Sh.AB b).symm _ (AJ AA)))))))
             ·refine zs d AA ?_;iterate 3 refine zs d rfl ?_
              exact zf d AA (AF (y false (Sh.AB b).symm _ (AJ AA)))
            ·exact AL (p () (Sh.AB a).symm _ (Bt _ AA))
          refine zr tb AA AA ?_;refine ci b AA ?_ ?_<;>clear b<;>intro m3 b
          ·exact AL (l5 true (Sh.AB b).symm _ (Af (L:=(dY p1 p2 [(164,.bool true)])) ⟨.rfl,.rfl,.rfl,.rfl,.rfl,.of (mc AV.bool m3),lU⟩))
          ·exact AH AA (zm tb 2 AA (AF (l5 (decide (p2.op=10)) (Sh.AB b).symm _ (AJ AA))))
   refine zr tb AA AA ?_;refine ci b AA ?_ ?_<;>clear b<;>intro m4 b
   ·exact AL (w true (Sh.AB b).symm _ (Af (L:=(dY p1 p2 [(46,.bool true)])) ⟨.rfl,.rfl,.rfl,.rfl,.rfl,.of (mc AV.bool m4),lU⟩))
   ·refine zr tb AA AA ?_;refine ci b AA ?_ ?_<;>clear b<;>intro m5 b
    ·exact AL (w true (Sh.AB b).symm _ (Af (L:=(dY p1 p2 [(46,.bool true)])) ⟨.rfl,.rfl,.rfl,.rfl,.rfl,.of (mc AV.bool m5),lU⟩))
    ·refine zr tb AA AA ?_;refine ci b AA ?_ ?_<;>clear b<;>intro m6 b
     ·exact AL (w true (Sh.AB b).symm _ (Af (L:=(dY p1 p2 [(46,.bool true)])) ⟨.rfl,.rfl,.rfl,.rfl,.rfl,.of (mc AV.bool m6),lU⟩))
     ·exact AH AA (zm tb 2 AA (AF (w (decide (p2.op=4)) (Sh.AB b).symm _ (AJ AA))))
theorem SG {N:Nat}:∀(n:Nat),∀{p0:AP} {p1:(List Int)} {p2:AE} {r:Int},Cj N n p0 p1 p2=some r->Ab Tryz.prog 59 [Hs p0,ls eI p1,Bc p2] [] (λv st=>v=(i64 r)/\st=[]):=by
 intro n
 induction n with
 | zero=>intro p0 p1 p2 r a;cases a
 | succ n ih=>
  intro p0 p1 p2 r a;rw[Cj]at a;exact R6 (λh=>ih h) a
theorem Ul {N:Nat}:∀{p0:AP} {p1:(List Int)} {p2:AE} {r:Int},Jc N p0 p1 p2=some r->Ab Tryz.prog 59 [Hs p0,ls eI p1,Bc p2] [] (λv st=>v=(i64 r)/\st=[]):=by
 intro p0 p1 p2 r a;exact SG N a
theorem PK {N:Nat}{p0:AP}{r:Bool}(h0:Be N p0=some r):Ab Tryz.prog 29 [Hs p0] [] (λv st=>v=(.bool r)/\st=[]):=by
 unfold Be at h0;refine ai Tryz.func29 AA AA AA AA (sr AA λR x=>Bd (m:=0) AI AA AA AA AA AA (zq tb AA (dn x AA (AG λS y=>sr AA λT z=>zq tb AA (bs h0 λG A h0=>zc (hb 57) (Re A) rfl AA AA (zq tb AA (dn z AA ?_)))))));refine ci h0 AA ?_ ?_<;>clear h0<;>intro H h0
 ·have U:G=false:=by simpa using H
  refine zr tb AA AA ?_;obtain rfl:=Sh.AB h0;exact rd [(2,.bool false)]
 ·have V:G=true:=by simpa using H
  refine AL (y _ (AG λJ B=>zr tb AA AA ?_));obtain⟨g,b,h0⟩:=Sh.Bg h0;have C:∀(_:Unit),g=Sum.inr ()->∀s,Wk 0 s ⟨45,Aa [],[]⟩->J s:=by
   intro _ K s D;subst g;refine B _ (AK D (zr tb AA AA ?_));obtain rfl:=Sh.AB h0;exact rt [(2,.bool true)]
  refine AT (Ax (σ:=Int) (λn v=>Bp N p0 n v=some g) (λe=>⟨45,Aa [(1,.ptr 0 0 0 0),(3,i64 e)],[Cy p0.decls p0.funcs]⟩) N 0 b (AJ AA) (λ_ I=>by rw[Bp]at I;cases I) ?_);rintro n e b;rw[Bp]at b;refine AG λL i=>sr AA λM j=>zm tb 3 AA (zl tb AA AA (zq tb AA (dn j AA ?_)));refine ci b AA ?_ ?_<;>clear b<;>intro O b
  ·refine AL (i _ (AG λP k=>AT (AG λE l=>bs b λo d b=>?_)));have p:∀(h:Bool),o=h->∀s,Wk 0 s ⟨45,Aa [(1,BI),(3,i64 e),(44,.bool h)],[Cy p0.decls p0.funcs]⟩->E s:=by
    intro h K s D;subst o;refine l _ (AK D ?_);refine ci b AA ?_ ?_<;>clear b<;>intro Q b
    ·refine zr tb AA AA ?_;obtain rfl:=Sh.AB b;obtain rfl:=Sh.AB h0;exact rd [(2,.bool false)]
    ·exact AL (k _ (AH AA (zm tb 3 AA (AF (xi (Sh.w (e+1)) b (AJ AA))))))
   refine Ce (by kernel_rfl) (by kernel_rfl) (by rfl) ?_;iterate 3 refine yq tb rfl ?_
   refine bs d λf c d=>yx Ct c AA AA AA ?_;iterate 2 refine yq tb rfl ?_
   refine bs d λF q d=>BV (v:=(i64 F)) AI (hb 58) (Jb q) rfl AA AA ?_;iterate 2 refine yq tb rfl ?_
   rcases Sh.Aj d with ⟨a,d⟩|⟨a,d⟩
   ·refine ys a AA ?_;iterate 20 refine ys a rfl ?_
    exact yt a AA (Aw (p true (Sh.AB d).symm _ (AJ AA)))
   ·refine yg tb a AA ?_;iterate 3 refine yg tb a rfl ?_
    refine IN (v:=(.Bn (BO f) 0)) (CS AA AA a) rfl (Ch Ct AA AA c AA) ?_;iterate 5 refine yg tb a rfl ?_
    refine IN (v:=(.Bn (BO f) 0)) (CS AA AA a) rfl (Ch Ct AA AA c AA) ?_;iterate 2 refine yg tb a rfl ?_
    refine bs d λt u d=>BV (v:=(i64 t)) (CS AA AA a) (hb 59) (Ul u) rfl AA AA ?_;iterate 3 refine yg tb a rfl ?_
    refine IN (v:=(.Bn (BO f) 0)) (CS AA AA a) rfl (Ch Ct AA AA c AA) ?_;iterate 3 refine yg tb a rfl ?_
    exact yf a AA (Aw (p (!decide (t=f.result)) (Sh.AB d).symm _ (AJ AA)))
  ·exact Az (C () (Sh.AB b).symm _ (Bt _ AA))
theorem Tz {N:Nat}{p0:AP}{p1:AE}{p2 p3 r:Int}(h0:J2 N p0 p1 p2 p3=some r):Ab Tryz.prog 67 [Hs p0,Bc p1,i64 p2,i64 p3] [] (λv st=>v=(i64 r)/\st=[]):=by
 unfold J2 at h0;refine ai Tryz.func67 AA AA AA AA (sr AA λp h=>Bd (m:=0) AI AA AA AA AA AA (Bd (m:=1) AI AA AA AA AA AA (zq tb AA (dn h AA (AG λq i=>zr tb AA AA ?_)))));refine ci h0 AA ?_ ?_<;>clear h0<;>intro s h0
 ·refine zr tb AA AA ?_;obtain rfl:=Sh.AB h0;exact rd [(8,i64 p3)]
 ·refine AL (i _ (AG λt j=>zr tb AA AA ?_));refine ci h0 AA ?_ ?_<;>clear h0<;>intro u h0
  ·refine zr tb AA AA ?_;obtain rfl:=Sh.AB h0;exact rd [(8,KW p3)]
  ·refine AL (j _ (AG λk a=>zr tb AA AA ?_));refine ci h0 AA ?_ ?_<;>clear h0<;>intro l h0
   ·refine AG λn b=>Br 15 (by kernel_rfl) (by kernel_rfl) (by rfl) ?_;iterate 7 refine yq tb rfl ?_
    refine bs h0 λc d h0=>?_;refine BV (v:=(ls eI c)) AI (hb 104) (Ab.wk (Ia d) (by refine Wk.trans (Wk.BL (L:=[(0,ls eI c)]) (st':=Rk) (id:=0) rfl pn (AD λ_=>AA) ⟨.BL AA,lU⟩ AA) ?_;exact AS [] AA (by decide) rfl AA .nil (.same AA))) rfl AA AA ?_;iterate 2 refine yq tb rfl ?_
    refine bs h0 λo e h0=>yx BM e AA AA AA (yq tb AA (bs h0 λf g h0=>BV (v:=(ls eI f)) AI (hb 99) (Ex g) rfl AA AA (yl tb AA AA (yq tb AA (Aw (zq tb AA (dn b AA ?_)))))));obtain rfl:=Sh.AB h0;exact rd [(8,i64 (Sh.w (p3+(Sh.len f))))]
   ·refine AL (a _ (zr tb AA AA ?_));obtain rfl:=Sh.AB h0;exact rd [(8,i64 p3)]
theorem Mc {p0 r:Int}(h0:JU p0=some r):Ab Tryz.prog 129 [i64 p0] [] (λv st=>v=(i64 r)/\st=[]):=by
 unfold JU at h0;refine ai Tryz.func129 AA AA AA AA (zr tb AA AA (sr AA λb a=>zq tb AA (zz (i64 (if p0<999 then p0 else 999)) (cV AA AA) rfl (zz (i64 (if (if p0<999 then p0 else 999) > (-999) then (if p0<999 then p0 else 999) else (-999))) (cm AA AA) rfl (zq tb AA (dn a AA ?_))))));obtain rfl:=Sh.AB h0;exact rt [(2,i64 (if (if p0<999 then p0 else 999) > (-999) then (if p0<999 then p0 else 999) else (-999)))]
theorem XQ {p0 p1 p2 r:Int}(h0:Ms p0 p1 p2=some r):Ab Tryz.prog 105 [i64 p0,i64 p1,i64 p2] [] (λv st=>v=(i64 r)/\st=[]):=by
 unfold Ms at h0;refine ai Tryz.func105 AA AA AA AA (zr tb AA AA (AG λB l=>zr tb AA AA (AT (zr tb AA AA ?_))));refine ci h0 AA ?_ ?_<;>clear h0<;>intro C h0
 ·refine sr AA λD m=>zm tb 3 AA (bs h0 λt n h0=>zc (hb 129) (Mc n) rfl AA AA (zq tb AA (dn m AA ?_)));obtain rfl:=Sh.AB h0;exact rt [(6,i64 t)]
 ·refine zr tb AA AA ?_;refine ci h0 AA ?_ ?_<;>clear h0<;>intro E h0
  ·refine sr AA λu c=>zm tb 3 AA (bs h0 λo d h0=>zc (hb 129) (Mc d) rfl AA AA (zq tb AA (dn c AA ?_)));obtain rfl:=Sh.AB h0;exact rt [(6,i64 o)]
  ·refine zr tb AA AA ?_;refine ci h0 AA ?_ ?_<;>clear h0<;>intro w h0
   ·refine sr AA λx e=>zm tb 3 AA (bs h0 λp f h0=>zc (hb 129) (Mc f) rfl AA AA (zq tb AA (dn e AA ?_)));obtain rfl:=Sh.AB h0;exact rt [(6,i64 p)]
   ·refine AL (l _ (AG λy g=>AG λq h=>bs h0 λi j h0=>?_));have k:∀(b:Bool),i=b->∀s,Wk 0 s ⟨33,Aa [(32,.bool b)],[]⟩->q s:=by
     intro b F s z;subst i;refine h _ (AK z ?_);refine ci h0 AA ?_ ?_<;>clear h0<;>intro A h0
     ·refine zr tb AA AA ?_;obtain rfl:=Sh.AB h0;exact rt [(6,i64 1)]
     ·refine AL (g _ (zr tb AA AA ?_));obtain rfl:=Sh.AB h0;exact rt [(6,i64 0)]
    refine AH AA (zm tb 3 AA ?_);rcases Sh.Aj j with ⟨a,j⟩|⟨a,j⟩
    ·exact zg tb a AA (zg tb a AA (zg tb a AA (zt a AA (AF (k (decide (p1<p2)) (Sh.AB j).symm _ (AJ AA))))))
    ·exact zs a AA (zs a AA (zs a AA (zf a AA (AF (k false (Sh.AB j).symm _ (AJ AA))))))
theorem S0 {N:Nat}{qm:AE->Int->Int->Option (AE)}(rY :∀{p0:AE} {p1:Int} {p2:Int} {r:AE},qm p0 p1 p2=some r->Ab Tryz.prog 77 [Bc p0,i64 p1,i64 p2] [] (λv st=>v=(Bc r)/\st=[])){p0:(List AE)}{p1 p2:Int}{r:(List AE)}(h0:Kg N qm p0 p1 p2=some r):Ab Tryz.prog 109 [Gc p0,i64 p1,i64 p2] [] (λv st=>v=(ow 0 0 r)/\st=[Gg r]):=by
 unfold Kg at h0;refine ai Tryz.func109 AA AA AA AA (zr tb AA AA (sr AA λF p=>?_));refine BF (m:=0) (l:=([]:List AE)) (enc:=Ar) AI BU (by decide) rfl AA (by simp only[List.map,Ai];rfl) rfl AA AA ?_;refine zq tb AA (dn p AA (AG λy q=>zr tb AA AA (bs h0 λt a h0=>?_)));have z:∀(d:(List AE)),t=d->∀s,Wk 0 s ⟨27,Aa [(7,ow 0 0 d)],[Gg d]⟩->y s:=by
  intro d G s A;subst t;refine q _ (AK A (zr tb AA AA ?_));obtain rfl:=Sh.AB h0;exact rt [(6,ow 0 0 d)]
 refine AT (Ax (σ:=Int×(List AE)) (λn v=>Em p0 p1 p2 qm n v.1 v.2=some t) (λ(k,o)=>⟨27,Aa [(0,ls Ar p0),(1,i64 p1),(2,i64 p2),(7,ow 0 0 o),(8,i64 k)],[ro 0 35 3 Ar o]⟩) N (0,[]) a (AJ AA) (λ_ x=>by rw[Em]at x;cases x) ?_);rintro n ⟨k,o⟩ a;rw[Em]at a;refine AG λB e=>sr AA λC f=>zm tb 2 AA (zl tb AA AA (zq tb AA (dn f AA ?_)));refine ci a AA ?_ ?_<;>clear a<;>intro D a
 ·refine AL (e _ (AG λE g=>AT (AH AA (zm tb 3 AA (bs a λu h a=>zz (Dc u) (By BU AA AA h (Ai _) rfl) rfl (zm tb 3 AA (bs a λb i a=>zc (v':=(Bc b)) (hb 77) (rY i) rfl AA AA ?_)))))));refine BF (m:=1) (l:=[b]) (enc:=Ar) AI BU (by decide) rfl AA (by simp only[List.map,Ai];rfl) rfl AA AA ?_;refine bs a λc j a=>Cz (l2:=[b]) AI BU AA AA AA AA (HI AA AA Fu) DU j AA (zq tb AA (dn g AA (AH AA (zm tb 3 AA ?_))));exact AF (xi (Sh.w (k+1),c) a (by refine Wk.trans (EN (L:=[(0,Gc p0),(1,i64 p1),(2,i64 p2),(7,ow 0 0 c),(8,KW k)]) (st':=[Gg c,Rb b]) (.pure (AD Ad) (.pure (AD Ad) .nil)) (.same AA)) ?_;exact AS [0] AA (by decide) rfl AA (.pure (AD Ad) .nil) (.same AA)))
 ·exact Az (z o (Sh.AB a).symm _ (AJ AA))
theorem T3 {N:Nat}{qm:AE->Int->Int->Option (AE)}(rY :∀{p0:AE} {p1:Int} {p2:Int} {r:AE},qm p0 p1 p2=some r->Ab Tryz.prog 77 [Bc p0,i64 p1,i64 p2] [] (λv st=>v=(Bc r)/\st=[])){p0:AE}{p1 p2:Int}{r:AE}(h0:LQ N qm p0 p1 p2=some r):Ab Tryz.prog 77 [Bc p0,i64 p1,i64 p2] [] (λv st=>v=(Bc r)/\st=[]):=by
 unfold LQ at h0;refine Ci AA (ai Tryz.func77 AA AA AA AA (sr AA λz g=>Bd (m:=0) AI AA AA AA AA AA (Av (m:=1) AI DE AA AA (dn g AA (zr tb AA AA (AG λq h=>bs h0 λo b h0=>?_))))));have p:∀(vG:Int),o=vG->∀s,Wk 0 s ⟨30,Aa (fF p1 p2 [(7,i64 vG)]),YZ p0 []⟩->q s:=by
  intro vG t s i;subst o;refine h _ (AK i (AG λA j=>Br 9 (by kernel_rfl) (by kernel_rfl) (by rfl) ?_));iterate 7 refine yq tb rfl ?_
  refine bs h0 λc k h0=>?_;refine BV (v:=(Gc c)) AI (hb 109) (Ab.wk (S0 rY k) (by refine Wk.trans (Wk.BL (L:=[(0,Gc c)]) (st':=[CE]) (id:=0) rfl pn (AD Ad) ⟨.BL AA,lU⟩ AA) ?_;exact AS [] AA (by decide) rfl AA .nil (.same AA))) rfl AA AA ?_;refine yz (.agg [i64 p0.op,i64 vG,Gc c]) (DC PG PA DE AA AA) rfl (Aw (Am AI BE AA AA AA AA AA AA pj rfl (dn j AA ?_)));obtain rfl:=Sh.AB h0;exact Ao (Exists.intro _ (And.intro (Wk.refl _ _) (As (x:=.tmp 6) (off:=0) (cs:=[i64 p0.op,i64 vG,Gc c]) (vs:=[i64 p0.op,i64 vG,Gc c]) BE AA AA AA pj rfl _ AA)))
 refine AG λu l=>bs b λd e b=>?_;have f:∀(n:Bool),d=n->∀s,Wk 0 s ⟨30,Aa (fF p1 p2 [(7,i64 p0.num),(17,.bool n)]),YZ p0 []⟩->u s:=by
  intro n t s i;subst d;refine l _ (AK i ?_);refine ci b AA ?_ ?_<;>clear b<;>intro y b
  ·exact AH AA (zm tb 4 AA (AF (p (Sh.w (p0.num+p2)) (Sh.AB b).symm _ (AJ AA))))
  ·exact AL (p p0.num (Sh.AB b).symm _ (AJ AA))
 refine AH AA (zm tb 4 AA ?_);rcases Sh.Aj e with ⟨a,e⟩|⟨a,e⟩
 ·exact zg tb a AA (zg tb a AA (zg tb a AA (zt a AA (AF (f (decide (p1<=p0.num)) (Sh.AB e).symm _ (AJ AA))))))
 ·exact zs a AA (zs a AA (zs a AA (zf a AA (AF (f false (Sh.AB e).symm _ (AJ AA))))))
theorem TG {N:Nat}:∀(n:Nat),∀{p0:AE} {p1:Int} {p2:Int} {r:AE},Gy N n p0 p1 p2=some r->Ab Tryz.prog 77 [Bc p0,i64 p1,i64 p2] [] (λv st=>v=(Bc r)/\st=[]):=by
 intro n
 induction n with
 | zero=>intro p0 p1 p2 r a;cases a
 | succ n ih=>
  intro p0 p1 p2 r a;rw[Gy]at a;exact T3 (λh=>ih h) a
theorem Wb {N:Nat}:∀{p0:AE} {p1:Int} {p2:Int} {r:AE},NV N p0 p1 p2=some r->Ab Tryz.prog 77 [Bc p0,i64 p1,i64 p2] [] (λv st=>v=(Bc r)/\st=[]):=by
 intro p0 p1 p2 r a;exact TG N a
theorem Xc {N:Nat}{p0:(List AE)}{p1:AE}{p2:Int}{r:AE}(h0:MR N p0 p1 p2=some r):Ab Tryz.prog 76 [Gc p0,Bc p1,i64 p2] [] (λv st=>v=(Bc r)/\st=[]):=by
 unfold MR at h0;refine Ci AA (ai Tryz.func76 AA AA AA AA (sr AA λK u=>Bd (m:=0) AI AA AA AA AA AA (Av (m:=1) AI DE AA AA (dn u AA (sr AA λM y=>zq tb AA (Av (m:=2) AI DE AA AA (Am AI BE AA AA AA AA AA AA pj rfl (dn y AA (AG λE z=>sr AA λO A=>zq tb AA (zl tb AA AA (zm tb 2 AA (dn A AA (bs h0 λh a h0=>?_)))))))))))));have B:∀(i:Int) (b:Int) (c:(List AE)),h=(i,b,c)->∀s,Wk 0 s ⟨28,Aa [(6,BI),(7,CT)],[fS,N0 i b c]⟩->E s:=by
  intro i b c P s F;subst h;refine z _ (AK F (sr AA λG j=>zq tb AA (Am AI BE AA AA AA AA AA AA pj rfl (dn j AA ?_))));obtain rfl:=Sh.AB h0;exact Ao (Exists.intro _ (And.intro (Wk.refl _ _) (As (x:=.tmp 6) (off:=0) (cs:=(Lf i b c)) (vs:=(Lf i b c)) BE AA AA AA pj rfl _ AA)))
 refine AT (Ax (σ:=Int×Int×Int×(List AE)) (λn v=>Gx N p0 p2 n v.1 v.2.1 v.2.2.1 v.2.2.2=some h) (λ(t,e,f,g)=>⟨28,Aa [(0,ls Ar p0),(2,i64 p2),(6,.ptr 0 0 0 0),(7,.ptr 1 0 0 0),(8,i64 t)],[fS,N0 e f g]⟩) N (Sh.w ((Sh.len p0)-1),p1.op,p1.num,p1.kids) a (AS [1,2] AA (by decide) rfl AA (.raw AA AA (.raw AA AA .nil)) (.same AA)) (λ_ D=>by rw[Gx]at D;cases D) ?_);rintro n ⟨t,e,f,g⟩ a;rw[Gx]at a;refine AG λH k=>zr tb AA AA ?_;refine ci a AA ?_ ?_<;>clear a<;>intro I a
 ·refine AL (k _ (AG λJ o=>AT (Br 8 (by kernel_rfl) (by kernel_rfl) (by rfl) ?_)));iterate 2 refine yq tb rfl ?_
  refine bs a λC p a=>yz (Dc C) (By BU AA AA p (Ai _) rfl) rfl ?_;iterate 3 refine yq tb rfl ?_
  refine bs a λd q a=>BV (v:=(Bc d)) AI (hb 77) (Wb q) rfl AA AA (yq tb AA (Aw ?_));refine BF (m:=2) (l:=[d,AE.mk e f g]) (enc:=Ar) AI BU (by decide) rfl AA (by simp only[List.map,Ai];rfl) rfl AA AA ?_;exact zz (.agg [i64 13,i64 0,ow 2 0 [d,AE.mk e f g]]) (DC PG PA DE AA AA) rfl (AR (Wk.BL (L:=[(0,Gc p0),(2,i64 p2),(6,BI),(7,CT),(8,i64 t),(26,.agg [i64 13,i64 0,ls Ar [d,AE.mk e f g]])]) (st':=[fS,N0 e f g,CE]) (id:=2) rfl qC (AD Ad) ⟨.rfl,.rfl,.rfl,.rfl,.rfl,.agg ⟨.rfl,.rfl,.HT AA,lU⟩,lU⟩ AA) (Am AI BE AA AA AA AA AA AA pj rfl (dn o AA (AH AA (zm tb 3 AA (AF (xi (Sh.w (t-1),13,0,[d,AE.mk e f g]) a (AS [0,1] AA (by decide) rfl AA (.raw AA AA (.raw AA AA .nil)) (.same AA)))))))))
 ·exact Az (B e f g (Sh.AB a).symm _ (AJ AA))
theorem Sn {N:Nat}{p0:AP}{p1:AE}{p2:Int}{r:AE}(h0:IH N p0 p1 p2=some r):Ab Tryz.prog 68 [Hs p0,Bc p1,i64 p2] [] (λv st=>v=(Bc r)/\st=[]):=by
 unfold IH at h0;refine Ci AA (ai Tryz.func68 AA AA AA AA (sr AA λK1 Y=>Bd (m:=0) AI AA AA AA AA AA (Bd (m:=1) AI AA AA AA AA AA (Av (m:=2) AI DE AA AA (dn Y AA (AG λK2 Z=>?_))))));obtain⟨o3,a,h0⟩:=Sh.Bg h0;have W:∀(_:Unit),o3=Sum.inr ()->∀s,Wk 0 s ⟨106,Aa [(4,BI),(6,CT)],YZ p1 []⟩->K2 s:=by
  intro _ hq s h;subst o3;refine Z _ (AK h (sr AA λK4 b0=>zq tb AA (Am AI BE AA AA AA AA AA AA pj rfl (dn b0 AA ?_))));obtain rfl:=Sh.AB h0;exact Ao (Exists.intro _ (And.intro (Wk.refl _ _) (As (x:=.tmp 6) (off:=0) (cs:=(FM p1)) (vs:=(FM p1)) BE AA AA AA pj rfl _ AA)))
 refine zr tb AA AA (AT (AG λK6 b1=>bs a λo8 b a=>?_));have X:∀(t7:Bool),o8=t7->∀s,Wk 0 s ⟨106,Aa (dg p2 [(8,i64 p1.op),(9,.bool t7)]),((Cy p0.decls p0.funcs)::YZ p1 [])⟩->K6 s:=by
  intro t7 hq s h;subst o8;refine b1 _ (AK h ?_);refine ci a AA ?_ ?_<;>clear a<;>intro b9 a
  ·refine AG λb2 t=>bs a λu b a=>?_;have w:∀(i:Bool),u=i->∀s,Wk 0 s ⟨106,Aa [(4,BI),(6,CT),(27,.bool i)],YZ p1 []⟩->b2 s:=by
    intro i hq s h;subst u;refine t _ (AK h ?_);refine ci a AA ?_ ?_<;>clear a<;>intro c4 a
    ·refine AG λc5 y=>Br 15 (by kernel_rfl) (by kernel_rfl) (by rfl) ?_;iterate 4 refine yq tb rfl ?_
     refine bs a λb3 z a=>yz (Dc b3) (By BU AA AA z (Ai _) rfl) rfl ?_;iterate 4 refine yq tb rfl ?_
     refine bs a λb4 A a=>yz (Dc b4) (By BU AA AA A (Ai _) rfl) rfl ?_;iterate 2 refine yq tb rfl ?_
     refine bs a λf B a=>BV (v:=(i64 f)) AI (hb 105) (XQ B) rfl AA AA ?_;refine GA (l:=([]:List AE)) (enc:=Ar) AI BU (by decide) rfl AA AA (by simp only[List.map,Ai];rfl) rfl (AD Ad) ?_;refine yz (.agg [i64 0,i64 f,Rf]) (DC PG PA DE AA AA) rfl (Aw (Am AI BE AA AA AA AA AA AA pj rfl (dn y AA ?_)));obtain rfl:=Sh.AB a;obtain rfl:=Sh.AB h0;exact Ao (Exists.intro _ (And.intro (Wk.refl _ _) (As (x:=.tmp 6) (off:=0) (cs:=[i64 0,i64 f,Rf]) (vs:=[i64 0,i64 f,Rf]) BE AA AA AA pj rfl _ AA)))
    ·exact AL (W () (Sh.AB a).symm _ (AJ AA))
   refine AH AA (zm tb 2 AA (bs b λb5 C b=>zz (Dc b5) (By BU AA AA C (Ai _) rfl) rfl (zm tb 4 AA ?_)));rcases Sh.Aj b with ⟨c,b⟩|⟨c,b⟩
   ·refine zg tb c AA (zg tb c AA (bs b λD E b=>Ba (v:=(Dc D)) (CS AA AA c) rfl (By BU AA AA E (Ai _) rfl) ?_));iterate 3 refine zg tb c rfl ?_
    exact zt c AA (AF (w (decide (D.op=0)) (Sh.AB b).symm _ (AS [1,2] AA (by decide) rfl AA (.raw AA AA (.raw AA AA .nil)) (.same AA))))
   ·refine zs c AA ?_;iterate 5 refine zs c rfl ?_
    exact zf c AA (AF (w false (Sh.AB b).symm _ (AS [1,2] AA (by decide) rfl AA (.raw AA AA (.raw AA AA .nil)) (.same AA))))
  ·refine zr tb AA AA ?_;refine ci a AA ?_ ?_<;>clear a<;>intro c6 a
   ·refine AG λc7 F=>AG λb6 G=>bs a λH b a=>?_;have I:∀(j:Bool),H=j->∀s,Wk 0 s ⟨106,Aa [(4,BI),(6,CT),(58,.bool j)],YZ p1 []⟩->b6 s:=by
     intro j hq s h;subst H;refine G _ (AK h ?_);refine ci a AA ?_ ?_<;>clear a<;>intro c8 a
     ·refine sr AA λc9 J=>zm tb 2 AA (bs a λk K a=>zz (Dc k) (By BU AA AA K (Ai _) rfl) rfl (zq tb AA (Am AI BE AA AA AA AA AA AA pj rfl (dn J AA ?_))));obtain rfl:=Sh.AB a;obtain rfl:=Sh.AB h0;exact Ao (Exists.intro _ (And.intro (Wk.refl _ _) (As (x:=.tmp 6) (off:=0) (cs:=(FM k)) (vs:=(FM k)) BE AA AA AA pj rfl _ AA)))
     ·refine AL (F _ (sr AA λd0 M=>zm tb 2 AA (bs a λb7 O a=>zz (Dc b7) (By BU AA AA O (Ai _) rfl) rfl (zm tb 3 AA (dn M AA ?_)))));refine ci a AA ?_ ?_<;>clear a<;>intro d1 a
      ·refine sr AA λd2 P=>zm tb 2 AA (bs a λn Q a=>zz (Dc n) (By BU AA AA Q (Ai _) rfl) rfl (zq tb AA (Am AI BE AA AA AA AA AA AA pj rfl (dn P AA ?_))));obtain rfl:=Sh.AB a;obtain rfl:=Sh.AB h0;exact Ao (Exists.intro _ (And.intro (Wk.refl _ _) (As (x:=.tmp 6) (off:=0) (cs:=(FM n)) (vs:=(FM n)) BE AA AA AA pj rfl _ AA)))
      ·exact AL (W () (Sh.AB a).symm _ (AJ AA))
    refine AH AA (zm tb 2 AA (bs b λo g b=>zz (Dc o) (By BU AA AA g (Ai _) rfl) rfl (zm tb 4 AA ?_)));rcases Sh.Aj b with ⟨d,b⟩|⟨d,b⟩
    ·refine zg tb d AA (zg tb d AA (Ba (v:=(Dc o)) (CS AA AA d) rfl (By BU AA AA g (Ai _) rfl) ?_));iterate 3 refine zg tb d rfl ?_
     exact zt d AA (AF (I (!decide (o.num=0)) (Sh.AB b).symm _ (AS [1,2] AA (by decide) rfl AA (.raw AA AA (.raw AA AA .nil)) (.same AA))))
    ·refine zs d AA ?_;iterate 5 refine zs d rfl ?_
     exact zf d AA (AF (I false (Sh.AB b).symm _ (AS [1,2] AA (by decide) rfl AA (.raw AA AA (.raw AA AA .nil)) (.same AA))))
   ·refine zr tb AA AA ?_;refine ci a AA ?_ ?_<;>clear a<;>intro d3 a
    ·refine sr AA λd4 R=>zm tb 2 AA (bs a λp e a=>zz (Dc p) (By BU AA AA e (Ai _) rfl) rfl (zm tb 3 AA (dn R AA ?_)));refine ci a AA ?_ ?_<;>clear a<;>intro d5 a
     ·refine AG λd6 S=>Br 24 (by kernel_rfl) (by kernel_rfl) (by rfl) ?_;iterate 2 refine yq tb rfl ?_
      refine yz (Dc p) (By BU AA AA e (Ai _) rfl) rfl ?_;iterate 6 refine yq tb rfl ?_
      refine yz (Dc p) (By BU AA AA e (Ai _) rfl) rfl ?_;iterate 8 refine yq tb rfl ?_
      refine bs a λb8 T a=>BV (v:=(i64 b8)) AI (hb 106) (I8 T) rfl AA AA (yq tb AA (bs a λc0 U a=>yz (Dc c0) (By BU AA AA U (Ai _) rfl) rfl ?_));iterate 2 refine yq tb rfl ?_
      refine bs a λq V a=>BV (v:=(Bc q)) AI (hb 76) (Xc V) rfl AA AA (Aw (Am AI BE AA AA AA AA AA AA pj rfl (dn S AA ?_)));obtain rfl:=Sh.AB a;obtain rfl:=Sh.AB h0;exact Ao (Exists.intro _ (And.intro (Wk.refl _ _) (As (x:=.tmp 6) (off:=0) (cs:=(FM q)) (vs:=(FM q)) BE AA AA AA pj rfl _ AA)))
     ·exact AL (W () (Sh.AB a).symm _ (AS [1,2] AA (by decide) rfl AA (.raw AA AA (.raw AA AA .nil)) (.same AA)))
    ·exact AL (W () (Sh.AB a).symm _ (AS [1,2] AA (by decide) rfl AA (.raw AA AA (.raw AA AA .nil)) (.same AA)))
 refine zr tb AA AA ?_;refine ci b AA ?_ ?_<;>clear b<;>intro c1 b
 ·exact AL (X true (Sh.AB b).symm _ (Af (L:=(dg p2 [(8,i64 p1.op),(9,.bool true)])) ⟨.rfl,.rfl,.rfl,.rfl,.rfl,.of (mc AV.bool c1),lU⟩))
 ·refine zr tb AA AA ?_;refine ci b AA ?_ ?_<;>clear b<;>intro c2 b
  ·exact AL (X true (Sh.AB b).symm _ (Af (L:=(dg p2 [(8,i64 p1.op),(9,.bool true)])) ⟨.rfl,.rfl,.rfl,.rfl,.rfl,.of (mc AV.bool c2),lU⟩))
  ·refine zr tb AA AA ?_;refine ci b AA ?_ ?_<;>clear b<;>intro c3 b
   ·exact AL (X true (Sh.AB b).symm _ (Af (L:=(dg p2 [(8,i64 p1.op),(9,.bool true)])) ⟨.rfl,.rfl,.rfl,.rfl,.rfl,.of (mc AV.bool c3),lU⟩))
   ·exact AH AA (zm tb 2 AA (AF (X (decide (p1.op=4)) (Sh.AB b).symm _ (AJ AA))))
theorem Up {N:Nat}{rD:AP->AE->Int->Option (AE)}(td :∀{p0:AP} {p1:AE} {p2:Int} {r:AE},rD p0 p1 p2=some r->Ab Tryz.prog 37 [Hs p0,Bc p1,i64 p2] [] (λv st=>v=(Bc r)/\st=[])){p0:AP}{p1:AE}{p2:Int}{r:AE}(h0:L8 N rD p0 p1 p2=some r):Ab Tryz.prog 37 [Hs p0,Bc p1,i64 p2] [] (λv st=>v=(Bc r)/\st=[]):=by
 unfold L8 at h0;refine Ci AA (ai Tryz.func37 AA AA AA AA (sr AA λO u=>Bd (m:=0) AI AA AA AA AA AA (Bd (m:=1) AI AA AA AA AA AA (Av (m:=2) AI DE AA AA (dn u AA (sr AA λP y=>?_))))));refine BF (m:=3) (l:=([]:List AE)) (enc:=Ar) AI BU (by decide) rfl AA (by simp only[List.map,Ai];rfl) rfl AA AA ?_;refine zq tb AA (dn y AA (AG λF z=>zr tb AA AA (bs h0 λA a h0=>?_)));have G:∀(e:(List AE)),A=e->∀s,Wk 0 s ⟨41,Aa (dg p2 [(7,ow 3 0 e)]),((Cy p0.decls p0.funcs)::YZ p1 [Gg e])⟩->F s:=by
  intro e Q s H;subst A;refine z _ (AK H (sr AA λR B=>zm tb 6 AA (zz (.agg [i64 p1.op,i64 p1.num,ow 3 0 e]) (DC PG PA DE AA AA) rfl (zq tb AA (AR (Wk.BL (L:=[(6,CY),(32,Hs p0),(38,.agg [i64 p1.op,i64 p1.num,Gc e]),(39,i64 p2)]) (st':=((Cy p0.decls p0.funcs)::YZ p1 [CE])) (id:=3) rfl (show 0<=3 by decide) (AD Ad) ⟨.rfl,.rfl,.agg ⟨.rfl,.rfl,.HT AA,lU⟩,.rfl,lU⟩ AA) (bs h0 λb f h0=>zc (v':=(Bc b)) (hb 68) (Sn f) rfl AA AA (Am AI BE AA AA AA AA AA AA pj rfl (dn B AA ?_))))))));obtain rfl:=Sh.AB h0;exact Ao (Exists.intro _ (And.intro (Wk.refl _ _) (As (x:=.tmp 6) (off:=0) (cs:=(FM b)) (vs:=(FM b)) BE AA AA AA pj rfl _ AA)))
 refine AT (Ax (σ:=Int×(List AE)) (λn v=>Fa N p0 p1 p2 rD n v.1 v.2=some A) (λ(q,t)=>⟨41,Aa [(2,i64 p2),(3,.ptr 0 0 0 0),(4,.ptr 1 0 0 0),(6,.ptr 2 0 0 0),(7,ow 3 0 t),(8,i64 q)],[Cy p0.decls p0.funcs,N0 p1.op p1.num p1.kids,fS,ro 0 35 3 Ar t]⟩) N (0,[]) a (AJ AA) (λ_ E=>by rw[Fa]at E;cases E) ?_);rintro n ⟨q,t⟩ a;rw[Fa]at a;refine AG λI g=>sr AA λJ h=>zm tb 3 AA (zl tb AA AA (zq tb AA (dn h AA ?_)));refine ci a AA ?_ ?_<;>clear a<;>intro K a
 ·refine AL (g _ (AG λM i=>AT (Br 14 (by kernel_rfl) (by kernel_rfl) (by rfl) ?_)));iterate 5 refine yq tb rfl ?_
  refine bs a λC j a=>yz (Dc C) (By BU AA AA j (Ai _) rfl) rfl ?_;iterate 5 refine yq tb rfl ?_
  refine bs a λD k a=>BV (v:=(i64 D)) AI (hb 67) (Tz k) rfl AA AA (bs a λc o a=>BV (v:=(Bc c)) AI (hb 37) (td o) rfl AA AA ?_);refine GA (l:=[c]) (enc:=Ar) AI BU (by decide) rfl AA AA (by simp only[List.map,Ai];rfl) rfl (AD Ad) ?_;exact Aw (bs a λd p a=>Cz (l2:=[c]) AI BU AA AA AA AA L5 DU p AA (zq tb AA (dn i AA (AH AA (zm tb 3 AA (AF (xi (Sh.w (q+1),d) a (EN (L:=(dg p2 [(7,ow 3 0 d),(8,KW q)])) (st':=((Cy p0.decls p0.funcs)::YZ p1 [Gg d])) (.raw AA AA (.raw AA AA (.raw AA AA (.pure (AD Ad) .nil)))) (.same AA)))))))))
 ·exact Az (G t (Sh.AB a).symm _ (AJ AA))
theorem Uv {N:Nat}:∀(n:Nat),∀{p0:AP} {p1:AE} {p2:Int} {r:AE},Gr N n p0 p1 p2=some r->Ab Tryz.prog 37 [Hs p0,Bc p1,i64 p2] [] (λv st=>v=(Bc r)/\st=[]):=by
 intro n
 induction n with
 | zero=>intro p0 p1 p2 r a;cases a
 | succ n ih=>
  intro p0 p1 p2 r a;rw[Gr]at a;exact Up (λh=>ih h) a
theorem XF {N:Nat}:∀{p0:AP} {p1:AE} {p2:Int} {r:AE},Rp N p0 p1 p2=some r->Ab Tryz.prog 37 [Hs p0,Bc p1,i64 p2] [] (λv st=>v=(Bc r)/\st=[]):=by
 intro p0 p1 p2 r a;exact Uv N a
theorem Ra {N:Nat}{p0:(List AN)}{r:(List AN)}(h0:Ii N p0=some r):Ab Tryz.prog 61 [Cu p0] [] (λv st=>v=(ow 0 0 r)/\st=[Il r]):=by
 unfold Ii at h0;refine ai Tryz.func61 AA AA AA AA (zr tb AA AA (sr AA λK2 K=>BF (m:=0) (l:=([]:List AN)) (enc:=Ak) AI DI (by decide) rfl AA AA AA AA AA (zq tb AA (dn K AA (AG λT M=>zr tb AA AA (bs h0 λO c h0=>?_))))));have U:∀(t:(List AN)),O=t->∀s,Wk 0 s ⟨55,Aa [(3,ow 0 0 t)],[Il t]⟩->T s:=by
  intro t V s P;subst O;refine M _ (AK P (zr tb AA AA ?_));obtain rfl:=Sh.AB h0;exact rt [(2,ow 0 0 t)]
 refine AT (Ax (σ:=Int×(List AN)) (λn v=>Es N p0 n v.1 v.2=some O) (λ(i,d)=>⟨55,Aa [(0,ls Ak p0),(3,ow 0 0 d),(4,i64 i)],[ro 0 80 3 Ak d]⟩) N (0,[]) c (AJ AA) (λ_ u=>by rw[Es]at u;cases u) ?_);rintro n ⟨i,d⟩ c;rw[Es]at c;refine AG λW y=>sr AA λX z=>zm tb 2 AA (zl tb AA AA (zq tb AA (dn z AA ?_)));refine ci c AA ?_ ?_<;>clear c<;>intro Y c
 ·refine AL (y _ (AG λZ A=>AT (sr AA λb0 B=>BF (m:=1) (l:=([]:List De)) (enc:=CD) AI I7 (by decide) rfl AA AA AA AA AA (zq tb AA (dn B AA (AG λQ C=>zr tb AA AA (bs c λo a c=>?_)))))));have R:∀(b:(List De)),o=b->∀s,Wk 0 s ⟨55,Aa [(0,Cu p0),(3,ow 0 0 d),(4,i64 i),(5,ow 1 0 b)],[Il d,ro 0 82 1 CD b]⟩->Q s:=by
   intro b V s P;subst o;refine C _ (AK P (AK (Wk.BL (L:=[(0,Cu p0),(3,ow 0 0 d),(4,i64 i),(5,ls CD b)]) (st':=[Il d,L6]) (id:=1) rfl qD (AD λ_=>AA) ⟨.rfl,.rfl,.rfl,.BL AA,lU⟩ AA) (Br 14 (by kernel_rfl) (by kernel_rfl) (by rfl) ?_)));iterate 3 refine yq tb rfl ?_
   refine bs c λe j c=>yx DI j AA AA AA ?_;iterate 4 refine yq tb rfl ?_
   refine yx DI j AA AA AA ?_;iterate 3 refine yq tb rfl ?_
   refine yz (.agg [i64 e.from_,i64 e.to,ls CD b]) (DC Lz L0 Gw AA AA) rfl (GA (l:=[AN.mk e.from_ e.to b]) (enc:=Ak) AI DI (by decide) rfl AA AA AA AA (AD λ_=>AA) (Aw (bs c λp D c=>Cz (l2:=[AN.mk e.from_ e.to b]) AI DI AA AA AA AA L5 (λ_=>AA) D AA (zq tb AA (dn A AA (AH AA (zm tb 3 AA ?_)))))));exact AF (xi (Sh.w (i+1),p) c (by refine Wk.trans (EN (L:=[(0,Cu p0),(3,ow 0 0 p),(4,KW i)]) (st':=[Il p,⟨0,82,1,[]⟩]) (.pure (AD λ_=>AA) (.pure (by intro x S;cases S) .nil)) (.same AA)) ?_;exact AS [0] AA (by decide) rfl AA (.pure (AD λ_=>AA) .nil) (.same AA)))
  refine AT (Ax (σ:=Int×(List De)) (λn v=>EE i p0 n v.1 v.2=some o) (λ(h,f)=>⟨55,Aa [(0,ls Ak p0),(3,ow 0 0 d),(4,i64 i),(5,ow 1 0 f),(6,i64 h)],[ro 0 80 3 Ak d,ro 0 82 1 CD f]⟩) N (0,[]) a (AJ AA) (λ_ u=>by rw[EE]at u;cases u) ?_);rintro n ⟨h,f⟩ a;rw[EE]at a;refine AG λb1 E=>sr AA λb2 F=>zm tb 3 AA (bs a λb3 k a=>zx DI k AA AA AA (zm tb 2 AA (zl tb AA AA (zq tb AA (dn F AA ?_)))));refine ci a AA ?_ ?_<;>clear a<;>intro b4 a
  ·refine AL (E _ (AG λb5 G=>AT (AH AA (zm tb 3 AA (zx DI k AA AA AA (zm tb 3 AA (bs a λb6 H a=>zx I7 H AA AA AA (zm tb 2 AA (bs a λg I a=>CH (v':=(ow 2 0 g)) AI (hb 62) (Kd I) rfl AA ⟨(CL λ_=>AA),lU⟩ AA AA (zz (.agg [ow 2 0 g]) (DC fY fh Q1 AA AA) rfl (AR (Wk.BL (L:=[(0,Cu p0),(3,ow 0 0 d),(4,i64 i),(6,i64 h),(25,ow 1 0 f),(36,.agg [ls eI g])]) (st':=[Il d,ro 0 82 1 CD f,⟨1,3,1,[]⟩]) (id:=2) rfl qC (AD λ_=>AA) ⟨.rfl,.rfl,.rfl,.rfl,.rfl,.agg ⟨.HT AA,lU⟩,lU⟩ AA) (BF (m:=3) (l:=[De.mk g]) (enc:=CD) AI I7 (by decide) rfl AA AA AA AA AA (bs a λq J a=>Cz (l2:=[De.mk g]) AI I7 AA AA AA AA (HI AA AA) (λ_=>AA) J AA (zq tb AA (dn G AA (AH AA (zm tb 3 AA ?_)))))))))))))))));exact AF (xi (Sh.w (h+1),q) a (by refine Wk.trans (EN (L:=[(0,Cu p0),(3,ow 0 0 d),(4,i64 i),(5,ow 1 0 q),(6,KW h)]) (st':=[Il d,ro 0 82 1 CD q,⟨0,3,1,[]⟩,ro 0 82 1 CD [De.mk g]]) (.pure (AD λ_=>AA) (.pure (AD λ_=>AA) (.pure (by intro x S;cases S) (.pure (AD λ_=>AA) .nil)))) (.same AA)) ?_;exact AS [0,1] AA (by decide) rfl AA (.pure (AD λ_=>AA) (.pure (AD λ_=>AA) .nil)) (.same AA)))
  ·exact Az (R f (Sh.AB a).symm _ (AJ AA))
 ·exact Az (U d (Sh.AB c).symm _ (AJ AA))
theorem Qm {N:Nat}{p0 r:AE}(h0:Hz N p0=some r):Ab Tryz.prog 63 [Bc p0] [] (λv st=>v=(Bc r)/\st=[]):=by
 unfold Hz at h0;refine Ci AA (ai Tryz.func63 AA AA AA AA (sr AA λe b=>Bd (m:=0) AI AA AA AA AA AA (Av (m:=1) AI DE AA AA (dn b AA (AG λf c=>Br 8 (by kernel_rfl) (by kernel_rfl) (by rfl) ?_)))));iterate 6 refine yq tb rfl ?_
 refine bs h0 λa d h0=>?_;refine BV (v:=(Gc a)) AI (hb 60) (Ab.wk (GJ d) (by refine Wk.trans (Wk.BL (L:=[(0,Gc a)]) (st':=[CE]) (id:=0) rfl pn (AD Ad) ⟨.BL AA,lU⟩ AA) ?_;exact AS [] AA (by decide) rfl AA .nil (.same AA))) rfl AA AA ?_;refine yz (.agg [i64 p0.op,i64 p0.num,Gc a]) (DC PG PA DE AA AA) rfl (Aw (Am AI BE AA AA AA AA AA AA pj rfl (dn c AA ?_)));obtain rfl:=Sh.AB h0;exact Ao (Exists.intro _ (And.intro (Wk.refl _ _) (As (x:=.tmp 2) (off:=0) (cs:=[i64 p0.op,i64 p0.num,Gc a]) (vs:=[i64 p0.op,i64 p0.num,Gc a]) BE AA AA AA pj rfl _ AA)))
theorem Qw {N:Nat}{p0:AP}{p1:(List AE)}{r:AP×Bool}(h0:IE N p0 p1=some r):Ab Tryz.prog 31 [Hs p0,Gc p1] [] (λv st=>v=(.Dd [.agg (Pp r.1.decls r.1.funcs),.bool r.2])/\st=[]):=by
 unfold IE at h0;refine Ci AA (ai Tryz.func31 AA AA AA AA (sr AA λK1 F=>Bd (m:=0) AI AA AA AA AA AA (Av (m:=1) AI JV AA AA (zq tb AA (dn F AA (sr AA λK2 G=>zm tb 2 AA (bs h0 λb H h0=>CH (v':=(ow 2 0 b)) AI (hb 61) (Ra H) rfl AA ⟨(CL λ_=>AA),lU⟩ AA AA (BF (m:=3) (l:=([]:List Ac)) (enc:=BO) AI Ct (by decide) rfl AA AA AA AA AA (zz (.agg [ow 2 0 b,.own 3 0 (List.length ([]:List Ac))]) (DC WO WH JV AA AA) rfl (Av (m:=4) AI JV AA AA (AR (Wk.BL (L:=[(1,Gc p1),(2,BI),(4,CT),(6,Ls),(12,.agg [Cu b,.own 3 0 (List.length ([]:List Ac))])]) (st':=[Cy p0.decls p0.funcs,G2,Ng,ro 0 37 5 BO ([]:List Ac),G2]) (id:=2) rfl qC (AD λ_=>AA) ⟨.rfl,.rfl,.rfl,.rfl,.agg ⟨.HT AA,.rfl,lU⟩,lU⟩ AA) (Am AI EM AA AA AA AA AA AA pk rfl (dn G AA (AG λM I=>zr tb AA AA ?_))))))))))))));obtain⟨J,a,h0⟩:=Sh.Bg h0;have O:∀(e:(List Ac)),J=Sum.inr e->∀s,Wk 0 s ⟨52,Aa [(4,BI),(6,CY)],(G2::Jm e b [])⟩->M s:=by
  intro e hq s P;subst J;refine I _ (AK P (sr AA λQ j=>zq tb AA (AR (Wk.BL (L:=[(4,BI),(51,.agg (Pp b e))]) (st':=[G2,⟨1,37,5,[]⟩,cB b e]) (id:=1) rfl qD (AD λ_=>AA) ⟨.rfl,.agg ⟨.rfl,.HT AA,lU⟩,lU⟩ AA) (Am AI EM AA AA AA AA AA AA pk rfl (zq tb AA (dn j AA ?_))))));obtain rfl:=Sh.AB h0;exact Ao (Exists.intro _ (And.intro ((AS (L:=[(4,BI),(5,.bool true)]) (st':=[Cy b e]) [0] AA (by decide) rfl AA (.raw AA AA .nil) ⟨.rfl,.rfl,lU⟩).trans (Af (L:=[(4,BI),(5,.bool true)]) ⟨.rfl,.rfl,lU⟩)) (As (x:=.tmp 4) (off:=0) (cs:=(Pp b e)) (vs:=(Pp b e)) EM AA AA AA pk rfl _ AA)))
 refine AT (Ax (σ:=Int×(List Ac)) (λn v=>Dz N p0 p1 n v.1 v.2=some J) (λ(E,f)=>⟨52,Aa [(1,ls Ar p1),(2,.ptr 0 0 0 0),(4,.ptr 1 0 0 0),(6,.ptr 3 0 0 0),(7,i64 E)],[Cy p0.decls p0.funcs,G2,ro 0 37 5 BO f,⟨0,26,2,[[ls Ak b,ow 2 0 f]]⟩]⟩) N (0,[]) a (Bq (L:=[(1,ls Ar p1),(2,.ptr 0 0 0 0),(4,.ptr 1 0 0 0),(6,.ptr 3 0 0 0),(7,i64 0)]) (st':=[Cy p0.decls p0.funcs,G2,ro 0 37 5 BO ([]:List Ac),⟨0,26,2,[[ls Ak b,.own 2 0 (List.length ([]:List Ac))]]⟩]) (st1:=[Cy p0.decls p0.funcs,G2,ro 0 37 5 BO ([]:List Ac),⟨0,26,2,[[ls Ak b,.own 3 0 (List.length ([]:List Ac))]]⟩]) [0,1,3,4] AA .nil (by decide) rfl AA (.raw AA AA (.raw AA AA (.pure (AD λ_=>AA) (.raw AA AA .nil)))) (.same AA)) (λ_ K=>by rw[Dz]at K;cases K) ?_);rintro n ⟨E,f⟩ a;rw[Dz]at a;refine AG λR k=>sr AA λS o=>zm tb 3 AA (zl tb AA AA (zq tb AA (dn o AA ?_)));refine ci a AA ?_ ?_<;>clear a<;>intro T a
 ·refine AL (k _ (AG λU p=>AT (AG λV q=>sr AA λW t=>zm tb 2 AA (bs a λu g a=>zz (Dc u) (By BU AA AA g (Ai _) rfl) rfl (zq tb AA (bs a λX y a=>zc (hb 58) (Jb y) rfl AA AA (zq tb AA (dn t AA ?_))))))));refine ci a AA ?_ ?_<;>clear a<;>intro Y a
  ·refine sr AA λZ z=>zz (.agg [.zc,.zc]) (DC WO WH JV AA AA) rfl (Am AI EM AA AA AA AA AA AA pk rfl (zq tb AA (dn z AA ?_)));obtain rfl:=Sh.AB a;obtain rfl:=Sh.AB h0;exact Ao (Exists.intro _ (And.intro ((((Gq (id:=1) (cs:=[.zc,.zc]) (cs':=Yp) (st':=((Cy p0.decls p0.funcs)::⟨0,26,2,[Yp]⟩::fR f b [])) rfl ⟨le.zc,le.rfl,lU⟩ AA AA).trans (Gq (id:=1) (cs:=Yp) (cs':=RS) (st':=((Cy p0.decls p0.funcs)::⟨0,26,2,[RS]⟩::fR f b [])) rfl ⟨le.rfl,le.zc,lU⟩ AA AA)).trans (AS (L:=[(4,BI),(5,.bool false)]) (st':=[⟨0,26,2,[RS]⟩]) [1] AA (by decide) rfl AA (.raw AA AA .nil) ⟨.rfl,.rfl,lU⟩)).trans (Af (L:=[(4,BI),(5,.bool false)]) ⟨.rfl,.rfl,lU⟩)) (As (x:=.tmp 4) (off:=0) (cs:=RS) (vs:=RS) EM AA AA AA pk rfl _ AA)))
  ·refine AL (q _ (Br 22 (by kernel_rfl) (by kernel_rfl) (by rfl) ?_));iterate 5 refine yq tb rfl ?_
   refine bs a λi h a=>yx Ct h AA AA AA ?_;iterate 2 refine yq tb rfl ?_
   refine bs a λd A a=>?_;refine BV (v:=(ls eI d)) AI (hb 62) (Ab.wk (Kd A) (by refine Wk.trans (Wk.BL (L:=[(0,ls eI d)]) (st':=Rk) (id:=0) rfl pn (AD λ_=>AA) ⟨.BL AA,lU⟩ AA) ?_;exact AS [] AA (by decide) rfl AA .nil (.same AA))) rfl AA AA ?_;iterate 3 refine yq tb rfl ?_
   refine yx Ct h AA AA AA ?_;iterate 4 refine yq tb rfl ?_
   exact yz (Dc u) (By BU AA AA g (Ai _) rfl) rfl (yq tb AA (bs a λc B a=>BV (v:=(Bc c)) AI (hb 63) (Qm B) rfl AA AA (yz (.agg [ls eI d,i64 i.result,i64 c.op,i64 c.num,ls Ar c.kids]) (DC UY UK L4 AA AA) rfl (GA (l:=[Ac.mk d i.result c]) (enc:=BO) AI Ct (by decide) rfl AA AA AA AA (AD λ_=>AA) (Aw (bs a λC D a=>Cz (l2:=[Ac.mk d i.result c]) AI Ct AA AA AA AA L5 (λ_=>AA) D AA (zq tb AA (Am AI PF AA AA AA AA AA AA qF rfl (dn p AA (AH AA (zm tb 3 AA (AF (xi (Sh.w (E+1),C) a (EN (L:=[(1,Gc p1),(2,BI),(4,CT),(6,Hd),(7,KW E)]) (st':=((Cy p0.decls p0.funcs)::G2::fR C b [])) (.raw AA AA (.raw AA AA (.pure (AD λ_=>AA) (.raw AA AA .nil)))) (.same AA)))))))))))))))
 ·exact Az (O f (Sh.AB a).symm _ (Bq (L:=[(4,BI),(6,CY)]) (st':=(G2::Jm f b [])) (st1:=(G2::fR f b [])) [1,2,3] AA .nil (by decide) rfl AA (.raw AA AA (.pure (AD λ_=>AA) (.raw AA AA .nil))) (.same AA)))
theorem XZ {N:Nat}{p0:AP}{r:AP×Bool}(h0:KE N p0=some r):Ab Tryz.prog 15 [Hs p0] [] (λv st=>v=(.Dd [.agg (Pp r.1.decls r.1.funcs),.bool r.2])/\st=[]):=by
 unfold KE at h0;refine Ci AA (ai Tryz.func15 AA AA AA AA (sr AA λT z=>Bd (m:=0) AI AA AA AA AA AA (Av (m:=1) AI JV AA AA (zq tb AA (dn z AA (AG λU A=>sr AA λV B=>zq tb AA (bs h0 λH C h0=>zc (hb 29) (PK C) rfl AA AA (zq tb AA (dn B AA ?_)))))))));refine ci h0 AA ?_ ?_<;>clear h0<;>intro I h0
 ·have W:H=false:=by simpa using I
  refine sr AA λX D=>zz (.agg [.zc,.zc]) (DC WO WH JV AA AA) rfl (Am AI EM AA AA AA AA AA AA pk rfl (zq tb AA (dn D AA ?_)));obtain rfl:=Sh.AB h0;exact Ao (Exists.intro _ (And.intro ((((Gq (id:=1) (cs:=[.zc,.zc]) (cs':=Yp) (st':=[Cy p0.decls p0.funcs,⟨0,26,2,[Yp]⟩]) rfl ⟨le.zc,le.rfl,lU⟩ AA AA).trans (Gq (id:=1) (cs:=Yp) (cs':=RS) (st':=[Cy p0.decls p0.funcs,⟨0,26,2,[RS]⟩]) rfl ⟨le.rfl,le.zc,lU⟩ AA AA)).trans (AS (L:=[(2,BI),(3,.bool false)]) (st':=[⟨0,26,2,[RS]⟩]) [1] AA (by decide) rfl AA (.raw AA AA .nil) ⟨.rfl,.rfl,lU⟩)).trans (Af (L:=[(2,BI),(3,.bool false)]) ⟨.rfl,.rfl,lU⟩)) (As (x:=.tmp 2) (off:=0) (cs:=RS) (vs:=RS) EM AA AA AA pk rfl _ AA)))
 ·have Y:H=true:=by simpa using I
  refine AL (A _ (sr AA λZ E=>?_));refine BF (m:=2) (l:=([]:List AE)) (enc:=Ar) AI BU (by decide) rfl AA (by simp only[List.map,Ai];rfl) rfl AA AA ?_;refine zq tb AA (dn E AA (AG λF j=>zr tb AA AA (bs h0 λg b h0=>?_)));have G:∀(c:(List AE)),g=c->∀s,Wk 0 s ⟨41,Aa [(1,BI),(2,CT),(4,ow 2 0 c)],[Cy p0.decls p0.funcs,G2,Gg c]⟩->F s:=by
   intro c hq s K;subst g;refine j _ (AK K (sr AA λM k=>zm tb 2 AA (AR (Wk.BL (L:=[(2,CT),(36,Hs p0),(37,Gc c)]) (st':=[Cy p0.decls p0.funcs,G2,CE]) (id:=2) rfl qC (AD Ad) ⟨.rfl,.rfl,.BL AA,lU⟩ AA) (bs h0 λa o h0=>zc (v':=(.Dd [.agg (Pp a.1.decls a.1.funcs),.bool a.2])) (hb 31) (Qw o) rfl AA AA (zm tb 2 AA (Am AI EM AA AA AA AA AA AA pk rfl (zq tb AA (dn k AA ?_))))))));obtain rfl:=Sh.AB h0;exact Ao (Exists.intro _ (And.intro ((AS (L:=[(2,BI),(3,.bool a.2)]) (st':=[Cy a.1.decls a.1.funcs]) [1] AA (by decide) rfl AA (.raw AA AA .nil) ⟨.rfl,.rfl,lU⟩).trans (Af (L:=[(2,BI),(3,.bool a.2)]) ⟨.rfl,.rfl,lU⟩)) (As (x:=.tmp 2) (off:=0) (cs:=(Pp a.1.decls a.1.funcs)) (vs:=(Pp a.1.decls a.1.funcs)) EM AA AA AA pk rfl _ AA)))
  refine AT (Ax (σ:=Int×(List AE)) (λn v=>GS N p0 n v.1 v.2=some g) (λ(d,e)=>⟨41,Aa [(1,.ptr 0 0 0 0),(2,.ptr 1 0 0 0),(4,ow 2 0 e),(5,i64 d)],[Cy p0.decls p0.funcs,G2,ro 0 35 3 Ar e]⟩) N (0,[]) b (AJ AA) (λ_ J=>by rw[GS]at J;cases J) ?_);rintro n ⟨d,e⟩ b;rw[GS]at b;refine AG λO p=>sr AA λP q=>zm tb 3 AA (zl tb AA AA (zq tb AA (dn q AA ?_)));refine ci b AA ?_ ?_<;>clear b<;>intro Q b
  ·refine AL (p _ (AG λR t=>AT (Br 17 (by kernel_rfl) (by kernel_rfl) (by rfl) ?_)));iterate 5 refine yq tb rfl ?_
   refine bs b λS f b=>yx Ct f AA AA AA ?_;iterate 5 refine yq tb rfl ?_
   refine yx Ct f AA AA AA ?_;iterate 2 refine yq tb rfl ?_
   refine yl tb AA AA (bs b λh u b=>BV (v:=(Bc h)) AI (hb 37) (XF u) rfl AA AA ?_);refine GA (l:=[h]) (enc:=Ar) AI BU (by decide) rfl AA AA (by simp only[List.map,Ai];rfl) rfl (AD Ad) ?_;exact Aw (bs b λi y b=>Cz (l2:=[h]) AI BU AA AA AA AA L5 DU y AA (zq tb AA (dn t AA (AH AA (zm tb 3 AA (AF (xi (Sh.w (d+1),i) b (EN (L:=[(1,BI),(2,CT),(4,ow 2 0 i),(5,KW d)]) (st':=[Cy p0.decls p0.funcs,G2,Gg i]) (.raw AA AA (.raw AA AA (.pure (AD Ad) .nil))) (.same AA)))))))))
  ·exact Az (G e (Sh.AB b).symm _ (AJ AA))
theorem Mi {N:Nat}{p0:(List Int)}{p1:(List Int)}{r:Bool}(h0:HM N p0 p1=some r):Ab Tryz.prog 21 [ls eI p0,ls eI p1] [] (λv st=>v=(.bool r)/\st=[]):=by
 unfold HM at h0;refine ai Tryz.func21 AA AA AA AA (zr tb AA AA (AG λG m=>sr AA λH o=>zq tb AA (zl tb AA AA (zq tb AA (zl tb AA AA (zq tb AA (dn o AA ?_)))))));refine ci h0 AA ?_ ?_<;>clear h0<;>intro t h0
 ·have I:decide ((Sh.len p0)=(Sh.len p1))=false:=by simpa using t
  refine zr tb AA AA ?_;obtain rfl:=Sh.AB h0;exact rt [(4,.bool false)]
 ·have J:decide ((Sh.len p0)=(Sh.len p1))=true:=by simpa using t
  refine AL (m _ (AG λx p=>zr tb AA AA ?_));obtain⟨b,a,h0⟩:=Sh.Bg h0;have q:∀(_:Unit),b=Sum.inr ()->∀s,Wk 0 s ⟨26,Aa [],[]⟩->x s:=by
   intro _ K s y;subst b;refine p _ (AK y (zr tb AA AA ?_));obtain rfl:=Sh.AB h0;exact rt [(4,.bool true)]
  refine AT (Ax (σ:=Int) (λn v=>EK p0 p1 n v=some b) (λc=>⟨26,Aa [(0,ls eI p0),(1,ls eI p1),(5,i64 c)],[]⟩) N 0 a (AJ AA) (λ_ u=>by rw[EK]at u;cases u) ?_);rintro n c a;rw[EK]at a;refine AG λz d=>sr AA λA e=>zm tb 2 AA (zl tb AA AA (zq tb AA (dn e AA ?_)));refine ci a AA ?_ ?_<;>clear a<;>intro B a
  ·refine AL (d _ (AG λC f=>AT (AG λD g=>Ce (by kernel_rfl) (by kernel_rfl) (by rfl) ?_)));iterate 2 refine yq tb rfl ?_
   refine bs a λh i a=>yx BM i AA AA AA ?_;iterate 3 refine yq tb rfl ?_
   refine bs a λj k a=>yx BM k AA AA AA ?_;iterate 2 refine yq tb rfl ?_
   refine Aw (g _ ?_);refine ci a AA ?_ ?_<;>clear a<;>intro l a
   ·have E:decide (h=j)=false:=by simpa using l
    refine zr tb AA AA ?_;obtain rfl:=Sh.AB a;obtain rfl:=Sh.AB h0;exact rt [(4,.bool false)]
   ·have F:decide (h=j)=true:=by simpa using l
    exact AL (f _ (AH AA (zm tb 3 AA (AF (xi (Sh.w (c+1)) a (AJ AA))))))
  ·exact Az (q () (Sh.AB a).symm _ (AJ AA))
theorem Qv {N:Nat}{p0:(List AN)}{p1:(List AN)}{r:Bool}(h0:IM N p0 p1=some r):Ab Tryz.prog 32 [Cu p0,Cu p1] [] (λv st=>v=(.bool r)/\st=[]):=by
 unfold IM at h0;refine ai Tryz.func32 AA AA AA AA (zr tb AA AA (AG λK2 M=>sr AA λK3 O=>zq tb AA (zl tb AA AA (zq tb AA (zl tb AA AA (zq tb AA (dn O AA ?_)))))));refine ci h0 AA ?_ ?_<;>clear h0<;>intro U h0
 ·have b5:decide ((Sh.len p0)=(Sh.len p1))=false:=by simpa using U
  refine zr tb AA AA ?_;obtain rfl:=Sh.AB h0;exact rt [(4,.bool false)]
 ·have b7:decide ((Sh.len p0)=(Sh.len p1))=true:=by simpa using U
  refine AL (M _ (AG λW P=>zr tb AA AA ?_));obtain⟨k,d,h0⟩:=Sh.Bg h0;have Q:∀(_:Unit),k=Sum.inr ()->∀s,Wk 0 s ⟨87,Aa [],[]⟩->W s:=by
   intro _ V s t;subst k;refine P _ (AK t (zr tb AA AA ?_));obtain rfl:=Sh.AB h0;exact rt [(4,.bool true)]
  refine AT (Ax (σ:=Int) (λn v=>Dv N p0 p1 n v=some k) (λe=>⟨87,Aa [(0,ls Ak p0),(1,ls Ak p1),(5,i64 e)],[]⟩) N 0 d (AJ AA) (λ_ u=>by rw[Dv]at u;cases u) ?_);rintro n e d;rw[Dv]at d;refine AG λX x=>sr AA λY y=>zm tb 2 AA (zl tb AA AA (zq tb AA (dn y AA ?_)));refine ci d AA ?_ ?_<;>clear d<;>intro Z d
  ·refine AL (x _ (AG λR z=>AT (AG λb0 A=>AG λS B=>bs d λC a d=>?_)));have l:∀(m:Bool),C=m->∀s,Wk 0 s ⟨87,Aa [(0,Cu p0),(1,Cu p1),(5,i64 e),(56,.bool m)],[]⟩->S s:=by
    intro m V s t;subst C;refine B _ (AK t ?_);refine ci d AA ?_ ?_<;>clear d<;>intro b1 d
    ·refine zr tb AA AA ?_;obtain rfl:=Sh.AB d;obtain rfl:=Sh.AB h0;exact rt [(4,.bool false)]
    ·refine AL (A _ (zr tb AA AA ?_));obtain⟨o,a,d⟩:=Sh.Bg d;have T:∀(_:Unit),o=Sum.inr ()->∀s,Wk 0 s ⟨87,Aa [(0,Cu p0),(1,Cu p1),(5,i64 e)],[]⟩->R s:=by
      intro _ V s t;subst o;exact z _ (AK t (AH AA (zm tb 3 AA (AF (xi (Sh.w (e+1)) d (AJ AA))))))
     refine AT (Ax (σ:=Int) (λn v=>D2 N e p0 p1 n v=some o) (λp=>⟨87,Aa [(0,ls Ak p0),(1,ls Ak p1),(5,i64 e),(6,i64 p)],[]⟩) N 0 a (AJ AA) (λ_ u=>by rw[D2]at u;cases u) ?_);rintro n p a;rw[D2]at a;refine AG λb2 D=>sr AA λb3 E=>zm tb 3 AA (bs a λb6 j a=>zx DI j AA AA AA (zm tb 2 AA (zl tb AA AA (zq tb AA (dn E AA ?_)))));refine ci a AA ?_ ?_<;>clear a<;>intro b8 a
     ·refine AL (D _ (AG λb9 F=>AT (AG λc0 G=>Ce (by kernel_rfl) (by kernel_rfl) (by rfl) ?_)));iterate 2 refine yq tb rfl ?_
      refine yx DI j AA AA AA ?_;iterate 3 refine yq tb rfl ?_
      refine bs a λc1 H a=>yx I7 H AA AA AA ?_;iterate 4 refine yq tb rfl ?_
      refine bs a λc2 I a=>yx DI I AA AA AA ?_;iterate 3 refine yq tb rfl ?_
      refine bs a λc3 J a=>yx I7 J AA AA AA ?_;iterate 2 refine yq tb rfl ?_
      refine bs a λq K a=>BV (v:=(.bool q)) AI (hb 21) (Mi K) rfl AA AA (yq tb AA (Aw (G _ ?_)));refine ci a AA ?_ ?_<;>clear a<;>intro L a
      ·have c4:q=false:=by simpa using L
       refine zr tb AA AA ?_;obtain rfl:=Sh.AB a;obtain rfl:=Sh.AB d;obtain rfl:=Sh.AB h0;exact rt [(4,.bool false)]
      ·have c5:q=true:=by simpa using L
       exact AL (F _ (AH AA (zm tb 3 AA (AF (xi (Sh.w (p+1)) a (AJ AA))))))
     ·exact Az (T () (Sh.AB a).symm _ (AJ AA))
   refine Ce (by kernel_rfl) (by kernel_rfl) (by rfl) ?_;iterate 2 refine yq tb rfl ?_
   refine bs a λh f a=>yx DI f AA AA AA ?_;iterate 4 refine yq tb rfl ?_
   refine bs a λi g a=>yx DI g AA AA AA ?_;iterate 4 refine yq tb rfl ?_
   rcases Sh.Aj a with ⟨c,a⟩|⟨c,a⟩
   ·refine ys c AA ?_;iterate 10 refine ys c rfl ?_
    refine yt c AA (yq tb AA ?_);iterate 13 refine ys rfl rfl ?_
    exact yt AA AA (Aw (l true (Sh.AB a).symm _ (AJ AA)))
   ·refine yg tb c AA (yg tb c AA (IN (v:=(.Bn (Ak h) 0)) (CS AA AA c) rfl (Ch DI AA AA f AA) ?_));iterate 4 refine yg tb c rfl ?_
    refine IN (v:=(.Bn (Ak i) 0)) (CS AA AA c) rfl (Ch DI AA AA g AA) ?_;iterate 3 refine yg tb c rfl ?_
    refine yf c AA (yq tb AA ?_);rcases Sh.Aj a with ⟨b,a⟩|⟨b,a⟩
    ·refine ys b AA ?_;iterate 12 refine ys b rfl ?_
     exact yt b AA (Aw (l true (Sh.AB a).symm _ (AJ AA)))
    ·refine yg tb b AA (yg tb b AA (IN (v:=(.Bn (Ak h) 0)) (CS AA AA b) rfl (Ch DI AA AA f AA) ?_));iterate 2 refine yg tb b rfl ?_
     refine IN (v:=(i64 (Sh.len h.cons))) (CS AA AA b) rfl (Cd QB AA) ?_;iterate 2 refine yg tb b rfl ?_
     refine IN (v:=(.Bn (Ak i) 0)) (CS AA AA b) rfl (Ch DI AA AA g AA) ?_;iterate 2 refine yg tb b rfl ?_
     exact IN (v:=(i64 (Sh.len i.cons))) (CS AA AA b) rfl (Cd QB AA) (yg tb b AA (yf b AA (Aw (l (!decide ((Sh.len h.cons)=(Sh.len i.cons))) (Sh.AB a).symm _ (AJ AA)))))
  ·exact Az (Q () (Sh.AB d).symm _ (AJ AA))
theorem PY {N:Nat}{qq:AE->AE->Option (Bool)}(sQ :∀{p0:AE} {p1:AE} {r:Bool},qq p0 p1=some r->Ab Tryz.prog 33 [Bc p0,Bc p1] [] (λv st=>v=(.bool r)/\st=[])){p0 p1:AE}{r:Bool}(h0:I6 N qq p0 p1=some r):Ab Tryz.prog 33 [Bc p0,Bc p1] [] (λv st=>v=(.bool r)/\st=[]):=by
 unfold I6 at h0;refine ai Tryz.func33 AA AA AA AA (sr AA λR q=>Bd (m:=0) AI AA AA AA AA AA (Bd (m:=1) AI AA AA AA AA AA (zq tb AA (dn q AA (AG λS t=>AG λG u=>bs h0 λE a h0=>?_)))));have x:∀(y:Bool),E=y->∀s,Wk 0 s ⟨46,Aa [(2,BI),(3,CT),(26,.bool y)],[N0 p0.op p0.num p0.kids,N0 p1.op p1.num p1.kids]⟩->G s:=by
  intro y H s z;subst E;refine u _ (AK z ?_);refine ci h0 AA ?_ ?_<;>clear h0<;>intro T h0
  ·refine zr tb AA AA ?_;obtain rfl:=Sh.AB h0;exact rd [(4,.bool false)]
  ·refine AL (t _ (AG λI A=>zr tb AA AA ?_));obtain⟨d,a,h0⟩:=Sh.Bg h0;have B:∀(_:Unit),d=Sum.inr ()->∀s,Wk 0 s ⟨46,Aa [],[]⟩->I s:=by
    intro _ H s z;subst d;refine A _ (AK z (zr tb AA AA ?_));obtain rfl:=Sh.AB h0;exact rt [(4,.bool true)]
   refine AT (Ax (σ:=Int) (λn v=>Dl p0 p1 qq n v=some d) (λe=>⟨46,Aa [(2,.ptr 0 0 0 0),(3,.ptr 1 0 0 0),(5,i64 e)],[N0 p0.op p0.num p0.kids,N0 p1.op p1.num p1.kids]⟩) N 0 a (AJ AA) (λ_ F=>by rw[Dl]at F;cases F) ?_);rintro n e a;rw[Dl]at a;refine AG λJ g=>sr AA λK h=>zm tb 3 AA (zl tb AA AA (zq tb AA (dn h AA ?_)));refine ci a AA ?_ ?_<;>clear a<;>intro L a
   ·refine AL (g _ (AG λM i=>AT (AG λO j=>Ce (by kernel_rfl) (by kernel_rfl) (by rfl) ?_)));iterate 3 refine yq tb rfl ?_
    refine bs a λC k a=>yz (Dc C) (By BU AA AA k (Ai _) rfl) rfl ?_;iterate 4 refine yq tb rfl ?_
    refine bs a λD l a=>yz (Dc D) (By BU AA AA l (Ai _) rfl) rfl (yq tb AA (bs a λf o a=>BV (v:=(.bool f)) AI (hb 33) (sQ o) rfl AA AA (yq tb AA (Aw (j _ ?_)))));refine ci a AA ?_ ?_<;>clear a<;>intro p a
    ·have P:f=false:=by simpa using p
     refine zr tb AA AA ?_;obtain rfl:=Sh.AB a;obtain rfl:=Sh.AB h0;exact rd [(4,.bool false)]
    ·have Q:f=true:=by simpa using p
     exact AL (i _ (AH AA (zm tb 3 AA (AF (xi (Sh.w (e+1)) a (AJ AA))))))
   ·exact Az (B () (Sh.AB a).symm _ (Bt _ AA))
 refine AH AA (zm tb 6 AA ?_);rcases Sh.Aj a with ⟨c,a⟩|⟨c,a⟩
 ·refine zs c AA ?_;iterate 4 refine zs c rfl ?_
  refine zt c AA (zq tb AA ?_);iterate 7 refine zs rfl rfl ?_
  exact zt AA AA (AF (x true (Sh.AB a).symm _ (AJ AA)))
 ·refine zg tb c AA ?_;iterate 4 refine zg tb c rfl ?_
  refine zf c AA (zq tb AA ?_);rcases Sh.Aj a with ⟨b,a⟩|⟨b,a⟩
  ·refine zs b AA ?_;iterate 6 refine zs b rfl ?_
   exact zt b AA (AF (x true (Sh.AB a).symm _ (AJ AA)))
  ·exact zg tb b AA (zg tb b AA (Ba (v:=(ZF p0)) (CS AA AA b) rfl (Cd R9 AA) (zg tb b AA (zg tb b AA (Ba (v:=(ZF p1)) (CS AA AA b) rfl (Cd R9 AA) (zg tb b AA (zf b AA (AF (x (!decide ((Sh.len p0.kids)=(Sh.len p1.kids))) (Sh.AB a).symm _ (AJ AA))))))))))
theorem QI {N:Nat}:∀(n:Nat),∀{p0:AE} {p1:AE} {r:Bool},FB N n p0 p1=some r->Ab Tryz.prog 33 [Bc p0,Bc p1] [] (λv st=>v=(.bool r)/\st=[]):=by
 intro n
 induction n with
 | zero=>intro p0 p1 r a;cases a
 | succ n ih=>
  intro p0 p1 r a;rw[FB]at a;exact PY (λh=>ih h) a
theorem Rh {N:Nat}:∀{p0:AE} {p1:AE} {r:Bool},Lw N p0 p1=some r->Ab Tryz.prog 33 [Bc p0,Bc p1] [] (λv st=>v=(.bool r)/\st=[]):=by
 intro p0 p1 r a;exact QI N a
theorem Ku {N:Nat}{p0 p1:AP}{r:Bool}(h0:GI N p0 p1=some r):Ab Tryz.prog 11 [Hs p0,Hs p1] [] (λv st=>v=(.bool r)/\st=[]):=by
 unfold GI at h0;refine ai Tryz.func11 AA AA AA AA (sr AA λY D=>Bd (m:=0) AI AA AA AA AA AA (Bd (m:=1) AI AA AA AA AA AA (zq tb AA (dn D AA (AG λZ E=>AG λQ F=>bs h0 λL c h0=>?_)))));have M:∀(G:Bool),L=G->∀s,Wk 0 s ⟨73,Aa [(2,BI),(3,CT),(20,.bool G)],[Cy p0.decls p0.funcs,Cy p1.decls p1.funcs]⟩->Q s:=by
  intro G O s l;subst L;refine F _ (AK l ?_);refine ci h0 AA ?_ ?_<;>clear h0<;>intro b6 h0
  ·refine zr tb AA AA ?_;obtain rfl:=Sh.AB h0;exact rd [(4,.bool false)]
  ·refine AL (E _ (AG λR H=>zr tb AA AA ?_));obtain⟨i,c,h0⟩:=Sh.Bg h0;have I:∀(_:Unit),i=Sum.inr ()->∀s,Wk 0 s ⟨73,Aa [],[]⟩->R s:=by
    intro _ O s l;subst i;refine H _ (AK l (zr tb AA AA ?_));obtain rfl:=Sh.AB h0;exact rt [(4,.bool true)]
   refine AT (Ax (σ:=Int) (λn v=>DO N p0 p1 n v=some i) (λh=>⟨73,Aa [(2,.ptr 0 0 0 0),(3,.ptr 1 0 0 0),(5,i64 h)],[Cy p0.decls p0.funcs,Cy p1.decls p1.funcs]⟩) N 0 c (AJ AA) (λ_ P=>by rw[DO]at P;cases P) ?_);rintro n h c;rw[DO]at c;refine AG λS o=>sr AA λT p=>zm tb 3 AA (zl tb AA AA (zq tb AA (dn p AA ?_)));refine ci c AA ?_ ?_<;>clear c<;>intro U c
   ·refine AL (o _ (AG λV q=>AT (AG λJ t=>bs c λu e c=>?_)));have j:∀(k:Bool),u=k->∀s,Wk 0 s ⟨73,Aa [(2,BI),(3,CT),(5,i64 h),(72,.bool k)],[Cy p0.decls p0.funcs,Cy p1.decls p1.funcs]⟩->J s:=by
     intro k O s l;subst u;refine t _ (AK l ?_);refine ci c AA ?_ ?_<;>clear c<;>intro W c
     ·refine zr tb AA AA ?_;obtain rfl:=Sh.AB c;obtain rfl:=Sh.AB h0;exact rd [(4,.bool false)]
     ·exact AL (q _ (AH AA (zm tb 3 AA (AF (xi (Sh.w (h+1)) c (AJ AA))))))
    refine Ce (by kernel_rfl) (by kernel_rfl) (by rfl) ?_;iterate 3 refine yq tb rfl ?_
    refine bs e λx f e=>yx Ct f AA AA AA ?_;iterate 5 refine yq tb rfl ?_
    refine bs e λy g e=>yx Ct g AA AA AA ?_;iterate 2 refine yq tb rfl ?_
    refine bs e λK z e=>BV (v:=(.bool K)) AI (hb 21) (Mi z) rfl AA AA ?_;iterate 2 refine yq tb rfl ?_
    rcases Sh.Aj e with ⟨d,e⟩|⟨d,e⟩
    ·refine ys d AA ?_;iterate 12 refine ys d rfl ?_
     refine yt d AA (yq tb AA ?_);iterate 14 refine ys rfl rfl ?_
     exact yt AA AA (Aw (j true (Sh.AB e).symm _ (AJ AA)))
    ·refine yg tb d AA ?_;iterate 2 refine yg tb d rfl ?_
     refine IN (v:=(.Bn (BO x) 0)) (CS AA AA d) rfl (Ch Ct AA AA f AA) ?_;iterate 5 refine yg tb d rfl ?_
     refine IN (v:=(.Bn (BO y) 0)) (CS AA AA d) rfl (Ch Ct AA AA g AA) ?_;iterate 3 refine yg tb d rfl ?_
     refine yf d AA (yq tb AA ?_);rcases Sh.Aj e with ⟨a,e⟩|⟨a,e⟩
     ·refine ys a AA ?_;iterate 13 refine ys a rfl ?_
      exact yt a AA (Aw (j true (Sh.AB e).symm _ (AJ AA)))
     ·refine yg tb a AA ?_;iterate 2 refine yg tb a rfl ?_
      refine IN (v:=(.Bn (BO x) 0)) (CS AA AA a) rfl (Ch Ct AA AA f AA) ?_;iterate 5 refine yg tb a rfl ?_
      refine IN (v:=(.Bn (BO y) 0)) (CS AA AA a) rfl (Ch Ct AA AA g AA) ?_;iterate 2 refine yg tb a rfl ?_
      exact bs e λA B e=>BV (v:=(.bool A)) (CS AA AA a) (hb 33) (Rh B) rfl AA AA (yg tb a AA (yf a AA (Aw (j (!A) (Sh.AB e).symm _ (AJ AA)))))
   ·exact Az (I () (Sh.AB c).symm _ (Bt _ AA))
 refine AH AA (zm tb 4 AA (bs c λX C c=>zc (hb 32) (Qv C) rfl AA AA (zm tb 2 AA ?_)));rcases Sh.Aj c with ⟨b,c⟩|⟨b,c⟩
 ·refine zs b AA ?_;iterate 6 refine zs b rfl ?_
  exact zt b AA (AF (M true (Sh.AB c).symm _ (AJ AA)))
 ·exact zg tb b AA (zg tb b AA (Ba (v:=(i64 (Sh.len p0.funcs))) (CS AA AA b) rfl (Cd Rz AA) (zg tb b AA (zg tb b AA (Ba (v:=(i64 (Sh.len p1.funcs))) (CS AA AA b) rfl (Cd Rz AA) (zg tb b AA (zf b AA (AF (M (!decide ((Sh.len p0.funcs)=(Sh.len p1.funcs))) (Sh.AB c).symm _ (AJ AA))))))))))
theorem PS {s1:(List Bool)}{p0:AE}{r:(List Bool)}(h0:I5 s1 p0=some r):Ab Tryz.prog 69 [Bc p0,BI] (Qy s1) (λv st=>v=(.Dd [])/\st=(Qy r)):=by
 unfold I5 at h0;refine ai Tryz.func69 AA AA AA AA (sr AA λk d=>Bd (m:=2) AI AA AA AA AA AA (dn d AA (AG λi e=>bs h0 λg b h0=>?_)));have h:∀(f:Bool),g=f->∀s,Wk 2 s ⟨15,Aa [(1,BI),(2,CY),(10,.bool f)],[⟨0,62,1,[[ow 1 0 s1]]⟩,ro 0 4 1 eB s1,N0 p0.op p0.num p0.kids]⟩->i s:=by
  intro f l s j;subst g;refine e _ (AK j ?_);refine ci h0 AA ?_ ?_<;>clear h0<;>intro n h0
  ·refine AH AA (zm tb 3 AA (bs h0 λo c h0=>zz (.ptr 1 0 (Int.toNat p0.num) 0) (CB gS AA AA AA AA c) rfl (J8 (u':=true) AI lD AA AA c AA AA AA po rfl AA ?_)));obtain rfl:=Sh.AB h0;exact AF (Exists.intro _ (And.intro (((Fc (st:=[⟨0,62,1,[[.own 1 0 (List.length s1)]]⟩,⟨0,4,1,List.map eB (Sh.put s1 p0.num true)⟩,⟨0,35,3,[[i64 p0.op,i64 p0.num,.sl (List.map Ar p0.kids)]]⟩]) (st':=[⟨0,62,1,[[.own 1 0 (List.length (Sh.put s1 p0.num true))]]⟩,⟨0,4,1,List.map eB (Sh.put s1 p0.num true)⟩,⟨0,35,3,[[i64 p0.op,i64 p0.num,.sl (List.map Ar p0.kids)]]⟩]) (by simp only[Sh.GX])).trans (AS (L:=[]) (st':=[⟨0,62,1,[[.own 1 0 (List.length (Sh.put s1 p0.num true))]]⟩,⟨0,4,1,List.map eB (Sh.put s1 p0.num true)⟩]) [0,1] AA (by decide) rfl AA (.raw AA AA (.pure (AD λ_=>AA) .nil)) lU)).trans (Af (L:=[]) lU)) (And.intro AA AA)))
  ·obtain rfl:=Sh.AB h0;exact AL (xi _ ((AS (L:=[]) (st':=(Qy s1)) [0,1] AA (by decide) rfl AA (.raw AA AA (.pure (AD λ_=>AA) .nil)) lU).trans (Af (L:=[]) lU)) (And.intro AA AA))
 refine AH AA (zm tb 4 AA ?_);rcases Sh.Aj b with ⟨a,b⟩|⟨a,b⟩
 ·exact zs a AA (zs a AA (zs a AA (zt a AA (AF (h true (Sh.AB b).symm _ (AJ AA))))))
 ·exact zg tb a AA (zg tb a AA (zg tb a AA (zf a AA (AF (h (decide (p0.op=10)) (Sh.AB b).symm _ (AJ AA))))))
theorem S6 {N:Nat}{qx:(List Bool)->AE->Option (List Bool)}(tB :∀{s1:(List Bool)} {p0:AE} {r:(List Bool)},qx s1 p0=some r->Ab Tryz.prog 49 [Bc p0,.fn 69 [BI]] (Qy s1) (λv st=>v=(.Dd [])/\st=(Qy r))){s1:(List Bool)}{p0:AE}{r:(List Bool)}(h0:Kh N qx s1 p0=some r):Ab Tryz.prog 49 [Bc p0,.fn 69 [BI]] (Qy s1) (λv st=>v=(.Dd [])/\st=(Qy r)):=by
 unfold Kh at h0;refine ai Tryz.func49 AA AA AA AA (sr AA λI k=>Bd (m:=2) AI AA AA AA AA AA (dn k AA (sr AA λJ l=>zm tb 2 AA (bs h0 λe o h0=>Wc (rowsP:=(Qy s1)) (rows0:=(Qy s1)) (rows1:=(Qy e)) (rows2:=[]) (rows1':=(Qy e)) (rows2':=[]) (st':=[⟨0,62,1,[[ow 1 0 e]]⟩,ro 0 4 1 eB e,N0 p0.op p0.num p0.kids]) (v':=(.Dd [])) [0,1] AI AA (hb 69) (PS o) rfl (by decide) rfl AA (.raw AA AA (.pure (AD λ_=>AA) .nil)) rfl AA (.raw AA AA (.pure (AD λ_=>AA) .nil)) .nil AA AA (dn l AA (sr AA λK p=>zm tb 2 AA (zl tb AA AA (zq tb AA (dn p AA (Xt λB q=>bs h0 λt a h0=>?_))))))))));have C:∀(u:(List Bool)),t=u->∀s,Wk 2 s ⟨20,Aa [],Qy u⟩->B s:=by
  intro u M s D;subst t;refine q _ ?_;obtain rfl:=Sh.AB h0;exact Exists.intro _ (And.intro (D.trans (Af (L:=[]) lU)) (And.intro AA AA))
 refine AT (Ax (σ:=Int×(List Bool)) (λn v=>Eb p0 qx n v.1 v.2=some t) (λ(x,d)=>⟨20,Aa [(1,.fn 69 [.ptr 0 0 0 0]),(10,ls Ar p0.kids),(11,i64 (Sh.len p0.kids)),(12,i64 x)],[⟨0,62,1,[[ow 1 0 d]]⟩,ro 0 4 1 eB d]⟩) N (0,e) a (AS [0,1] AA (by decide) rfl AA (.raw AA AA (.pure (AD λ_=>AA) .nil)) (.same AA)) (λ_ z=>by rw[Eb]at z;cases z) ?_);rintro n ⟨x,d⟩ a;rw[Eb]at a;refine zr tb AA AA (AG λE f=>?_);refine ci a AA ?_ ?_<;>clear a<;>intro F a
 ·refine AL (f _ (AG λG g=>AT (sr AA λH h=>bs a λc i a=>zz (Dc c) (By BU AA AA i (Ai _) rfl) rfl (zq tb AA (Av (m:=2) AI DE AA AA (Am AI BE AA AA AA AA AA AA pj rfl (dn h AA (AH AA (zm tb 2 AA (bs a λb j a=>Ru (rowsP:=(aK d)) (rows0:=(aK d)) (rows1:=(aK b)) (rows2:=[]) (rows1':=(aK b)) (rows2':=[]) (st':=[⟨0,62,1,[[.own 1 0 (List.length b)]]⟩,⟨0,4,1,List.map eB b⟩,⟨0,35,3,[[i64 c.op,i64 c.num,.sl (List.map Ar c.kids)]]⟩]) (v':=(.Dd [])) [0,1] AI (hb 49) (tB j) rfl (by decide) rfl AA (.raw AA AA (.pure (AD λ_=>AA) .nil)) rfl AA (.raw AA AA (.pure (AD λ_=>AA) .nil)) .nil AA AA (λy=>?_)))))))))));have A:List.length b=List.length d:=by simpa only[ly] using y 1 _ _ rfl rfl rfl
  exact dn g AA (AH AA (zm tb 2 AA (AF (xi (Sh.w (x+1),b) a (AS [0,1] AA (by decide) rfl AA (.raw AA AA (.pure (AD λ_=>AA) .nil)) (.same AA))))))
 ·exact Az (C d (Sh.AB a).symm _ (AJ AA))
theorem Sw {N:Nat}:∀(n:Nat),∀{s1:(List Bool)} {p0:AE} {r:(List Bool)},Ge N n s1 p0=some r->Ab Tryz.prog 49 [Bc p0,.fn 69 [BI]] (Qy s1) (λv st=>v=(.Dd [])/\st=(Qy r)):=by
 intro n
 induction n with
 | zero=>intro s1 p0 r a;cases a
 | succ n ih=>
  intro s1 p0 r a;rw[Ge]at a;exact S6 (λh=>ih h) a
theorem Ug {N:Nat}:∀{s1:(List Bool)} {p0:AE} {r:(List Bool)},OZ N s1 p0=some r->Ab Tryz.prog 49 [Bc p0,.fn 69 [BI]] (Qy s1) (λv st=>v=(.Dd [])/\st=(Qy r)):=by
 intro s1 p0 r a;exact Sw N a
theorem RR {N:Nat}{p0:AP}{p1:Int}{r:(List Bool)}(h0:Ie N p0 p1=some r):Ab Tryz.prog 40 [Hs p0,i64 p1] [] (λv st=>v=(ow 0 0 r)/\st=[ro 0 4 1 eB r]):=by
 unfold Ie at h0;refine ai Tryz.func40 AA AA AA AA (sr AA λk b=>Bd (m:=0) AI AA AA AA AA AA (zq tb AA (dn b AA (sr AA λl c=>zm tb 2 AA (zl tb AA AA (bs h0 λd e h0=>Vi (m:=1) (enc:=eB) (u:=false) AI gS AA AA AA e AA AA (Av (m:=2) AI kS AA AA (Am AI kE AA AA AA AA AA AA po rfl (dn c AA (sr AA λn f=>zm tb 3 AA (bs h0 λo g h0=>zx Ct g AA AA AA (zm tb 2 AA (zz (.fn 69 [CY]) (bW AA) rfl (bs h0 λa h h0=>Ru (rowsP:=(aK d)) (rows0:=(aK d)) (rows1:=(aK a)) (rows2:=[]) (rows1':=(aK a)) (rows2':=[]) (st':=[⟨0,26,2,[[.sl (List.map Ak p0.decls),.sl (List.map BO p0.funcs)]]⟩,⟨0,4,1,List.map eB a⟩,⟨0,62,1,[[.own 1 0 (List.length a)]]⟩]) (v':=(.Dd [])) [2,1] AI (hb 49) (Ug h) rfl (by decide) rfl AA (.raw AA AA (.pure (AD λ_=>AA) .nil)) rfl AA (.raw AA AA (.pure (AD λ_=>AA) .nil)) .nil AA AA (λi=>?_)))))))))))))));have j:List.length a=List.length d:=by simpa only[ly] using i 1 _ _ rfl rfl rfl
 refine dn f AA (zr tb AA AA ?_);obtain rfl:=Sh.AB h0;exact Ao (xr (AS (L:=[(4,ow 0 0 a)]) (st':=[ro 0 4 1 eB a]) [1] AA (by decide) rfl AA (.pure (AD λ_=>AA) .nil) ⟨.rfl,lU⟩))
theorem Rr {N:Nat}{p0:(List Bool)}{r:(List Int)}(h0:HR N p0=some r):Ab Tryz.prog 39 [ls eB p0] [] (λv st=>v=(ow 0 0 r)/\st=[Bm r]):=by
 unfold HR at h0;refine ai Tryz.func39 AA AA AA AA ?_;iterate 2 refine zr tb rfl rfl ?_
 refine AG λC u=>sr AA λK x=>zq tb AA (zl tb AA AA (zq tb AA (dn x AA (bs h0 λy a h0=>?_))));have D:∀(f:(List Int)),y=f->∀s,Wk 0 s ⟨20,Aa [(3,ow 0 0 f)],[Bm f]⟩->C s:=by
  intro f E s z;subst y;refine u _ (AK z (zr tb AA AA ?_));obtain rfl:=Sh.AB h0;exact rt [(2,ow 0 0 f)]
 refine AT (Ax (σ:=Int×(List Int)) (λn v=>EH p0 n v.1 v.2=some y) (λ(d,g)=>⟨20,Aa [(3,ow 0 0 g),(6,ls eB p0),(7,i64 (Sh.len p0)),(8,i64 d)],[ro 0 3 1 eI g]⟩) N (0,[]) a ((Hb (t:=3) rfl 3 (size:=1) (by decide)).trans (Af (L:=[(3,.own 0 0 (List.length ([]:List Int))),(6,ls eB p0),(7,i64 (Sh.len p0)),(8,i64 0)]) (.same AA))) (λ_ B=>by rw[EH]at B;cases B) ?_);rintro n ⟨d,g⟩ a;rw[EH]at a;refine zr tb AA AA (AG λF h=>?_);refine ci a AA ?_ ?_<;>clear a<;>intro G a
 ·refine AL (h _ (AG λA i=>bs a λj c a=>?_));have k:∀(b:(List Int)),j=b->∀s,Wk 0 s ⟨20,Aa [(3,ow 0 0 b),(6,ls eB p0),(7,HB p0),(8,i64 d)],[Bm b]⟩->A s:=by
   intro b E s z;subst j;exact i _ (AK z (AH AA (zm tb 2 AA (AF (xi (Sh.w (d+1),b) a (AJ AA))))))
  refine AT (sr AA λH o=>zq tb AA (bs c λI p c=>zx gS p AA AA AA (zm tb 3 AA (dn o AA (zr tb AA AA ?_)))));refine ci c AA ?_ ?_<;>clear c<;>intro J c
  ·refine AH AA (zm tb 2 AA (BF (m:=1) (l:=[d]) (enc:=eI) AI BM (by decide) rfl AA AA AA AA AA (bs c λe q c=>Cz (l2:=[d]) AI BM AA AA AA AA (HI AA AA) (λ_=>AA) q AA (zq tb AA ?_))));exact AF (k e (Sh.AB c).symm _ (by refine Wk.trans (EN (L:=[(3,ow 0 0 e),(6,ls eB p0),(7,HB p0),(8,i64 d)]) (st':=[Bm e,ro 0 3 1 eI [d]]) (.pure (AD λ_=>AA) (.pure (AD λ_=>AA) .nil)) (.same AA)) ?_;exact AS [0] AA (by decide) rfl AA (.pure (AD λ_=>AA) .nil) (.same AA)))
  ·exact AL (k g (Sh.AB c).symm _ (AJ AA))
 ·exact Az (D g (Sh.AB a).symm _ (AJ AA))
end Go.Proofs.YtihdgoiebmfapaaGreat
