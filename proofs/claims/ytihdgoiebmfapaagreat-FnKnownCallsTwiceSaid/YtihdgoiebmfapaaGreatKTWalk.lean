import Derived.Test.YtihdgoiebmfapaaGreatKTWalkP3
set_option linter.all false
namespace Go.Proofs.YtihdgoiebmfapaaGreat
open Go Go.Abs RC
attribute [local irreducible] Go.Abs.Dy
set_option maxRecDepth 100000
set_option maxHeartbeats 4000000
theorem QQ {N:Nat}{p0:AP}{r:AP×Bool}(h0:H8 N p0=some r):Ac Tryz.prog 27 [JL p0,.fn 28 []] [] (λv st=>v=(.Dm [.agg [ow 0 0 r.1.decls,ow 1 0 r.1.funcs],.bool r.2])/\st=[Rg r.1.decls,Ny r.1.funcs]):=by
 unfold H8 at h0;refine Ac.wk (r0:=(.Dm [.agg [ow 0 0 r.1.decls,ow 1 0 r.1.funcs],.bool r.2])) (st0:=[Rg r.1.decls,Ny r.1.funcs,⟨0,26,2,[[ow 0 0 r.1.decls,ow 1 0 r.1.funcs]]⟩]) ?_ (Du (L:=[(0,.Dm [.agg [ow 0 0 r.1.decls,ow 1 0 r.1.funcs],.bool r.2])]) (st':=[Rg r.1.decls,Ny r.1.funcs]) [0,1] AA (by decide) rfl AA (.deep (Ah λ_=>AA) (.deep (Ah λ_=>AA) fa)) (.same AA));refine ai Tryz.func27 AA AA AA AA (sr AA λK1 R=>Bt (m:=0) AH AA AA AA AA AA (AR (Wk.BJ (L:=[(1,.fn 28 []),(2,.Bc (Yk p0) 0)]) (st':=[⟨1,26,2,[]⟩]) (id:=0) rfl kX (ED AA) (.same AA) rfl) (Au (m:=1) AH IM AA AA (zq tb AA (dn R AA (sr AA λK2 S=>zq tb AA (bs h0 λb T h0=>CD (v':=(.agg [ow 2 0 b.decls,ow 3 0 b.funcs])) AH (hb 55) (OO T) rfl AA ⟨(Ah λ_=>AA),⟨(Ah λ_=>AA),fa⟩⟩ AA AA (Au (m:=4) AH IM AA AA ?_))))))));refine Ao AH D2 AA AA AA AA AA AA kU rfl (dn S AA (AE λK4 U=>sr AA λK5 V=>zm tb 2 AA (zz (i64 (Sh.len b.funcs)) (Cq SN AA AA AA) rfl (zq tb AA (dn V AA ?_)))));obtain⟨W,C,h0⟩:=Sh.Bl h0;have M9:∀(G:(List Ad)),W=Sum.inr G->∀s,Wk 0 s ⟨49,Aa [(4,BI),(6,Iw)],[Gv,ro 0 80 3 (BU 82 3) b.decls,Ny G,⟨0,26,2,[[ow 1 0 b.decls,ow 2 0 G]]⟩]⟩->K4 s:=by
  intro G hq s hw;subst W;refine U _ (AJ hw (sr AA λb0 I=>zq tb AA (Ao AH D2 AA AA AA AA AA AA kU rfl (zq tb AA (dn I AA ?_)))));obtain rfl:=Sh.AD h0;exact Ap (Exists.intro _ (And.intro ((CR (L:=[(4,CK),(5,.bool true)]) (st':=[ro 0 80 3 (BU 82 3) b.decls,Ny G,⟨0,26,2,[[ow 0 0 b.decls,ow 1 0 G]]⟩]) (st1:=[ro 0 80 3 (BU 82 3) b.decls,Ny G,⟨0,26,2,[[ow 1 0 b.decls,ow 2 0 G]]⟩]) [1,2,0] AA .nil (by decide) rfl AA (.deep (Ah λ_=>AA) (.deep (Ah λ_=>AA) (.raw AA AA .nil))) (.same AA)).trans (Ag (L:=[(4,CK),(5,.bool true)]) (.same AA))) (Ar (x:=.tmp 4) (off:=0) (cs:=[ow 0 0 b.decls,ow 1 0 G]) (vs:=[ow 0 0 b.decls,ow 1 0 G]) D2 AA AA AA kU rfl _ ⟨AA,AA⟩)))
 refine AU (Av (σ:=Int×(List Ad)) (λn v=>Da N p0 b n v.1 v.2=some W) (λ(d,l)=>⟨49,Aa [(1,.fn 28 []),(2,.Bc [ls Ai p0.decls,ls BO p0.funcs] 0),(4,.ptr 0 0 0 0),(6,.ptr 3 0 0 0),(12,i64 (Sh.len b.funcs)),(13,i64 d)],[Gv,ro 0 80 3 (BU 82 3) b.decls,ro 0 37 5 (DC 3 35) l,⟨0,26,2,[[ow 1 0 b.decls,ow 2 0 l]]⟩]⟩) N (0,b.funcs) C (CR (L:=[(1,.fn 28 []),(2,.Bc [ls Ai p0.decls,ls BO p0.funcs] 0),(4,.ptr 0 0 0 0),(6,.ptr 3 0 0 0),(12,i64 (Sh.len b.funcs)),(13,i64 0)]) (st':=[Gv,ro 0 80 3 (BU 82 3) b.decls,ro 0 37 5 (DC 3 35) b.funcs,⟨0,26,2,[[ow 1 0 b.decls,ow 2 0 b.funcs]]⟩]) (st1:=[Gv,ro 0 80 3 (BU 82 3) b.decls,ro 0 37 5 (DC 3 35) b.funcs,⟨0,26,2,[[ow 2 0 b.decls,ow 3 0 b.funcs]]⟩]) [1,2,3,4] AA .nil (by decide) rfl AA (.raw AA AA (.deep (Ah λ_=>AA) (.deep (Ah λ_=>AA) (.raw AA AA .nil)))) (.same AA)) (λ_ Z=>by rw[Da]at Z;cases Z) ?_);rintro n ⟨d,l⟩ C;rw[Da]at C;refine zr tb AA AA (AE λb1 J=>?_);refine ci C AA ?_ ?_<;>clear C<;>intro b2 C
 ·refine AL (J _ (AE λb3 K=>AU (zr tb AA AA (AE λb4 M=>?_))));refine PA (by kernel_rfl) ?_;refine bs C λa k C=>bs C λg H C=>?_;refine Uq (f':=23) (listed':=(bm 23 0)) rfl (by kernel_rfl) ?_;refine DT 0 (v:=(.ptr 3 0 0 1)) rfl AA (by kernel_rfl) (by kernel_rfl) (by kernel_rfl) rfl (FU (It J0 AA AA kZ rfl)) ?_;refine DT 2 (v:=(i64 d)) rfl AA (by kernel_rfl) (by kernel_rfl) (by kernel_rfl) rfl (FU (Jm AA)) ?_;refine DT 3 (v:=(.Bc (Yk p0) 0)) rfl AA (by kernel_rfl) (by kernel_rfl) (by kernel_rfl) rfl (FU (L4 TL AA AA)) ?_;refine DT 4 (v:=(ls Ai p0.decls)) rfl AA (by kernel_rfl) (by kernel_rfl) (by kernel_rfl) rfl (NR Wx AA AA) ?_;refine DT 5 (v:=(.ptr 3 0 0 1)) rfl AA (by kernel_rfl) (by kernel_rfl) (by kernel_rfl) rfl (FU (It J0 AA AA kZ rfl)) ?_;refine DT 7 (v:=(i64 d)) rfl AA (by kernel_rfl) (by kernel_rfl) (by kernel_rfl) rfl (FU (Jm AA)) ?_;refine DT 11 (v:=(.ptr 3 0 0 1)) rfl AA (by kernel_rfl) (by kernel_rfl) (by kernel_rfl) rfl (FU (It J0 AA AA kZ rfl)) ?_;refine DT 13 (v:=(i64 d)) rfl AA (by kernel_rfl) (by kernel_rfl) (by kernel_rfl) rfl (FU (Jm AA)) ?_;refine DT 18 (v:=(.fn 28 [])) rfl AA (by kernel_rfl) (by kernel_rfl) (by kernel_rfl) rfl (FU (Jm AA)) ?_;refine Ty (Rw λpR f=>?_);have t:pR 0 (bm 23 8388607) ⟨49,Aa (Rh p0 d [(12,i64 (Sh.len b.funcs)),(13,i64 d)]),[Gv,⟨0,26,2,[[ow 2 0 b.decls,ow 3 0 (Sh.put l d (Ad.mk a.params a.result g))]]⟩,ro 0 80 3 (BU 82 3) b.decls,ro 0 37 5 (DC 3 35) (Sh.put l d (Ad.mk a.params a.result g))]⟩:=(f _ _ _).2 (by
   refine QH AA (by kernel_rfl) ?_;refine M _ (sr AA λb5 O=>zm tb 3 AA (bs C λE D C=>zz (T3 d) (CC Cn AA AA AA AA D) rfl (zq tb AA (AR (Hq (id:=3) (j:=4) (i:=d) (c:=E) (ys:=E.body.kids) (encY:=(BZ 35)) rfl D AA AA AA AA AA) (zz (aP E) (Ar BG AA AA (Ft D) kg rfl) rfl (bs C λX P C=>LZ (v':=(i64 X)) AH (hb 12) (I3 P) rfl (.agg (.val AA (.val AA (.ownD AA AA An (λx=>NT x) .nil))) .nil) rfl fa AA AA ?_))))));refine AR (Wk.take (id:=3) (m:=4) (j:=4) (i:=d) (c:=E) (ys:=E.body.kids) (encY:=(BZ 35)) rfl D AA AA AA (by decide) lB Gi AA AA) ?_;refine AR (Hg (id:=3) (i:=d) (c:=E) rfl D AA AA) (zq tb AA (dn O AA ?_));refine ci C AA ?_ ?_<;>clear C<;>intro b6 C
   ·refine sr AA λb7 Q=>zz (.agg [.zc,.zc]) (DL UP T2 IM AA AA) rfl (Ao AH D2 AA AA AA AA AA AA kU rfl (zq tb AA (dn Q AA ?_)));obtain rfl:=Sh.AD C;obtain rfl:=Sh.AD h0;exact Ap (Exists.intro _ (And.intro ((((J9 (id:=0) (st':=[⟨0,26,2,[[.own 5 0 (List.length ([]:List AN)),.zc]]⟩,⟨0,26,2,[[ow 2 0 b.decls,ow 3 0 (Sh.put l d (Ad.mk a.params a.result g))]]⟩,ro 0 80 3 (BU 82 3) b.decls,ro 0 37 5 (DC 3 35) (Sh.put l d (Ad.mk a.params a.result g)),CU,ro 0 80 3 (BU 82 3) ([]:List AN)]) (j:=0) rfl AA 80 (size':=3) (by decide) rfl AA AA AA).trans (J9 (id:=0) (st':=(⟨0,26,2,[[.own 5 0 (List.length ([]:List AN)),.own 6 0 (List.length ([]:List Ad))]]⟩::⟨0,26,2,[[ow 2 0 b.decls,ow 3 0 (Sh.put l d (Ad.mk a.params a.result g))]]⟩::(ro 0 80 3 (BU 82 3) b.decls)::(ro 0 37 5 (DC 3 35) (Sh.put l d (Ad.mk a.params a.result g)))::CU::dS [])) (j:=1) rfl AA 37 (size':=5) (by decide) rfl AA AA AA)).trans (CR (L:=[(4,CK),(5,.bool false)]) (st':=(dS [⟨0,26,2,[[.own 0 0 (List.length ([]:List AN)),.own 1 0 (List.length ([]:List Ad))]]⟩])) (st1:=(dS [⟨0,26,2,[[.own 5 0 (List.length ([]:List AN)),.own 6 0 (List.length ([]:List Ad))]]⟩])) [5,6,0] AA .nil (by decide) rfl AA (.deep (Ah λ_=>AA) (.deep (Ah λ_=>AA) (.raw AA AA .nil))) (.same AA))).trans (Ag (L:=[(4,CK),(5,.bool false)]) (.same AA))) (Ar (x:=.tmp 4) (off:=0) (cs:=[.own 0 0 (List.length ([]:List AN)),.own 1 0 (List.length ([]:List Ad))]) (vs:=[.own 0 0 (List.length ([]:List AN)),.own 1 0 (List.length ([]:List Ad))]) D2 AA AA AA kU rfl _ ⟨AA,AA⟩)))
   ·refine AL (K _ (AI AA (zm tb 2 AA ?_)));exact AF (xi (Sh.w (d+1),Sh.put l d (Ad.mk a.params a.result g)) C (by exact CR (L:=[(1,.fn 28 []),(2,.Bc (Yk p0) 0),(4,BI),(6,Iw),(12,i64 (Sh.len b.funcs)),(13,KC d)]) (st':=[Gv,ro 0 80 3 (BU 82 3) b.decls,ro 0 37 5 (DC 3 35) (Sh.put l d (Ad.mk a.params a.result g)),⟨0,26,2,[[ow 1 0 b.decls,ow 2 0 (Sh.put l d (Ad.mk a.params a.result g))]]⟩]) (st1:=[Gv,ro 0 80 3 (BU 82 3) b.decls,ro 0 37 5 (DC 3 35) (Sh.put l d (Ad.mk a.params a.result g)),⟨0,26,2,[[ow 2 0 b.decls,ow 3 0 (Sh.put l d (Ad.mk a.params a.result g))]]⟩]) [0,2,3,1] AA .nil (by decide) rfl AA (.raw AA AA (.deep (Ah λ_=>AA) (.deep (Ah λ_=>AA) (.raw AA AA .nil)))) (.same AA))))
  have h:pR 1 (bm 23 4194303) ⟨49,Aa (Rh p0 d [(12,i64 (Sh.len b.funcs)),(13,i64 d),(35,.agg [i64 g.op,i64 g.num,ow 6 0 g.kids]),(37,.ptr 3 0 (Int.toNat d) 2)]),[Gv,⟨0,26,2,[[ow 2 0 b.decls,ow 3 0 l]]⟩,ro 0 80 3 (BU 82 3) b.decls,Ws l d a,ro 0 3 1 eI a.params,CU,Db g]⟩:=(f _ _ _).2 (by
   refine ya [22] ⟨?_,fa⟩
   ·refine yo 22 ?_;refine ZM (x':=[ow 4 0 a.params,i64 a.result,i64 g.op,i64 g.num,ow 6 0 g.kids]) (st':=[Gv,⟨0,26,2,[[ow 2 0 b.decls,ow 3 0 l]]⟩,ro 0 80 3 (BU 82 3) b.decls,⟨0,37,5,hole l (DC 3 35) d [ow 4 0 a.params,i64 a.result,i64 g.op,i64 g.num,ow 6 0 g.kids]⟩,ro 0 3 1 eI a.params,CU,Db g]) AH BG AA AA k AA AA AA kg rfl AA ?_;refine AR (Wk.take (id:=3) (m:=4) (j:=0) (i:=d) (c:=a) (ys:=a.params) (encY:=eI) rfl k AA AA AA (by decide) lB (λ_=>AA) rfl AA) ?_;refine AR (Wk.take (id:=3) (m:=6) (j:=4) (i:=d) (c:=a) (ys:=g.kids) (encY:=(BZ 35)) rfl k AA AA AA (by decide) (show 0<=6 by decide) Gi AA AA) ?_;refine AR (RI (id:=3) (i:=d) (u:=(Ad.mk a.params a.result g)) rfl AA AA) (AF ⟨AA,?_⟩);exact J1 (by refine Wk.trans (Ag (L:=[(1,.fn 28 []),(2,.Bc [.sl (List.map Ai p0.decls),.sl (List.map BO p0.funcs)] 0),(4,.ptr 0 0 0 0),(6,.ptr 1 0 0 0),(7,i64 d),(12,i64 (Sh.len b.funcs)),(13,i64 d)]) (.same AA)) ?_;refine Wk.trans (Fj (st:=[Gv,⟨0,26,2,[[.own 2 0 (List.length b.decls),.own 3 0 (List.length l)]]⟩,⟨0,80,3,List.map (BU 82 3) b.decls⟩,⟨0,37,5,List.map (DC 3 35) (Sh.put l d (Ad.mk a.params a.result g))⟩,⟨1,3,1,[]⟩,⟨1,35,3,[]⟩,⟨1,35,3,[]⟩]) (st':=[Gv,⟨0,26,2,[[.own 2 0 (List.length b.decls),.own 3 0 (List.length (Sh.put l d (Ad.mk a.params a.result g)))]]⟩,⟨0,80,3,List.map (BU 82 3) b.decls⟩,⟨0,37,5,List.map (DC 3 35) (Sh.put l d (Ad.mk a.params a.result g))⟩,⟨1,3,1,[]⟩,⟨1,35,3,[]⟩,⟨1,35,3,[]⟩]) (by simp only[Sh.GP])) ?_;exact AT [0,1,2,3] AA (by decide) rfl AA (.raw AA AA (.raw AA AA (.deep (Ah λ_=>AA) (.deep (Ah λ_=>AA) .nil)))) (.same AA)) (NF (by kernel_rfl) ((f _ _ _).1 t)) rfl)
  have e:pR 4 (bm 23 524287) ⟨49,Aa (Rh p0 d ((12,i64 (Sh.len b.funcs))::bC d l [(20,ls Ai p0.decls),(26,Z3 a),(33,i64 (Sh.len a.params)),(34,.fn 28 [])])),[Gv,⟨0,26,2,[[ow 2 0 b.decls,ow 3 0 l]]⟩,ro 0 80 3 (BU 82 3) b.decls,Ws l d a,ro 0 3 1 eI a.params,Pt a]⟩:=(f _ _ _).2 (by
   refine ya [19] ⟨?_,fa⟩
   ·refine yo 19 ?_;refine Gy (rowsP:=[Pt a]) (rows0:=[Pt a]) (rows1:=[CU]) (rows2:=[Db g]) (rows1':=[CU]) (rows2':=[Db g]) (st':=[Gv,⟨0,26,2,[[ow 2 0 b.decls,ow 3 0 l]]⟩,ro 0 80 3 (BU 82 3) b.decls,Ws l d a,ro 0 3 1 eI a.params,CU,Db g]) (v':=(.agg [i64 g.op,i64 g.num,ow 6 0 g.kids])) [5] AH (hb 56) (Ki H) rfl (by decide) rfl AA (.deep (Ah An) .nil) rfl AA (.pure (by intro x Y;cases Y) .nil) (.deep (Ah An) .nil) rfl AA ?_;refine AF ⟨AA,?_⟩;refine HC 20 (v:=(T3 d)) rfl (by kernel_rfl) (by kernel_rfl) (TG Cn AA AA AA AA k) ?_;refine GB tb 21 AA (by kernel_rfl) rfl ?_;exact aD f h)
  have q:pR 6 (bm 23 327679) ⟨49,Aa (Rh p0 d ((12,i64 (Sh.len b.funcs))::bC d l [(20,ls Ai p0.decls),(26,aP a),(31,T3 d),(34,.fn 28 [])])),[Gv,⟨0,26,2,[[ow 2 0 b.decls,ow 3 0 l]]⟩,ro 0 80 3 (BU 82 3) b.decls,⟨0,37,5,hole l (DC 3 35) d [.dv 3 1 (List.map eI a.params),i64 a.result,i64 a.body.op,i64 a.body.num,ow 4 0 a.body.kids]⟩,Pt a]⟩:=(f _ _ _).2 (by
   refine ya [16] ⟨?_,fa⟩
   ·refine yo 16 ?_;refine AR (LO (id:=3) (j:=0) (i:=d) (ys:=a.params) (encY:=eI) (x':=(ZV a)) (st':=[Gv,⟨0,26,2,[[ow 2 0 b.decls,ow 3 0 l]]⟩,ro 0 80 3 (BU 82 3) b.decls,⟨0,37,5,hole l (DC 3 35) d (ZV a)⟩,Pt a,ro 0 3 1 eI a.params]) rfl k AA AA AA AA) (zz (ow 5 0 a.params) (Bp JD AA AA (Ft k) rfl) rfl (AF ⟨AA,?_⟩));refine HC 17 (v:=(i64 (Sh.len a.params))) rfl (by kernel_rfl) (by kernel_rfl) (Cq Fe AA AA AA) ?_;exact yw f e (by exact CR (L:=(Rh p0 d ((12,i64 (Sh.len b.funcs))::bC d l [(20,ls Ai p0.decls),(26,Z3 a),(33,i64 (Sh.len a.params)),(34,.fn 28 [])]))) (st':=[Gv,⟨0,26,2,[[ow 2 0 b.decls,ow 3 0 l]]⟩,ro 0 80 3 (BU 82 3) b.decls,Ws l d a,ro 0 3 1 eI a.params,Pt a]) (st1:=[Gv,⟨0,26,2,[[ow 2 0 b.decls,ow 3 0 l]]⟩,ro 0 80 3 (BU 82 3) b.decls,⟨0,37,5,hole l (DC 3 35) d (ZV a)⟩,ro 0 3 1 eI a.params,Pt a]) [0,1,2,3,5,4] AA .nil (by decide) rfl AA (.raw AA AA (.raw AA AA (.deep (Ah λ_=>AA) (.hol (Ah λ_=>AA) (JA λ_=>AA) rfl AA (.pure (AB λ_=>AA) (.deep (Ah An) .nil)))))) (.same AA)))
  have o:pR 5 (bm 23 523263) ⟨49,Aa (Rh p0 d ((12,i64 (Sh.len b.funcs))::bC d l [(20,ls Ai p0.decls),(25,.ptr 3 0 (Int.toNat d) 2),(33,i64 (Sh.len a.params)),(34,.fn 28 [])])),[Gv,⟨0,26,2,[[ow 2 0 b.decls,ow 3 0 l]]⟩,ro 0 80 3 (BU 82 3) b.decls,⟨0,37,5,hole l (DC 3 35) d [ow 4 0 a.params,i64 a.result,i64 a.body.op,i64 a.body.num,.dv 35 3 (List.map (BZ 35) a.body.kids)]⟩,ro 0 3 1 eI a.params]⟩:=(f _ _ _).2 (by
   refine ya [10] ⟨?_,fa⟩
   ·refine yo 10 ?_;exact AR (LO (id:=3) (j:=4) (i:=d) (ys:=a.body.kids) (encY:=(BZ 35)) (x':=[ow 4 0 a.params,i64 a.result,i64 a.body.op,i64 a.body.num,ow 5 0 a.body.kids]) (st':=[Gv,⟨0,26,2,[[ow 2 0 b.decls,ow 3 0 l]]⟩,ro 0 80 3 (BU 82 3) b.decls,Ws l d a,ro 0 3 1 eI a.params,Pt a]) rfl k AA AA AA AA) (zz (Z3 a) (Ar BG AA AA (Ft k) kg rfl) rfl (yd f e)))
  have z:pR 7 (bm 23 326655) ⟨49,Aa (Rh p0 d ((12,i64 (Sh.len b.funcs))::bC d l ((20,ls Ai p0.decls)::dr d []))),[Gv,⟨0,26,2,[[ow 2 0 b.decls,ow 3 0 l]]⟩,ro 0 80 3 (BU 82 3) b.decls,Ny l]⟩:=(f _ _ _).2 (by
   refine ya [10,16] ⟨?_,?_,fa⟩
   ·refine yo 10 ?_;exact AR (Hq (id:=3) (j:=4) (i:=d) (c:=a) (ys:=a.body.kids) (encY:=(BZ 35)) rfl k AA AA AA AA AA) (zz (aP a) (Ar BG AA AA (Ft k) kg rfl) rfl (yd f q))
   ·refine yo 16 ?_;refine AR (Hq (id:=3) (j:=0) (i:=d) (c:=a) (ys:=a.params) (encY:=eI) rfl k AA AA AA AA AA) (zz (ow 4 0 a.params) (Bp JD AA AA (Ft k) rfl) rfl (AF ⟨AA,?_⟩));refine HC 17 (v:=(i64 (Sh.len a.params))) rfl (by kernel_rfl) (by kernel_rfl) (Cq Fe AA AA AA) ?_;exact aD f o)
  have p:pR 5 (bm 23 524285) ⟨49,Aa (Rh p0 d ((12,i64 (Sh.len b.funcs))::Zt d [(20,ls Ai p0.decls),(26,Z3 a),(33,i64 (Sh.len a.params)),(34,.fn 28 [])])),[Gv,⟨0,26,2,[[ow 2 0 b.decls,ow 3 0 l]]⟩,ro 0 80 3 (BU 82 3) b.decls,Ws l d a,ro 0 3 1 eI a.params,Pt a]⟩:=(f _ _ _).2 (by
   refine ya [1,19] ⟨?_,?_,fa⟩
   ·exact Yw tb f e
   ·refine yo 19 ?_;refine Gy (rowsP:=[Pt a]) (rows0:=[Pt a]) (rows1:=[CU]) (rows2:=[Db g]) (rows1':=[CU]) (rows2':=[Db g]) (st':=[Gv,⟨0,26,2,[[ow 2 0 b.decls,ow 3 0 l]]⟩,ro 0 80 3 (BU 82 3) b.decls,Ws l d a,ro 0 3 1 eI a.params,CU,Db g]) (v':=(.agg [i64 g.op,i64 g.num,ow 6 0 g.kids])) [5] AH (hb 56) (Ki H) rfl (by decide) rfl AA (.deep (Ah An) .nil) rfl AA (.pure (by intro x Y;cases Y) .nil) (.deep (Ah An) .nil) rfl AA ?_;refine AF ⟨AA,?_⟩;refine GB tb 1 AA (by kernel_rfl) rfl ?_;refine HC 20 (v:=(T3 d)) rfl (by kernel_rfl) (by kernel_rfl) (TG Cn AA AA AA AA k) ?_;refine GB tb 21 AA (by kernel_rfl) rfl ?_;exact aD f h)
  have A:pR 7 (bm 23 327677) ⟨49,Aa (Rh p0 d ((12,i64 (Sh.len b.funcs))::Zt d [(20,ls Ai p0.decls),(26,aP a),(31,T3 d),(34,.fn 28 [])])),[Gv,⟨0,26,2,[[ow 2 0 b.decls,ow 3 0 l]]⟩,ro 0 80 3 (BU 82 3) b.decls,⟨0,37,5,hole l (DC 3 35) d [.dv 3 1 (List.map eI a.params),i64 a.result,i64 a.body.op,i64 a.body.num,ow 4 0 a.body.kids]⟩,Pt a]⟩:=(f _ _ _).2 (by
   refine ya [1,16] ⟨?_,?_,fa⟩
   ·exact Yw tb f q
   ·refine yo 16 ?_;refine AR (LO (id:=3) (j:=0) (i:=d) (ys:=a.params) (encY:=eI) (x':=(ZV a)) (st':=[Gv,⟨0,26,2,[[ow 2 0 b.decls,ow 3 0 l]]⟩,ro 0 80 3 (BU 82 3) b.decls,⟨0,37,5,hole l (DC 3 35) d (ZV a)⟩,Pt a,ro 0 3 1 eI a.params]) rfl k AA AA AA AA) (zz (ow 5 0 a.params) (Bp JD AA AA (Ft k) rfl) rfl (AF ⟨AA,?_⟩));refine HC 17 (v:=(i64 (Sh.len a.params))) rfl (by kernel_rfl) (by kernel_rfl) (Cq Fe AA AA AA) ?_;exact yw f p (by exact CR (L:=(Rh p0 d ((12,i64 (Sh.len b.funcs))::Zt d [(20,ls Ai p0.decls),(26,Z3 a),(33,i64 (Sh.len a.params)),(34,.fn 28 [])]))) (st':=[Gv,⟨0,26,2,[[ow 2 0 b.decls,ow 3 0 l]]⟩,ro 0 80 3 (BU 82 3) b.decls,Ws l d a,ro 0 3 1 eI a.params,Pt a]) (st1:=[Gv,⟨0,26,2,[[ow 2 0 b.decls,ow 3 0 l]]⟩,ro 0 80 3 (BU 82 3) b.decls,⟨0,37,5,hole l (DC 3 35) d (ZV a)⟩,ro 0 3 1 eI a.params,Pt a]) [0,1,2,3,5,4] AA .nil (by decide) rfl AA (.raw AA AA (.raw AA AA (.deep (Ah λ_=>AA) (.hol (Ah λ_=>AA) (JA λ_=>AA) rfl AA (.pure (AB λ_=>AA) (.deep (Ah An) .nil)))))) (.same AA)))
  have y:pR 6 (bm 23 523261) ⟨49,Aa (Rh p0 d ((12,i64 (Sh.len b.funcs))::Zt d [(20,ls Ai p0.decls),(25,.ptr 3 0 (Int.toNat d) 2),(33,i64 (Sh.len a.params)),(34,.fn 28 [])])),[Gv,⟨0,26,2,[[ow 2 0 b.decls,ow 3 0 l]]⟩,ro 0 80 3 (BU 82 3) b.decls,⟨0,37,5,hole l (DC 3 35) d [ow 4 0 a.params,i64 a.result,i64 a.body.op,i64 a.body.num,.dv 35 3 (List.map (BZ 35) a.body.kids)]⟩,ro 0 3 1 eI a.params]⟩:=(f _ _ _).2 (by
   refine ya [1,10] ⟨?_,?_,fa⟩
   ·exact Yw tb f o
   ·refine yo 10 ?_;exact AR (LO (id:=3) (j:=4) (i:=d) (ys:=a.body.kids) (encY:=(BZ 35)) (x':=[ow 4 0 a.params,i64 a.result,i64 a.body.op,i64 a.body.num,ow 5 0 a.body.kids]) (st':=[Gv,⟨0,26,2,[[ow 2 0 b.decls,ow 3 0 l]]⟩,ro 0 80 3 (BU 82 3) b.decls,Ws l d a,ro 0 3 1 eI a.params,Pt a]) rfl k AA AA AA AA) (zz (Z3 a) (Ar BG AA AA (Ft k) kg rfl) rfl (yd f p)))
  have B:pR 8 (bm 23 326653) ⟨49,Aa (Rh p0 d ((12,i64 (Sh.len b.funcs))::Zt d ((20,ls Ai p0.decls)::dr d []))),[Gv,⟨0,26,2,[[ow 2 0 b.decls,ow 3 0 l]]⟩,ro 0 80 3 (BU 82 3) b.decls,Ny l]⟩:=(f _ _ _).2 (by
   refine ya [1,10,16] ⟨?_,?_,?_,fa⟩
   ·exact Yw tb f z
   ·refine yo 10 ?_;exact AR (Hq (id:=3) (j:=4) (i:=d) (c:=a) (ys:=a.body.kids) (encY:=(BZ 35)) rfl k AA AA AA AA AA) (zz (aP a) (Ar BG AA AA (Ft k) kg rfl) rfl (yd f A))
   ·refine yo 16 ?_;refine AR (Hq (id:=3) (j:=0) (i:=d) (c:=a) (ys:=a.params) (encY:=eI) rfl k AA AA AA AA AA) (zz (ow 4 0 a.params) (Bp JD AA AA (Ft k) rfl) rfl (AF ⟨AA,?_⟩));refine HC 17 (v:=(i64 (Sh.len a.params))) rfl (by kernel_rfl) (by kernel_rfl) (Cq Fe AA AA AA) ?_;exact aD f y)
  refine (f _ _ _).2 ?_;refine GB tb 6 AA (by kernel_rfl) rfl ?_;refine HC 8 (v:=(.ptr 2 0 (Int.toNat d) 0)) rfl (by kernel_rfl) (by kernel_rfl) (CC Cn AA AA AA AA k) ?_;refine GB tb 9 AA (by kernel_rfl) rfl ?_;refine GB tb 12 AA (by kernel_rfl) rfl ?_;refine HC 14 (v:=(.ptr 2 0 (Int.toNat d) 0)) rfl (by kernel_rfl) (by kernel_rfl) (CC Cn AA AA AA AA k) ?_;refine GB tb 15 AA (by kernel_rfl) rfl ?_;exact yw f B (by exact CR (L:=(Rh p0 d ((12,i64 (Sh.len b.funcs))::Zt d ((20,ls Ai p0.decls)::dr d [])))) (st':=[Gv,⟨0,26,2,[[ow 2 0 b.decls,ow 3 0 l]]⟩,ro 0 80 3 (BU 82 3) b.decls,Ny l]) (st1:=[Gv,⟨0,26,2,[[ow 1 0 b.decls,ow 2 0 l]]⟩,ro 0 80 3 (BU 82 3) b.decls,Ny l]) [0,3,1,2] AA .nil (by decide) rfl AA (.raw AA AA (.raw AA AA (.deep (Ah λ_=>AA) (.deep (Ah λ_=>AA) .nil)))) (.same AA))
 ·exact BB (M9 l (Sh.AD C).symm _ (AK AA))
theorem LJ {N:Nat}{p0:AP}{r:AP×Bool}(h0:FY N p0=some r):Ac Tryz.prog 9 [JL p0] [] (λv st=>v=(.Dm [.agg (OS r.1.decls r.1.funcs),.bool r.2])/\st=[]):=by
 unfold FY at h0;refine DA AA (ai Tryz.func9 AA AA AA AA (sr AA λk c=>Bt (m:=0) AH AA AA AA AA AA (Au (m:=1) AH IM AA AA (zq tb AA (dn c AA (AE λl d=>sr AA λn e=>zq tb AA (bs h0 λi f h0=>zc (hb 22) (OP f) rfl AA AA ?_)))))));refine zq tb AA (dn e AA ?_);refine ci h0 AA ?_ ?_<;>clear h0<;>intro j h0
 ·have o:i=false:=by simpa using j
  refine sr AA λp g=>zz (.agg [.zc,.zc]) (DL UP T2 IM AA AA) rfl (Ao AH D2 AA AA AA AA AA AA kU rfl (zq tb AA (dn g AA ?_)));obtain rfl:=Sh.AD h0;exact Ap (Exists.intro _ (And.intro ((((GX (id:=1) (cs:=[.zc,.zc]) (cs':=V8) (st':=[Fy p0.decls p0.funcs,⟨0,26,2,[V8]⟩]) rfl ⟨le.zc,le.rfl,fa⟩ AA AA).trans (GX (id:=1) (cs:=V8) (cs':=QP) (st':=[Fy p0.decls p0.funcs,⟨0,26,2,[QP]⟩]) rfl ⟨le.rfl,le.zc,fa⟩ AA AA)).trans (AT (L:=[(2,BI),(3,.bool false)]) (st':=[⟨0,26,2,[QP]⟩]) [1] AA (by decide) rfl AA (.raw AA AA .nil) ⟨.rfl,.rfl,fa⟩)).trans (Ag (L:=[(2,BI),(3,.bool false)]) ⟨.rfl,.rfl,fa⟩)) (Ar (x:=.tmp 2) (off:=0) (cs:=QP) (vs:=QP) D2 AA AA AA kU rfl _ AA)))
 ·have q:i=true:=by simpa using j
  refine AL (d _ (sr AA λs h=>zq tb AA (bs h0 λa b h0=>CD (v':=(.Dm [.agg [ow 2 0 a.1.decls,ow 3 0 a.1.funcs],.bool a.2])) AH (hb 27) (QQ b) rfl AA ⟨(Ah λ_=>AA),⟨(Ah λ_=>AA),fa⟩⟩ AA AA (zm tb 2 AA (AR (T1 (L:=[(2,CV),(10,.agg [Cw a.1.decls,ow 3 0 a.1.funcs]),(11,.bool a.2)]) (st':=[Fy p0.decls p0.funcs,Gv,Mj,Ny a.1.funcs]) (id:=2) rfl ko (Go.Abs.Li (λ_=>AA)) ⟨.rfl,(.agg ⟨(.N7 AA (λx=>WH x)),.rfl,fa⟩),.rfl,fa⟩ AA) (AR (T1 (L:=[(2,CV),(10,.agg (OS a.1.decls a.1.funcs)),(11,.bool a.2)]) (st':=[Fy p0.decls p0.funcs,Gv,Mj,⟨1,37,5,[]⟩]) (id:=3) rfl (show 0<=3 by decide) (Go.Abs.Li (λ_=>AA)) ⟨.rfl,(.agg ⟨.rfl,(.N7 AA (λx=>Wj x)),fa⟩),.rfl,fa⟩ AA) (Ao AH D2 AA AA AA AA AA AA kU rfl (zq tb AA (dn h AA ?_)))))))));obtain rfl:=Sh.AD h0;exact Ap (Exists.intro _ (And.intro ((AT (L:=[(2,BI),(3,.bool a.2)]) (st':=[Fy a.1.decls a.1.funcs]) [1] AA (by decide) rfl AA (.raw AA AA .nil) ⟨.rfl,.rfl,fa⟩).trans (Ag (L:=[(2,BI),(3,.bool a.2)]) ⟨.rfl,.rfl,fa⟩)) (Ar (x:=.tmp 2) (off:=0) (cs:=(OS a.1.decls a.1.funcs)) (vs:=(OS a.1.decls a.1.funcs)) D2 AA AA AA kU rfl _ AA)))
theorem MW {N:Nat}{p0:(List AN)}{p1:(List Int)}{r:Bool}(h0:HV N p0 p1=some r):Ac Tryz.prog 94 [Cw p0,ls eI p1] [] (λv st=>v=(.bool r)/\st=[]):=by
 unfold HV at h0;refine ai Tryz.func94 AA AA AA AA (zr tb AA AA (AE λo h=>zr tb AA AA ?_));obtain⟨i,a,h0⟩:=Sh.Bl h0;have p:∀(_:Unit),i=Sum.inr ()->∀s,Wk 0 s ⟨20,Aa [],[]⟩->o s:=by
  intro _ A s q;subst i;refine h _ (AJ q (zr tb AA AA ?_));obtain rfl:=Sh.AD h0;exact rt [(4,.bool true)]
 refine AU (Av (σ:=Int) (λn v=>E3 p0 p1 n v=some i) (λj=>⟨20,Aa [(0,ls Ai p0),(1,ls eI p1),(5,i64 j)],[]⟩) N 0 a (AK AA) (λ_ m=>by rw[E3]at m;cases m) ?_);rintro n j a;rw[E3]at a;refine AE λB k=>sr AA λC l=>zm tb 2 AA (zl tb AA AA (zq tb AA (dn l AA ?_)));refine ci a AA ?_ ?_<;>clear a<;>intro D a
 ·refine AL (k _ (AE λt b=>AU (sr AA λu c=>zm tb 2 AA (bs a λx d a=>zx BM d AA AA AA (zm tb 2 AA (zl tb AA AA (bs a λe f a=>zc (hb 72) (Dv f) rfl AA AA (zq tb AA ?_))))))));refine dn c AA ?_;refine ci a AA ?_ ?_<;>clear a<;>intro g a
  ·have y:e=false:=by simpa using g
   refine zr tb AA AA ?_;obtain rfl:=Sh.AD a;obtain rfl:=Sh.AD h0;exact rt [(4,.bool false)]
  ·have z:e=true:=by simpa using g
   exact AL (b _ (AI AA (zm tb 3 AA (AF (xi (Sh.w (j+1)) a (AK AA))))))
 ·exact BB (p () (Sh.AD a).symm _ (AK AA))
theorem QT {N:Nat}{p0:(List AN)}{p1:Int}{r:Bool}(h0:H2 N p0 p1=some r):Ac Tryz.prog 127 [Cw p0,i64 p1] [] (λv st=>v=(.bool r)/\st=[]):=by
 unfold H2 at h0;refine ai Tryz.func127 AA AA AA AA (zr tb AA AA (sr AA λK2 Y=>zm tb 2 AA (bs h0 λk Z h0=>zx C8 Z AA AA AA (zq tb AA (Au (m:=0) AH Gf AA AA (Ao AH JF AA AA AA AA AA AA kS rfl (dn Y AA (AE λK4 b0=>sr AA λK5 b1=>?_))))))));refine zm tb 2 AA (zl tb AA AA (zq tb AA (dn b1 AA ?_)));refine ci h0 AA ?_ ?_<;>clear h0<;>intro b6 h0
 ·refine AE λK7 b2=>AE λK8 b3=>bs h0 λC a h0=>?_;have t:∀(t9:Bool),C=t9->∀s,Wk 0 s ⟨100,Aa [(0,Cw p0),(5,BI),(29,.bool t9)],[Tu k]⟩->K8 s:=by
   intro t9 D s i;subst C;refine b3 _ (AJ i ?_);refine ci h0 AA ?_ ?_<;>clear h0<;>intro c6 h0
   ·refine zr tb AA AA ?_;obtain rfl:=Sh.AD h0;exact rd [(4,.bool false)]
   ·refine AL (b2 _ (AE λb4 E=>zr tb AA AA ?_));obtain⟨u,a,h0⟩:=Sh.Bl h0;have b5:∀(_:Unit),u=Sum.inr ()->∀s,Wk 0 s ⟨100,Aa [],[]⟩->b4 s:=by
     intro _ D s i;subst u;refine E _ (AJ i (zr tb AA AA ?_));obtain rfl:=Sh.AD h0;exact rt [(4,.bool true)]
    refine AU (Av (σ:=Int) (λn v=>Ej N k p0 n v=some u) (λl=>⟨100,Aa [(0,ls Ai p0),(5,.ptr 0 0 0 0),(6,i64 l)],[⟨0,80,3,[Ai k]⟩]⟩) N 0 a (AK AA) (λ_ F=>by rw[Ej]at F;cases F) ?_);rintro n l a;rw[Ej]at a;refine AE λc7 G=>sr AA λc8 H=>zm tb 3 AA (zl tb AA AA (zq tb AA (dn H AA ?_)));refine ci a AA ?_ ?_<;>clear a<;>intro c9 a
    ·refine AL (G _ (AE λd1 I=>AU (AE λb7 J=>bs a λK c a=>?_)));have L:∀(x:Bool),K=x->∀s,Wk 0 s ⟨100,Aa [(0,Cw p0),(5,BI),(6,i64 l),(55,.bool x)],[Tu k]⟩->b7 s:=by
      intro x D s i;subst K;refine J _ (AJ i ?_);refine ci a AA ?_ ?_<;>clear a<;>intro d2 a
      ·refine zr tb AA AA ?_;obtain rfl:=Sh.AD a;obtain rfl:=Sh.AD h0;exact rd [(4,.bool false)]
      ·exact AL (I _ (AI AA (zm tb 3 AA (AF (xi (Sh.w (l+1)) a (AK AA))))))
     refine AI AA (zm tb 3 AA (bs c λb8 q c=>zx IV q AA AA AA (zm tb 2 AA (zl tb AA AA (zm tb 2 AA ?_)))));rcases Sh.Aj c with ⟨b,c⟩|⟨b,c⟩
     ·refine zs b AA ?_;iterate 8 refine zs b rfl ?_
      exact zt b AA (AF (L true (Sh.AD c).symm _ (AK AA)))
     ·refine zg tb b AA ?_;iterate 3 refine zg tb b rfl ?_
      exact BV (v:=(.Bc (Bv b8) 0)) (CM AA AA b) rfl (CZ IV AA AA q AA) (zg tb b AA (zg tb b AA (bs c λb9 M c=>zd b (hb 94) (MW M) rfl AA AA AA (zg tb b AA (zf b AA (AF (L (!b9) (Sh.AD c).symm _ (AK AA))))))))
    ·exact BB (b5 () (Sh.AD a).symm _ (Bj _ AA))
  refine AI AA (zm tb 2 AA (zl tb AA AA (zm tb 2 AA ?_)));rcases Sh.Aj a with ⟨e,a⟩|⟨e,a⟩
  ·refine zs e AA (zs e AA (zs e AA (zt e AA (zq tb AA ?_))));iterate 3 refine zs rfl rfl ?_
   exact zt AA AA (AF (t true (Sh.AD a).symm _ (AK AA)))
  ·refine zg tb e AA (zg tb e AA (zg tb e AA (zf e AA (zq tb AA ?_))));rcases Sh.Aj a with ⟨f,a⟩|⟨f,a⟩
   ·exact zs f AA (zs f AA (zs f AA (zt f AA (AF (t true (Sh.AD a).symm _ (AK AA))))))
   ·exact zg tb f AA (zg tb f AA (zg tb f AA (zf f AA (AF (t (!decide (k.to=0)) (Sh.AD a).symm _ (AK AA))))))
 ·refine AL (b0 _ (AE λc0 O=>zr tb AA AA ?_));obtain⟨y,a,h0⟩:=Sh.Bl h0;have c1:∀(_:Unit),y=Sum.inr ()->∀s,Wk 0 s ⟨100,Aa [(0,Cw p0),(5,BI)],[Tu k]⟩->c0 s:=by
   intro _ D s i;subst y;refine O _ (AJ i (AE λc2 P=>bs h0 λQ a h0=>?_));have R:∀(o:Bool),Q=o->∀s,Wk 0 s ⟨100,Aa [(4,.bool o)],[]⟩->c2 s:=by
    intro o D s i;subst Q;refine P _ (AJ i ?_);obtain rfl:=Sh.AD h0;exact rt [(4,.bool o)]
   refine AI AA (zm tb 3 AA (zl tb AA AA (bs a λd3 S a=>zc (hb 72) (Dv S) rfl AA AA (zq tb AA ?_))));rcases Sh.Aj a with ⟨d,a⟩|⟨d,a⟩
   ·exact zg tb d AA (zg tb d AA (zg tb d AA (BV (v:=(Gx p0)) (CM AA AA d) rfl (Ch RJ AA) (bs a λc4 T a=>zd d (hb 72) (Dv T) rfl AA AA AA (zt d AA (zq tb AA (AF (R c4 (Sh.AD a).symm _ (Bj _ AA)))))))))
   ·refine zs d AA ?_;iterate 4 refine zs d rfl ?_
    exact zf d AA (zq tb AA (AF (R false (Sh.AD a).symm _ (Bj _ AA))))
  refine AU (Av (σ:=Int) (λn v=>Ei k p0 p1 n v=some y) (λp=>⟨100,Aa [(0,ls Ai p0),(1,i64 p1),(5,.ptr 0 0 0 0),(7,i64 p)],[⟨0,80,3,[Ai k]⟩]⟩) N 0 a (AK AA) (λ_ F=>by rw[Ei]at F;cases F) ?_);rintro n p a;rw[Ei]at a;refine AE λd4 U=>zr tb AA AA ?_;refine ci a AA ?_ ?_<;>clear a<;>intro d5 a
  ·refine AL (U _ (AE λd6 V=>AU (AE λc5 W=>bs a λX c a=>?_)));have z:∀(A:Bool),X=A->∀s,Wk 0 s ⟨100,Aa [(0,Cw p0),(1,i64 p1),(5,BI),(7,i64 p),(87,.bool A)],[Tu k]⟩->c5 s:=by
    intro A D s i;subst X;refine W _ (AJ i ?_);refine ci a AA ?_ ?_<;>clear a<;>intro d7 a
    ·refine zr tb AA AA ?_;obtain rfl:=Sh.AD a;obtain rfl:=Sh.AD h0;exact rd [(4,.bool false)]
    ·exact AL (V _ (AI AA (zm tb 3 AA (AF (xi (Sh.w (p+1)) a (AK AA))))))
   refine Ca (by kernel_rfl) (by kernel_rfl) (by rfl) ?_;iterate 2 refine yq tb rfl ?_
   refine bs c λB j c=>yx C8 j AA AA AA ?_;iterate 2 refine yq tb rfl ?_
   refine yl tb AA AA ?_;iterate 2 refine yq tb rfl ?_
   rcases Sh.Aj c with ⟨g,c⟩|⟨g,c⟩
   ·refine yg tb g AA (yg tb g AA (HQ (v:=(.Bc (Ai B) 0)) (CM AA AA g) rfl (CZ C8 AA AA j AA) ?_));iterate 5 refine yg tb g rfl ?_
    refine yt g AA (yq tb AA ?_);rcases Sh.Aj c with ⟨h,c⟩|⟨h,c⟩
    ·refine yg tb h AA (yg tb h AA (HQ (v:=(.Bc (Ai B) 0)) (CM AA AA h) rfl (CZ C8 AA AA j AA) ?_));iterate 5 refine yg tb h rfl ?_
     exact yt h AA (As (z (decide (B.to=k.to)) (Sh.AD c).symm _ (AK AA)))
    ·refine ys h AA ?_;iterate 7 refine ys h rfl ?_
     exact yf h AA (As (z false (Sh.AD c).symm _ (AK AA)))
   ·refine ys g AA ?_;iterate 7 refine ys g rfl ?_
    refine yf g AA (yq tb AA ?_);iterate 8 refine ys rfl rfl ?_
    exact yf AA AA (As (z false (Sh.AD c).symm _ (AK AA)))
  ·exact BB (c1 () (Sh.AD a).symm _ (AK AA))
theorem Pb {N:Nat}{p0:(List AN)}{r:Bool}(h0:HY N p0=some r):Ac Tryz.prog 93 [Cw p0] [] (λv st=>v=(.bool r)/\st=[]):=by
 unfold HY at h0;refine ai Tryz.func93 AA AA AA AA (zr tb AA AA (AE λD i=>sr AA λE j=>zq tb AA (zl tb AA AA (zq tb AA (dn j AA ?_)))));refine ci h0 AA ?_ ?_<;>clear h0<;>intro F h0
 ·refine zr tb AA AA ?_;obtain rfl:=Sh.AD h0;exact rt [(2,.bool false)]
 ·refine AL (i _ (AE λp k=>zr tb AA AA ?_));obtain⟨l,a,h0⟩:=Sh.Bl h0;have q:∀(_:Unit),l=Sum.inr ()->∀s,Wk 0 s ⟨17,Aa [],[]⟩->p s:=by
   intro _ G s t;subst l;refine k _ (AJ t (zr tb AA AA ?_));obtain rfl:=Sh.AD h0;exact rt [(2,.bool true)]
  refine AU (Av (σ:=Int) (λn v=>EI N p0 n v=some l) (λm=>⟨17,Aa [(0,ls Ai p0),(3,i64 m)],[]⟩) N 0 a (AK AA) (λ_ o=>by rw[EI]at o;cases o) ?_);rintro n m a;rw[EI]at a;refine AE λu b=>sr AA λx c=>zm tb 2 AA (zl tb AA AA (zq tb AA (dn c AA ?_)));refine ci a AA ?_ ?_<;>clear a<;>intro y a
  ·refine AL (b _ (AE λz d=>AU (sr AA λA e=>zm tb 2 AA (bs a λf g a=>zc (hb 127) (QT g) rfl AA AA (zq tb AA (dn e AA ?_))))));refine ci a AA ?_ ?_<;>clear a<;>intro h a
   ·have B:f=false:=by simpa using h
    refine zr tb AA AA ?_;obtain rfl:=Sh.AD a;obtain rfl:=Sh.AD h0;exact rt [(2,.bool false)]
   ·have C:f=true:=by simpa using h
    exact AL (d _ (AI AA (zm tb 3 AA (AF (xi (Sh.w (m+1)) a (AK AA))))))
  ·exact BB (q () (Sh.AD a).symm _ (AK AA))
theorem QM {N:Nat}{p0:AP}{r:Bool}(h0:G3 N p0=some r):Ac Tryz.prog 57 [JL p0] [] (λv st=>v=(.bool r)/\st=[]):=by
 unfold G3 at h0;refine ai Tryz.func57 AA AA AA AA (sr AA λK1 I=>Bt (m:=0) AH AA AA AA AA AA (zq tb AA (dn I AA (AE λK2 J=>AE λX K=>bs h0 λU a h0=>?_))));have V:∀(L:Bool),U=L->∀s,Wk 0 s ⟨64,Aa [(1,BI),(15,.bool L)],[Fy p0.decls p0.funcs]⟩->X s:=by
  intro L M s j;subst U;refine K _ (AJ j ?_);refine ci h0 AA ?_ ?_<;>clear h0<;>intro b6 h0
  ·refine zr tb AA AA ?_;obtain rfl:=Sh.AD h0;exact rd [(2,.bool false)]
  ·refine AL (J _ (AE λY O=>zr tb AA AA ?_));obtain⟨k,a,h0⟩:=Sh.Bl h0;have P:∀(_:Unit),k=Sum.inr ()->∀s,Wk 0 s ⟨64,Aa [(1,BI)],[Fy p0.decls p0.funcs]⟩->Y s:=by
    intro _ M s j;subst k;refine O _ (AJ j (AE λQ p=>bs h0 λq a h0=>?_));have t:∀(g:Bool),q=g->∀s,Wk 0 s ⟨64,Aa [(2,.bool g)],[]⟩->Q s:=by
     intro g M s j;subst q;refine p _ (AJ j ?_);obtain rfl:=Sh.AD h0;exact rt [(2,.bool g)]
    refine AI AA (zm tb 2 AA (bs a λu i a=>zx Cn i AA AA AA (zm tb 2 AA (zl tb AA AA (zm tb 2 AA ?_)))));rcases Sh.Aj a with ⟨d,a⟩|⟨d,a⟩
    ·refine zg tb d AA (zg tb d AA (BV (v:=(.Bc (BO u) 0)) (CM AA AA d) rfl (CZ Cn AA AA i AA) ?_));iterate 3 refine zg tb d rfl ?_
     exact zt d AA (zq tb AA (AF (t (decide (u.result=0)) (Sh.AD a).symm _ (Bj _ AA))))
    ·refine zs d AA ?_;iterate 5 refine zs d rfl ?_
     exact zf d AA (zq tb AA (AF (t false (Sh.AD a).symm _ (Bj _ AA))))
   refine AU (Av (σ:=Int) (λn v=>EA N p0 n v=some k) (λh=>⟨64,Aa [(1,.ptr 0 0 0 0),(3,i64 h)],[Fy p0.decls p0.funcs]⟩) N 0 a (AK AA) (λ_ W=>by rw[EA]at W;cases W) ?_);rintro n h a;rw[EA]at a;refine AE λZ x=>sr AA λb0 y=>zm tb 3 AA (zl tb AA AA (zq tb AA (dn y AA ?_)));refine ci a AA ?_ ?_<;>clear a<;>intro b1 a
   ·refine AL (x _ (AE λb2 z=>AU (sr AA λb3 A=>zm tb 3 AA (bs a λb4 B a=>zx Cn B AA AA AA (zq tb AA (Au (m:=1) AH LG AA AA (Ao AH Kn AA AA AA AA AA AA kV rfl (dn A AA (AE λR C=>?_)))))))));refine bs a λD f a=>?_;have l:∀(o:Bool),D=o->∀s,Wk 0 s ⟨64,Aa [(1,BI),(3,i64 h),(48,.bool o)],[Fy p0.decls p0.funcs]⟩->R s:=by
     intro o M s j;subst D;refine C _ (AJ j ?_);refine ci a AA ?_ ?_<;>clear a<;>intro b5 a
     ·refine zr tb AA AA ?_;obtain rfl:=Sh.AD a;obtain rfl:=Sh.AD h0;exact rd [(2,.bool false)]
     ·exact AL (z _ (AI AA (zm tb 3 AA (AF (xi (Sh.w (h+1)) a (AK AA))))))
    refine AI AA (zm tb 2 AA (zl tb AA AA (zm tb 2 AA ?_)));rcases Sh.Aj f with ⟨e,f⟩|⟨e,f⟩
    ·refine zs e AA ?_;iterate 5 refine zs e rfl ?_
     refine zt e AA (zq tb AA ?_);iterate 7 refine zs rfl rfl ?_
     refine zt AA AA ?_;exact AF (l true (Sh.AD f).symm _ (AT [0] AA (by decide) rfl AA (.raw AA AA .nil) (.same AA)))
    ·refine zg tb e AA ?_;iterate 3 refine zg tb e rfl ?_
     refine bs f λb7 E f=>zd e (hb 94) (MW E) rfl AA AA AA (zg tb e AA (zf e AA (zq tb AA ?_)));rcases Sh.Aj f with ⟨b,f⟩|⟨b,f⟩
     ·refine zs b AA ?_;iterate 6 refine zs b rfl ?_
      refine zt b AA ?_;exact AF (l true (Sh.AD f).symm _ (AT [0] AA (by decide) rfl AA (.raw AA AA .nil) (.same AA)))
     ·refine zg tb b AA ?_;iterate 3 refine zg tb b rfl ?_
      refine BV (v:=(i64 (Sh.len p0.decls))) (CM AA AA b) rfl (Ch RJ AA) (bs f λS F f=>zd b (hb 72) (Dv F) rfl AA AA AA (zg tb b AA (zf b AA ?_)));exact AF (l (!S) (Sh.AD f).symm _ (AT [0] AA (by decide) rfl AA (.raw AA AA .nil) (.same AA)))
   ·exact BB (P () (Sh.AD a).symm _ (AK AA))
 refine AI AA (zm tb 2 AA (bs a λb8 G a=>zc (hb 93) (Pb G) rfl AA AA (zm tb 2 AA ?_)));rcases Sh.Aj a with ⟨c,a⟩|⟨c,a⟩
 ·refine zs c AA ?_;iterate 4 refine zs c rfl ?_
  exact zt c AA (AF (V true (Sh.AD a).symm _ (AK AA)))
 ·exact zg tb c AA (zg tb c AA (BV (v:=(i64 (Sh.len p0.funcs))) (CM AA AA c) rfl (Ch SN AA) (bs a λT H a=>zd c (hb 72) (Dv H) rfl AA AA AA (zg tb c AA (zf c AA (AF (V (!T) (Sh.AD a).symm _ (AK AA))))))))
theorem Mr {N:Nat}{lM:AP->(List Int)->AG->Option (Int)}(lR :∀{p0:AP} {p1:(List Int)} {p2:AG} {r:Int},lM p0 p1 p2=some r->Ac Tryz.prog 59 [JL p0,ls eI p1,Bh p2] [] (λv st=>v=(i64 r)/\st=[])){p0:AP}{p1:(List Int)}{p2:(List AG)}{p3:Int}{r:Bool}(h0:IF N lM p0 p1 p2 p3=some r):Ac Tryz.prog 96 [JL p0,ls eI p1,Gc p2,i64 p3] [] (λv st=>v=(.bool r)/\st=[]):=by
 unfold IF at h0;refine ai Tryz.func96 AA AA AA AA (sr AA λG k=>Bt (m:=0) AH AA AA AA AA AA (zq tb AA (dn k AA (AE λH l=>sr AA λI o=>zq tb AA (zl tb AA AA (zm tb 2 AA (dn o AA ?_)))))));refine ci h0 AA ?_ ?_<;>clear h0<;>intro u h0
 ·have J:decide ((Sh.len p2)=p3)=false:=by simpa using u
  refine zr tb AA AA ?_;obtain rfl:=Sh.AD h0;exact rd [(8,.bool false)]
 ·have K:decide ((Sh.len p2)=p3)=true:=by simpa using u
  refine AL (l _ (AE λy p=>zr tb AA AA ?_));obtain⟨b,a,h0⟩:=Sh.Bl h0;have q:∀(_:Unit),b=Sum.inr ()->∀s,Wk 0 s ⟨27,Aa [],[]⟩->y s:=by
   intro _ L s z;subst b;refine p _ (AJ z (zr tb AA AA ?_));obtain rfl:=Sh.AD h0;exact rt [(8,.bool true)]
  refine AU (Av (σ:=Int) (λn v=>FZ p0 p1 p2 p3 lM n v=some b) (λc=>⟨27,Aa [(1,ls eI p1),(2,ls Az p2),(3,i64 p3),(4,.ptr 0 0 0 0),(9,i64 c)],[Fy p0.decls p0.funcs]⟩) N 0 a (AK AA) (λ_ x=>by rw[FZ]at x;cases x) ?_);rintro n c a;rw[FZ]at a;refine AE λA e=>zr tb AA AA ?_;refine ci a AA ?_ ?_<;>clear a<;>intro B a
  ·refine AL (e _ (AE λC f=>AU (AE λD g=>?_)));refine Ca (by kernel_rfl) (by kernel_rfl) (by rfl) ?_;iterate 4 refine yq tb rfl ?_
   refine bs a λt h a=>yz (EE t) (Co BT AA AA h (Al _) rfl) rfl (yq tb AA (bs a λd i a=>BX (v:=(i64 d)) AH (hb 59) (lR i) rfl AA AA (yq tb AA (As (g _ ?_)))));refine ci a AA ?_ ?_<;>clear a<;>intro j a
   ·have E:decide (d=0)=false:=by simpa using j
    refine zr tb AA AA ?_;obtain rfl:=Sh.AD a;obtain rfl:=Sh.AD h0;exact rd [(8,.bool false)]
   ·have F:decide (d=0)=true:=by simpa using j
    exact AL (f _ (AI AA (zm tb 3 AA (AF (xi (Sh.w (c+1)) a (AK AA))))))
  ·exact BB (q () (Sh.AD a).symm _ (Bj _ AA))
theorem Lo {N:Nat}{lM:AP->(List Int)->AG->Option (Int)}(lR :∀{p0:AP} {p1:(List Int)} {p2:AG} {r:Int},lM p0 p1 p2=some r->Ac Tryz.prog 59 [JL p0,ls eI p1,Bh p2] [] (λv st=>v=(i64 r)/\st=[])){p0:AP}{p1:(List Int)}{p2:(List AG)}{p3:(List Int)}{r:Bool}(h0:Ic N lM p0 p1 p2 p3=some r):Ac Tryz.prog 98 [JL p0,ls eI p1,Gc p2,ls eI p3] [] (λv st=>v=(.bool r)/\st=[]):=by
 unfold Ic at h0;refine ai Tryz.func98 AA AA AA AA (sr AA λK p=>Bt (m:=0) AH AA AA AA AA AA (zq tb AA (dn p AA (AE λL q=>sr AA λM t=>zq tb AA (zl tb AA AA (zq tb AA (zl tb AA AA (zq tb AA ?_))))))));refine dn t AA ?_;refine ci h0 AA ?_ ?_<;>clear h0<;>intro z h0
 ·have O:decide ((Sh.len p2)=(Sh.len p3))=false:=by simpa using z
  refine zr tb AA AA ?_;obtain rfl:=Sh.AD h0;exact rd [(8,.bool false)]
 ·have P:decide ((Sh.len p2)=(Sh.len p3))=true:=by simpa using z
  refine AL (q _ (AE λB u=>zr tb AA AA ?_));obtain⟨b,a,h0⟩:=Sh.Bl h0;have x:∀(_:Unit),b=Sum.inr ()->∀s,Wk 0 s ⟨33,Aa [],[]⟩->B s:=by
   intro _ Q s C;subst b;refine u _ (AJ C (zr tb AA AA ?_));obtain rfl:=Sh.AD h0;exact rt [(8,.bool true)]
  refine AU (Av (σ:=Int) (λn v=>F9 p0 p1 p2 p3 lM n v=some b) (λc=>⟨33,Aa [(1,ls eI p1),(2,ls Az p2),(3,ls eI p3),(4,.ptr 0 0 0 0),(9,i64 c)],[Fy p0.decls p0.funcs]⟩) N 0 a (AK AA) (λ_ A=>by rw[F9]at A;cases A) ?_);rintro n c a;rw[F9]at a;refine AE λD e=>sr AA λE f=>zm tb 2 AA (zl tb AA AA (zq tb AA (dn f AA ?_)));refine ci a AA ?_ ?_<;>clear a<;>intro F a
  ·refine AL (e _ (AE λG g=>AU (AE λH h=>?_)));refine Ca (by kernel_rfl) (by kernel_rfl) (by rfl) ?_;iterate 4 refine yq tb rfl ?_
   refine bs a λy i a=>yz (EE y) (Co BT AA AA i (Al _) rfl) rfl (yq tb AA (bs a λd j a=>BX (v:=(i64 d)) AH (hb 59) (lR j) rfl AA AA ?_));iterate 2 refine yq tb rfl ?_
   refine bs a λk l a=>yx BM l AA AA AA ?_;iterate 2 refine yq tb rfl ?_
   refine As (h _ ?_);refine ci a AA ?_ ?_<;>clear a<;>intro o a
   ·have I:decide (d=k)=false:=by simpa using o
    refine zr tb AA AA ?_;obtain rfl:=Sh.AD a;obtain rfl:=Sh.AD h0;exact rd [(8,.bool false)]
   ·have J:decide (d=k)=true:=by simpa using o
    exact AL (g _ (AI AA (zm tb 3 AA (AF (xi (Sh.w (c+1)) a (AK AA))))))
  ·exact BB (x () (Sh.AD a).symm _ (Bj _ AA))
theorem QC {N:Nat}{lM:AP->(List Int)->AG->Option (Int)}(lR :∀{p0:AP} {p1:(List Int)} {p2:AG} {r:Int},lM p0 p1 p2=some r->Ac Tryz.prog 59 [JL p0,ls eI p1,Bh p2] [] (λv st=>v=(i64 r)/\st=[])){p0:AP}{p1:(List Int)}{p2:AG}{r:Int}(h0:JV N lM p0 p1 p2=some r):Ac Tryz.prog 100 [JL p0,ls eI p1,Bh p2] [] (λv st=>v=(i64 r)/\st=[]):=by
 unfold JV at h0;refine ai Tryz.func100 AA AA AA AA (sr AA λK1 K=>Bt (m:=0) AH AA AA AA AA AA (Bt (m:=1) AH AA AA AA AA AA (zq tb AA (dn K AA (sr AA λK2 M=>zm tb 4 AA (bs h0 λe O h0=>CD (v':=(ow 2 0 e)) AH (hb 104) (JS O) rfl AA ⟨(By λ_=>AA),fa⟩ AA AA (zq tb AA (dn M AA ?_))))))));refine AE λK4 P=>AE λK5 Q=>bs h0 λo7 a h0=>?_;have R:∀(S:Bool),o7=S->∀s,Wk 0 s ⟨79,Aa [(1,ls eI p1),(3,BI),(5,CV),(7,ow 2 0 e),(38,.bool S)],[Fy p0.decls p0.funcs,OQ p2.op p2.num p2.kids,Bi e]⟩->K5 s:=by
  intro S hq s T;subst o7;refine Q _ (AJ T ?_);refine ci h0 AA ?_ ?_<;>clear h0<;>intro b8 h0
  ·refine zr tb AA AA ?_;obtain rfl:=Sh.AD h0;exact rd [(6,i64 (-1))]
  ·refine AL (P _ (AE λb3 k=>?_));refine Cz 14 (by kernel_rfl) (by kernel_rfl) (by rfl) ?_;iterate 5 refine yq tb rfl ?_
   refine bs h0 λU g h0=>yz (.ptr 2 0 (Int.toNat 0) 0) (CC BM AA AA AA AA g) rfl (yz (i64 U) (Bp Gp AA AA (CS g) rfl) rfl (bs h0 λV l h0=>BX (v:=(ls eI V)) AH (hb 99) (FT l) rfl AA AA (bs h0 λo p h0=>?_)));refine BX (v:=(ls eI o)) AH (hb 85) (Ac.wk (FN p) (by refine Wk.trans (Wk.BJ (L:=[(0,ls eI o)]) (st':=[⟨1,3,1,[]⟩]) (id:=0) rfl kX (AB λ_=>AA) ⟨.BJ AA,fa⟩ AA) ?_;exact AT [] AA (by decide) rfl AA .nil (.same AA))) rfl AA AA ?_;iterate 2 refine yq tb rfl ?_
   refine bs h0 λW q h0=>yz (EE W) (Co BT AA AA q (Al _) rfl) rfl (yq tb AA (bs h0 λd t h0=>BX (v:=(i64 d)) AH (hb 59) (lR t) rfl AA AA (As (zq tb AA (dn k AA (AE λX u=>zr tb AA AA ?_))))));obtain⟨i,a,h0⟩:=Sh.Bl h0;have Y:∀(_:Unit),i=Sum.inr ()->∀s,Wk 0 s ⟨79,Aa [(8,i64 d)],[]⟩->X s:=by
    intro _ hq s T;subst i;refine u _ (AJ T (zr tb AA AA ?_));obtain rfl:=Sh.AD h0;exact rt [(6,i64 d)]
   refine AU (Av (σ:=Int) (λn v=>D7 N p0 p1 p2 d e lM n v=some i) (λf=>⟨79,Aa [(1,ls eI p1),(3,.ptr 0 0 0 0),(5,.ptr 1 0 0 0),(7,ow 2 0 e),(8,i64 d),(9,i64 f)],[Fy p0.decls p0.funcs,OQ p2.op p2.num p2.kids,ro 0 3 1 eI e]⟩) N 1 a (AK AA) (λ_ hv=>by rw[D7]at hv;cases hv) ?_);rintro n f a;rw[D7]at a;refine AE λb4 x=>sr AA λb5 y=>zm tb 2 AA (zz (Gx e) (Cq Fe AA AA AA) rfl (zq tb AA (dn y AA ?_)));refine ci a AA ?_ ?_<;>clear a<;>intro b6 a
   ·refine AL (x _ (AE λb7 z=>AU (AE λb9 A=>?_)));refine Cz 18 (by kernel_rfl) (by kernel_rfl) (by rfl) ?_;iterate 6 refine yq tb rfl ?_
    refine bs a λZ h a=>yz (.ptr 2 0 (Int.toNat f) 0) (CC BM AA AA AA AA h) rfl (yz (i64 Z) (Bp Gp AA AA (CS h) rfl) rfl (bs a λb0 B a=>BX (v:=(ls eI b0)) AH (hb 99) (FT B) rfl AA AA (bs a λC D a=>?_)));refine BX (v:=(ls eI C)) AH (hb 85) (Ac.wk (FN D) (by refine Wk.trans (Wk.BJ (L:=[(0,ls eI C)]) (st':=[⟨1,3,1,[]⟩]) (id:=0) rfl kX (AB λ_=>AA) ⟨.BJ AA,fa⟩ AA) ?_;exact AT [] AA (by decide) rfl AA .nil (.same AA))) rfl AA AA ?_;iterate 4 refine yq tb rfl ?_
    refine bs a λb1 E a=>yz (EE b1) (Co BT AA AA E (Al _) rfl) rfl (yq tb AA (bs a λj F a=>BX (v:=(i64 j)) AH (hb 59) (lR F) rfl AA AA (yq tb AA (As (zq tb AA (dn A AA ?_))))));refine ci a AA ?_ ?_<;>clear a<;>intro G a
    ·have c0:decide (j=d)=false:=by simpa using G
     refine zr tb AA AA ?_;obtain rfl:=Sh.AD a;obtain rfl:=Sh.AD h0;exact rd [(6,i64 (-1))]
    ·have c1:decide (j=d)=true:=by simpa using G
     exact AL (z _ (AI AA (zm tb 3 AA (AF (xi (Sh.w (f+1)) a (AK AA))))))
   ·exact BB (Y () (Sh.AD a).symm _ (Bj _ AA))
 refine Ca (by kernel_rfl) (by kernel_rfl) (by rfl) ?_;refine yq tb AA (yz (Gx e) (Cq Fe AA AA AA) rfl ?_);iterate 2 refine yq tb rfl ?_
 rcases Sh.Aj a with ⟨b,a⟩|⟨b,a⟩
 ·refine ys b AA ?_;iterate 6 refine ys b rfl ?_
  refine yt b AA (yq tb AA ?_);iterate 10 refine ys rfl rfl ?_
  exact yt AA AA (As (R true (Sh.AD a).symm _ (AK AA)))
 ·refine yg tb b AA (yg tb b AA (HQ (v:=(Wg p2)) (CM AA AA b) rfl (Ch Qc AA) (yg tb b AA (HQ (v:=(Gx e)) (CM AA AA b) rfl (Cq Fe AA AA AA) ?_))));iterate 2 refine yg tb b rfl ?_
  refine yf b AA (yq tb AA ?_);rcases Sh.Aj a with ⟨c,a⟩|⟨c,a⟩
  ·refine ys c AA ?_;iterate 9 refine ys c rfl ?_
   exact yt c AA (As (R true (Sh.AD a).symm _ (AK AA)))
  ·refine yg tb c AA ?_;iterate 3 refine yg tb c rfl ?_
   refine bs a λb2 H a=>HQ (v:=(EE b2)) (CM AA AA c) rfl (Co BT AA AA H (Al _) rfl) (yg tb c AA (bs a λI J a=>BX (v:=(i64 I)) (CM AA AA c) (hb 59) (lR J) rfl AA AA ?_));iterate 3 refine yg tb c rfl ?_
   exact yf c AA (As (R (!decide (I=p2.num)) (Sh.AD a).symm _ (AK AA)))
theorem Q7 {N:Nat}{lM:AP->(List Int)->AG->Option (Int)}(lR :∀{p0:AP} {p1:(List Int)} {p2:AG} {r:Int},lM p0 p1 p2=some r->Ac Tryz.prog 59 [JL p0,ls eI p1,Bh p2] [] (λv st=>v=(i64 r)/\st=[])){p0:AP}{p1:(List Int)}{p2:AG}{r:Int}(h0:FD N lM p0 p1 p2=some r):Ac Tryz.prog 101 [JL p0,ls eI p1,Bh p2] [] (λv st=>v=(i64 r)/\st=[]):=by
 unfold FD at h0;refine ai Tryz.func101 AA AA AA AA (sr AA λK1 E=>Bt (m:=0) AH AA AA AA AA AA (Bt (m:=1) AH AA AA AA AA AA (zq tb AA (dn E AA (AE λK2 F=>sr AA λK3 G=>zm tb 4 AA (zl tb AA AA (zq tb AA (bs h0 λK H h0=>?_))))))));refine zc (hb 72) (Dv H) rfl AA AA (zq tb AA (dn G AA ?_));refine ci h0 AA ?_ ?_<;>clear h0<;>intro L h0
 ·have b6:K=false:=by simpa using L
  refine zr tb AA AA ?_;obtain rfl:=Sh.AD h0;exact rd [(6,i64 (-1))]
 ·have b8:K=true:=by simpa using L
  refine AL (F _ (sr AA λK9 I=>zm tb 4 AA (bs h0 λb e h0=>zx Cn e AA AA AA (zq tb AA (Au (m:=2) AH LG AA AA (Ao AH Kn AA AA AA AA AA AA kV rfl (dn I AA (sr AA λM f=>zm tb 2 AA (zl tb AA AA ?_)))))))));refine zq tb AA (dn f AA (AE λO g=>zr tb AA AA ?_));refine ci h0 AA ?_ ?_<;>clear h0<;>intro P h0
  ·refine AE λQ h=>sr AA λR k=>zm tb 6 AA (bs h0 λl n h0=>zc (hb 98) (Lo lR n) rfl AA AA (zq tb AA (dn k AA ?_)));refine ci h0 AA ?_ ?_<;>clear h0<;>intro o h0
   ·have S:l=false:=by simpa using o
    refine zr tb AA AA ?_;obtain rfl:=Sh.AD h0;exact rd [(6,i64 (-1))]
   ·have T:l=true:=by simpa using o
    refine AL (h _ (zr tb AA AA ?_));obtain rfl:=Sh.AD h0;exact rd [(6,i64 b.result)]
  ·refine AL (g _ (AE λU p=>AE λJ q=>bs h0 λt c h0=>?_));have u:∀(d:Bool),t=d->∀s,Wk 0 s ⟨65,Aa [(3,BI),(7,CV),(8,i64 (Sh.len b.params)),(53,.bool d)],[Fy p0.decls p0.funcs,⟨0,37,5,[O0 b]⟩]⟩->J s:=by
    intro d hq s V;subst t;refine q _ (AJ V ?_);refine ci h0 AA ?_ ?_<;>clear h0<;>intro W h0
    ·refine zr tb AA AA ?_;obtain rfl:=Sh.AD h0;exact rd [(6,i64 (-1))]
    ·refine AL (p _ (AE λX x=>?_));refine Ca (by kernel_rfl) (by kernel_rfl) (by rfl) ?_;iterate 6 refine yq tb rfl ?_
     refine bs h0 λY y h0=>yx BM y AA AA AA ?_;iterate 3 refine yq tb rfl ?_
     refine bs h0 λz A h0=>BX (v:=(i64 z)) AH (hb 128) (NM A) rfl AA AA (yq tb AA (As (x _ ?_)));obtain rfl:=Sh.AD h0;exact rd [(6,i64 z)]
   refine Cz 14 (by kernel_rfl) (by kernel_rfl) (by rfl) ?_;iterate 3 refine yq tb rfl ?_
   rcases Sh.Aj c with ⟨a,c⟩|⟨a,c⟩
   ·refine ys a AA ?_;iterate 10 refine ys a rfl ?_
    refine As (zt a AA ?_);exact AF (u true (Sh.AD c).symm _ (AT [0,2] AA (by decide) rfl AA (.raw AA AA (.raw AA AA .nil)) (.same AA)))
   ·refine yg tb a AA ?_;iterate 7 refine yg tb a rfl ?_
    refine bs c λZ B c=>YL (i:=0) (j:=Sh.w ((Sh.len b.params)-1)) (CM AA AA a) BM AA AA AA (λ_=>AA) B (bs c λC D c=>BX (v:=(.bool C)) (CM AA AA a) (hb 98) (Lo lR D) rfl AA AA (yg tb a AA (As (zf a AA ?_))));exact AF (u (!C) (Sh.AD c).symm _ (AT [0,2] AA (by decide) rfl AA (.raw AA AA (.raw AA AA .nil)) (.same AA)))
theorem RA {N:Nat}{lM:AP->(List Int)->AG->Option (Int)}(lR :∀{p0:AP} {p1:(List Int)} {p2:AG} {r:Int},lM p0 p1 p2=some r->Ac Tryz.prog 59 [JL p0,ls eI p1,Bh p2] [] (λv st=>v=(i64 r)/\st=[])){p0:AP}{p1:(List Int)}{p2:AG}{r:Int}(h0:Bg N lM p0 p1 p2=some r):Ac Tryz.prog 59 [JL p0,ls eI p1,Bh p2] [] (λv st=>v=(i64 r)/\st=[]):=by
 unfold Bg at h0;refine ai Tryz.func59 AA AA AA AA (sr AA λK1 m7=>Bt (m:=0) AH AA AA AA AA AA (Bt (m:=1) AH AA AA AA AA AA (zq tb AA (dn m7 AA (zr tb AA AA (AE λK3 m8=>?_))))));obtain⟨o4,a,h0⟩:=Sh.Bl h0;have p:∀(_:Unit),o4=Sum.inr ()->∀s,Wk 0 s ⟨215,Aa [],[]⟩->K3 s:=by
  intro _ q s e;subst o4;refine m8 _ (AJ e (zr tb AA AA ?_));obtain rfl:=Sh.AD h0;exact rt [(6,i64 (-1))]
 refine zr tb AA AA (AU (zr tb AA AA ?_));refine ci a AA ?_ ?_<;>clear a<;>intro b8 a
 ·refine AE λK9 m9=>bs a λb3 b a=>?_;have b4:∀(E:Bool),b3=E->∀s,Wk 0 s ⟨215,Aa [(26,.bool E)],[]⟩->K9 s:=by
   intro E q s e;subst b3;refine m9 _ (AJ e ?_);refine ci a AA ?_ ?_<;>clear a<;>intro v9 a
   ·refine zr tb AA AA ?_;obtain rfl:=Sh.AD a;obtain rfl:=Sh.AD h0;exact rt [(6,i64 0)]
   ·exact AL (p () (Sh.AD a).symm _ (AK AA))
  refine AI AA (zm tb 2 AA (zl tb AA AA (zm tb 2 AA ?_)));rcases Sh.Aj b with ⟨h,b⟩|⟨h,b⟩
  ·exact zg tb h AA (zg tb h AA (bs b λq0 b5 b=>zd h (hb 72) (Dv b5) rfl AA AA AA (zt h AA (AF (b4 q0 (Sh.AD b).symm _ (Bj _ AA))))))
  ·exact zs h AA (zs h AA (zs h AA (zf h AA (AF (b4 false (Sh.AD b).symm _ (Bj _ AA))))))
 ·refine zr tb AA AA ?_;refine ci a AA ?_ ?_<;>clear a<;>intro w0 a
  ·refine AE λq1 b6=>bs a λb7 b a=>?_;have b9:∀(F:Bool),b7=F->∀s,Wk 0 s ⟨215,Aa [(1,ls eI p1),(5,BI),(40,.bool F)],[OQ p2.op p2.num p2.kids]⟩->q1 s:=by
    intro F q s e;subst b7;refine b6 _ (AJ e ?_);refine ci a AA ?_ ?_<;>clear a<;>intro w1 a
    ·refine sr AA λw2 c0=>zm tb 3 AA (bs a λq2 c1 a=>zx BM c1 AA AA AA (zm tb 2 AA (dn c0 AA ?_)));obtain rfl:=Sh.AD a;obtain rfl:=Sh.AD h0;exact rd [(6,i64 q2)]
    ·exact AL (p () (Sh.AD a).symm _ (Bj _ AA))
   refine AI AA (zm tb 2 AA (zl tb AA AA (zm tb 2 AA ?_)));rcases Sh.Aj b with ⟨f,b⟩|⟨f,b⟩
   ·refine zg tb f AA (zg tb f AA (zg tb f AA (BV (v:=(Gx p1)) (CM AA AA f) rfl (Ch Fe AA) (zg tb f AA (bs b λq3 c2 b=>zd f (hb 72) (Dv c2) rfl AA AA AA (zt f AA ?_))))));exact AF (b9 q3 (Sh.AD b).symm _ (AT [1] AA (by decide) rfl AA (.raw AA AA .nil) (.same AA)))
   ·refine zs f AA ?_;iterate 5 refine zs f rfl ?_
    refine zf f AA ?_;exact AF (b9 false (Sh.AD b).symm _ (AT [1] AA (by decide) rfl AA (.raw AA AA .nil) (.same AA)))
  ·refine AE λq4 c3=>bs a λc4 b a=>?_;have w:∀(G:Bool),c4=G->∀s,Wk 0 s ⟨215,Aa (ZY p1 p2 [(46,.bool G)]),[Fy p0.decls p0.funcs,OQ p2.op p2.num p2.kids]⟩->q4 s:=by
    intro G q s e;subst c4;refine c3 _ (AJ e ?_);refine ci a AA ?_ ?_<;>clear a<;>intro w3 a
    ·refine AE λq5 c5=>bs a λc6 b a=>?_;have c7:∀(H:Bool),c6=H->∀s,Wk 0 s ⟨215,Aa [(58,.bool H)],[]⟩->q5 s:=by
      intro H q s e;subst c6;refine c5 _ (AJ e ?_);refine ci a AA ?_ ?_<;>clear a<;>intro w4 a
      ·refine zr tb AA AA ?_;obtain rfl:=Sh.AD a;obtain rfl:=Sh.AD h0;exact rt [(6,i64 0)]
      ·exact AL (p () (Sh.AD a).symm _ (AK AA))
     refine AI AA (zm tb 2 AA ?_);rcases Sh.Aj b with ⟨n,b⟩|⟨n,b⟩
     ·refine zg tb n AA ?_;iterate 3 refine zg tb n rfl ?_
      exact bs b λq6 c8 b=>zd n (hb 96) (Mr lR c8) rfl AA AA AA (zt n AA (AF (c7 q6 (Sh.AD b).symm _ (Bj _ AA))))
     ·refine zs n AA ?_;iterate 4 refine zs n rfl ?_
      exact zf n AA (AF (c7 false (Sh.AD b).symm _ (Bj _ AA)))
    ·refine zr tb AA AA ?_;refine ci a AA ?_ ?_<;>clear a<;>intro w5 a
     ·refine AE λq7 c9=>bs a λd1 b a=>?_;have d2:∀(I:Bool),d1=I->∀s,Wk 0 s ⟨215,Aa [(68,.bool I)],[]⟩->q7 s:=by
       intro I q s e;subst d1;refine c9 _ (AJ e ?_);refine ci a AA ?_ ?_<;>clear a<;>intro w6 a
       ·refine zr tb AA AA ?_;obtain rfl:=Sh.AD a;obtain rfl:=Sh.AD h0;exact rt [(6,i64 0)]
       ·exact AL (p () (Sh.AD a).symm _ (AK AA))
      refine AI AA (zm tb 2 AA ?_);rcases Sh.Aj b with ⟨o,b⟩|⟨o,b⟩
      ·refine zg tb o AA ?_;iterate 3 refine zg tb o rfl ?_
       exact bs b λq8 d3 b=>zd o (hb 96) (Mr lR d3) rfl AA AA AA (zt o AA (AF (d2 q8 (Sh.AD b).symm _ (Bj _ AA))))
      ·refine zs o AA ?_;iterate 4 refine zs o rfl ?_
       exact zf o AA (AF (d2 false (Sh.AD b).symm _ (Bj _ AA)))
     ·refine zr tb AA AA ?_;refine ci a AA ?_ ?_<;>clear a<;>intro w7 a
      ·refine AE λq9 d4=>bs a λd5 b a=>?_;have d6:∀(J:Bool),d5=J->∀s,Wk 0 s ⟨215,Aa [(3,BI),(5,CV),(88,.bool J)],[Fy p0.decls p0.funcs,OQ p2.op p2.num p2.kids]⟩->q9 s:=by
        intro J q s e;subst d5;refine d4 _ (AJ e ?_);refine ci a AA ?_ ?_<;>clear a<;>intro w8 a
        ·refine sr AA λw9 d7=>zm tb 4 AA (bs a λt0 d8 a=>zc (hb 97) (KG d8) rfl AA AA (zq tb AA (dn d7 AA ?_)));obtain rfl:=Sh.AD a;obtain rfl:=Sh.AD h0;exact rd [(6,i64 t0)]
        ·exact AL (p () (Sh.AD a).symm _ (Bj _ AA))
       refine Cz 17 (by kernel_rfl) (by kernel_rfl) (by rfl) ?_;iterate 4 refine yq tb rfl ?_
       refine bs b λt1 d9 b=>BX (v:=(i64 t1)) AH (hb 97) (KG d9) rfl AA AA ?_;iterate 2 refine yq tb rfl ?_
       rcases Sh.Aj b with ⟨i,b⟩|⟨i,b⟩
       ·refine yg tb i AA ?_;iterate 7 refine yg tb i rfl ?_
        exact bs b λt2 g0 b=>BX (v:=(ls eI t2)) (CM AA AA i) (hb 99) (FT g0) rfl AA AA (bs b λg1 g2 b=>BX (v:=(.bool g1)) (CM AA AA i) (hb 98) (Lo lR g2) rfl AA AA (As (zt i AA (AF (d6 g1 (Sh.AD b).symm _ (AK AA))))))
       ·refine ys i AA ?_;iterate 9 refine ys i rfl ?_
        exact As (zf i AA (AF (d6 false (Sh.AD b).symm _ (AK AA))))
      ·refine zr tb AA AA ?_;refine ci a AA ?_ ?_<;>clear a<;>intro A0 a
       ·refine AE λt3 g3=>bs a λg4 b a=>?_;have g5:∀(K:Bool),g4=K->∀s,Wk 0 s ⟨215,Aa [(1,ls eI p1),(3,BI),(5,CV),(102,.bool K)],[Fy p0.decls p0.funcs,OQ p2.op p2.num p2.kids]⟩->t3 s:=by
         intro K q s e;subst g4;refine g3 _ (AJ e ?_);refine ci a AA ?_ ?_<;>clear a<;>intro A1 a
         ·refine AE λA2 g6=>?_;refine Ca (by kernel_rfl) (by kernel_rfl) (by rfl) ?_;iterate 4 refine yq tb rfl ?_
          refine bs a λt4 g7 a=>yz (EE t4) (Co BT AA AA g7 (Al _) rfl) rfl (yq tb AA (bs a λg8 g9 a=>BX (v:=(i64 g8)) AH (hb 59) (lR g9) rfl AA AA (yq tb AA (As (g6 _ (zr tb AA AA ?_))))));refine ci a AA ?_ ?_<;>clear a<;>intro A3 a
          ·refine AE λA4 h3=>?_;refine Cz 10 (by kernel_rfl) (by kernel_rfl) (by rfl) ?_;iterate 3 refine yq tb rfl ?_
           refine GI (l:=[g8]) (enc:=eI) AH BM (by decide) rfl AA AA AA AA (AB λ_=>AA) ?_;refine bs a λh4 h5 a=>?_;refine BX (v:=(ls eI h4)) AH (hb 85) (Ac.wk (FN h5) (by refine Wk.trans (Wk.BJ (L:=[(0,ls eI h4)]) (st':=[⟨1,3,1,[]⟩]) (id:=0) rfl kX (AB λ_=>AA) ⟨.BJ AA,fa⟩ AA) ?_;exact AT [] AA (by decide) rfl AA .nil (.same AA))) rfl AA AA ?_;iterate 2 refine yq tb rfl ?_
           refine bs a λt5 h6 a=>yz (EE t5) (Co BT AA AA h6 (Al _) rfl) rfl (yq tb AA (bs a λh7 h8 a=>BX (v:=(i64 h7)) AH (hb 59) (lR h8) rfl AA AA (As (zq tb AA (dn h3 AA ?_)))));obtain rfl:=Sh.AD a;obtain rfl:=Sh.AD h0;exact rd [(6,i64 h7)]
          ·exact AL (p () (Sh.AD a).symm _ (Bj _ AA))
         ·exact AL (p () (Sh.AD a).symm _ (Bj _ AA))
        refine AI AA (zm tb 2 AA ?_);rcases Sh.Aj b with ⟨j,b⟩|⟨j,b⟩
        ·exact zg tb j AA (zg tb j AA (BV (v:=(Wg p2)) (CM AA AA j) rfl (Ch Qc AA) (zg tb j AA (zt j AA (AF (g5 (decide ((Sh.len p2.kids)=2)) (Sh.AD b).symm _ (AK AA)))))))
        ·refine zs j AA ?_;iterate 3 refine zs j rfl ?_
         exact zf j AA (AF (g5 false (Sh.AD b).symm _ (AK AA)))
       ·refine zr tb AA AA ?_;refine ci a AA ?_ ?_<;>clear a<;>intro A5 a
        ·refine AE λt6 h9=>bs a λk0 b a=>?_;have M:∀(O:Bool),k0=O->∀s,Wk 0 s ⟨215,Aa [(1,ls eI p1),(3,BI),(5,CV),(140,.bool O)],[Fy p0.decls p0.funcs,OQ p2.op p2.num p2.kids]⟩->t6 s:=by
          intro O q s e;subst k0;refine h9 _ (AJ e ?_);refine ci a AA ?_ ?_<;>clear a<;>intro A6 a
          ·refine AE λA7 k1=>?_;refine Ca (by kernel_rfl) (by kernel_rfl) (by rfl) ?_;iterate 4 refine yq tb rfl ?_
           refine bs a λt7 k2 a=>yz (EE t7) (Co BT AA AA k2 (Al _) rfl) rfl (yq tb AA (bs a λk3 k4 a=>BX (v:=(i64 k3)) AH (hb 59) (lR k4) rfl AA AA (yq tb AA (As (k1 _ (AE λA8 k5=>?_))))));refine Ca (by kernel_rfl) (by kernel_rfl) (by rfl) ?_;iterate 4 refine yq tb rfl ?_
           refine bs a λt8 k6 a=>yz (EE t8) (Co BT AA AA k6 (Al _) rfl) rfl (yq tb AA (bs a λt9 k7 a=>BX (v:=(i64 t9)) AH (hb 59) (lR k7) rfl AA AA ?_));iterate 2 refine yq tb rfl ?_
           refine As (k5 _ ?_);refine ci a AA ?_ ?_<;>clear a<;>intro A9 a
           ·refine zr tb AA AA ?_;obtain rfl:=Sh.AD a;obtain rfl:=Sh.AD h0;exact rd [(6,i64 k3)]
           ·exact AL (p () (Sh.AD a).symm _ (Bj _ AA))
          ·exact AL (p () (Sh.AD a).symm _ (Bj _ AA))
         refine Ca (by kernel_rfl) (by kernel_rfl) (by rfl) ?_;iterate 2 refine yq tb rfl ?_
         rcases Sh.Aj b with ⟨k,b⟩|⟨k,b⟩
         ·refine yg tb k AA (yg tb k AA (HQ (v:=(Wg p2)) (CM AA AA k) rfl (Ch Qc AA) (yg tb k AA (yt k AA (yq tb AA ?_)))));rcases Sh.Aj b with ⟨g,b⟩|⟨g,b⟩
          ·refine yg tb g AA ?_;iterate 3 refine yg tb g rfl ?_
           exact bs b λv0 k8 b=>HQ (v:=(EE v0)) (CM AA AA g) rfl (Co BT AA AA k8 (Al _) rfl) (yg tb g AA (bs b λk9 l0 b=>BX (v:=(i64 k9)) (CM AA AA g) (hb 59) (lR l0) rfl AA AA (yg tb g AA (yt g AA (As (M (decide (k9=0)) (Sh.AD b).symm _ (AK AA)))))))
          ·refine ys g AA ?_;iterate 7 refine ys g rfl ?_
           exact yf g AA (As (M false (Sh.AD b).symm _ (AK AA)))
         ·refine ys k AA ?_;iterate 3 refine ys k rfl ?_
          refine yf k AA (yq tb AA ?_);iterate 8 refine ys rfl rfl ?_
          exact yf AA AA (As (M false (Sh.AD b).symm _ (AK AA)))
        ·refine zr tb AA AA ?_;refine ci a AA ?_ ?_<;>clear a<;>intro B0 a
         ·refine sr AA λB1 l1=>zm tb 3 AA (bs a λv1 l2 a=>zc (hb 100) (QC lR l2) rfl AA AA (zq tb AA (dn l1 AA ?_)));obtain rfl:=Sh.AD a;obtain rfl:=Sh.AD h0;exact rd [(6,i64 v1)]
         ·refine AE λv2 l3=>bs a λl4 b a=>?_;have l5:∀(P:Bool),l4=P->∀s,Wk 0 s ⟨215,Aa (ZY p1 p2 [(164,.bool P)]),[Fy p0.decls p0.funcs,OQ p2.op p2.num p2.kids]⟩->v2 s:=by
           intro P q s e;subst l4;refine l3 _ (AJ e ?_);refine ci a AA ?_ ?_<;>clear a<;>intro B2 a
           ·refine sr AA λv3 Q=>zm tb 3 AA (bs a λl6 R a=>zc (hb 101) (Q7 lR R) rfl AA AA (zq tb AA (dn Q AA ?_)));obtain rfl:=Sh.AD a;obtain rfl:=Sh.AD h0;exact rd [(6,i64 l6)]
           ·refine zr tb AA AA ?_;refine ci a AA ?_ ?_<;>clear a<;>intro v4 a
            ·refine AE λl7 S=>bs a λx b a=>?_;have y:∀(t:Bool),x=t->∀s,Wk 0 s ⟨215,Aa [(1,ls eI p1),(3,BI),(5,CV),(179,.bool t)],[Fy p0.decls p0.funcs,OQ p2.op p2.num p2.kids]⟩->l7 s:=by
              intro t q s e;subst x;refine S _ (AJ e ?_);refine ci a AA ?_ ?_<;>clear a<;>intro v5 a
              ·refine AE λv6 T=>?_;refine Ca (by kernel_rfl) (by kernel_rfl) (by rfl) ?_;iterate 4 refine yq tb rfl ?_
               refine bs a λl8 U a=>yz (EE l8) (Co BT AA AA U (Al _) rfl) rfl (yq tb AA (bs a λz V a=>BX (v:=(i64 z)) AH (hb 59) (lR V) rfl AA AA (yq tb AA (As (T _ (AE λl9 W=>bs a λA b a=>?_))))));have B:∀(u:Bool),A=u->∀s,Wk 0 s ⟨215,Aa [(3,BI),(10,i64 z),(207,.bool u)],[Fy p0.decls p0.funcs]⟩->l9 s:=by
                intro u q s e;subst A;refine W _ (AJ e ?_);refine ci a AA ?_ ?_<;>clear a<;>intro v7 a
                ·refine sr AA λv8 X=>zm tb 4 AA (bs a λm0 Y a=>zx C8 Y AA AA AA (zm tb 3 AA (dn X AA ?_)));obtain rfl:=Sh.AD a;obtain rfl:=Sh.AD h0;exact rd [(6,i64 m0.to)]
                ·exact AL (p () (Sh.AD a).symm _ (Bj _ AA))
               refine Ca (by kernel_rfl) (by kernel_rfl) (by rfl) ?_;iterate 3 refine yq tb rfl ?_
               refine bs b λm1 Z b=>BX (v:=(.bool m1)) AH (hb 102) (JB Z) rfl AA AA (yq tb AA ?_);rcases Sh.Aj b with ⟨c,b⟩|⟨c,b⟩
               ·refine yg tb c AA ?_;iterate 3 refine yg tb c rfl ?_
                refine bs b λm2 b0 b=>HQ (v:=(EE m2)) (CM AA AA c) rfl (Co BT AA AA b0 (Al _) rfl) (yg tb c AA (bs b λC b1 b=>BX (v:=(i64 C)) (CM AA AA c) (hb 59) (lR b1) rfl AA AA ?_));iterate 4 refine yg tb c rfl ?_
                refine bs b λD b2 b=>HQ (v:=(.Bc (Ai D) 0)) (CM AA AA c) rfl (CZ C8 AA AA b2 AA) ?_;iterate 3 refine yg tb c rfl ?_
                refine yt c AA ?_;exact As (B (decide (C=D.from_)) (Sh.AD b).symm _ (AT [0] AA (by decide) rfl AA (.raw AA AA .nil) (.same AA)))
               ·refine ys c AA ?_;iterate 14 refine ys c rfl ?_
                refine yf c AA ?_;exact As (B false (Sh.AD b).symm _ (AT [0] AA (by decide) rfl AA (.raw AA AA .nil) (.same AA)))
              ·exact AL (p () (Sh.AD a).symm _ (Bj _ AA))
             refine AI AA (zm tb 2 AA ?_);rcases Sh.Aj b with ⟨d,b⟩|⟨d,b⟩
             ·exact zg tb d AA (zg tb d AA (BV (v:=(Wg p2)) (CM AA AA d) rfl (Ch Qc AA) (zg tb d AA (zt d AA (AF (y (decide ((Sh.len p2.kids)=2)) (Sh.AD b).symm _ (AK AA)))))))
             ·refine zs d AA ?_;iterate 3 refine zs d rfl ?_
              exact zf d AA (AF (y false (Sh.AD b).symm _ (AK AA)))
            ·exact AL (p () (Sh.AD a).symm _ (Bj _ AA))
          refine zr tb AA AA ?_;refine ci b AA ?_ ?_<;>clear b<;>intro m3 b
          ·exact AL (l5 true (Sh.AD b).symm _ (Ag (L:=(ZY p1 p2 [(164,.bool true)])) ⟨.rfl,.rfl,.rfl,.rfl,.rfl,.of (iE AV.bool m3),fa⟩))
          ·exact AI AA (zm tb 2 AA (AF (l5 (decide (p2.op=10)) (Sh.AD b).symm _ (AK AA))))
   refine zr tb AA AA ?_;refine ci b AA ?_ ?_<;>clear b<;>intro m4 b
   ·exact AL (w true (Sh.AD b).symm _ (Ag (L:=(ZY p1 p2 [(46,.bool true)])) ⟨.rfl,.rfl,.rfl,.rfl,.rfl,.of (iE AV.bool m4),fa⟩))
   ·refine zr tb AA AA ?_;refine ci b AA ?_ ?_<;>clear b<;>intro m5 b
    ·exact AL (w true (Sh.AD b).symm _ (Ag (L:=(ZY p1 p2 [(46,.bool true)])) ⟨.rfl,.rfl,.rfl,.rfl,.rfl,.of (iE AV.bool m5),fa⟩))
    ·refine zr tb AA AA ?_;refine ci b AA ?_ ?_<;>clear b<;>intro m6 b
     ·exact AL (w true (Sh.AD b).symm _ (Ag (L:=(ZY p1 p2 [(46,.bool true)])) ⟨.rfl,.rfl,.rfl,.rfl,.rfl,.of (iE AV.bool m6),fa⟩))
     ·exact AI AA (zm tb 2 AA (AF (w (decide (p2.op=4)) (Sh.AD b).symm _ (AK AA))))
theorem Q0 {N:Nat}:∀(n:Nat),∀{p0:AP} {p1:(List Int)} {p2:AG} {r:Int},Cf N n p0 p1 p2=some r->Ac Tryz.prog 59 [JL p0,ls eI p1,Bh p2] [] (λv st=>v=(i64 r)/\st=[]):=by
 intro n
 induction n with
 | zero=>intro p0 p1 p2 r a;cases a
 | succ n ih=>
  intro p0 p1 p2 r a;rw[Cf]at a;exact RA (λh=>ih h) a
theorem S4 {N:Nat}:∀{p0:AP} {p1:(List Int)} {p2:AG} {r:Int},J4 N p0 p1 p2=some r->Ac Tryz.prog 59 [JL p0,ls eI p1,Bh p2] [] (λv st=>v=(i64 r)/\st=[]):=by
 intro p0 p1 p2 r a;exact Q0 N a
theorem OJ {N:Nat}{p0:AP}{r:Bool}(h0:Bn N p0=some r):Ac Tryz.prog 29 [JL p0] [] (λv st=>v=(.bool r)/\st=[]):=by
 unfold Bn at h0;refine ai Tryz.func29 AA AA AA AA (sr AA λR x=>Bt (m:=0) AH AA AA AA AA AA (zq tb AA (dn x AA (AE λS y=>sr AA λT z=>zq tb AA (bs h0 λG A h0=>zc (hb 57) (QM A) rfl AA AA (zq tb AA (dn z AA ?_)))))));refine ci h0 AA ?_ ?_<;>clear h0<;>intro H h0
 ·have U:G=false:=by simpa using H
  refine zr tb AA AA ?_;obtain rfl:=Sh.AD h0;exact rd [(2,.bool false)]
 ·have V:G=true:=by simpa using H
  refine AL (y _ (AE λJ B=>zr tb AA AA ?_));obtain⟨g,b,h0⟩:=Sh.Bl h0;have C:∀(_:Unit),g=Sum.inr ()->∀s,Wk 0 s ⟨45,Aa [],[]⟩->J s:=by
   intro _ K s D;subst g;refine B _ (AJ D (zr tb AA AA ?_));obtain rfl:=Sh.AD h0;exact rt [(2,.bool true)]
  refine AU (Av (σ:=Int) (λn v=>CB N p0 n v=some g) (λe=>⟨45,Aa [(1,.ptr 0 0 0 0),(3,i64 e)],[Fy p0.decls p0.funcs]⟩) N 0 b (AK AA) (λ_ I=>by rw[CB]at I;cases I) ?_);rintro n e b;rw[CB]at b;refine AE λL i=>sr AA λM j=>zm tb 3 AA (zl tb AA AA (zq tb AA (dn j AA ?_)));refine ci b AA ?_ ?_<;>clear b<;>intro O b
  ·refine AL (i _ (AE λP k=>AU (AE λE l=>bs b λo d b=>?_)));have p:∀(h:Bool),o=h->∀s,Wk 0 s ⟨45,Aa [(1,BI),(3,i64 e),(44,.bool h)],[Fy p0.decls p0.funcs]⟩->E s:=by
    intro h K s D;subst o;refine l _ (AJ D ?_);refine ci b AA ?_ ?_<;>clear b<;>intro Q b
    ·refine zr tb AA AA ?_;obtain rfl:=Sh.AD b;obtain rfl:=Sh.AD h0;exact rd [(2,.bool false)]
    ·exact AL (k _ (AI AA (zm tb 3 AA (AF (xi (Sh.w (e+1)) b (AK AA))))))
   refine Ca (by kernel_rfl) (by kernel_rfl) (by rfl) ?_;iterate 3 refine yq tb rfl ?_
   refine bs d λf c d=>yx Cn c AA AA AA ?_;iterate 2 refine yq tb rfl ?_
   refine bs d λF q d=>BX (v:=(i64 F)) AH (hb 58) (I7 q) rfl AA AA ?_;iterate 2 refine yq tb rfl ?_
   rcases Sh.Aj d with ⟨a,d⟩|⟨a,d⟩
   ·refine ys a AA ?_;iterate 20 refine ys a rfl ?_
    exact yt a AA (As (p true (Sh.AD d).symm _ (AK AA)))
   ·refine yg tb a AA ?_;iterate 3 refine yg tb a rfl ?_
    refine HQ (v:=(.Bc (BO f) 0)) (CM AA AA a) rfl (CZ Cn AA AA c AA) ?_;iterate 5 refine yg tb a rfl ?_
    refine HQ (v:=(.Bc (BO f) 0)) (CM AA AA a) rfl (CZ Cn AA AA c AA) ?_;iterate 2 refine yg tb a rfl ?_
    refine bs d λt u d=>BX (v:=(i64 t)) (CM AA AA a) (hb 59) (S4 u) rfl AA AA ?_;iterate 3 refine yg tb a rfl ?_
    refine HQ (v:=(.Bc (BO f) 0)) (CM AA AA a) rfl (CZ Cn AA AA c AA) ?_;iterate 3 refine yg tb a rfl ?_
    exact yf a AA (As (p (!decide (t=f.result)) (Sh.AD d).symm _ (AK AA)))
  ·exact BB (C () (Sh.AD b).symm _ (Bj _ AA))
theorem Rm {N:Nat}{lq:AG->Option (AG)}(nx :∀{p0:AG} {r:AG},lq p0=some r->Ac Tryz.prog 30 [Bh p0] [] (λv st=>v=(Bh r)/\st=[])){p0 r:AG}(h0:Kd N lq p0=some r):Ac Tryz.prog 30 [Bh p0] [] (λv st=>v=(Bh r)/\st=[]):=by
 unfold Kd at h0;refine DA AA (ai Tryz.func30 AA AA AA AA (sr AA λK1 V=>Bt (m:=0) AH AA AA AA AA AA (Au (m:=1) AH EB AA AA (dn V AA (sr AA λK2 W=>?_)))));refine BD (m:=2) (l:=([]:List AG)) (enc:=Az) AH BT (by decide) rfl AA (by simp only[List.map,Al];rfl) rfl AA AA ?_;refine zq tb AA (dn W AA (AE λK3 X=>zr tb AA AA (bs h0 λY g h0=>?_)));have M8:∀(d:(List AG)),Y=d->∀s,Wk 0 s ⟨55,Aa [(1,BI),(2,CV),(3,ow 2 0 d)],[OQ p0.op p0.num p0.kids,Qy,FQ d]⟩->K3 s:=by
  intro d hq s Z;subst Y;refine X _ (AJ Z (AE λK9 b0=>AE λb1 F=>bs h0 λG g h0=>?_));have H:∀(D:Bool),G=D->∀s,Wk 0 s ⟨55,Aa [(1,BI),(2,CV),(3,ow 2 0 d),(32,.bool D)],[OQ p0.op p0.num p0.kids,Qy,FQ d]⟩->b1 s:=by
   intro D hq s Z;subst G;refine F _ (AJ Z ?_);refine ci h0 AA ?_ ?_<;>clear h0<;>intro b4 h0
   ·refine AE λb5 I=>?_;refine HE (by kernel_rfl) ?_;refine bs h0 λp u h0=>bs h0 λj y h0=>bs h0 λf z h0=>bs h0 λq J h0=>Jh λpR a=>?_;have e:pR 0 (bm 11 2047) ⟨55,Aa (XX d [(5,ow 2 0 q)]),[Qy,FQ d,FQ q]⟩:=(a _ _ _).2 (by
     refine HI AA (by kernel_rfl) ?_;refine I _ (sr AA λb2 A=>zq tb AA (zz (.ptr 1 0 (Int.toNat 0) 0) (CC BT AA AA AA AA u) rfl (zq tb AA (zz (i64 p.num) (Bp Gp AA AA (KO u (Al _)) rfl) rfl (zq tb AA (zz (.agg [i64 9,i64 p.num,ow 2 0 q]) (DL SY Sd EB AA AA) rfl (AR (Wk.BJ (L:=[(2,BI),(48,.agg [i64 9,i64 p.num,Gc q])]) (st':=[Qy,FQ d,CU]) (id:=2) rfl ko (AB Ab) ⟨.rfl,.agg ⟨.rfl,.rfl,.G5 AA,fa⟩,fa⟩ AA) (Ao AH BG AA AA AA AA AA AA kS rfl (dn A AA ?_)))))))));obtain rfl:=Sh.AD h0;exact Ap (Exists.intro _ (And.intro (Wk.refl _ _) (Ar (x:=.tmp 2) (off:=0) (cs:=[i64 9,i64 p.num,Gc q]) (vs:=[i64 9,i64 p.num,Gc q]) BG AA AA AA kS rfl _ AA))))
    have b:pR 2 (bm 11 511) ⟨55,Aa (XX d [(37,ow 2 0 j),(41,ow 3 0 [f])]),[Qy,FQ d,FQ j,Nz f]⟩:=(a _ _ _).2 (by
     refine xa [9] ⟨?_,fa⟩
     ·refine xo 9 ?_;refine Cv (l2:=[f]) AH BT AA AA AA AA (Gr AA AA En) DJ J AA (AF ⟨AA,?_⟩);refine BQ tb 10 AA (by kernel_rfl) rfl ?_;exact Bf (by refine Wk.trans (ER (L:=(XX d [(5,ow 2 0 q)])) (st':=[Qy,FQ d,FQ q,Nz f]) (.raw AA AA (.pure (AB Ab) (.pure (AB Ab) (.pure (AB Ab) .nil)))) (.same AA)) ?_;exact AT [0,1,2] AA (by decide) rfl AA (.raw AA AA (.pure (AB Ab) (.pure (AB Ab) .nil))) (.same AA)) (CO (by kernel_rfl) ((a _ _ _).1 e)) rfl)
    have c:pR 3 (bm 11 255) ⟨55,Aa (XX d [(37,ow 2 0 j),(40,Bh f)]),[Qy,FQ d,FQ j]⟩:=(a _ _ _).2 (by
     refine xa [8] ⟨?_,fa⟩
     ·refine xo 8 ?_;refine BD (m:=3) (l:=[f]) (enc:=Az) AH BT (by decide) rfl AA (by simp only[List.map,Al];rfl) rfl AA AA ?_;exact xd a b)
    have k:pR 4 (bm 11 127) ⟨55,Aa (XX d [(37,ow 2 0 j),(39,.ptr 1 0 (Int.toNat 1) 0)]),[Qy,FQ d,FQ j]⟩:=(a _ _ _).2 (by
     refine xa [7] ⟨?_,fa⟩
     ·refine xo 7 ?_;exact zz (Bh f) (Ar BG AA AA (KO z (Al _)) kS rfl) rfl (xd a c))
    have h:pR 3 (bm 11 495) ⟨55,Aa (XX d [(36,Sp p),(41,ow 2 0 [f])]),[Qy,FQ d,Nz f]⟩:=(a _ _ _).2 (by
     refine xa [4] ⟨?_,fa⟩
     ·refine xo 4 ?_;exact CD (v':=(ow 3 0 j)) AH (hb 60) (D5 y) rfl AA ⟨By Ab,fa⟩ AA AA (MZ a b (by exact AT [0,1,3,2] AA (by decide) rfl AA (.raw AA AA (.pure (AB Ab) (.pure (AB Ab) (.pure (AB Ab) .nil)))) (.same AA))))
    have o:pR 4 (bm 11 239) ⟨55,Aa (XX d [(36,Sp p),(40,Bh f)]),[Qy,FQ d]⟩:=(a _ _ _).2 (by
     refine xa [4,8] ⟨?_,?_,fa⟩
     ·refine xo 4 ?_;exact CD (v':=(ow 2 0 j)) AH (hb 60) (D5 y) rfl AA ⟨By Ab,fa⟩ AA AA (xd a c)
     ·refine xo 8 ?_;refine BD (m:=2) (l:=[f]) (enc:=Az) AH BT (by decide) rfl AA (by simp only[List.map,Al];rfl) rfl AA AA ?_;exact xd a h)
    have t:pR 5 (bm 11 111) ⟨55,Aa (XX d [(36,Sp p),(39,.ptr 1 0 (Int.toNat 1) 0)]),[Qy,FQ d]⟩:=(a _ _ _).2 (by
     refine xa [4,7] ⟨?_,?_,fa⟩
     ·refine xo 4 ?_;exact CD (v':=(ow 2 0 j)) AH (hb 60) (D5 y) rfl AA ⟨By Ab,fa⟩ AA AA (xd a k)
     ·refine xo 7 ?_;exact zz (Bh f) (Ar BG AA AA (KO z (Al _)) kS rfl) rfl (xd a o))
    refine (a _ _ _).2 ?_;refine BQ tb 0 AA (by kernel_rfl) rfl ?_;refine Gm 1 (v:=(.ptr 2 0 (Int.toNat 0) 0)) rfl (by kernel_rfl) (by kernel_rfl) (CC BT AA AA AA AA u) ?_;refine BQ tb 2 AA (by kernel_rfl) rfl ?_;refine UG 3 AA AA (by kernel_rfl) (Le VY AA AA (KO u (Al _)) rfl) ?_;refine BQ tb 5 AA (by kernel_rfl) rfl ?_;refine Gm 6 (v:=(.ptr 2 0 (Int.toNat 1) 0)) rfl (by kernel_rfl) (by kernel_rfl) (CC BT AA AA AA AA z) ?_;exact xw a t (by exact AT [1,2] AA (by decide) rfl AA (.raw AA AA (.pure (AB Ab) .nil)) (.same AA))
   ·refine AL (b0 _ (sr AA λb2 A=>zm tb 5 AA (zz (.agg [i64 p0.op,i64 p0.num,ow 2 0 d]) (DL SY Sd EB AA AA) rfl (AR (Wk.BJ (L:=[(2,CV),(54,.agg [i64 p0.op,i64 p0.num,Gc d])]) (st':=[OQ p0.op p0.num p0.kids,Qy,CU]) (id:=2) rfl ko (AB Ab) ⟨.rfl,.agg ⟨.rfl,.rfl,.G5 AA,fa⟩,fa⟩ AA) (Ao AH BG AA AA AA AA AA AA kS rfl (dn A AA ?_))))));obtain rfl:=Sh.AD h0;exact Ap (Exists.intro _ (And.intro (Wk.refl _ _) (Ar (x:=.tmp 2) (off:=0) (cs:=[i64 p0.op,i64 p0.num,Gc d]) (vs:=[i64 p0.op,i64 p0.num,Gc d]) BG AA AA AA kS rfl _ AA)))
  refine AI AA (zm tb 4 AA ?_);rcases Sh.Aj g with ⟨i,g⟩|⟨i,g⟩
  ·exact zg tb i AA (bs g λK C g=>BV (v:=(.ptr 2 0 (Int.toNat 0) 0)) (CM AA AA i) rfl (CC BT AA AA AA AA C) (zg tb i AA (BV (v:=(i64 K.op)) (CM AA AA i) rfl (Bp Gp AA AA (KO C (Al _)) rfl) (zg tb i AA (zt i AA (AF (H (decide (K.op=10)) (Sh.AD g).symm _ (AK AA))))))))
  ·refine zs i AA ?_;iterate 4 refine zs i rfl ?_
   exact zf i AA (AF (H false (Sh.AD g).symm _ (AK AA)))
 refine AU (Av (σ:=Int×(List AG)) (λn v=>Eo p0 lq n v.1 v.2=some Y) (λ(T,U)=>⟨55,Aa [(1,.ptr 0 0 0 0),(2,.ptr 1 0 0 0),(3,ow 2 0 U),(4,i64 T)],[OQ p0.op p0.num p0.kids,Qy,ro 0 35 3 Az U]⟩) N (0,[]) g (AK AA) (λ_ hv=>by rw[Eo]at hv;cases hv) ?_);rintro n ⟨T,U⟩ g;rw[Eo]at g;refine AE λb6 M=>sr AA λb7 O=>zm tb 3 AA (zl tb AA AA (zq tb AA (dn O AA ?_)));refine ci g AA ?_ ?_<;>clear g<;>intro b8 g
 ·refine AL (M _ (AE λb9 P=>AU (AI AA (zm tb 4 AA (bs g λb3 Q g=>zz (EE b3) (Co BT AA AA Q (Al _) rfl) rfl (zq tb AA (bs g λB R g=>zc (v':=(Bh B)) (hb 30) (nx R) rfl AA AA ?_)))))));refine BD (m:=3) (l:=[B]) (enc:=Az) AH BT (by decide) rfl AA (by simp only[List.map,Al];rfl) rfl AA AA ?_;refine bs g λE S g=>Cv (l2:=[B]) AH BT AA AA AA AA (Gr AA AA En) DJ S AA (zq tb AA (dn P AA (AI AA (zm tb 3 AA ?_))));exact AF (xi (Sh.w (T+1),E) g (by refine Wk.trans (ER (L:=[(1,BI),(2,CV),(3,ow 2 0 E),(4,KC T)]) (st':=[OQ p0.op p0.num p0.kids,Qy,FQ E,Nz B]) (.raw AA AA (.raw AA AA (.pure (AB Ab) (.pure (AB Ab) .nil)))) (.same AA)) ?_;exact AT [0,1,2] AA (by decide) rfl AA (.raw AA AA (.raw AA AA (.pure (AB Ab) .nil))) (.same AA)))
 ·exact BB (M8 U (Sh.AD g).symm _ (AK AA))
theorem RZ {N:Nat}:∀(n:Nat),∀{p0:AG} {r:AG},Gh N n p0=some r->Ac Tryz.prog 30 [Bh p0] [] (λv st=>v=(Bh r)/\st=[]):=by
 intro n
 induction n with
 | zero=>intro p0 r a;cases a
 | succ n ih=>
  intro p0 r a;rw[Gh]at a;exact Rm (λh=>ih h) a
theorem UW {N:Nat}:∀{p0:AG} {r:AG},MD N p0=some r->Ac Tryz.prog 30 [Bh p0] [] (λv st=>v=(Bh r)/\st=[]):=by
 intro p0 r a;exact RZ N a
theorem QD {N:Nat}{p0:(List AN)}{r:(List AN)}(h0:H3 N p0=some r):Ac Tryz.prog 61 [Cw p0] [] (λv st=>v=(ow 0 0 r)/\st=[IC r]):=by
 unfold H3 at h0;refine ai Tryz.func61 AA AA AA AA (zr tb AA AA (sr AA λK2 K=>?_));refine BD (m:=0) (l:=([]:List AN)) (enc:=Ai) AH C8 (by decide) rfl AA AA AA AA AA ?_;refine zq tb AA (dn K AA (AE λT M=>zr tb AA AA (bs h0 λO c h0=>?_)));have U:∀(t:(List AN)),O=t->∀s,Wk 0 s ⟨55,Aa [(3,ow 0 0 t)],[IC t]⟩->T s:=by
  intro t V s P;subst O;refine M _ (AJ P (zr tb AA AA ?_));obtain rfl:=Sh.AD h0;exact rt [(2,ow 0 0 t)]
 refine AU (Av (σ:=Int×(List AN)) (λn v=>Eh N p0 n v.1 v.2=some O) (λ(i,d)=>⟨55,Aa [(0,ls Ai p0),(3,ow 0 0 d),(4,i64 i)],[ro 0 80 3 Ai d]⟩) N (0,[]) c (AK AA) (λ_ u=>by rw[Eh]at u;cases u) ?_);rintro n ⟨i,d⟩ c;rw[Eh]at c;refine AE λW y=>sr AA λX z=>zm tb 2 AA (zl tb AA AA (zq tb AA (dn z AA ?_)));refine ci c AA ?_ ?_<;>clear c<;>intro Y c
 ·refine AL (y _ (AE λZ A=>AU (sr AA λb0 B=>?_)));refine BD (m:=1) (l:=([]:List Dd)) (enc:=Bv) AH IV (by decide) rfl AA AA AA AA AA ?_;refine zq tb AA (dn B AA (AE λQ C=>zr tb AA AA (bs c λo a c=>?_)));have R:∀(b:(List Dd)),o=b->∀s,Wk 0 s ⟨55,Aa [(0,Cw p0),(3,ow 0 0 d),(4,i64 i),(5,ow 1 0 b)],[IC d,ro 0 82 1 Bv b]⟩->Q s:=by
   intro b V s P;subst o;refine C _ (AJ P (AJ (Wk.BJ (L:=[(0,Cw p0),(3,ow 0 0 d),(4,i64 i),(5,ls Bv b)]) (st':=[IC d,LV]) (id:=1) rfl ku (AB λ_=>AA) ⟨.rfl,.rfl,.rfl,.BJ AA,fa⟩ AA) ?_));refine Cz 14 (by kernel_rfl) (by kernel_rfl) (by rfl) ?_;iterate 3 refine yq tb rfl ?_
   refine bs c λe j c=>yx C8 j AA AA AA ?_;iterate 4 refine yq tb rfl ?_
   refine yx C8 j AA AA AA ?_;iterate 3 refine yq tb rfl ?_
   refine yz (.agg [i64 e.from_,i64 e.to,ls Bv b]) (DL LI LH Gf AA AA) rfl ?_;refine GI (l:=[AN.mk e.from_ e.to b]) (enc:=Ai) AH C8 (by decide) rfl AA AA AA AA (AB λ_=>AA) ?_;refine As (bs c λp D c=>Cv (l2:=[AN.mk e.from_ e.to b]) AH C8 AA AA AA AA MJ (λ_=>AA) D AA (zq tb AA (dn A AA (AI AA (zm tb 3 AA ?_)))));exact AF (xi (Sh.w (i+1),p) c (by refine Wk.trans (ER (L:=[(0,Cw p0),(3,ow 0 0 p),(4,KC i)]) (st':=[IC p,⟨0,82,1,[]⟩]) (.pure (AB λ_=>AA) (.pure (by intro x S;cases S) .nil)) (.same AA)) ?_;exact AT [0] AA (by decide) rfl AA (.pure (AB λ_=>AA) .nil) (.same AA)))
  refine AU (Av (σ:=Int×(List Dd)) (λn v=>D9 i p0 n v.1 v.2=some o) (λ(h,f)=>⟨55,Aa [(0,ls Ai p0),(3,ow 0 0 d),(4,i64 i),(5,ow 1 0 f),(6,i64 h)],[ro 0 80 3 Ai d,ro 0 82 1 Bv f]⟩) N (0,[]) a (AK AA) (λ_ u=>by rw[D9]at u;cases u) ?_);rintro n ⟨h,f⟩ a;rw[D9]at a;refine AE λb1 E=>sr AA λb2 F=>zm tb 3 AA (bs a λb3 k a=>zx C8 k AA AA AA (zm tb 2 AA (zl tb AA AA (zq tb AA (dn F AA ?_)))));refine ci a AA ?_ ?_<;>clear a<;>intro b4 a
  ·refine AL (E _ (AE λb5 G=>AU (AI AA (zm tb 3 AA (zx C8 k AA AA AA (zm tb 3 AA (bs a λb6 H a=>zx IV H AA AA AA (zm tb 2 AA (bs a λg I a=>CD (v':=(ow 2 0 g)) AH (hb 62) (Jx I) rfl AA ⟨(By λ_=>AA),fa⟩ AA AA ?_)))))))));refine zz (.agg [ow 2 0 g]) (DL aw bd Pz AA AA) rfl (AR (Wk.BJ (L:=[(0,Cw p0),(3,ow 0 0 d),(4,i64 i),(6,i64 h),(25,ow 1 0 f),(36,.agg [ls eI g])]) (st':=[IC d,ro 0 82 1 Bv f,⟨1,3,1,[]⟩]) (id:=2) rfl ko (AB λ_=>AA) ⟨.rfl,.rfl,.rfl,.rfl,.rfl,.agg ⟨.G5 AA,fa⟩,fa⟩ AA) ?_);refine BD (m:=3) (l:=[Dd.mk g]) (enc:=Bv) AH IV (by decide) rfl AA AA AA AA AA ?_;refine bs a λq J a=>Cv (l2:=[Dd.mk g]) AH IV AA AA AA AA (Gr AA AA) (λ_=>AA) J AA (zq tb AA (dn G AA (AI AA (zm tb 3 AA ?_))));exact AF (xi (Sh.w (h+1),q) a (by refine Wk.trans (ER (L:=[(0,Cw p0),(3,ow 0 0 d),(4,i64 i),(5,ow 1 0 q),(6,KC h)]) (st':=[IC d,ro 0 82 1 Bv q,⟨0,3,1,[]⟩,ro 0 82 1 Bv [Dd.mk g]]) (.pure (AB λ_=>AA) (.pure (AB λ_=>AA) (.pure (by intro x S;cases S) (.pure (AB λ_=>AA) .nil)))) (.same AA)) ?_;exact AT [0,1] AA (by decide) rfl AA (.pure (AB λ_=>AA) (.pure (AB λ_=>AA) .nil)) (.same AA)))
  ·exact BB (R f (Sh.AD a).symm _ (AK AA))
 ·exact BB (U d (Sh.AD c).symm _ (AK AA))
theorem PX {N:Nat}{p0 r:AG}(h0:Hm N p0=some r):Ac Tryz.prog 63 [Bh p0] [] (λv st=>v=(Bh r)/\st=[]):=by
 unfold Hm at h0;refine DA AA (ai Tryz.func63 AA AA AA AA (sr AA λe b=>Bt (m:=0) AH AA AA AA AA AA (Au (m:=1) AH EB AA AA (dn b AA (AE λf c=>?_)))));refine Cz 8 (by kernel_rfl) (by kernel_rfl) (by rfl) ?_;iterate 6 refine yq tb rfl ?_
 refine bs h0 λa d h0=>?_;refine BX (v:=(Gc a)) AH (hb 60) (Ac.wk (D5 d) (by refine Wk.trans (Wk.BJ (L:=[(0,Gc a)]) (st':=[CU]) (id:=0) rfl kX (AB Ab) ⟨.BJ AA,fa⟩ AA) ?_;exact AT [] AA (by decide) rfl AA .nil (.same AA))) rfl AA AA ?_;refine yz (.agg [i64 p0.op,i64 p0.num,Gc a]) (DL SY Sd EB AA AA) rfl (As (Ao AH BG AA AA AA AA AA AA kS rfl (dn c AA ?_)));obtain rfl:=Sh.AD h0;exact Ap (Exists.intro _ (And.intro (Wk.refl _ _) (Ar (x:=.tmp 2) (off:=0) (cs:=[i64 p0.op,i64 p0.num,Gc a]) (vs:=[i64 p0.op,i64 p0.num,Gc a]) BG AA AA AA kS rfl _ AA)))
theorem Pv {N:Nat}{p0:AP}{p1:(List AG)}{r:AP×Bool}(h0:HZ N p0 p1=some r):Ac Tryz.prog 31 [JL p0,Gc p1] [] (λv st=>v=(.Dm [.agg (OS r.1.decls r.1.funcs),.bool r.2])/\st=[]):=by
 unfold HZ at h0;refine DA AA (ai Tryz.func31 AA AA AA AA (sr AA λK1 F=>Bt (m:=0) AH AA AA AA AA AA (Au (m:=1) AH IM AA AA (zq tb AA (dn F AA (sr AA λK2 G=>zm tb 2 AA (bs h0 λb H h0=>CD (v':=(ow 2 0 b)) AH (hb 61) (QD H) rfl AA ⟨(By λ_=>AA),fa⟩ AA AA ?_)))))));refine BD (m:=3) (l:=([]:List Ad)) (enc:=BO) AH Cn (by decide) rfl AA AA AA AA AA ?_;refine zz (.agg [ow 2 0 b,.own 3 0 (List.length ([]:List Ad))]) (DL UP T2 IM AA AA) rfl (Au (m:=4) AH IM AA AA (AR (Wk.BJ (L:=[(1,Gc p1),(2,BI),(4,CV),(6,OM),(12,.agg [Cw b,.own 3 0 (List.length ([]:List Ad))])]) (st':=[Fy p0.decls p0.funcs,Gv,Mj,ro 0 37 5 BO ([]:List Ad),Gv]) (id:=2) rfl ko (AB λ_=>AA) ⟨.rfl,.rfl,.rfl,.rfl,.agg ⟨.G5 AA,.rfl,fa⟩,fa⟩ AA) (Ao AH D2 AA AA AA AA AA AA kU rfl (dn G AA (AE λM I=>zr tb AA AA ?_)))));obtain⟨J,a,h0⟩:=Sh.Bl h0;have O:∀(e:(List Ad)),J=Sum.inr e->∀s,Wk 0 s ⟨52,Aa [(4,BI),(6,CK)],(Gv::I8 e b [])⟩->M s:=by
  intro e hq s P;subst J;refine I _ (AJ P (sr AA λQ j=>zq tb AA (AR (Wk.BJ (L:=[(4,BI),(51,.agg (OS b e))]) (st':=[Gv,⟨1,37,5,[]⟩,YG b e]) (id:=1) rfl ku (AB λ_=>AA) ⟨.rfl,.agg ⟨.rfl,.G5 AA,fa⟩,fa⟩ AA) (Ao AH D2 AA AA AA AA AA AA kU rfl (zq tb AA (dn j AA ?_))))));obtain rfl:=Sh.AD h0;exact Ap (Exists.intro _ (And.intro ((AT (L:=[(4,BI),(5,.bool true)]) (st':=[Fy b e]) [0] AA (by decide) rfl AA (.raw AA AA .nil) ⟨.rfl,.rfl,fa⟩).trans (Ag (L:=[(4,BI),(5,.bool true)]) ⟨.rfl,.rfl,fa⟩)) (Ar (x:=.tmp 4) (off:=0) (cs:=(OS b e)) (vs:=(OS b e)) D2 AA AA AA kU rfl _ AA)))
 refine AU (Av (σ:=Int×(List Ad)) (λn v=>Di N p0 p1 n v.1 v.2=some J) (λ(E,f)=>⟨52,Aa [(1,ls Az p1),(2,.ptr 0 0 0 0),(4,.ptr 1 0 0 0),(6,.ptr 3 0 0 0),(7,i64 E)],[Fy p0.decls p0.funcs,Gv,ro 0 37 5 BO f,⟨0,26,2,[[ls Ai b,ow 2 0 f]]⟩]⟩) N (0,[]) a (CR (L:=[(1,ls Az p1),(2,.ptr 0 0 0 0),(4,.ptr 1 0 0 0),(6,.ptr 3 0 0 0),(7,i64 0)]) (st':=[Fy p0.decls p0.funcs,Gv,ro 0 37 5 BO ([]:List Ad),⟨0,26,2,[[ls Ai b,.own 2 0 (List.length ([]:List Ad))]]⟩]) (st1:=[Fy p0.decls p0.funcs,Gv,ro 0 37 5 BO ([]:List Ad),⟨0,26,2,[[ls Ai b,.own 3 0 (List.length ([]:List Ad))]]⟩]) [0,1,3,4] AA .nil (by decide) rfl AA (.raw AA AA (.raw AA AA (.pure (AB λ_=>AA) (.raw AA AA .nil)))) (.same AA)) (λ_ K=>by rw[Di]at K;cases K) ?_);rintro n ⟨E,f⟩ a;rw[Di]at a;refine AE λR k=>sr AA λS o=>zm tb 3 AA (zl tb AA AA (zq tb AA (dn o AA ?_)));refine ci a AA ?_ ?_<;>clear a<;>intro T a
 ·refine AL (k _ (AE λU p=>AU (AE λV q=>sr AA λW t=>zm tb 2 AA (bs a λu g a=>zz (EE u) (Co BT AA AA g (Al _) rfl) rfl (zq tb AA (bs a λX y a=>zc (hb 58) (I7 y) rfl AA AA (zq tb AA ?_)))))));refine dn t AA ?_;refine ci a AA ?_ ?_<;>clear a<;>intro Y a
  ·refine sr AA λZ z=>zz (.agg [.zc,.zc]) (DL UP T2 IM AA AA) rfl (Ao AH D2 AA AA AA AA AA AA kU rfl (zq tb AA (dn z AA ?_)));obtain rfl:=Sh.AD a;obtain rfl:=Sh.AD h0;exact Ap (Exists.intro _ (And.intro ((((GX (id:=1) (cs:=[.zc,.zc]) (cs':=V8) (st':=((Fy p0.decls p0.funcs)::⟨0,26,2,[V8]⟩::bf f b [])) rfl ⟨le.zc,le.rfl,fa⟩ AA AA).trans (GX (id:=1) (cs:=V8) (cs':=QP) (st':=((Fy p0.decls p0.funcs)::⟨0,26,2,[QP]⟩::bf f b [])) rfl ⟨le.rfl,le.zc,fa⟩ AA AA)).trans (AT (L:=[(4,BI),(5,.bool false)]) (st':=[⟨0,26,2,[QP]⟩]) [1] AA (by decide) rfl AA (.raw AA AA .nil) ⟨.rfl,.rfl,fa⟩)).trans (Ag (L:=[(4,BI),(5,.bool false)]) ⟨.rfl,.rfl,fa⟩)) (Ar (x:=.tmp 4) (off:=0) (cs:=QP) (vs:=QP) D2 AA AA AA kU rfl _ AA)))
  ·refine AL (q _ ?_);refine Cz 22 (by kernel_rfl) (by kernel_rfl) (by rfl) ?_;iterate 5 refine yq tb rfl ?_
   refine bs a λi h a=>yx Cn h AA AA AA ?_;iterate 2 refine yq tb rfl ?_
   refine bs a λd A a=>?_;refine BX (v:=(ls eI d)) AH (hb 62) (Ac.wk (Jx A) (by refine Wk.trans (Wk.BJ (L:=[(0,ls eI d)]) (st':=[⟨1,3,1,[]⟩]) (id:=0) rfl kX (AB λ_=>AA) ⟨.BJ AA,fa⟩ AA) ?_;exact AT [] AA (by decide) rfl AA .nil (.same AA))) rfl AA AA ?_;iterate 3 refine yq tb rfl ?_
   refine yx Cn h AA AA AA ?_;iterate 4 refine yq tb rfl ?_
   refine yz (EE u) (Co BT AA AA g (Al _) rfl) rfl (yq tb AA (bs a λc B a=>BX (v:=(Bh c)) AH (hb 63) (PX B) rfl AA AA (yz (.agg [ls eI d,i64 i.result,i64 c.op,i64 c.num,Sp c]) (DL SZ Sa LG AA AA) rfl ?_)));refine GI (l:=[Ad.mk d i.result c]) (enc:=BO) AH Cn (by decide) rfl AA AA AA AA (AB λ_=>AA) ?_;exact As (bs a λC D a=>Cv (l2:=[Ad.mk d i.result c]) AH Cn AA AA AA AA MJ (λ_=>AA) D AA (zq tb AA (Ao AH OC AA AA AA AA AA AA kr rfl (dn p AA (AI AA (zm tb 3 AA (AF (xi (Sh.w (E+1),C) a (ER (L:=[(1,Gc p1),(2,BI),(4,CV),(6,Iw),(7,KC E)]) (st':=((Fy p0.decls p0.funcs)::Gv::bf C b [])) (.raw AA AA (.raw AA AA (.pure (AB λ_=>AA) (.raw AA AA .nil)))) (.same AA))))))))))
 ·exact BB (O f (Sh.AD a).symm _ (CR (L:=[(4,BI),(6,CK)]) (st':=(Gv::I8 f b [])) (st1:=(Gv::bf f b [])) [1,2,3] AA .nil (by decide) rfl AA (.raw AA AA (.pure (AB λ_=>AA) (.raw AA AA .nil))) (.same AA)))
theorem Pe {N:Nat}{p0:AP}{r:AP×Bool}(h0:Fw N p0=some r):Ac Tryz.prog 10 [JL p0] [] (λv st=>v=(.Dm [.agg (OS r.1.decls r.1.funcs),.bool r.2])/\st=[]):=by
 unfold Fw at h0;refine DA AA (ai Tryz.func10 AA AA AA AA (sr AA λT z=>Bt (m:=0) AH AA AA AA AA AA (Au (m:=1) AH IM AA AA (zq tb AA (dn z AA (AE λU A=>sr AA λV B=>zq tb AA (bs h0 λH C h0=>zc (hb 29) (OJ C) rfl AA AA ?_)))))));refine zq tb AA (dn B AA ?_);refine ci h0 AA ?_ ?_<;>clear h0<;>intro I h0
 ·have W:H=false:=by simpa using I
  refine sr AA λX D=>zz (.agg [.zc,.zc]) (DL UP T2 IM AA AA) rfl (Ao AH D2 AA AA AA AA AA AA kU rfl (zq tb AA (dn D AA ?_)));obtain rfl:=Sh.AD h0;exact Ap (Exists.intro _ (And.intro ((((GX (id:=1) (cs:=[.zc,.zc]) (cs':=V8) (st':=[Fy p0.decls p0.funcs,⟨0,26,2,[V8]⟩]) rfl ⟨le.zc,le.rfl,fa⟩ AA AA).trans (GX (id:=1) (cs:=V8) (cs':=QP) (st':=[Fy p0.decls p0.funcs,⟨0,26,2,[QP]⟩]) rfl ⟨le.rfl,le.zc,fa⟩ AA AA)).trans (AT (L:=[(2,BI),(3,.bool false)]) (st':=[⟨0,26,2,[QP]⟩]) [1] AA (by decide) rfl AA (.raw AA AA .nil) ⟨.rfl,.rfl,fa⟩)).trans (Ag (L:=[(2,BI),(3,.bool false)]) ⟨.rfl,.rfl,fa⟩)) (Ar (x:=.tmp 2) (off:=0) (cs:=QP) (vs:=QP) D2 AA AA AA kU rfl _ AA)))
 ·have Y:H=true:=by simpa using I
  refine AL (A _ (sr AA λZ E=>?_));refine BD (m:=2) (l:=([]:List AG)) (enc:=Az) AH BT (by decide) rfl AA (by simp only[List.map,Al];rfl) rfl AA AA ?_;refine zq tb AA (dn E AA (AE λF i=>zr tb AA AA (bs h0 λg b h0=>?_)));have G:∀(c:(List AG)),g=c->∀s,Wk 0 s ⟨33,Aa [(1,BI),(2,CV),(4,ow 2 0 c)],[Fy p0.decls p0.funcs,Gv,FQ c]⟩->F s:=by
   intro c hq s K;subst g;refine i _ (AJ K (sr AA λM j=>zm tb 2 AA (AR (Wk.BJ (L:=[(2,CV),(28,JL p0),(29,Gc c)]) (st':=[Fy p0.decls p0.funcs,Gv,CU]) (id:=2) rfl ko (AB Ab) ⟨.rfl,.rfl,.BJ AA,fa⟩ AA) (bs h0 λa k h0=>zc (v':=(.Dm [.agg (OS a.1.decls a.1.funcs),.bool a.2])) (hb 31) (Pv k) rfl AA AA (zm tb 2 AA (Ao AH D2 AA AA AA AA AA AA kU rfl (zq tb AA (dn j AA ?_))))))));obtain rfl:=Sh.AD h0;exact Ap (Exists.intro _ (And.intro ((AT (L:=[(2,BI),(3,.bool a.2)]) (st':=[Fy a.1.decls a.1.funcs]) [1] AA (by decide) rfl AA (.raw AA AA .nil) ⟨.rfl,.rfl,fa⟩).trans (Ag (L:=[(2,BI),(3,.bool a.2)]) ⟨.rfl,.rfl,fa⟩)) (Ar (x:=.tmp 2) (off:=0) (cs:=(OS a.1.decls a.1.funcs)) (vs:=(OS a.1.decls a.1.funcs)) D2 AA AA AA kU rfl _ AA)))
  refine AU (Av (σ:=Int×(List AG)) (λn v=>DO N p0 n v.1 v.2=some g) (λ(d,e)=>⟨33,Aa [(1,.ptr 0 0 0 0),(2,.ptr 1 0 0 0),(4,ow 2 0 e),(5,i64 d)],[Fy p0.decls p0.funcs,Gv,ro 0 35 3 Az e]⟩) N (0,[]) b (AK AA) (λ_ J=>by rw[DO]at J;cases J) ?_);rintro n ⟨d,e⟩ b;rw[DO]at b;refine AE λO o=>sr AA λP p=>zm tb 3 AA (zl tb AA AA (zq tb AA (dn p AA ?_)));refine ci b AA ?_ ?_<;>clear b<;>intro Q b
  ·refine AL (o _ (AE λR q=>AU (AI AA (zm tb 4 AA (bs b λS t b=>zx Cn t AA AA AA (zm tb 2 AA (bs b λf u b=>zc (v':=(Bh f)) (hb 30) (UW u) rfl AA AA ?_)))))));refine BD (m:=3) (l:=[f]) (enc:=Az) AH BT (by decide) rfl AA (by simp only[List.map,Al];rfl) rfl AA AA ?_;refine bs b λh y b=>Cv (l2:=[f]) AH BT AA AA AA AA (Gr AA AA En) DJ y AA (zq tb AA (dn q AA (AI AA (zm tb 3 AA ?_))));exact AF (xi (Sh.w (d+1),h) b (by refine Wk.trans (ER (L:=[(1,BI),(2,CV),(4,ow 2 0 h),(5,KC d)]) (st':=[Fy p0.decls p0.funcs,Gv,FQ h,Nz f]) (.raw AA AA (.raw AA AA (.pure (AB Ab) (.pure (AB Ab) .nil)))) (.same AA)) ?_;exact AT [0,1,2] AA (by decide) rfl AA (.raw AA AA (.raw AA AA (.pure (AB Ab) .nil))) (.same AA)))
  ·exact BB (G e (Sh.AD b).symm _ (AK AA))
theorem Lv {N:Nat}{p0:(List Int)}{p1:(List Int)}{r:Bool}(h0:G1 N p0 p1=some r):Ac Tryz.prog 21 [ls eI p0,ls eI p1] [] (λv st=>v=(.bool r)/\st=[]):=by
 unfold G1 at h0;refine ai Tryz.func21 AA AA AA AA (zr tb AA AA (AE λG m=>sr AA λH o=>zq tb AA (zl tb AA AA (zq tb AA (zl tb AA AA (zq tb AA (dn o AA ?_)))))));refine ci h0 AA ?_ ?_<;>clear h0<;>intro t h0
 ·have I:decide ((Sh.len p0)=(Sh.len p1))=false:=by simpa using t
  refine zr tb AA AA ?_;obtain rfl:=Sh.AD h0;exact rt [(4,.bool false)]
 ·have J:decide ((Sh.len p0)=(Sh.len p1))=true:=by simpa using t
  refine AL (m _ (AE λx p=>zr tb AA AA ?_));obtain⟨b,a,h0⟩:=Sh.Bl h0;have q:∀(_:Unit),b=Sum.inr ()->∀s,Wk 0 s ⟨26,Aa [],[]⟩->x s:=by
   intro _ K s y;subst b;refine p _ (AJ y (zr tb AA AA ?_));obtain rfl:=Sh.AD h0;exact rt [(4,.bool true)]
  refine AU (Av (σ:=Int) (λn v=>D8 p0 p1 n v=some b) (λc=>⟨26,Aa [(0,ls eI p0),(1,ls eI p1),(5,i64 c)],[]⟩) N 0 a (AK AA) (λ_ u=>by rw[D8]at u;cases u) ?_);rintro n c a;rw[D8]at a;refine AE λz d=>sr AA λA e=>zm tb 2 AA (zl tb AA AA (zq tb AA (dn e AA ?_)));refine ci a AA ?_ ?_<;>clear a<;>intro B a
  ·refine AL (d _ (AE λC f=>AU (AE λD g=>?_)));refine Ca (by kernel_rfl) (by kernel_rfl) (by rfl) ?_;iterate 2 refine yq tb rfl ?_
   refine bs a λh i a=>yx BM i AA AA AA ?_;iterate 3 refine yq tb rfl ?_
   refine bs a λj k a=>yx BM k AA AA AA ?_;iterate 2 refine yq tb rfl ?_
   refine As (g _ ?_);refine ci a AA ?_ ?_<;>clear a<;>intro l a
   ·have E:decide (h=j)=false:=by simpa using l
    refine zr tb AA AA ?_;obtain rfl:=Sh.AD a;obtain rfl:=Sh.AD h0;exact rt [(4,.bool false)]
   ·have F:decide (h=j)=true:=by simpa using l
    exact AL (f _ (AI AA (zm tb 3 AA (AF (xi (Sh.w (c+1)) a (AK AA))))))
  ·exact BB (q () (Sh.AD a).symm _ (AK AA))
theorem Pr {N:Nat}{p0:(List AN)}{p1:(List AN)}{r:Bool}(h0:HW N p0 p1=some r):Ac Tryz.prog 32 [Cw p0,Cw p1] [] (λv st=>v=(.bool r)/\st=[]):=by
 unfold HW at h0;refine ai Tryz.func32 AA AA AA AA (zr tb AA AA (AE λK2 M=>sr AA λK3 O=>zq tb AA (zl tb AA AA (zq tb AA (zl tb AA AA (zq tb AA (dn O AA ?_)))))));refine ci h0 AA ?_ ?_<;>clear h0<;>intro U h0
 ·have b5:decide ((Sh.len p0)=(Sh.len p1))=false:=by simpa using U
  refine zr tb AA AA ?_;obtain rfl:=Sh.AD h0;exact rt [(4,.bool false)]
 ·have b7:decide ((Sh.len p0)=(Sh.len p1))=true:=by simpa using U
  refine AL (M _ (AE λW P=>zr tb AA AA ?_));obtain⟨k,d,h0⟩:=Sh.Bl h0;have Q:∀(_:Unit),k=Sum.inr ()->∀s,Wk 0 s ⟨87,Aa [],[]⟩->W s:=by
   intro _ V s t;subst k;refine P _ (AJ t (zr tb AA AA ?_));obtain rfl:=Sh.AD h0;exact rt [(4,.bool true)]
  refine AU (Av (σ:=Int) (λn v=>Df N p0 p1 n v=some k) (λe=>⟨87,Aa [(0,ls Ai p0),(1,ls Ai p1),(5,i64 e)],[]⟩) N 0 d (AK AA) (λ_ u=>by rw[Df]at u;cases u) ?_);rintro n e d;rw[Df]at d;refine AE λX x=>sr AA λY y=>zm tb 2 AA (zl tb AA AA (zq tb AA (dn y AA ?_)));refine ci d AA ?_ ?_<;>clear d<;>intro Z d
  ·refine AL (x _ (AE λR z=>AU (AE λb0 A=>AE λS B=>bs d λC a d=>?_)));have l:∀(m:Bool),C=m->∀s,Wk 0 s ⟨87,Aa [(0,Cw p0),(1,Cw p1),(5,i64 e),(56,.bool m)],[]⟩->S s:=by
    intro m V s t;subst C;refine B _ (AJ t ?_);refine ci d AA ?_ ?_<;>clear d<;>intro b1 d
    ·refine zr tb AA AA ?_;obtain rfl:=Sh.AD d;obtain rfl:=Sh.AD h0;exact rt [(4,.bool false)]
    ·refine AL (A _ (zr tb AA AA ?_));obtain⟨o,a,d⟩:=Sh.Bl d;have T:∀(_:Unit),o=Sum.inr ()->∀s,Wk 0 s ⟨87,Aa [(0,Cw p0),(1,Cw p1),(5,i64 e)],[]⟩->R s:=by
      intro _ V s t;subst o;exact z _ (AJ t (AI AA (zm tb 3 AA (AF (xi (Sh.w (e+1)) d (AK AA))))))
     refine AU (Av (σ:=Int) (λn v=>Dq N e p0 p1 n v=some o) (λp=>⟨87,Aa [(0,ls Ai p0),(1,ls Ai p1),(5,i64 e),(6,i64 p)],[]⟩) N 0 a (AK AA) (λ_ u=>by rw[Dq]at u;cases u) ?_);rintro n p a;rw[Dq]at a;refine AE λb2 D=>sr AA λb3 E=>zm tb 3 AA (bs a λb6 j a=>zx C8 j AA AA AA (zm tb 2 AA (zl tb AA AA (zq tb AA (dn E AA ?_)))));refine ci a AA ?_ ?_<;>clear a<;>intro b8 a
     ·refine AL (D _ (AE λb9 F=>AU (AE λc0 G=>?_)));refine Ca (by kernel_rfl) (by kernel_rfl) (by rfl) ?_;iterate 2 refine yq tb rfl ?_
      refine yx C8 j AA AA AA ?_;iterate 3 refine yq tb rfl ?_
      refine bs a λc1 H a=>yx IV H AA AA AA ?_;iterate 4 refine yq tb rfl ?_
      refine bs a λc2 I a=>yx C8 I AA AA AA ?_;iterate 3 refine yq tb rfl ?_
      refine bs a λc3 J a=>yx IV J AA AA AA ?_;iterate 2 refine yq tb rfl ?_
      refine bs a λq K a=>BX (v:=(.bool q)) AH (hb 21) (Lv K) rfl AA AA (yq tb AA (As (G _ ?_)));refine ci a AA ?_ ?_<;>clear a<;>intro L a
      ·have c4:q=false:=by simpa using L
       refine zr tb AA AA ?_;obtain rfl:=Sh.AD a;obtain rfl:=Sh.AD d;obtain rfl:=Sh.AD h0;exact rt [(4,.bool false)]
      ·have c5:q=true:=by simpa using L
       exact AL (F _ (AI AA (zm tb 3 AA (AF (xi (Sh.w (p+1)) a (AK AA))))))
     ·exact BB (T () (Sh.AD a).symm _ (AK AA))
   refine Ca (by kernel_rfl) (by kernel_rfl) (by rfl) ?_;iterate 2 refine yq tb rfl ?_
   refine bs a λh f a=>yx C8 f AA AA AA ?_;iterate 4 refine yq tb rfl ?_
   refine bs a λi g a=>yx C8 g AA AA AA ?_;iterate 4 refine yq tb rfl ?_
   rcases Sh.Aj a with ⟨c,a⟩|⟨c,a⟩
   ·refine ys c AA ?_;iterate 10 refine ys c rfl ?_
    refine yt c AA (yq tb AA ?_);iterate 13 refine ys rfl rfl ?_
    exact yt AA AA (As (l true (Sh.AD a).symm _ (AK AA)))
   ·refine yg tb c AA (yg tb c AA (HQ (v:=(.Bc (Ai h) 0)) (CM AA AA c) rfl (CZ C8 AA AA f AA) ?_));iterate 4 refine yg tb c rfl ?_
    refine HQ (v:=(.Bc (Ai i) 0)) (CM AA AA c) rfl (CZ C8 AA AA g AA) ?_;iterate 3 refine yg tb c rfl ?_
    refine yf c AA (yq tb AA ?_);rcases Sh.Aj a with ⟨b,a⟩|⟨b,a⟩
    ·refine ys b AA ?_;iterate 12 refine ys b rfl ?_
     exact yt b AA (As (l true (Sh.AD a).symm _ (AK AA)))
    ·refine yg tb b AA (yg tb b AA (HQ (v:=(.Bc (Ai h) 0)) (CM AA AA b) rfl (CZ C8 AA AA f AA) ?_));iterate 2 refine yg tb b rfl ?_
     refine HQ (v:=(i64 (Sh.len h.cons))) (CM AA AA b) rfl (Ch Oi AA) ?_;iterate 2 refine yg tb b rfl ?_
     refine HQ (v:=(.Bc (Ai i) 0)) (CM AA AA b) rfl (CZ C8 AA AA g AA) ?_;iterate 2 refine yg tb b rfl ?_
     exact HQ (v:=(i64 (Sh.len i.cons))) (CM AA AA b) rfl (Ch Oi AA) (yg tb b AA (yf b AA (As (l (!decide ((Sh.len h.cons)=(Sh.len i.cons))) (Sh.AD a).symm _ (AK AA)))))
  ·exact BB (Q () (Sh.AD d).symm _ (AK AA))
theorem O4 {N:Nat}{ld:AG->AG->Option (Bool)}(nJ :∀{p0:AG} {p1:AG} {r:Bool},ld p0 p1=some r->Ac Tryz.prog 33 [Bh p0,Bh p1] [] (λv st=>v=(.bool r)/\st=[])){p0 p1:AG}{r:Bool}(h0:IQ N ld p0 p1=some r):Ac Tryz.prog 33 [Bh p0,Bh p1] [] (λv st=>v=(.bool r)/\st=[]):=by
 unfold IQ at h0;refine ai Tryz.func33 AA AA AA AA (sr AA λR q=>Bt (m:=0) AH AA AA AA AA AA (Bt (m:=1) AH AA AA AA AA AA (zq tb AA (dn q AA (AE λS t=>AE λG u=>bs h0 λE a h0=>?_)))));have x:∀(y:Bool),E=y->∀s,Wk 0 s ⟨46,Aa [(2,BI),(3,CV),(26,.bool y)],[OQ p0.op p0.num p0.kids,OQ p1.op p1.num p1.kids]⟩->G s:=by
  intro y H s z;subst E;refine u _ (AJ z ?_);refine ci h0 AA ?_ ?_<;>clear h0<;>intro T h0
  ·refine zr tb AA AA ?_;obtain rfl:=Sh.AD h0;exact rd [(4,.bool false)]
  ·refine AL (t _ (AE λI A=>zr tb AA AA ?_));obtain⟨d,a,h0⟩:=Sh.Bl h0;have B:∀(_:Unit),d=Sum.inr ()->∀s,Wk 0 s ⟨46,Aa [],[]⟩->I s:=by
    intro _ H s z;subst d;refine A _ (AJ z (zr tb AA AA ?_));obtain rfl:=Sh.AD h0;exact rt [(4,.bool true)]
   refine AU (Av (σ:=Int) (λn v=>DW p0 p1 ld n v=some d) (λe=>⟨46,Aa [(2,.ptr 0 0 0 0),(3,.ptr 1 0 0 0),(5,i64 e)],[OQ p0.op p0.num p0.kids,OQ p1.op p1.num p1.kids]⟩) N 0 a (AK AA) (λ_ F=>by rw[DW]at F;cases F) ?_);rintro n e a;rw[DW]at a;refine AE λJ g=>sr AA λK h=>zm tb 3 AA (zl tb AA AA (zq tb AA (dn h AA ?_)));refine ci a AA ?_ ?_<;>clear a<;>intro L a
   ·refine AL (g _ (AE λM i=>AU (AE λO j=>?_)));refine Ca (by kernel_rfl) (by kernel_rfl) (by rfl) ?_;iterate 3 refine yq tb rfl ?_
    refine bs a λC k a=>yz (EE C) (Co BT AA AA k (Al _) rfl) rfl ?_;iterate 4 refine yq tb rfl ?_
    refine bs a λD l a=>yz (EE D) (Co BT AA AA l (Al _) rfl) rfl (yq tb AA (bs a λf o a=>BX (v:=(.bool f)) AH (hb 33) (nJ o) rfl AA AA (yq tb AA (As (j _ ?_)))));refine ci a AA ?_ ?_<;>clear a<;>intro p a
    ·have P:f=false:=by simpa using p
     refine zr tb AA AA ?_;obtain rfl:=Sh.AD a;obtain rfl:=Sh.AD h0;exact rd [(4,.bool false)]
    ·have Q:f=true:=by simpa using p
     exact AL (i _ (AI AA (zm tb 3 AA (AF (xi (Sh.w (e+1)) a (AK AA))))))
   ·exact BB (B () (Sh.AD a).symm _ (Bj _ AA))
 refine AI AA (zm tb 6 AA ?_);rcases Sh.Aj a with ⟨c,a⟩|⟨c,a⟩
 ·refine zs c AA ?_;iterate 4 refine zs c rfl ?_
  refine zt c AA (zq tb AA ?_);iterate 7 refine zs rfl rfl ?_
  exact zt AA AA (AF (x true (Sh.AD a).symm _ (AK AA)))
 ·refine zg tb c AA ?_;iterate 4 refine zg tb c rfl ?_
  refine zf c AA (zq tb AA ?_);rcases Sh.Aj a with ⟨b,a⟩|⟨b,a⟩
  ·refine zs b AA ?_;iterate 6 refine zs b rfl ?_
   exact zt b AA (AF (x true (Sh.AD a).symm _ (AK AA)))
  ·exact zg tb b AA (zg tb b AA (BV (v:=(Wg p0)) (CM AA AA b) rfl (Ch Qc AA) (zg tb b AA (zg tb b AA (BV (v:=(Wg p1)) (CM AA AA b) rfl (Ch Qc AA) (zg tb b AA (zf b AA (AF (x (!decide ((Sh.len p0.kids)=(Sh.len p1.kids))) (Sh.AD a).symm _ (AK AA))))))))))
theorem OZ {N:Nat}:∀(n:Nat),∀{p0:AG} {p1:AG} {r:Bool},Ez N n p0 p1=some r->Ac Tryz.prog 33 [Bh p0,Bh p1] [] (λv st=>v=(.bool r)/\st=[]):=by
 intro n
 induction n with
 | zero=>intro p0 p1 r a;cases a
 | succ n ih=>
  intro p0 p1 r a;rw[Ez]at a;exact O4 (λh=>ih h) a
theorem QR {N:Nat}:∀{p0:AG} {p1:AG} {r:Bool},Kz N p0 p1=some r->Ac Tryz.prog 33 [Bh p0,Bh p1] [] (λv st=>v=(.bool r)/\st=[]):=by
 intro p0 p1 r a;exact OZ N a
theorem IK {N:Nat}{p0 p1:AP}{r:Bool}(h0:FR N p0 p1=some r):Ac Tryz.prog 11 [JL p0,JL p1] [] (λv st=>v=(.bool r)/\st=[]):=by
 unfold FR at h0;refine ai Tryz.func11 AA AA AA AA (sr AA λY D=>Bt (m:=0) AH AA AA AA AA AA (Bt (m:=1) AH AA AA AA AA AA (zq tb AA (dn D AA (AE λZ E=>AE λQ F=>bs h0 λL c h0=>?_)))));have M:∀(G:Bool),L=G->∀s,Wk 0 s ⟨73,Aa [(2,BI),(3,CV),(20,.bool G)],[Fy p0.decls p0.funcs,Fy p1.decls p1.funcs]⟩->Q s:=by
  intro G O s l;subst L;refine F _ (AJ l ?_);refine ci h0 AA ?_ ?_<;>clear h0<;>intro b6 h0
  ·refine zr tb AA AA ?_;obtain rfl:=Sh.AD h0;exact rd [(4,.bool false)]
  ·refine AL (E _ (AE λR H=>zr tb AA AA ?_));obtain⟨i,c,h0⟩:=Sh.Bl h0;have I:∀(_:Unit),i=Sum.inr ()->∀s,Wk 0 s ⟨73,Aa [],[]⟩->R s:=by
    intro _ O s l;subst i;refine H _ (AJ l (zr tb AA AA ?_));obtain rfl:=Sh.AD h0;exact rt [(4,.bool true)]
   refine AU (Av (σ:=Int) (λn v=>DE N p0 p1 n v=some i) (λh=>⟨73,Aa [(2,.ptr 0 0 0 0),(3,.ptr 1 0 0 0),(5,i64 h)],[Fy p0.decls p0.funcs,Fy p1.decls p1.funcs]⟩) N 0 c (AK AA) (λ_ P=>by rw[DE]at P;cases P) ?_);rintro n h c;rw[DE]at c;refine AE λS o=>sr AA λT p=>zm tb 3 AA (zl tb AA AA (zq tb AA (dn p AA ?_)));refine ci c AA ?_ ?_<;>clear c<;>intro U c
   ·refine AL (o _ (AE λV q=>AU (AE λJ t=>bs c λu e c=>?_)));have j:∀(k:Bool),u=k->∀s,Wk 0 s ⟨73,Aa [(2,BI),(3,CV),(5,i64 h),(72,.bool k)],[Fy p0.decls p0.funcs,Fy p1.decls p1.funcs]⟩->J s:=by
     intro k O s l;subst u;refine t _ (AJ l ?_);refine ci c AA ?_ ?_<;>clear c<;>intro W c
     ·refine zr tb AA AA ?_;obtain rfl:=Sh.AD c;obtain rfl:=Sh.AD h0;exact rd [(4,.bool false)]
     ·exact AL (q _ (AI AA (zm tb 3 AA (AF (xi (Sh.w (h+1)) c (AK AA))))))
    refine Ca (by kernel_rfl) (by kernel_rfl) (by rfl) ?_;iterate 3 refine yq tb rfl ?_
    refine bs e λx f e=>yx Cn f AA AA AA ?_;iterate 5 refine yq tb rfl ?_
    refine bs e λy g e=>yx Cn g AA AA AA ?_;iterate 2 refine yq tb rfl ?_
    refine bs e λK z e=>BX (v:=(.bool K)) AH (hb 21) (Lv z) rfl AA AA ?_;iterate 2 refine yq tb rfl ?_
    rcases Sh.Aj e with ⟨d,e⟩|⟨d,e⟩
    ·refine ys d AA ?_;iterate 12 refine ys d rfl ?_
     refine yt d AA (yq tb AA ?_);iterate 14 refine ys rfl rfl ?_
     exact yt AA AA (As (j true (Sh.AD e).symm _ (AK AA)))
    ·refine yg tb d AA ?_;iterate 2 refine yg tb d rfl ?_
     refine HQ (v:=(.Bc (BO x) 0)) (CM AA AA d) rfl (CZ Cn AA AA f AA) ?_;iterate 5 refine yg tb d rfl ?_
     refine HQ (v:=(.Bc (BO y) 0)) (CM AA AA d) rfl (CZ Cn AA AA g AA) ?_;iterate 3 refine yg tb d rfl ?_
     refine yf d AA (yq tb AA ?_);rcases Sh.Aj e with ⟨a,e⟩|⟨a,e⟩
     ·refine ys a AA ?_;iterate 13 refine ys a rfl ?_
      exact yt a AA (As (j true (Sh.AD e).symm _ (AK AA)))
     ·refine yg tb a AA ?_;iterate 2 refine yg tb a rfl ?_
      refine HQ (v:=(.Bc (BO x) 0)) (CM AA AA a) rfl (CZ Cn AA AA f AA) ?_;iterate 5 refine yg tb a rfl ?_
      refine HQ (v:=(.Bc (BO y) 0)) (CM AA AA a) rfl (CZ Cn AA AA g AA) ?_;iterate 2 refine yg tb a rfl ?_
      exact bs e λA B e=>BX (v:=(.bool A)) (CM AA AA a) (hb 33) (QR B) rfl AA AA (yg tb a AA (yf a AA (As (j (!A) (Sh.AD e).symm _ (AK AA)))))
   ·exact BB (I () (Sh.AD c).symm _ (Bj _ AA))
 refine AI AA (zm tb 4 AA (bs c λX C c=>zc (hb 32) (Pr C) rfl AA AA (zm tb 2 AA ?_)));rcases Sh.Aj c with ⟨b,c⟩|⟨b,c⟩
 ·refine zs b AA ?_;iterate 6 refine zs b rfl ?_
  exact zt b AA (AF (M true (Sh.AD c).symm _ (AK AA)))
 ·exact zg tb b AA (zg tb b AA (BV (v:=(i64 (Sh.len p0.funcs))) (CM AA AA b) rfl (Ch SN AA) (zg tb b AA (zg tb b AA (BV (v:=(i64 (Sh.len p1.funcs))) (CM AA AA b) rfl (Ch SN AA) (zg tb b AA (zf b AA (AF (M (!decide ((Sh.len p0.funcs)=(Sh.len p1.funcs))) (Sh.AD c).symm _ (AK AA))))))))))
theorem Ll {N:Nat}{p0:(List Int)}{r:Bool}(h0:GH N p0=some r):Ac Tryz.prog 3 [ls Ey p0] [] (λv st=>v=(.bool r)/\st=[]):=by
 unfold GH at h0;refine ai Tryz.func3 AA AA AA AA (zr tb AA AA (AE λK2 b3=>sr AA λK3 b5=>zq tb AA (zl tb AA AA (zq tb AA (dn b5 AA ?_)))));refine ci h0 AA ?_ ?_<;>clear h0<;>intro b4 h0
 ·refine zr tb AA AA ?_;obtain rfl:=Sh.AD h0;exact rt [(2,.bool true)]
 ·refine AL (b3 _ (sr AA λK6 b6=>zq tb AA (bs h0 λq b7 h0=>zc (v':=(JL q)) (hb 8) (Ml b7) rfl AA AA (Au (m:=0) AH IM AA AA (Ao AH D2 AA AA AA AA AA AA kU rfl (dn b6 AA (sr AA λK8 b8=>zq tb AA (bs h0 λg b9 h0=>zc (v':=(.Dm [.agg (OS g.1.decls g.1.funcs),.bool g.2])) (hb 9) (LJ b9) rfl AA AA ?_))))))));refine zm tb 3 AA (Au (m:=1) AH IM AA AA (Ao AH D2 AA AA AA AA AA AA kU rfl (zq tb AA (dn b8 AA (sr AA λc9 z=>zq tb AA (bs h0 λh A h0=>zc (v':=(.Dm [.agg (OS h.1.decls h.1.funcs),.bool h.2])) (hb 10) (Pe A) rfl AA AA (zm tb 3 AA (Au (m:=2) AH IM AA AA (Ao AH D2 AA AA AA AA AA AA kU rfl ?_)))))))));refine zq tb AA (dn z AA (AE λd1 B=>AE λc0 C=>bs h0 λD a h0=>?_));have t:∀(u:Bool),D=u->∀s,Wk 0 s ⟨87,Aa [(3,BI),(4,CV),(5,.bool g.2),(6,CK),(7,.bool h.2),(38,.bool u)],[Fy q.decls q.funcs,Fy g.1.decls g.1.funcs,Fy h.1.decls h.1.funcs]⟩->c0 s:=by
   intro u hq s k;subst D;refine C _ (AJ k ?_);refine ci h0 AA ?_ ?_<;>clear h0<;>intro d2 h0
   ·refine AE λc1 E=>bs h0 λF a h0=>?_;have G:∀(l:Bool),F=l->∀s,Wk 0 s ⟨87,Aa [(2,.bool l)],[]⟩->c1 s:=by
     intro l hq s k;subst F;refine E _ (AJ k ?_);obtain rfl:=Sh.AD h0;exact rt [(2,.bool l)]
    refine AI AA (zm tb 2 AA (bs a λd3 H a=>zc (hb 11) (IK H) rfl AA AA (zq tb AA ?_)));rcases Sh.Aj a with ⟨d,a⟩|⟨d,a⟩
    ·exact zg tb d AA (zg tb d AA (zg tb d AA (zt d AA (zq tb AA (AF (G (g.2==h.2) (Sh.AD a).symm _ (Bj _ AA)))))))
    ·exact zs d AA (zs d AA (zs d AA (zf d AA (zq tb AA (AF (G false (Sh.AD a).symm _ (Bj _ AA)))))))
   ·refine AL (B _ (sr AA λd4 I=>zq tb AA (bs h0 λc J h0=>zc (v':=(.Dm [.agg (OS c.1.decls c.1.funcs),.bool c.2])) (hb 9) (LJ J) rfl AA AA (zm tb 3 AA (Au (m:=3) AH IM AA AA (Ao AH D2 AA AA AA AA AA AA kU rfl (zq tb AA (dn I AA (AE λc2 K=>zr tb AA AA ?_)))))))));obtain⟨x,a,h0⟩:=Sh.Bl h0;have c3:∀(_:Unit),x=Sum.inr ()->∀s,Wk 0 s ⟨87,Aa [(4,BI),(8,CV),(9,.bool c.2)],[Fy g.1.decls g.1.funcs,Fy c.1.decls c.1.funcs]⟩->c2 s:=by
     intro _ hq s k;subst x;refine K _ (AJ k (AE λc4 L=>bs h0 λM a h0=>?_));have O:∀(o:Bool),M=o->∀s,Wk 0 s ⟨87,Aa [(2,.bool o)],[]⟩->c4 s:=by
      intro o hq s k;subst M;refine L _ (AJ k ?_);obtain rfl:=Sh.AD h0;exact rt [(2,.bool o)]
     refine AI AA (zm tb 2 AA ?_);rcases Sh.Aj a with ⟨e,a⟩|⟨e,a⟩
     ·exact zg tb e AA (zg tb e AA (bs a λc5 P a=>zd e (hb 11) (IK P) rfl AA AA AA (zt e AA (zq tb AA (AF (O c5 (Sh.AD a).symm _ (Bj _ AA)))))))
     ·exact zs e AA (zs e AA (zs e AA (zf e AA (zq tb AA (AF (O false (Sh.AD a).symm _ (Bj _ AA)))))))
    refine AU (Av (σ:=Int) (λn v=>CY N q g n v=some x) (λp=>⟨87,Aa [(3,.ptr 0 0 0 0),(4,.ptr 1 0 0 0),(8,.ptr 2 0 0 0),(9,.bool c.2),(10,i64 p)],[Fy q.decls q.funcs,Fy g.1.decls g.1.funcs,Fy c.1.decls c.1.funcs]⟩) N 0 a (AT [0,1,3] AA (by decide) rfl AA (.raw AA AA (.raw AA AA (.raw AA AA .nil))) (.same AA)) (λ_ hv=>by rw[CY]at hv;cases hv) ?_);rintro n p a;rw[CY]at a;refine AE λd5 Q=>sr AA λd6 R=>zm tb 3 AA (zl tb AA AA (zq tb AA (dn R AA ?_)));refine ci a AA ?_ ?_<;>clear a<;>intro d7 a
    ·refine AL (Q _ (AE λd8 S=>AU (AE λc6 T=>bs a λU j a=>?_)));have V:∀(y:Bool),U=y->∀s,Wk 0 s ⟨87,Aa [(3,BI),(4,CV),(8,CK),(9,.bool c.2),(10,i64 p),(80,.bool y)],[Fy q.decls q.funcs,Fy g.1.decls g.1.funcs,Fy c.1.decls c.1.funcs]⟩->c6 s:=by
      intro y hq s k;subst U;refine T _ (AJ k ?_);refine ci a AA ?_ ?_<;>clear a<;>intro d9 a
      ·refine zr tb AA AA ?_;obtain rfl:=Sh.AD a;obtain rfl:=Sh.AD h0;exact rd [(2,.bool false)]
      ·exact AL (S _ (AI AA (zm tb 3 AA (AF (xi (Sh.w (p+1)) a (AK AA))))))
     refine Ca (by kernel_rfl) (by kernel_rfl) (by rfl) ?_;iterate 3 refine yq tb rfl ?_
     refine yl tb AA AA ?_;iterate 2 refine yq tb rfl ?_
     rcases Sh.Aj j with ⟨b,j⟩|⟨b,j⟩
     ·refine ys b AA ?_;iterate 14 refine ys b rfl ?_
      exact yt b AA (As (V true (Sh.AD j).symm _ (AK AA)))
     ·refine yg tb b AA ?_;iterate 2 refine yg tb b rfl ?_
      refine bs j λc7 W j=>HQ (v:=(.Bc (BO c7) 0)) (CM AA AA b) rfl (CZ Cn AA AA W AA) ?_;iterate 2 refine yg tb b rfl ?_
      refine bs j λX Y j=>BX (v:=(i64 X)) (CM AA AA b) (hb 12) (I3 Y) rfl AA AA ?_;iterate 3 refine yg tb b rfl ?_
      refine bs j λc8 Z j=>HQ (v:=(.Bc (BO c8) 0)) (CM AA AA b) rfl (CZ Cn AA AA Z AA) ?_;iterate 2 refine yg tb b rfl ?_
      exact bs j λb0 b1 j=>BX (v:=(i64 b0)) (CM AA AA b) (hb 12) (I3 b1) rfl AA AA (yg tb b AA (yf b AA (As (V (decide (b0<X)) (Sh.AD j).symm _ (AK AA)))))
    ·exact BB (c3 () (Sh.AD a).symm _ (AT [1,2] AA (by decide) rfl AA (.raw AA AA (.raw AA AA .nil)) (.same AA)))
  refine AI AA (zm tb 2 AA (bs a λg0 b2 a=>zc (hb 11) (IK b2) rfl AA AA (zm tb 2 AA ?_)));rcases Sh.Aj a with ⟨f,a⟩|⟨f,a⟩
  ·exact zs f AA (zs f AA (zs f AA (zt f AA (zq tb AA (zs AA AA (zs AA AA (zt AA AA (AF (t true (Sh.AD a).symm _ (AK AA))))))))))
  ·refine zg tb f AA (zg tb f AA (zg tb f AA (zf f AA (zq tb AA ?_))));rcases Sh.Aj a with ⟨i,a⟩|⟨i,a⟩
   ·exact zs i AA (zs i AA (zt i AA (AF (t true (Sh.AD a).symm _ (AK AA)))))
   ·exact zg tb i AA (zg tb i AA (zf i AA (AF (t (!g.2) (Sh.AD a).symm _ (AK AA)))))
end Go.Proofs.YtihdgoiebmfapaaGreat
