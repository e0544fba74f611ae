/- impl.letAll,by hand: rows that own all. -/
import Derived.Test.YtihdgoiebmfapaaGreatGHADefsToNSDefs
import Derived.Test.YtihdgoiebmfapaaGreatBWK
set_option linter.all false
namespace Go.Proofs.YtihdgoiebmfapaaGreat.La
noncomputable section
open Go Go.Abs RC
attribute [local irreducible] Go.Abs.EK
set_option maxRecDepth 100000
abbrev T7 (z0:AD):=([i64 z0.op,i64 z0.num,ls Ar z0.kids]:List AV)
abbrev Sg (z0:AD):=([i64 z0.op,i64 z0.num,ow 5 0 z0.kids]:List AV)
abbrev OD:=(⟨1,35,3,[]⟩:Row)
abbrev aF:=(⟨0,35,3,[[i64 0,i64 0,.zc]]⟩:Row)
abbrev Rz (z0:AD)(z1 z2:_)(z3:AD):=([OD,⟨0,35,3,[[i64 z0.op,i64 z0.num,ow 5 0 z0.kids]]⟩,⟨0,3,1,[[i64 z1]]⟩,aF,⟨0,33,1,[[ls Ar z2]]⟩,ro 0 35 3 (Bv 35) z0.kids,⟨0,35,3,[[i64 z3.op,i64 z3.num,ls Ar z3.kids]]⟩]:List Row)
abbrev NP:=((.ptr 1 0 0 0):AV)
abbrev Yi (z0:AD):=((ro 0 35 3 (Bv 35) z0.kids):Row)
abbrev Pg:=((.ptr 2 0 0 0):AV)
abbrev bD z0:=(⟨0,33,1,[[ls Ar z0]]⟩:Row)
abbrev dy (z0:AD):=([i64 z0.op,i64 z0.num,ow 1 0 z0.kids]:List AV)
set_option maxHeartbeats 4000000
def tb:LN Tryz.prog where
 t:=[(3,false,1),(33,false,1),(35,true,3)]
 f:=[(35,0,0),(35,1,1),(35,2,2)]
 v:=[]
 b:=[]
 s:=[33]
 ht:=by kernel_rfl
 hf:=by kernel_rfl
 hv:=by kernel_rfl
 hb:=by kernel_rfl
 hs:=by kernel_rfl
theorem R3:I6 Tryz.prog 35=true:=by kernel_rfl
theorem R6:Kl Tryz.prog 35=some [(0,1),(1,1),(2,1)]:=by kernel_rfl
theorem Ba:DB Tryz.prog 33=some ⟨35,3,40,[.int .i64 0,.int .i64 0,.sl []]⟩:=by kernel_rfl
theorem mH:Cq Tryz.prog 44=true:=by kernel_rfl
theorem nx:Cq Tryz.prog 71=true:=by kernel_rfl
theorem Hy:Dc Tryz.prog 3=some (false,1):=by kernel_rfl
theorem cD:Dc Tryz.prog 33=some (false,1):=by kernel_rfl
theorem BI:Dc Tryz.prog 35=some (true,3):=by kernel_rfl
theorem Dd:IK Tryz.prog 35=some [.int .i64 0,.int .i64 0,.zc]:=by kernel_rfl
theorem bP {l:List AD}:BJ Tryz.prog 71 [ls Ar l] [] (λv st=>v=(.fn 107 [.ptr 0 0 0 0])/\st=[bD l]):=by
 refine ai Tryz.func71 AA AA AA AA (sr AA λK1 hK1=>Wy (m:=0) AN AA AA AA AA AA (zq tb AA (dn hK1 AA (sr AA λK2 hK2=>zz (.fn 107 [.ptr 0 0 0 0]) (bN AA) rfl (zq tb AA (dn hK2 AA ?_))))));exact Am ⟨_,Wk.refl _ _,AA,AA⟩
theorem T8 {N:Nat}(yZ :∀{p0:AD} {p1:Int} {p2:Int} {r:AD},Gs N p0 p1 p2=some r->BJ Tryz.prog 44 [.agg (T7 p0),i64 p1,i64 p2] [] (λv st=>v=(.agg [i64 r.op,i64 r.num,ow 0 0 r.kids])/\st=[Yi r]))
  {s0 p0:List AD} {tn ug p2:Int} {r:AD} (h0:LY N s0 p0 tn ug p2=some r):BJ Tryz.prog 43 [ls Ar p0,.agg [i64 tn,i64 ug,ow 0 0 s0],i64 p2] [ro 0 35 3 (Bv 35) s0] (λv st=>v=(.agg (dy r))/\st=[OD,Yi r]):=by
 unfold LY at h0;by_cases hlen:p0.length<=1048576
 case neg=>rw[pJ hlen]at h0;cases h0
 rw[pI hlen]at h0;obtain⟨bs,hbl,hb0,uV⟩:=SG _ h0;refine BJ.wk (r0:=.agg (dy r)) (st0:=[OD,Yi r,⟨0,35,3,[dy r]⟩]) ?_ (D3 (L:=[(0,.agg (dy r))]) (st':=[OD,Yi r]) [0,1] AA (by decide) rfl AA (.pure (by intro x hx;cases hx) (.deep (Ao BD) oz)) ⟨.rfl,oz⟩);refine BJ.kq Tryz.func43 AA AA AA AA ?_;refine SM (Vm (L:=[(0,ls Ar p0),(1,.agg [i64 tn,i64 ug,ow 1 0 s0]),(2,i64 p2)]) (id:=0) (N:=1) (st':=[OD,ro 0 35 3 (Bv 35) s0]) rfl AA ⟨.rfl,.rfl,.rfl,oz⟩ AA) ?_;refine Vh λK1 hK1=>AF AA (Wy (m:=2) AN AA AA AA AA AA (Wy (m:=3) AN AA AA AA AA AA (KB (m:=4) AN Dd AA AA (AB (hK1 _ ?_)))));refine Q3.ns λK2 hK2=>Vh λK3 hK3=>AF AA (zq tb AA (Bo (v':=.fn 107 [.ptr 5 0 0 0]) AN nx bP AA AA ⟨(λx hx c hc=>by simp at hx;subst hx;simp at hc;subst hc;rfl),oz⟩ AA AA (AB (hK3 _ ?_))));obtain⟨S,hS⟩ :∃S:Nat->List Row,∀i,S i=[OD,⟨0,35,3,[[i64 (bs i).op,i64 (bs i).num,ow 5 0 (bs i).kids]]⟩,⟨0,3,1,[[i64 p2]]⟩,aF,bD p0,ro 0 35 3 (Bv 35) (bs i).kids]:=⟨_,λ_=>rfl⟩
 have hSl:S p0.length=[⟨1,35,3,[]⟩,⟨0,35,3,[[i64 tn,i64 ug,ow 5 0 s0]]⟩,⟨0,3,1,[[i64 p2]]⟩,⟨0,35,3,[[i64 0,i64 0,.zc]]⟩,⟨0,33,1,[[ls Ar p0]]⟩,ro 0 35 3 (Bv 35) s0]:=by rw[hS,hbl];rfl
 refine SM (s':=⟨21,AP [(4,NP),(5,Pg),(6,.ptr 3 0 0 0),(10,.fn 107 [.ptr 4 0 0 0])],S p0.length⟩) ?_ ?_
 · rw[hSl];exact Qq (st1:=[OD,⟨0,35,3,[[i64 tn,i64 ug,ow 1 0 s0]]⟩,⟨0,3,1,[[i64 p2]]⟩,aF,bD p0,ro 0 35 3 (Bv 35) s0]) [0,2,3,4,5,1] AA (.pure (by intro x hx;cases hx) .nil) (by decide) rfl AA (.pure (by intro x hx;cases hx) (.raw AA AA (.raw AA AA (.raw AA AA (.raw AA AA (.deep (Ao BD) .nil)))))) ⟨.rfl,.rfl,.rfl,.rfl,oz⟩
 refine Q3.block (Q3.range (t:=10) (gf:=107) (id:=4) (T:=33) (l:=p0) (enc:=Ar) (S:=S) rfl AA (enters_of Tryz.func107 (by kernel_rfl) rfl) (λb=>Wi b p0.length hlen) (λi=>by rw[hS];rfl) (λx=>by rw[Af];rfl) (k':=5) (qW AA) (λt=>?_) (by decide) (by decide) (λi x lb hx=>?_) (hK2 _ ?_))
 · simp only[AP]
   repeat' split
   all_goals first|exact oz|exact (show (1:Nat)<5 by decide)|exact (show (2:Nat)<5 by decide)|exact (show (3:Nat)<5 by decide)|exact (show (4:Nat)<5 by decide)
 · obtain⟨x',q,e1,e2,e3⟩:=uV i (pA.1 hx).1;obtain rfl:x=x':=by
     have e4:=(Sh.get_some e1).2.1;rw[qP,hx]at e4;exact qf e4
   have hSi:S i=[⟨1,35,3,[]⟩,⟨0,35,3,[[i64 13,i64 0,.own 5 0 2]]⟩,⟨0,3,1,[[i64 p2]]⟩,⟨0,35,3,[[i64 0,i64 0,.zc]]⟩,⟨0,33,1,[[ls Ar p0]]⟩,⟨0,35,3,List.map (Bv 35) [q,bs (i+1)]⟩]:=by rw[hS,e3];rfl
   rw[hS (i+1)];generalize bs (i+1)=y at *;refine SJ (s':=⟨21,AP [(4,.ptr 1 0 0 0),(5,.ptr 2 0 0 0),(6,.ptr 3 0 0 0),(10,.fn 107 [.ptr 4 0 0 0]),(11,i64 i),(12,.agg [i64 x.op,i64 x.num,ls Ar x.kids])],_⟩) (by rw[Af];exact Bz AA) ?_;refine Oh.seq λK4 hK4=>Ql AA AA (zq tb AA (AB (hK4 _ ?_)));refine Ql AA AA (KB (m:=6) AN Dd AA AA (Ja AN BI AA AA AA AA AA AA tK rfl (AB ?_)));dsimp only[LQ];refine Oh.block ?_;refine SJ (Bz (L:=[(4,NP),(5,Pg),(7,i64 i),(8,.ptr 6 0 0 0)]) rfl) ?_;refine Oh.nN (by kernel_rfl) rfl (LB λA hA=>?_);have zu:A 0 (bm 8 255) ⟨21,AP [(4,NP)],[OD,⟨0,35,3,[[i64 13,i64 0,.own 8 0 2]]⟩,⟨0,3,1,[[i64 p2]]⟩,aF,bD p0,OD,⟨0,35,3,[T7 x]⟩,OD,⟨0,35,3,List.map (Bv 35) [q,y]⟩]⟩:=(hA _ _ _).2 (by
    refine BK (N1 (L:=[]) (st':=S i) (st1:=[OD,⟨0,35,3,[[i64 13,i64 0,.own 8 0 2]]⟩,⟨0,3,1,[[i64 p2]]⟩,aF,bD p0,⟨0,35,3,List.map (Bv 35) [q,y]⟩]) [0,1,2,3,4,8] AA (by decide) rfl AA ?_ oz) (Gi AA (by kernel_rfl) ⟨AA,AA⟩) rfl;rw[hSi];exact (.pure (by intro x hx;cases hx) (.raw rfl rfl (.raw rfl rfl (.raw rfl rfl (.raw rfl rfl (.deep (Ao BD) .nil)))))))
   have A_0123456:A 1 (bm 8 127) ⟨21,AP [(4,NP),(19,.agg [i64 13,i64 0,.own 8 0 2])],[OD,⟨0,35,3,[Sg y]⟩,⟨0,3,1,[[i64 p2]]⟩,aF,bD p0,OD,⟨0,35,3,[T7 x]⟩,OD,⟨0,35,3,List.map (Bv 35) [q,y]⟩]⟩:=(hA _ _ _).2 (by
    refine xa [7] ⟨?_,oz⟩
    .refine xo 7 ?_;refine Ja AN BI AA AA AA AA AA AA tK rfl (AB ⟨AA,?_⟩);exact BK (Bz AA) (Bp (by kernel_rfl) ((hA _ _ _).1 zu)) rfl)
   have A_012345:A 2 (bm 8 63) ⟨21,AP [(4,NP),(18,.own 8 0 2)],[OD,⟨0,35,3,[Sg y]⟩,⟨0,3,1,[[i64 p2]]⟩,aF,bD p0,OD,⟨0,35,3,[T7 x]⟩,OD,⟨0,35,3,List.map (Bv 35) [q,y]⟩]⟩:=(hA _ _ _).2 (by
    refine xa [6] ⟨?_,oz⟩
    .refine xo 6 ?_;refine zz (.agg [i64 13,i64 0,.own 8 0 2]) (DK R3 R6 Dd AA AA) rfl (AB ⟨AA,?_⟩);exact BK (Bz AA) (Bp (by kernel_rfl) ((hA _ _ _).1 A_0123456)) rfl)
   have A_01234:A 3 (bm 8 31) ⟨21,AP [(4,NP),(16,.agg [i64 q.op,i64 q.num,ow 7 0 q.kids]),(17,.agg (Sg y))],[OD,⟨0,35,3,[Sg y]⟩,⟨0,3,1,[[i64 p2]]⟩,aF,bD p0,Yi y,⟨0,35,3,[T7 x]⟩,Yi q]⟩:=(hA _ _ _).2 (by
    refine xa [5] ⟨?_,oz⟩
    .refine xo 5 ?_;refine So (m:=8) (l:=[true,false]) (enc:=λc=>if c then [i64 q.op,i64 q.num,ow 7 0 q.kids] else (Sg y)) AN Ba (by decide) rfl AA AA AA AA AA ?_;refine As (LW (id:=8) (m:=7) (i:=0) (j:=2) (st':=[⟨1,35,3,[]⟩,⟨0,35,3,[[i64 y.op,i64 y.num,ow 5 0 y.kids]]⟩,⟨0,3,1,[[i64 p2]]⟩,⟨0,35,3,[[i64 0,i64 0,.zc]]⟩,⟨0,33,1,[[ls Ar p0]]⟩,ro 0 35 3 (Bv 35) y.kids,⟨0,35,3,[[i64 x.op,i64 x.num,ls Ar x.kids]]⟩,⟨1,35,3,[]⟩,⟨0,35,3,[[i64 q.op,i64 q.num,.dv 35 3 (q.kids.map (Bv 35))],[i64 y.op,i64 y.num,ow 5 0 y.kids]]⟩]) rfl AA AA AA (by simp) (by decide) (show 5<=7 by decide) (J3 HT) rfl) ?_;refine As (LW (id:=8) (m:=5) (i:=1) (j:=2) (st':=[⟨1,35,3,[]⟩,⟨0,35,3,[[i64 y.op,i64 y.num,ow 5 0 y.kids]]⟩,⟨0,3,1,[[i64 p2]]⟩,⟨0,35,3,[[i64 0,i64 0,.zc]]⟩,⟨0,33,1,[[ls Ar p0]]⟩,⟨1,35,3,[]⟩,⟨0,35,3,[[i64 x.op,i64 x.num,ls Ar x.kids]]⟩,⟨1,35,3,[]⟩,⟨0,35,3,List.map (Bv 35) [q,y]⟩]) rfl AA AA AA (by simp) (by decide) (show 5<=5 by decide) (J3 HT) (by simp only[List.map,Iq];rfl)) (AB ⟨AA,?_⟩);exact BK (Bz AA) (Bp (by kernel_rfl) ((hA _ _ _).1 A_012345)) rfl)
   have A_0123:A 4 (bm 8 15) ⟨21,AP [(4,NP),(16,.agg [i64 q.op,i64 q.num,ow 7 0 q.kids])],[OD,⟨0,35,3,[Sg y]⟩,⟨0,3,1,[[i64 p2]]⟩,aF,bD p0,Yi y,⟨0,35,3,[T7 x]⟩,Yi q]⟩:=(hA _ _ _).2 (by
    refine xa [4] ⟨?_,oz⟩
    .refine xo 4 ?_;refine zq tb AA (AB ⟨AA,?_⟩);exact BK (Bz AA) (Bp (by kernel_rfl) ((hA _ _ _).1 A_01234)) rfl)
   have yV:A 4 (bm 8 23) ⟨21,AP [(4,NP),(5,Pg),(7,i64 i),(8,.ptr 6 0 0 0),(13,.agg (T7 x)),(14,i64 p2),(15,i64 i),(17,.agg (Sg y))],Rz y p2 p0 x⟩:=(hA _ _ _).2 (by
    refine xa [3] ⟨?_,oz⟩
    .refine xo 3 ?_;refine Bo (v':=.agg [i64 q.op,i64 q.num,ow 7 0 q.kids]) AN mH (yZ e2) rfl AA ⟨Ao BD,oz⟩ AA AA (AB ⟨AA,?_⟩);exact BK (Bz AA) (Bp (by kernel_rfl) ((hA _ _ _).1 A_01234)) rfl)
   have A_012:A 5 (bm 8 7) ⟨21,AP [(4,NP),(5,Pg),(7,i64 i),(8,.ptr 6 0 0 0),(13,.agg (T7 x)),(14,i64 p2),(15,i64 i)],Rz y p2 p0 x⟩:=(hA _ _ _).2 (by
    refine xa [3,4] ⟨?_,?_,oz⟩
    .refine xo 3 ?_;refine Bo (v':=.agg [i64 q.op,i64 q.num,ow 7 0 q.kids]) AN mH (yZ e2) rfl AA ⟨Ao BD,oz⟩ AA AA (AB ⟨AA,?_⟩);exact BK (Bz AA) (Bp (by kernel_rfl) ((hA _ _ _).1 A_0123)) rfl
    .refine xo 4 ?_;refine zq tb AA (AB ⟨AA,?_⟩);exact BK (Bz AA) (Bp (by kernel_rfl) ((hA _ _ _).1 yV)) rfl)
   have A_014:A 5 (bm 8 19) ⟨21,AP [(4,NP),(5,Pg),(7,i64 i),(8,.ptr 6 0 0 0),(13,.agg (T7 x)),(14,i64 p2),(17,.agg (Sg y))],Rz y p2 p0 x⟩:=(hA _ _ _).2 (by
    refine xa [2] ⟨?_,oz⟩
    .refine xo 2 ?_;refine zq tb AA (AB ⟨AA,?_⟩);exact BK (Bz AA) (Bp (by kernel_rfl) ((hA _ _ _).1 yV)) rfl)
   have A_024:A 5 (bm 8 21) ⟨21,AP [(4,NP),(5,Pg),(7,i64 i),(8,.ptr 6 0 0 0),(13,.agg (T7 x)),(15,i64 i),(17,.agg (Sg y))],Rz y p2 p0 x⟩:=(hA _ _ _).2 (by
    refine xa [1] ⟨?_,oz⟩
    .refine xo 1 ?_;refine zq tb AA (AB ⟨AA,?_⟩);exact BK (Bz AA) (Bp (by kernel_rfl) ((hA _ _ _).1 yV)) rfl)
   have A_124:A 5 (bm 8 22) ⟨21,AP [(4,NP),(5,Pg),(7,i64 i),(8,.ptr 6 0 0 0),(14,i64 p2),(15,i64 i),(17,.agg (Sg y))],Rz y p2 p0 x⟩:=(hA _ _ _).2 (by
    refine xa [0] ⟨?_,oz⟩
    .refine xo 0 ?_;refine zq tb AA (AB ⟨AA,?_⟩);exact BK (Bz AA) (Bp (by kernel_rfl) ((hA _ _ _).1 yV)) rfl)
   have A_01:A 6 (bm 8 3) ⟨21,AP [(4,NP),(5,Pg),(7,i64 i),(8,.ptr 6 0 0 0),(13,.agg (T7 x)),(14,i64 p2)],Rz y p2 p0 x⟩:=(hA _ _ _).2 (by
    refine xa [2,4] ⟨?_,?_,oz⟩
    .refine xo 2 ?_;refine zq tb AA (AB ⟨AA,?_⟩);exact BK (Bz AA) (Bp (by kernel_rfl) ((hA _ _ _).1 A_012)) rfl
    .refine xo 4 ?_;refine zq tb AA (AB ⟨AA,?_⟩);exact BK (Bz AA) (Bp (by kernel_rfl) ((hA _ _ _).1 A_014)) rfl)
   have A_02:A 6 (bm 8 5) ⟨21,AP [(4,NP),(5,Pg),(7,i64 i),(8,.ptr 6 0 0 0),(13,.agg (T7 x)),(15,i64 i)],Rz y p2 p0 x⟩:=(hA _ _ _).2 (by
    refine xa [1,4] ⟨?_,?_,oz⟩
    .refine xo 1 ?_;refine zq tb AA (AB ⟨AA,?_⟩);exact BK (Bz AA) (Bp (by kernel_rfl) ((hA _ _ _).1 A_012)) rfl
    .refine xo 4 ?_;refine zq tb AA (AB ⟨AA,?_⟩);exact BK (Bz AA) (Bp (by kernel_rfl) ((hA _ _ _).1 A_024)) rfl)
   have A_04:A 6 (bm 8 17) ⟨21,AP [(4,NP),(5,Pg),(7,i64 i),(8,.ptr 6 0 0 0),(13,.agg (T7 x)),(17,.agg (Sg y))],Rz y p2 p0 x⟩:=(hA _ _ _).2 (by
    refine xa [1,2] ⟨?_,?_,oz⟩
    .refine xo 1 ?_;refine zq tb AA (AB ⟨AA,?_⟩);exact BK (Bz AA) (Bp (by kernel_rfl) ((hA _ _ _).1 A_014)) rfl
    .refine xo 2 ?_;refine zq tb AA (AB ⟨AA,?_⟩);exact BK (Bz AA) (Bp (by kernel_rfl) ((hA _ _ _).1 A_024)) rfl)
   have A_12:A 6 (bm 8 6) ⟨21,AP [(4,NP),(5,Pg),(7,i64 i),(8,.ptr 6 0 0 0),(14,i64 p2),(15,i64 i)],Rz y p2 p0 x⟩:=(hA _ _ _).2 (by
    refine xa [0,4] ⟨?_,?_,oz⟩
    .refine xo 0 ?_;refine zq tb AA (AB ⟨AA,?_⟩);exact BK (Bz AA) (Bp (by kernel_rfl) ((hA _ _ _).1 A_012)) rfl
    .refine xo 4 ?_;refine zq tb AA (AB ⟨AA,?_⟩);exact BK (Bz AA) (Bp (by kernel_rfl) ((hA _ _ _).1 A_124)) rfl)
   have A_14:A 6 (bm 8 18) ⟨21,AP [(4,NP),(5,Pg),(7,i64 i),(8,.ptr 6 0 0 0),(14,i64 p2),(17,.agg (Sg y))],Rz y p2 p0 x⟩:=(hA _ _ _).2 (by
    refine xa [0,2] ⟨?_,?_,oz⟩
    .refine xo 0 ?_;refine zq tb AA (AB ⟨AA,?_⟩);exact BK (Bz AA) (Bp (by kernel_rfl) ((hA _ _ _).1 A_014)) rfl
    .refine xo 2 ?_;refine zq tb AA (AB ⟨AA,?_⟩);exact BK (Bz AA) (Bp (by kernel_rfl) ((hA _ _ _).1 A_124)) rfl)
   have A_24:A 6 (bm 8 20) ⟨21,AP [(4,NP),(5,Pg),(7,i64 i),(8,.ptr 6 0 0 0),(15,i64 i),(17,.agg (Sg y))],Rz y p2 p0 x⟩:=(hA _ _ _).2 (by
    refine xa [0,1] ⟨?_,?_,oz⟩
    .refine xo 0 ?_;refine zq tb AA (AB ⟨AA,?_⟩);exact BK (Bz AA) (Bp (by kernel_rfl) ((hA _ _ _).1 A_024)) rfl
    .refine xo 1 ?_;refine zq tb AA (AB ⟨AA,?_⟩);exact BK (Bz AA) (Bp (by kernel_rfl) ((hA _ _ _).1 A_124)) rfl)
   have A_0:A 7 (bm 8 1) ⟨21,AP [(4,NP),(5,Pg),(7,i64 i),(8,.ptr 6 0 0 0),(13,.agg (T7 x))],Rz y p2 p0 x⟩:=(hA _ _ _).2 (by
    refine xa [1,2,4] ⟨?_,?_,?_,oz⟩
    .refine xo 1 ?_;refine zq tb AA (AB ⟨AA,?_⟩);exact BK (Bz AA) (Bp (by kernel_rfl) ((hA _ _ _).1 A_01)) rfl
    .refine xo 2 ?_;refine zq tb AA (AB ⟨AA,?_⟩);exact BK (Bz AA) (Bp (by kernel_rfl) ((hA _ _ _).1 A_02)) rfl
    .refine xo 4 ?_;refine zq tb AA (AB ⟨AA,?_⟩);exact BK (Bz AA) (Bp (by kernel_rfl) ((hA _ _ _).1 A_04)) rfl)
   have A_1:A 7 (bm 8 2) ⟨21,AP [(4,NP),(5,Pg),(7,i64 i),(8,.ptr 6 0 0 0),(14,i64 p2)],Rz y p2 p0 x⟩:=(hA _ _ _).2 (by
    refine xa [0,2,4] ⟨?_,?_,?_,oz⟩
    .refine xo 0 ?_;refine zq tb AA (AB ⟨AA,?_⟩);exact BK (Bz AA) (Bp (by kernel_rfl) ((hA _ _ _).1 A_01)) rfl
    .refine xo 2 ?_;refine zq tb AA (AB ⟨AA,?_⟩);exact BK (Bz AA) (Bp (by kernel_rfl) ((hA _ _ _).1 A_12)) rfl
    .refine xo 4 ?_;refine zq tb AA (AB ⟨AA,?_⟩);exact BK (Bz AA) (Bp (by kernel_rfl) ((hA _ _ _).1 A_14)) rfl)
   have A_2:A 7 (bm 8 4) ⟨21,AP [(4,NP),(5,Pg),(7,i64 i),(8,.ptr 6 0 0 0),(15,i64 i)],Rz y p2 p0 x⟩:=(hA _ _ _).2 (by
    refine xa [0,1,4] ⟨?_,?_,?_,oz⟩
    .refine xo 0 ?_;refine zq tb AA (AB ⟨AA,?_⟩);exact BK (Bz AA) (Bp (by kernel_rfl) ((hA _ _ _).1 A_02)) rfl
    .refine xo 1 ?_;refine zq tb AA (AB ⟨AA,?_⟩);exact BK (Bz AA) (Bp (by kernel_rfl) ((hA _ _ _).1 A_12)) rfl
    .refine xo 4 ?_;refine zq tb AA (AB ⟨AA,?_⟩);exact BK (Bz AA) (Bp (by kernel_rfl) ((hA _ _ _).1 A_24)) rfl)
   have A_4:A 7 (bm 8 16) ⟨21,AP [(4,NP),(5,Pg),(7,i64 i),(8,.ptr 6 0 0 0),(17,.agg (Sg y))],Rz y p2 p0 x⟩:=(hA _ _ _).2 (by
    refine xa [0,1,2] ⟨?_,?_,?_,oz⟩
    .refine xo 0 ?_;refine zq tb AA (AB ⟨AA,?_⟩);exact BK (Bz AA) (Bp (by kernel_rfl) ((hA _ _ _).1 A_04)) rfl
    .refine xo 1 ?_;refine zq tb AA (AB ⟨AA,?_⟩);exact BK (Bz AA) (Bp (by kernel_rfl) ((hA _ _ _).1 A_14)) rfl
    .refine xo 2 ?_;refine zq tb AA (AB ⟨AA,?_⟩);exact BK (Bz AA) (Bp (by kernel_rfl) ((hA _ _ _).1 A_24)) rfl)
   have A_e:A 8 (bm 8 0) ⟨21,AP [(4,NP),(5,Pg),(7,i64 i),(8,.ptr 6 0 0 0)],Rz y p2 p0 x⟩:=(hA _ _ _).2 (by
    refine xa [0,1,2,4] ⟨?_,?_,?_,?_,oz⟩
    .refine xo 0 ?_;refine zq tb AA (AB ⟨AA,?_⟩);exact BK (Bz AA) (Bp (by kernel_rfl) ((hA _ _ _).1 A_0)) rfl
    .refine xo 1 ?_;refine zq tb AA (AB ⟨AA,?_⟩);exact BK (Bz AA) (Bp (by kernel_rfl) ((hA _ _ _).1 A_1)) rfl
    .refine xo 2 ?_;refine zq tb AA (AB ⟨AA,?_⟩);exact BK (Bz AA) (Bp (by kernel_rfl) ((hA _ _ _).1 A_2)) rfl
    .refine xo 4 ?_;refine zq tb AA (AB ⟨AA,?_⟩);exact BK (Bz AA) (Bp (by kernel_rfl) ((hA _ _ _).1 A_4)) rfl)
   exact A_e
 · have hS0:S 0=[⟨1,35,3,[]⟩,⟨0,35,3,[[i64 r.op,i64 r.num,ow 5 0 r.kids]]⟩,⟨0,3,1,[[i64 p2]]⟩,⟨0,35,3,[[i64 0,i64 0,.zc]]⟩,⟨0,33,1,[[ls Ar p0]]⟩,ro 0 35 3 (Bv 35) r.kids]:=by rw[hS,hb0]
   rw[hS0];refine UF.seq λK4 hK4=>UF.iq AA AA AA (zq tb AA (Ja AN BI AA AA AA AA AA AA tK rfl (AB (hK4 _ ?_))));exact UF.ret (Exists.intro _ (And.intro (Qq (L:=[(6,Pg)]) (st':=[OD,Yi r,⟨0,35,3,[dy r]⟩]) (st1:=[OD,Yi r,⟨0,35,3,[Sg r]⟩]) [0,5,3] AA (.pure (by intro x hx;cases hx) .nil) (by decide) rfl AA (.pure (by intro x hx;cases hx) (.deep (Ao BD) (.raw AA AA .nil))) ⟨.rfl,oz⟩) (Cp (x:=.tmp 6) (off:=0) (cs:=dy r) (vs:=dy r) BI AA AA AA tK rfl _ ⟨AA,AA⟩)))
end
end Go.Proofs.YtihdgoiebmfapaaGreat.La
