/- impl.letAll,by hand: rows that own all. -/
import Derived.Test.YtihdgoiebmfapaaGreatGHADefsToNLDefs
import Derived.Test.YtihdgoiebmfapaaGreatBWK
set_option linter.all false
namespace Go.Proofs.YtihdgoiebmfapaaGreat.La
noncomputable section
open Go Go.Abs RC
attribute [local irreducible] Go.Abs.EN
set_option maxRecDepth 100000
abbrev Tp (z0:AD):=([i64 z0.op,i64 z0.num,ls Ar z0.kids]:List AV)
abbrev Se (z0:AD):=([i64 z0.op,i64 z0.num,ow 5 0 z0.kids]:List AV)
abbrev OM:=(⟨1,35,3,[]⟩:Row)
abbrev aV:=(⟨0,35,3,[[i64 0,i64 0,.zc]]⟩:Row)
abbrev Rn (z0:AD)(z1 z2:_)(z3:AD):=([OM,⟨0,35,3,[[i64 z0.op,i64 z0.num,ow 5 0 z0.kids]]⟩,⟨0,3,1,[[i64 z1]]⟩,aV,⟨0,33,1,[[ls Ar z2]]⟩,ro 0 35 3 (Bv 35) z0.kids,⟨0,35,3,[[i64 z3.op,i64 z3.num,ls Ar z3.kids]]⟩]:List Row)
abbrev Nq:=((.ptr 1 0 0 0):AV)
abbrev ZK (z0:AD):=((ro 0 35 3 (Bv 35) z0.kids):Row)
abbrev PC:=((.ptr 2 0 0 0):AV)
abbrev bA z0:=(⟨0,33,1,[[ls Ar z0]]⟩:Row)
abbrev eG (z0:AD):=([i64 z0.op,i64 z0.num,ow 1 0 z0.kids]:List AV)
set_option maxHeartbeats 4000000
def tb:LP Tryz.prog where
 t:=[(3,false,1),(33,false,1),(35,true,3)]
 f:=[(35,0,0),(35,1,1),(35,2,2)]
 v:=[]
 b:=[]
 s:=[33]
 ht:=by kernel_rfl
 hf:=by kernel_rfl
 hv:=by kernel_rfl
 hb:=by kernel_rfl
 hs:=by kernel_rfl
theorem R7:I5 Tryz.prog 35=true:=by kernel_rfl
theorem R8:Ke Tryz.prog 35=some [(0,1),(1,1),(2,1)]:=by kernel_rfl
theorem BZ:DB Tryz.prog 33=some ⟨35,3,40,[.int .i64 0,.int .i64 0,.sl []]⟩:=by kernel_rfl
theorem mK:Cp Tryz.prog 44=true:=by kernel_rfl
theorem nb:Cp Tryz.prog 71=true:=by kernel_rfl
theorem Hy:Dd Tryz.prog 3=some (false,1):=by kernel_rfl
theorem bR:Dd Tryz.prog 33=some (false,1):=by kernel_rfl
theorem BI:Dd Tryz.prog 35=some (true,3):=by kernel_rfl
theorem De:II Tryz.prog 35=some [.int .i64 0,.int .i64 0,.zc]:=by kernel_rfl
theorem aA {l:List AD}:BJ Tryz.prog 71 [ls Ar l] [] (λv st=>v=(.fn 107 [.ptr 0 0 0 0])/\st=[bA l]):=by
 refine ai Tryz.func71 AA AA AA AA (sr AA λK1 hK1=>W8 (m:=0) AN AA AA AA AA AA (zq tb AA (dn hK1 AA (sr AA λK2 hK2=>zz (.fn 107 [.ptr 0 0 0 0]) (ae AA) rfl (zq tb AA (dn hK2 AA ?_))))));exact An ⟨_,Wk.refl _ _,AA,AA⟩
theorem TN {N:Nat}(yZ :∀{p0:AD} {p1:Int} {p2:Int} {r:AD},Gv N p0 p1 p2=some r->BJ Tryz.prog 44 [.agg (Tp p0),i64 p1,i64 p2] [] (λv st=>v=(.agg [i64 r.op,i64 r.num,ow 0 0 r.kids])/\st=[ZK r]))
  {s0 p0:List AD} {tp uj p2:Int} {r:AD} (h0:LO N s0 p0 tp uj p2=some r):BJ Tryz.prog 43 [ls Ar p0,.agg [i64 tp,i64 uj,ow 0 0 s0],i64 p2] [ro 0 35 3 (Bv 35) s0] (λv st=>v=(.agg (eG r))/\st=[OM,ZK r]):=by
 unfold LO at h0;by_cases hlen:p0.length<=1048576
 case neg=>rw[pK hlen]at h0;cases h0
 rw[pJ hlen]at h0;obtain⟨bs,hbl,hb0,uW⟩:=SJ _ h0;refine BJ.wk (r0:=.agg (eG r)) (st0:=[OM,ZK r,⟨0,35,3,[eG r]⟩]) ?_ (D2 (L:=[(0,.agg (eG r))]) (st':=[OM,ZK r]) [0,1] AA (by decide) rfl AA (.pure (by intro x hx;cases hx) (.deep (Aq BD) pA)) ⟨.rfl,pA⟩);refine BJ.ko Tryz.func43 AA AA AA AA ?_;refine R5 (Vk (L:=[(0,ls Ar p0),(1,.agg [i64 tp,i64 uj,ow 1 0 s0]),(2,i64 p2)]) (id:=0) (N:=1) (st':=[OM,ro 0 35 3 (Bv 35) s0]) rfl AA ⟨.rfl,.rfl,.rfl,pA⟩ AA) ?_;refine Vg λK1 hK1=>AF AA (W8 (m:=2) AN AA AA AA AA AA (W8 (m:=3) AN AA AA AA AA AA (Oa (m:=4) AN De AA AA (AB (hK1 _ ?_)))));refine Qo.oJ λK2 hK2=>Vg λK3 hK3=>AF AA (zq tb AA (Bo (v':=.fn 107 [.ptr 5 0 0 0]) AN nb aA AA AA ⟨(λx hx c hc=>by simp at hx;subst hx;simp at hc;subst hc;rfl),pA⟩ AA AA (AB (hK3 _ ?_))));obtain⟨S,hS⟩ :∃S:Nat->List Row,∀i,S i=[OM,⟨0,35,3,[[i64 (bs i).op,i64 (bs i).num,ow 5 0 (bs i).kids]]⟩,⟨0,3,1,[[i64 p2]]⟩,aV,bA p0,ro 0 35 3 (Bv 35) (bs i).kids]:=⟨_,λ_=>rfl⟩
 have hSl:S p0.length=[⟨1,35,3,[]⟩,⟨0,35,3,[[i64 tp,i64 uj,ow 5 0 s0]]⟩,⟨0,3,1,[[i64 p2]]⟩,⟨0,35,3,[[i64 0,i64 0,.zc]]⟩,⟨0,33,1,[[ls Ar p0]]⟩,ro 0 35 3 (Bv 35) s0]:=by rw[hS,hbl];rfl
 refine R5 (s':=⟨21,AP [(4,Nq),(5,PC),(6,.ptr 3 0 0 0),(10,.fn 107 [.ptr 4 0 0 0])],S p0.length⟩) ?_ ?_
 · rw[hSl];exact Qy (st1:=[OM,⟨0,35,3,[[i64 tp,i64 uj,ow 1 0 s0]]⟩,⟨0,3,1,[[i64 p2]]⟩,aV,bA p0,ro 0 35 3 (Bv 35) s0]) [0,2,3,4,5,1] AA (.pure (by intro x hx;cases hx) .nil) (by decide) rfl AA (.pure (by intro x hx;cases hx) (.raw AA AA (.raw AA AA (.raw AA AA (.raw AA AA (.deep (Aq BD) .nil)))))) ⟨.rfl,.rfl,.rfl,.rfl,pA⟩
 refine Qo.block (Qo.range (t:=10) (gf:=107) (id:=4) (T:=33) (l:=p0) (enc:=Ar) (S:=S) rfl AA (enters_of Tryz.func107 (by kernel_rfl) rfl) (λb=>WG b p0.length hlen) (λi=>by rw[hS];rfl) (λx=>by rw[Af];rfl) (k':=5) (qX AA) (λt=>?_) (by decide) (by decide) (λi x lb hx=>?_) (hK2 _ ?_))
 · simp only[AP]
   repeat' split
   all_goals first|exact pA|exact (show (1:Nat)<5 by decide)|exact (show (2:Nat)<5 by decide)|exact (show (3:Nat)<5 by decide)|exact (show (4:Nat)<5 by decide)
 · obtain⟨x',q,e1,e2,e3⟩:=uW i (pB.1 hx).1;obtain rfl:x=x':=by
     have e4:=(Sh.get_some e1).2.1;rw[qQ,hx]at e4;exact qg e4
   have hSi:S i=[⟨1,35,3,[]⟩,⟨0,35,3,[[i64 13,i64 0,.own 5 0 2]]⟩,⟨0,3,1,[[i64 p2]]⟩,⟨0,35,3,[[i64 0,i64 0,.zc]]⟩,⟨0,33,1,[[ls Ar p0]]⟩,⟨0,35,3,List.map (Bv 35) [q,bs (i+1)]⟩]:=by rw[hS,e3];rfl
   rw[hS (i+1)];generalize bs (i+1)=y at *;refine SA (s':=⟨21,AP [(4,.ptr 1 0 0 0),(5,.ptr 2 0 0 0),(6,.ptr 3 0 0 0),(10,.fn 107 [.ptr 4 0 0 0]),(11,i64 i),(12,.agg [i64 x.op,i64 x.num,ls Ar x.kids])],_⟩) (by rw[Af];exact CF AA) ?_;refine O2.seq λK4 hK4=>Qh AA AA (zq tb AA (AB (hK4 _ ?_)));refine Qh AA AA (Oa (m:=6) AN De AA AA (L6 AN BI AA AA AA AA AA AA tL rfl (AB ?_)));dsimp only[LX];refine O2.block ?_;refine SA (CF (L:=[(4,Nq),(5,PC),(7,i64 i),(8,.ptr 6 0 0 0)]) rfl) ?_;refine O2.my (by kernel_rfl) rfl (Kv λA hA=>?_);have zw:A 0 (bm 8 255) ⟨21,AP [(4,Nq)],[OM,⟨0,35,3,[[i64 13,i64 0,.own 8 0 2]]⟩,⟨0,3,1,[[i64 p2]]⟩,aV,bA p0,OM,⟨0,35,3,[Tp x]⟩,OM,⟨0,35,3,List.map (Bv 35) [q,y]⟩]⟩:=(hA _ _ _).2 (by
    refine BK (OA (L:=[]) (st':=S i) (st1:=[OM,⟨0,35,3,[[i64 13,i64 0,.own 8 0 2]]⟩,⟨0,3,1,[[i64 p2]]⟩,aV,bA p0,⟨0,35,3,List.map (Bv 35) [q,y]⟩]) [0,1,2,3,4,8] AA (by decide) rfl AA ?_ pA) (Gr AA (by kernel_rfl) ⟨AA,AA⟩) rfl;rw[hSi];exact (.pure (by intro x hx;cases hx) (.raw rfl rfl (.raw rfl rfl (.raw rfl rfl (.raw rfl rfl (.deep (Aq BD) .nil)))))))
   have A_0123456:A 1 (bm 8 127) ⟨21,AP [(4,Nq),(19,.agg [i64 13,i64 0,.own 8 0 2])],[OM,⟨0,35,3,[Se y]⟩,⟨0,3,1,[[i64 p2]]⟩,aV,bA p0,OM,⟨0,35,3,[Tp x]⟩,OM,⟨0,35,3,List.map (Bv 35) [q,y]⟩]⟩:=(hA _ _ _).2 (by
    refine xa [7] ⟨?_,pA⟩
    .refine xo 7 ?_;refine L6 AN BI AA AA AA AA AA AA tL rfl (AB ⟨AA,?_⟩);exact BK (CF AA) (Bp (by kernel_rfl) ((hA _ _ _).1 zw)) rfl)
   have A_012345:A 2 (bm 8 63) ⟨21,AP [(4,Nq),(18,.own 8 0 2)],[OM,⟨0,35,3,[Se y]⟩,⟨0,3,1,[[i64 p2]]⟩,aV,bA p0,OM,⟨0,35,3,[Tp x]⟩,OM,⟨0,35,3,List.map (Bv 35) [q,y]⟩]⟩:=(hA _ _ _).2 (by
    refine xa [6] ⟨?_,pA⟩
    .refine xo 6 ?_;refine zz (.agg [i64 13,i64 0,.own 8 0 2]) (DM R7 R8 De AA AA) rfl (AB ⟨AA,?_⟩);exact BK (CF AA) (Bp (by kernel_rfl) ((hA _ _ _).1 A_0123456)) rfl)
   have A_01234:A 3 (bm 8 31) ⟨21,AP [(4,Nq),(16,.agg [i64 q.op,i64 q.num,ow 7 0 q.kids]),(17,.agg (Se y))],[OM,⟨0,35,3,[Se y]⟩,⟨0,3,1,[[i64 p2]]⟩,aV,bA p0,ZK y,⟨0,35,3,[Tp x]⟩,ZK q]⟩:=(hA _ _ _).2 (by
    refine xa [5] ⟨?_,pA⟩
    .refine xo 5 ?_;refine Sy (m:=8) (l:=[true,false]) (enc:=λc=>if c then [i64 q.op,i64 q.num,ow 7 0 q.kids] else (Se y)) AN BZ (by decide) rfl AA AA AA AA AA ?_;refine Au (LW (id:=8) (m:=7) (i:=0) (j:=2) (st':=[⟨1,35,3,[]⟩,⟨0,35,3,[[i64 y.op,i64 y.num,ow 5 0 y.kids]]⟩,⟨0,3,1,[[i64 p2]]⟩,⟨0,35,3,[[i64 0,i64 0,.zc]]⟩,⟨0,33,1,[[ls Ar p0]]⟩,ro 0 35 3 (Bv 35) y.kids,⟨0,35,3,[[i64 x.op,i64 x.num,ls Ar x.kids]]⟩,⟨1,35,3,[]⟩,⟨0,35,3,[[i64 q.op,i64 q.num,.dv 35 3 (q.kids.map (Bv 35))],[i64 y.op,i64 y.num,ow 5 0 y.kids]]⟩]) rfl AA AA AA (by simp) (by decide) (show 5<=7 by decide) (Jx HY) rfl) ?_;refine Au (LW (id:=8) (m:=5) (i:=1) (j:=2) (st':=[⟨1,35,3,[]⟩,⟨0,35,3,[[i64 y.op,i64 y.num,ow 5 0 y.kids]]⟩,⟨0,3,1,[[i64 p2]]⟩,⟨0,35,3,[[i64 0,i64 0,.zc]]⟩,⟨0,33,1,[[ls Ar p0]]⟩,⟨1,35,3,[]⟩,⟨0,35,3,[[i64 x.op,i64 x.num,ls Ar x.kids]]⟩,⟨1,35,3,[]⟩,⟨0,35,3,List.map (Bv 35) [q,y]⟩]) rfl AA AA AA (by simp) (by decide) (show 5<=5 by decide) (Jx HY) (by simp only[List.map,Iq];rfl)) (AB ⟨AA,?_⟩);exact BK (CF AA) (Bp (by kernel_rfl) ((hA _ _ _).1 A_012345)) rfl)
   have A_0123:A 4 (bm 8 15) ⟨21,AP [(4,Nq),(16,.agg [i64 q.op,i64 q.num,ow 7 0 q.kids])],[OM,⟨0,35,3,[Se y]⟩,⟨0,3,1,[[i64 p2]]⟩,aV,bA p0,ZK y,⟨0,35,3,[Tp x]⟩,ZK q]⟩:=(hA _ _ _).2 (by
    refine xa [4] ⟨?_,pA⟩
    .refine xo 4 ?_;refine zq tb AA (AB ⟨AA,?_⟩);exact BK (CF AA) (Bp (by kernel_rfl) ((hA _ _ _).1 A_01234)) rfl)
   have yV:A 4 (bm 8 23) ⟨21,AP [(4,Nq),(5,PC),(7,i64 i),(8,.ptr 6 0 0 0),(13,.agg (Tp x)),(14,i64 p2),(15,i64 i),(17,.agg (Se y))],Rn y p2 p0 x⟩:=(hA _ _ _).2 (by
    refine xa [3] ⟨?_,pA⟩
    .refine xo 3 ?_;refine Bo (v':=.agg [i64 q.op,i64 q.num,ow 7 0 q.kids]) AN mK (yZ e2) rfl AA ⟨Aq BD,pA⟩ AA AA (AB ⟨AA,?_⟩);exact BK (CF AA) (Bp (by kernel_rfl) ((hA _ _ _).1 A_01234)) rfl)
   have A_012:A 5 (bm 8 7) ⟨21,AP [(4,Nq),(5,PC),(7,i64 i),(8,.ptr 6 0 0 0),(13,.agg (Tp x)),(14,i64 p2),(15,i64 i)],Rn y p2 p0 x⟩:=(hA _ _ _).2 (by
    refine xa [3,4] ⟨?_,?_,pA⟩
    .refine xo 3 ?_;refine Bo (v':=.agg [i64 q.op,i64 q.num,ow 7 0 q.kids]) AN mK (yZ e2) rfl AA ⟨Aq BD,pA⟩ AA AA (AB ⟨AA,?_⟩);exact BK (CF AA) (Bp (by kernel_rfl) ((hA _ _ _).1 A_0123)) rfl
    .refine xo 4 ?_;refine zq tb AA (AB ⟨AA,?_⟩);exact BK (CF AA) (Bp (by kernel_rfl) ((hA _ _ _).1 yV)) rfl)
   have A_014:A 5 (bm 8 19) ⟨21,AP [(4,Nq),(5,PC),(7,i64 i),(8,.ptr 6 0 0 0),(13,.agg (Tp x)),(14,i64 p2),(17,.agg (Se y))],Rn y p2 p0 x⟩:=(hA _ _ _).2 (by
    refine xa [2] ⟨?_,pA⟩
    .refine xo 2 ?_;refine zq tb AA (AB ⟨AA,?_⟩);exact BK (CF AA) (Bp (by kernel_rfl) ((hA _ _ _).1 yV)) rfl)
   have A_024:A 5 (bm 8 21) ⟨21,AP [(4,Nq),(5,PC),(7,i64 i),(8,.ptr 6 0 0 0),(13,.agg (Tp x)),(15,i64 i),(17,.agg (Se y))],Rn y p2 p0 x⟩:=(hA _ _ _).2 (by
    refine xa [1] ⟨?_,pA⟩
    .refine xo 1 ?_;refine zq tb AA (AB ⟨AA,?_⟩);exact BK (CF AA) (Bp (by kernel_rfl) ((hA _ _ _).1 yV)) rfl)
   have A_124:A 5 (bm 8 22) ⟨21,AP [(4,Nq),(5,PC),(7,i64 i),(8,.ptr 6 0 0 0),(14,i64 p2),(15,i64 i),(17,.agg (Se y))],Rn y p2 p0 x⟩:=(hA _ _ _).2 (by
    refine xa [0] ⟨?_,pA⟩
    .refine xo 0 ?_;refine zq tb AA (AB ⟨AA,?_⟩);exact BK (CF AA) (Bp (by kernel_rfl) ((hA _ _ _).1 yV)) rfl)
   have A_01:A 6 (bm 8 3) ⟨21,AP [(4,Nq),(5,PC),(7,i64 i),(8,.ptr 6 0 0 0),(13,.agg (Tp x)),(14,i64 p2)],Rn y p2 p0 x⟩:=(hA _ _ _).2 (by
    refine xa [2,4] ⟨?_,?_,pA⟩
    .refine xo 2 ?_;refine zq tb AA (AB ⟨AA,?_⟩);exact BK (CF AA) (Bp (by kernel_rfl) ((hA _ _ _).1 A_012)) rfl
    .refine xo 4 ?_;refine zq tb AA (AB ⟨AA,?_⟩);exact BK (CF AA) (Bp (by kernel_rfl) ((hA _ _ _).1 A_014)) rfl)
   have A_02:A 6 (bm 8 5) ⟨21,AP [(4,Nq),(5,PC),(7,i64 i),(8,.ptr 6 0 0 0),(13,.agg (Tp x)),(15,i64 i)],Rn y p2 p0 x⟩:=(hA _ _ _).2 (by
    refine xa [1,4] ⟨?_,?_,pA⟩
    .refine xo 1 ?_;refine zq tb AA (AB ⟨AA,?_⟩);exact BK (CF AA) (Bp (by kernel_rfl) ((hA _ _ _).1 A_012)) rfl
    .refine xo 4 ?_;refine zq tb AA (AB ⟨AA,?_⟩);exact BK (CF AA) (Bp (by kernel_rfl) ((hA _ _ _).1 A_024)) rfl)
   have A_04:A 6 (bm 8 17) ⟨21,AP [(4,Nq),(5,PC),(7,i64 i),(8,.ptr 6 0 0 0),(13,.agg (Tp x)),(17,.agg (Se y))],Rn y p2 p0 x⟩:=(hA _ _ _).2 (by
    refine xa [1,2] ⟨?_,?_,pA⟩
    .refine xo 1 ?_;refine zq tb AA (AB ⟨AA,?_⟩);exact BK (CF AA) (Bp (by kernel_rfl) ((hA _ _ _).1 A_014)) rfl
    .refine xo 2 ?_;refine zq tb AA (AB ⟨AA,?_⟩);exact BK (CF AA) (Bp (by kernel_rfl) ((hA _ _ _).1 A_024)) rfl)
   have A_12:A 6 (bm 8 6) ⟨21,AP [(4,Nq),(5,PC),(7,i64 i),(8,.ptr 6 0 0 0),(14,i64 p2),(15,i64 i)],Rn y p2 p0 x⟩:=(hA _ _ _).2 (by
    refine xa [0,4] ⟨?_,?_,pA⟩
    .refine xo 0 ?_;refine zq tb AA (AB ⟨AA,?_⟩);exact BK (CF AA) (Bp (by kernel_rfl) ((hA _ _ _).1 A_012)) rfl
    .refine xo 4 ?_;refine zq tb AA (AB ⟨AA,?_⟩);exact BK (CF AA) (Bp (by kernel_rfl) ((hA _ _ _).1 A_124)) rfl)
   have A_14:A 6 (bm 8 18) ⟨21,AP [(4,Nq),(5,PC),(7,i64 i),(8,.ptr 6 0 0 0),(14,i64 p2),(17,.agg (Se y))],Rn y p2 p0 x⟩:=(hA _ _ _).2 (by
    refine xa [0,2] ⟨?_,?_,pA⟩
    .refine xo 0 ?_;refine zq tb AA (AB ⟨AA,?_⟩);exact BK (CF AA) (Bp (by kernel_rfl) ((hA _ _ _).1 A_014)) rfl
    .refine xo 2 ?_;refine zq tb AA (AB ⟨AA,?_⟩);exact BK (CF AA) (Bp (by kernel_rfl) ((hA _ _ _).1 A_124)) rfl)
   have A_24:A 6 (bm 8 20) ⟨21,AP [(4,Nq),(5,PC),(7,i64 i),(8,.ptr 6 0 0 0),(15,i64 i),(17,.agg (Se y))],Rn y p2 p0 x⟩:=(hA _ _ _).2 (by
    refine xa [0,1] ⟨?_,?_,pA⟩
    .refine xo 0 ?_;refine zq tb AA (AB ⟨AA,?_⟩);exact BK (CF AA) (Bp (by kernel_rfl) ((hA _ _ _).1 A_024)) rfl
    .refine xo 1 ?_;refine zq tb AA (AB ⟨AA,?_⟩);exact BK (CF AA) (Bp (by kernel_rfl) ((hA _ _ _).1 A_124)) rfl)
   have A_0:A 7 (bm 8 1) ⟨21,AP [(4,Nq),(5,PC),(7,i64 i),(8,.ptr 6 0 0 0),(13,.agg (Tp x))],Rn y p2 p0 x⟩:=(hA _ _ _).2 (by
    refine xa [1,2,4] ⟨?_,?_,?_,pA⟩
    .refine xo 1 ?_;refine zq tb AA (AB ⟨AA,?_⟩);exact BK (CF AA) (Bp (by kernel_rfl) ((hA _ _ _).1 A_01)) rfl
    .refine xo 2 ?_;refine zq tb AA (AB ⟨AA,?_⟩);exact BK (CF AA) (Bp (by kernel_rfl) ((hA _ _ _).1 A_02)) rfl
    .refine xo 4 ?_;refine zq tb AA (AB ⟨AA,?_⟩);exact BK (CF AA) (Bp (by kernel_rfl) ((hA _ _ _).1 A_04)) rfl)
   have A_1:A 7 (bm 8 2) ⟨21,AP [(4,Nq),(5,PC),(7,i64 i),(8,.ptr 6 0 0 0),(14,i64 p2)],Rn y p2 p0 x⟩:=(hA _ _ _).2 (by
    refine xa [0,2,4] ⟨?_,?_,?_,pA⟩
    .refine xo 0 ?_;refine zq tb AA (AB ⟨AA,?_⟩);exact BK (CF AA) (Bp (by kernel_rfl) ((hA _ _ _).1 A_01)) rfl
    .refine xo 2 ?_;refine zq tb AA (AB ⟨AA,?_⟩);exact BK (CF AA) (Bp (by kernel_rfl) ((hA _ _ _).1 A_12)) rfl
    .refine xo 4 ?_;refine zq tb AA (AB ⟨AA,?_⟩);exact BK (CF AA) (Bp (by kernel_rfl) ((hA _ _ _).1 A_14)) rfl)
   have A_2:A 7 (bm 8 4) ⟨21,AP [(4,Nq),(5,PC),(7,i64 i),(8,.ptr 6 0 0 0),(15,i64 i)],Rn y p2 p0 x⟩:=(hA _ _ _).2 (by
    refine xa [0,1,4] ⟨?_,?_,?_,pA⟩
    .refine xo 0 ?_;refine zq tb AA (AB ⟨AA,?_⟩);exact BK (CF AA) (Bp (by kernel_rfl) ((hA _ _ _).1 A_02)) rfl
    .refine xo 1 ?_;refine zq tb AA (AB ⟨AA,?_⟩);exact BK (CF AA) (Bp (by kernel_rfl) ((hA _ _ _).1 A_12)) rfl
    .refine xo 4 ?_;refine zq tb AA (AB ⟨AA,?_⟩);exact BK (CF AA) (Bp (by kernel_rfl) ((hA _ _ _).1 A_24)) rfl)
   have A_4:A 7 (bm 8 16) ⟨21,AP [(4,Nq),(5,PC),(7,i64 i),(8,.ptr 6 0 0 0),(17,.agg (Se y))],Rn y p2 p0 x⟩:=(hA _ _ _).2 (by
    refine xa [0,1,2] ⟨?_,?_,?_,pA⟩
    .refine xo 0 ?_;refine zq tb AA (AB ⟨AA,?_⟩);exact BK (CF AA) (Bp (by kernel_rfl) ((hA _ _ _).1 A_04)) rfl
    .refine xo 1 ?_;refine zq tb AA (AB ⟨AA,?_⟩);exact BK (CF AA) (Bp (by kernel_rfl) ((hA _ _ _).1 A_14)) rfl
    .refine xo 2 ?_;refine zq tb AA (AB ⟨AA,?_⟩);exact BK (CF AA) (Bp (by kernel_rfl) ((hA _ _ _).1 A_24)) rfl)
   have A_e:A 8 (bm 8 0) ⟨21,AP [(4,Nq),(5,PC),(7,i64 i),(8,.ptr 6 0 0 0)],Rn y p2 p0 x⟩:=(hA _ _ _).2 (by
    refine xa [0,1,2,4] ⟨?_,?_,?_,?_,pA⟩
    .refine xo 0 ?_;refine zq tb AA (AB ⟨AA,?_⟩);exact BK (CF AA) (Bp (by kernel_rfl) ((hA _ _ _).1 A_0)) rfl
    .refine xo 1 ?_;refine zq tb AA (AB ⟨AA,?_⟩);exact BK (CF AA) (Bp (by kernel_rfl) ((hA _ _ _).1 A_1)) rfl
    .refine xo 2 ?_;refine zq tb AA (AB ⟨AA,?_⟩);exact BK (CF AA) (Bp (by kernel_rfl) ((hA _ _ _).1 A_2)) rfl
    .refine xo 4 ?_;refine zq tb AA (AB ⟨AA,?_⟩);exact BK (CF AA) (Bp (by kernel_rfl) ((hA _ _ _).1 A_4)) rfl)
   exact A_e
 · have hS0:S 0=[⟨1,35,3,[]⟩,⟨0,35,3,[[i64 r.op,i64 r.num,ow 5 0 r.kids]]⟩,⟨0,3,1,[[i64 p2]]⟩,⟨0,35,3,[[i64 0,i64 0,.zc]]⟩,⟨0,33,1,[[ls Ar p0]]⟩,ro 0 35 3 (Bv 35) r.kids]:=by rw[hS,hb0]
   rw[hS0];refine TP.seq λK4 hK4=>TP.jr AA AA AA (zq tb AA (L6 AN BI AA AA AA AA AA AA tL rfl (AB (hK4 _ ?_))));exact TP.ret (Exists.intro _ (And.intro (Qy (L:=[(6,PC)]) (st':=[OM,ZK r,⟨0,35,3,[eG r]⟩]) (st1:=[OM,ZK r,⟨0,35,3,[Se r]⟩]) [0,5,3] AA (.pure (by intro x hx;cases hx) .nil) (by decide) rfl AA (.pure (by intro x hx;cases hx) (.deep (Aq BD) (.raw AA AA .nil))) ⟨.rfl,pA⟩) (Cq (x:=.tmp 6) (off:=0) (cs:=eG r) (vs:=eG r) BI AA AA AA tL rfl _ ⟨AA,AA⟩)))
end
end Go.Proofs.YtihdgoiebmfapaaGreat.La
