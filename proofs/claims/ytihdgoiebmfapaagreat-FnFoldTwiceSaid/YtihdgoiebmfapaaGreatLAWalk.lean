/- impl.letAll,by hand: rows that own all. -/
import Derived.Test.YtihdgoiebmfapaaGreatGHADefsToFTDefs
import Derived.Test.YtihdgoiebmfapaaGreatBWK
set_option linter.all false
namespace Go.Proofs.YtihdgoiebmfapaaGreat.La
noncomputable section
open Go Go.Abs RC
attribute [local irreducible] Go.Abs.D6
set_option maxRecDepth 100000
abbrev Ry (z0:AE):=([i64 z0.op,i64 z0.num,ls Au z0.kids]:List AV)
abbrev RI (z0:AE):=([i64 z0.op,i64 z0.num,ow 5 0 z0.kids]:List AV)
abbrev NH:=(⟨1,35,3,[]⟩:Row)
abbrev YF:=(⟨0,35,3,[[i64 0,i64 0,.zc]]⟩:Row)
abbrev QR (z0:AE)(z1 z2:_)(z3:AE):=([NH,⟨0,35,3,[[i64 z0.op,i64 z0.num,ow 5 0 z0.kids]]⟩,⟨0,3,1,[[i64 z1]]⟩,YF,⟨0,33,1,[[ls Au z2]]⟩,ro 0 35 3 (BP 35) z0.kids,⟨0,35,3,[[i64 z3.op,i64 z3.num,ls Au z3.kids]]⟩]:List Row)
abbrev MO:=((.ptr 1 0 0 0):AV)
abbrev WX (z0:AE):=((ro 0 35 3 (BP 35) z0.kids):Row)
abbrev N2:=((.ptr 2 0 0 0):AV)
abbrev XN (z0:_):=(⟨0,33,1,[[ls Au z0]]⟩:Row)
abbrev Za (z0:AE):=([i64 z0.op,i64 z0.num,ow 1 0 z0.kids]:List AV)
set_option maxHeartbeats 4000000
def tb:KZ Tryz.prog where
 t:=[(3,false,1),(33,false,1),(35,true,3)]
 f:=[(35,0,0),(35,1,1),(35,2,2)]
 v:=[]
 b:=[]
 s:=[33]
 ht:=by kernel_rfl
 hf:=by kernel_rfl
 hv:=by kernel_rfl
 hb:=by kernel_rfl
 hs:=by kernel_rfl
theorem Oa:IW Tryz.prog 35=true:=by kernel_rfl
theorem Oe:Js Tryz.prog 35=some [(0,1),(1,1),(2,1)]:=by kernel_rfl
theorem BU:D2 Tryz.prog 33=some ⟨35,3,40,[.int .i64 0,.int .i64 0,.sl []]⟩:=by kernel_rfl
theorem gK:Dl Tryz.prog 44=true:=by kernel_rfl
theorem jG:Dl Tryz.prog 71=true:=by kernel_rfl
theorem HV:D7 Tryz.prog 3=some (false,1):=by kernel_rfl
theorem ZK:D7 Tryz.prog 33=some (false,1):=by kernel_rfl
theorem BE:D7 Tryz.prog 35=some (true,3):=by kernel_rfl
theorem DF:ID Tryz.prog 35=some [.int .i64 0,.int .i64 0,.zc]:=by kernel_rfl
theorem Xe {l:List AE}:Ab Tryz.prog 71 [ls Au l] [] (λv st=>v=(.fn 107 [.ptr 0 0 0 0])/\st=[XN l]):=by
 refine ai Tryz.func71 AA AA AA AA (sr AA λK1 xe=>Bf (m:=0) AI AA AA AA AA AA (zq tb AA (dn xe AA (sr AA λK2 vM=>zz (.fn 107 [.ptr 0 0 0 0]) (dh AA) rfl (zq tb AA (dn vM AA ?_))))));exact Aq ⟨_,Wk.refl _ _,AA,AA⟩
theorem R4 {N:Nat}(rl :∀{p0:AE} {p1:Int} {p2:Int} {r:AE},Gn N p0 p1 p2=some r->Ab Tryz.prog 44 [.agg (Ry p0),i64 p1,i64 p2] [] (λv st=>v=(.agg [i64 r.op,i64 r.num,ow 0 0 r.kids])/\st=[WX r]))
  {s0 p0:List AE} {oT ou p2:Int} {r:AE} (h0:KY N s0 p0 oT ou p2=some r):Ab Tryz.prog 43 [ls Au p0,.agg [i64 oT,i64 ou,ow 0 0 s0],i64 p2] [ro 0 35 3 (BP 35) s0] (λv st=>v=(.agg (Za r))/\st=[NH,WX r]):=by
 unfold KY at h0;by_cases hlen:p0.length<=1048576
 case neg=>rw[jn hlen]at h0;cases h0
 rw[jm hlen]at h0;obtain⟨bs,hbl,wV,pI⟩:=QZ _ h0;refine Ab.wk (r0:=(.agg (Za r))) (st0:=[NH,WX r,⟨0,35,3,[Za r]⟩]) ?_ (De (L:=[(0,.agg (Za r))]) (st':=[NH,WX r]) [0,1] AA (by decide) rfl AA (.pure (by intro x hx;cases hx) (.deep (Ah Al) jf)) ⟨.rfl,jf⟩);refine Ab.ef Tryz.func43 AA AA AA AA ?_;refine Qa (O8 (L:=[(0,ls Au p0),(1,.agg [i64 oT,i64 ou,ow 1 0 s0]),(2,i64 p2)]) (id:=0) (N:=1) (st':=[NH,ro 0 35 3 (BP 35) s0]) rfl AA ⟨.rfl,.rfl,.rfl,jf⟩ AA) ?_;refine Ti λK1 xe=>AH AA (Bf (m:=2) AI AA AA AA AA AA (Bf (m:=3) AI AA AA AA AA AA (Av (m:=4) AI DF AA AA (AF (xe _ ?_)))));refine PS.iY λK2 vM=>Ti λK3 vm=>AH AA (zq tb AA (CM (v':=(.fn 107 [.ptr 5 0 0 0])) AI jG Xe AA AA ⟨(λx hx c hc=>by simp at hx;subst hx;simp at hc;subst hc;rfl),jf⟩ AA AA (AF (vm _ ?_))));obtain⟨S,hS⟩ :∃S:Nat->List Row,∀i,S i=[NH,⟨0,35,3,[[i64 (bs i).op,i64 (bs i).num,ow 5 0 (bs i).kids]]⟩,⟨0,3,1,[[i64 p2]]⟩,YF,XN p0,ro 0 35 3 (BP 35) (bs i).kids]:=⟨_,λ_=>rfl⟩
 have hSl:S p0.length=[⟨1,35,3,[]⟩,⟨0,35,3,[[i64 oT,i64 ou,ow 5 0 s0]]⟩,⟨0,3,1,[[i64 p2]]⟩,⟨0,35,3,[[i64 0,i64 0,.zc]]⟩,⟨0,33,1,[[ls Au p0]]⟩,ro 0 35 3 (BP 35) s0]:=by rw[hS,hbl];rfl
 refine Qa (s':=⟨21,Aa [(4,MO),(5,N2),(6,.ptr 3 0 0 0),(10,.fn 107 [.ptr 4 0 0 0])],S p0.length⟩) ?_ ?_
 · rw[hSl];exact Bj (st1:=[NH,⟨0,35,3,[[i64 oT,i64 ou,ow 1 0 s0]]⟩,⟨0,3,1,[[i64 p2]]⟩,YF,XN p0,ro 0 35 3 (BP 35) s0]) [0,2,3,4,5,1] AA (.pure (by intro x hx;cases hx) .nil) (by decide) rfl AA (.pure (by intro x hx;cases hx) (.raw AA AA (.raw AA AA (.raw AA AA (.raw AA AA (.deep (Ah Al) .nil)))))) ⟨.rfl,.rfl,.rfl,.rfl,jf⟩
 refine PS.block (PS.range (t:=10) (gf:=107) (id:=4) (T:=33) (l:=p0) (enc:=Au) (S:=S) rfl AA (enters_of Tryz.func107 (by kernel_rfl) rfl) (λb=>UD b p0.length hlen) (λi=>by rw[hS];rfl) (λx=>by rw[Ai];rfl) (k':=5) (lr AA) (λt=>?_) (by decide) (by decide) (λi x lb hx=>?_) (vM _ ?_))
 · simp only[Aa]
   repeat' split
   all_goals first|exact jf|exact (show (1:Nat)<5 by decide)|exact (show (2:Nat)<5 by decide)|exact (show (3:Nat)<5 by decide)|exact (show (4:Nat)<5 by decide)
 · obtain⟨x',q,e1,e2,e3⟩:=pI i (jg.1 hx).1;obtain rfl:x=x':=by
     have e4:=(Sh.get_some e1).2.1;rw[lY,hx]at e4;exact lT e4
   have hSi:S i=[⟨1,35,3,[]⟩,⟨0,35,3,[[i64 13,i64 0,.own 5 0 2]]⟩,⟨0,3,1,[[i64 p2]]⟩,⟨0,35,3,[[i64 0,i64 0,.zc]]⟩,⟨0,33,1,[[ls Au p0]]⟩,⟨0,35,3,List.map (BP 35) [q,bs (i+1)]⟩]:=by rw[hS,e3];rfl
   rw[hS (i+1)];generalize bs (i+1)=y at *;refine Qi (s':=⟨21,Aa [(4,.ptr 1 0 0 0),(5,.ptr 2 0 0 0),(6,.ptr 3 0 0 0),(10,.fn 107 [.ptr 4 0 0 0]),(11,i64 i),(12,.agg [i64 x.op,i64 x.num,ls Au x.kids])],_⟩) (by rw[Ai];exact AJ AA) ?_;refine NY.seq λK4 zj=>Ph AA AA (zq tb AA (AF (zj _ ?_)));refine Ph AA AA (Av (m:=6) AI DF AA AA (Am AI BE AA AA AA AA AA AA nj rfl (AF ?_)));dsimp only[KF];refine NY.block ?_;refine Qi (AJ (L:=[(4,MO),(5,N2),(7,i64 i),(8,.ptr 6 0 0 0)]) rfl) ?_;refine NY.hZ (by kernel_rfl) rfl (J7 λA hA=>?_);have tW:A 0 (bm 8 255) ⟨21,Aa [(4,MO)],[NH,⟨0,35,3,[[i64 13,i64 0,.own 8 0 2]]⟩,⟨0,3,1,[[i64 p2]]⟩,YF,XN p0,NH,⟨0,35,3,[Ry x]⟩,NH,⟨0,35,3,List.map (BP 35) [q,y]⟩]⟩:=(hA _ _ _).2 (by
    refine As (LC (L:=[]) (st':=S i) (st1:=[NH,⟨0,35,3,[[i64 13,i64 0,.own 8 0 2]]⟩,⟨0,3,1,[[i64 p2]]⟩,YF,XN p0,⟨0,35,3,List.map (BP 35) [q,y]⟩]) [0,1,2,3,4,8] AA (by decide) rfl AA ?_ jf) (Hc AA (by kernel_rfl) ⟨AA,AA⟩) rfl;rw[hSi];exact (.pure (by intro x hx;cases hx) (.raw rfl rfl (.raw rfl rfl (.raw rfl rfl (.raw rfl rfl (.deep (Ah Al) .nil)))))))
   have uI:A 1 (bm 8 127) ⟨21,Aa [(4,MO),(19,.agg [i64 13,i64 0,.own 8 0 2])],[NH,⟨0,35,3,[RI y]⟩,⟨0,3,1,[[i64 p2]]⟩,YF,XN p0,NH,⟨0,35,3,[Ry x]⟩,NH,⟨0,35,3,List.map (BP 35) [q,y]⟩]⟩:=(hA _ _ _).2 (by
    refine CJ [7] AA (by kernel_rfl) (by decide) ⟨?_,jf⟩
    ·refine Ec.of (i:=7) rfl AA (by rfl) ?_;refine Am AI BE AA AA AA AA AA AA nj rfl (AF ⟨AA,?_⟩);exact As (AJ AA) (BG (by kernel_rfl) ((hA _ _ _).1 tW)) rfl)
   have vP:A 2 (bm 8 63) ⟨21,Aa [(4,MO),(18,.own 8 0 2)],[NH,⟨0,35,3,[RI y]⟩,⟨0,3,1,[[i64 p2]]⟩,YF,XN p0,NH,⟨0,35,3,[Ry x]⟩,NH,⟨0,35,3,List.map (BP 35) [q,y]⟩]⟩:=(hA _ _ _).2 (by
    refine CJ [6] AA (by kernel_rfl) (by decide) ⟨?_,jf⟩
    ·refine Ec.of (i:=6) rfl AA (by rfl) ?_;refine zz (.agg [i64 13,i64 0,.own 8 0 2]) (C8 Oa Oe DF AA AA) rfl (AF ⟨AA,?_⟩);exact As (AJ AA) (BG (by kernel_rfl) ((hA _ _ _).1 uI)) rfl)
   have th:A 3 (bm 8 31) ⟨21,Aa [(4,MO),(16,.agg [i64 q.op,i64 q.num,ow 7 0 q.kids]),(17,.agg (RI y))],[NH,⟨0,35,3,[RI y]⟩,⟨0,3,1,[[i64 p2]]⟩,YF,XN p0,WX y,⟨0,35,3,[Ry x]⟩,WX q]⟩:=(hA _ _ _).2 (by
    refine CJ [5] AA (by kernel_rfl) (by decide) ⟨?_,jf⟩
    ·refine Ec.of (i:=5) rfl AA (by rfl) ?_;refine BF (m:=8) (l:=[true,false]) (enc:=λc=>if c then [i64 q.op,i64 q.num,ow 7 0 q.kids] else (RI y)) AI BU (by decide) rfl AA AA AA AA AA ?_;refine AR (KJ (id:=8) (m:=7) (i:=0) (j:=2) (st':=[⟨1,35,3,[]⟩,⟨0,35,3,[[i64 y.op,i64 y.num,ow 5 0 y.kids]]⟩,⟨0,3,1,[[i64 p2]]⟩,⟨0,35,3,[[i64 0,i64 0,.zc]]⟩,⟨0,33,1,[[ls Au p0]]⟩,ro 0 35 3 (BP 35) y.kids,⟨0,35,3,[[i64 x.op,i64 x.num,ls Au x.kids]]⟩,⟨1,35,3,[]⟩,⟨0,35,3,[[i64 q.op,i64 q.num,.dv 35 3 (q.kids.map (BP 35))],[i64 y.op,i64 y.num,ow 5 0 y.kids]]⟩]) rfl AA AA AA (by simp) (by decide) (show 5<=7 by decide) (I1 Eu) rfl) ?_;refine AR (KJ (id:=8) (m:=5) (i:=1) (j:=2) (st':=[⟨1,35,3,[]⟩,⟨0,35,3,[[i64 y.op,i64 y.num,ow 5 0 y.kids]]⟩,⟨0,3,1,[[i64 p2]]⟩,⟨0,35,3,[[i64 0,i64 0,.zc]]⟩,⟨0,33,1,[[ls Au p0]]⟩,⟨1,35,3,[]⟩,⟨0,35,3,[[i64 x.op,i64 x.num,ls Au x.kids]]⟩,⟨1,35,3,[]⟩,⟨0,35,3,List.map (BP 35) [q,y]⟩]) rfl AA AA AA (by simp) (by decide) (show 5<=5 by decide) (I1 Eu) (by simp only[List.map,Cv];rfl)) (AF ⟨AA,?_⟩);exact As (AJ AA) (BG (by kernel_rfl) ((hA _ _ _).1 vP)) rfl)
   have xh:A 4 (bm 8 15) ⟨21,Aa [(4,MO),(16,.agg [i64 q.op,i64 q.num,ow 7 0 q.kids])],[NH,⟨0,35,3,[RI y]⟩,⟨0,3,1,[[i64 p2]]⟩,YF,XN p0,WX y,⟨0,35,3,[Ry x]⟩,WX q]⟩:=(hA _ _ _).2 (by
    refine CJ [4] AA (by kernel_rfl) (by decide) ⟨?_,jf⟩
    ·refine Ec.of (i:=4) rfl AA (by rfl) ?_;refine zq tb AA (AF ⟨AA,?_⟩);exact As (AJ AA) (BG (by kernel_rfl) ((hA _ _ _).1 th)) rfl)
   have sR:A 4 (bm 8 23) ⟨21,Aa [(4,MO),(5,N2),(7,i64 i),(8,.ptr 6 0 0 0),(13,.agg (Ry x)),(14,i64 p2),(15,i64 i),(17,.agg (RI y))],QR y p2 p0 x⟩:=(hA _ _ _).2 (by
    refine CJ [3] AA (by kernel_rfl) (by decide) ⟨?_,jf⟩
    ·refine Ec.of (i:=3) rfl AA (by rfl) ?_;refine CM (v':=(.agg [i64 q.op,i64 q.num,ow 7 0 q.kids])) AI gK (rl e2) rfl AA ⟨Ah Al,jf⟩ AA AA (AF ⟨AA,?_⟩);exact As (AJ AA) (BG (by kernel_rfl) ((hA _ _ _).1 th)) rfl)
   have vQ:A 5 (bm 8 7) ⟨21,Aa [(4,MO),(5,N2),(7,i64 i),(8,.ptr 6 0 0 0),(13,.agg (Ry x)),(14,i64 p2),(15,i64 i)],QR y p2 p0 x⟩:=(hA _ _ _).2 (by
    refine CJ [3,4] AA (by kernel_rfl) (by decide) ⟨?_,?_,jf⟩
    ·refine Ec.of (i:=3) rfl AA (by rfl) ?_;refine CM (v':=(.agg [i64 q.op,i64 q.num,ow 7 0 q.kids])) AI gK (rl e2) rfl AA ⟨Ah Al,jf⟩ AA AA (AF ⟨AA,?_⟩);exact As (AJ AA) (BG (by kernel_rfl) ((hA _ _ _).1 xh)) rfl
    ·refine Ec.of (i:=4) rfl AA (by rfl) ?_;refine zq tb AA (AF ⟨AA,?_⟩);exact As (AJ AA) (BG (by kernel_rfl) ((hA _ _ _).1 sR)) rfl)
   have vR:A 5 (bm 8 19) ⟨21,Aa [(4,MO),(5,N2),(7,i64 i),(8,.ptr 6 0 0 0),(13,.agg (Ry x)),(14,i64 p2),(17,.agg (RI y))],QR y p2 p0 x⟩:=(hA _ _ _).2 (by
    refine CJ [2] AA (by kernel_rfl) (by decide) ⟨?_,jf⟩
    ·refine Ec.of (i:=2) rfl AA (by rfl) ?_;refine zq tb AA (AF ⟨AA,?_⟩);exact As (AJ AA) (BG (by kernel_rfl) ((hA _ _ _).1 sR)) rfl)
   have vS:A 5 (bm 8 21) ⟨21,Aa [(4,MO),(5,N2),(7,i64 i),(8,.ptr 6 0 0 0),(13,.agg (Ry x)),(15,i64 i),(17,.agg (RI y))],QR y p2 p0 x⟩:=(hA _ _ _).2 (by
    refine CJ [1] AA (by kernel_rfl) (by decide) ⟨?_,jf⟩
    ·refine Ec.of (i:=1) rfl AA (by rfl) ?_;refine zq tb AA (AF ⟨AA,?_⟩);exact As (AJ AA) (BG (by kernel_rfl) ((hA _ _ _).1 sR)) rfl)
   have vT:A 5 (bm 8 22) ⟨21,Aa [(4,MO),(5,N2),(7,i64 i),(8,.ptr 6 0 0 0),(14,i64 p2),(15,i64 i),(17,.agg (RI y))],QR y p2 p0 x⟩:=(hA _ _ _).2 (by
    refine CJ [0] AA (by kernel_rfl) (by decide) ⟨?_,jf⟩
    ·refine Ec.of (i:=0) rfl AA (by rfl) ?_;refine zq tb AA (AF ⟨AA,?_⟩);exact As (AJ AA) (BG (by kernel_rfl) ((hA _ _ _).1 sR)) rfl)
   have wH:A 6 (bm 8 3) ⟨21,Aa [(4,MO),(5,N2),(7,i64 i),(8,.ptr 6 0 0 0),(13,.agg (Ry x)),(14,i64 p2)],QR y p2 p0 x⟩:=(hA _ _ _).2 (by
    refine CJ [2,4] AA (by kernel_rfl) (by decide) ⟨?_,?_,jf⟩
    ·refine Ec.of (i:=2) rfl AA (by rfl) ?_;refine zq tb AA (AF ⟨AA,?_⟩);exact As (AJ AA) (BG (by kernel_rfl) ((hA _ _ _).1 vQ)) rfl
    ·refine Ec.of (i:=4) rfl AA (by rfl) ?_;refine zq tb AA (AF ⟨AA,?_⟩);exact As (AJ AA) (BG (by kernel_rfl) ((hA _ _ _).1 vR)) rfl)
   have wG:A 6 (bm 8 5) ⟨21,Aa [(4,MO),(5,N2),(7,i64 i),(8,.ptr 6 0 0 0),(13,.agg (Ry x)),(15,i64 i)],QR y p2 p0 x⟩:=(hA _ _ _).2 (by
    refine CJ [1,4] AA (by kernel_rfl) (by decide) ⟨?_,?_,jf⟩
    ·refine Ec.of (i:=1) rfl AA (by rfl) ?_;refine zq tb AA (AF ⟨AA,?_⟩);exact As (AJ AA) (BG (by kernel_rfl) ((hA _ _ _).1 vQ)) rfl
    ·refine Ec.of (i:=4) rfl AA (by rfl) ?_;refine zq tb AA (AF ⟨AA,?_⟩);exact As (AJ AA) (BG (by kernel_rfl) ((hA _ _ _).1 vS)) rfl)
   have AAJ:A 6 (bm 8 17) ⟨21,Aa [(4,MO),(5,N2),(7,i64 i),(8,.ptr 6 0 0 0),(13,.agg (Ry x)),(17,.agg (RI y))],QR y p2 p0 x⟩:=(hA _ _ _).2 (by
    refine CJ [1,2] AA (by kernel_rfl) (by decide) ⟨?_,?_,jf⟩
    ·refine Ec.of (i:=1) rfl AA (by rfl) ?_;refine zq tb AA (AF ⟨AA,?_⟩);exact As (AJ AA) (BG (by kernel_rfl) ((hA _ _ _).1 vR)) rfl
    ·refine Ec.of (i:=2) rfl AA (by rfl) ?_;refine zq tb AA (AF ⟨AA,?_⟩);exact As (AJ AA) (BG (by kernel_rfl) ((hA _ _ _).1 vS)) rfl)
   have vN:A 6 (bm 8 6) ⟨21,Aa [(4,MO),(5,N2),(7,i64 i),(8,.ptr 6 0 0 0),(14,i64 p2),(15,i64 i)],QR y p2 p0 x⟩:=(hA _ _ _).2 (by
    refine CJ [0,4] AA (by kernel_rfl) (by decide) ⟨?_,?_,jf⟩
    ·refine Ec.of (i:=0) rfl AA (by rfl) ?_;refine zq tb AA (AF ⟨AA,?_⟩);exact As (AJ AA) (BG (by kernel_rfl) ((hA _ _ _).1 vQ)) rfl
    ·refine Ec.of (i:=4) rfl AA (by rfl) ?_;refine zq tb AA (AF ⟨AA,?_⟩);exact As (AJ AA) (BG (by kernel_rfl) ((hA _ _ _).1 vT)) rfl)
   have AAK:A 6 (bm 8 18) ⟨21,Aa [(4,MO),(5,N2),(7,i64 i),(8,.ptr 6 0 0 0),(14,i64 p2),(17,.agg (RI y))],QR y p2 p0 x⟩:=(hA _ _ _).2 (by
    refine CJ [0,2] AA (by kernel_rfl) (by decide) ⟨?_,?_,jf⟩
    ·refine Ec.of (i:=0) rfl AA (by rfl) ?_;refine zq tb AA (AF ⟨AA,?_⟩);exact As (AJ AA) (BG (by kernel_rfl) ((hA _ _ _).1 vR)) rfl
    ·refine Ec.of (i:=2) rfl AA (by rfl) ?_;refine zq tb AA (AF ⟨AA,?_⟩);exact As (AJ AA) (BG (by kernel_rfl) ((hA _ _ _).1 vT)) rfl)
   have AAL:A 6 (bm 8 20) ⟨21,Aa [(4,MO),(5,N2),(7,i64 i),(8,.ptr 6 0 0 0),(15,i64 i),(17,.agg (RI y))],QR y p2 p0 x⟩:=(hA _ _ _).2 (by
    refine CJ [0,1] AA (by kernel_rfl) (by decide) ⟨?_,?_,jf⟩
    ·refine Ec.of (i:=0) rfl AA (by rfl) ?_;refine zq tb AA (AF ⟨AA,?_⟩);exact As (AJ AA) (BG (by kernel_rfl) ((hA _ _ _).1 vS)) rfl
    ·refine Ec.of (i:=1) rfl AA (by rfl) ?_;refine zq tb AA (AF ⟨AA,?_⟩);exact As (AJ AA) (BG (by kernel_rfl) ((hA _ _ _).1 vT)) rfl)
   have A_0:A 7 (bm 8 1) ⟨21,Aa [(4,MO),(5,N2),(7,i64 i),(8,.ptr 6 0 0 0),(13,.agg (Ry x))],QR y p2 p0 x⟩:=(hA _ _ _).2 (by
    refine CJ [1,2,4] AA (by kernel_rfl) (by decide) ⟨?_,?_,?_,jf⟩
    ·refine Ec.of (i:=1) rfl AA (by rfl) ?_;refine zq tb AA (AF ⟨AA,?_⟩);exact As (AJ AA) (BG (by kernel_rfl) ((hA _ _ _).1 wH)) rfl
    ·refine Ec.of (i:=2) rfl AA (by rfl) ?_;refine zq tb AA (AF ⟨AA,?_⟩);exact As (AJ AA) (BG (by kernel_rfl) ((hA _ _ _).1 wG)) rfl
    ·refine Ec.of (i:=4) rfl AA (by rfl) ?_;refine zq tb AA (AF ⟨AA,?_⟩);exact As (AJ AA) (BG (by kernel_rfl) ((hA _ _ _).1 AAJ)) rfl)
   have A_1:A 7 (bm 8 2) ⟨21,Aa [(4,MO),(5,N2),(7,i64 i),(8,.ptr 6 0 0 0),(14,i64 p2)],QR y p2 p0 x⟩:=(hA _ _ _).2 (by
    refine CJ [0,2,4] AA (by kernel_rfl) (by decide) ⟨?_,?_,?_,jf⟩
    ·refine Ec.of (i:=0) rfl AA (by rfl) ?_;refine zq tb AA (AF ⟨AA,?_⟩);exact As (AJ AA) (BG (by kernel_rfl) ((hA _ _ _).1 wH)) rfl
    ·refine Ec.of (i:=2) rfl AA (by rfl) ?_;refine zq tb AA (AF ⟨AA,?_⟩);exact As (AJ AA) (BG (by kernel_rfl) ((hA _ _ _).1 vN)) rfl
    ·refine Ec.of (i:=4) rfl AA (by rfl) ?_;refine zq tb AA (AF ⟨AA,?_⟩);exact As (AJ AA) (BG (by kernel_rfl) ((hA _ _ _).1 AAK)) rfl)
   have A_2:A 7 (bm 8 4) ⟨21,Aa [(4,MO),(5,N2),(7,i64 i),(8,.ptr 6 0 0 0),(15,i64 i)],QR y p2 p0 x⟩:=(hA _ _ _).2 (by
    refine CJ [0,1,4] AA (by kernel_rfl) (by decide) ⟨?_,?_,?_,jf⟩
    ·refine Ec.of (i:=0) rfl AA (by rfl) ?_;refine zq tb AA (AF ⟨AA,?_⟩);exact As (AJ AA) (BG (by kernel_rfl) ((hA _ _ _).1 wG)) rfl
    ·refine Ec.of (i:=1) rfl AA (by rfl) ?_;refine zq tb AA (AF ⟨AA,?_⟩);exact As (AJ AA) (BG (by kernel_rfl) ((hA _ _ _).1 vN)) rfl
    ·refine Ec.of (i:=4) rfl AA (by rfl) ?_;refine zq tb AA (AF ⟨AA,?_⟩);exact As (AJ AA) (BG (by kernel_rfl) ((hA _ _ _).1 AAL)) rfl)
   have A_4:A 7 (bm 8 16) ⟨21,Aa [(4,MO),(5,N2),(7,i64 i),(8,.ptr 6 0 0 0),(17,.agg (RI y))],QR y p2 p0 x⟩:=(hA _ _ _).2 (by
    refine CJ [0,1,2] AA (by kernel_rfl) (by decide) ⟨?_,?_,?_,jf⟩
    ·refine Ec.of (i:=0) rfl AA (by rfl) ?_;refine zq tb AA (AF ⟨AA,?_⟩);exact As (AJ AA) (BG (by kernel_rfl) ((hA _ _ _).1 AAJ)) rfl
    ·refine Ec.of (i:=1) rfl AA (by rfl) ?_;refine zq tb AA (AF ⟨AA,?_⟩);exact As (AJ AA) (BG (by kernel_rfl) ((hA _ _ _).1 AAK)) rfl
    ·refine Ec.of (i:=2) rfl AA (by rfl) ?_;refine zq tb AA (AF ⟨AA,?_⟩);exact As (AJ AA) (BG (by kernel_rfl) ((hA _ _ _).1 AAL)) rfl)
   have A_e:A 8 (bm 8 0) ⟨21,Aa [(4,MO),(5,N2),(7,i64 i),(8,.ptr 6 0 0 0)],QR y p2 p0 x⟩:=(hA _ _ _).2 (by
    refine CJ [0,1,2,4] AA (by kernel_rfl) (by decide) ⟨?_,?_,?_,?_,jf⟩
    ·refine Ec.of (i:=0) rfl AA (by rfl) ?_;refine zq tb AA (AF ⟨AA,?_⟩);exact As (AJ AA) (BG (by kernel_rfl) ((hA _ _ _).1 A_0)) rfl
    ·refine Ec.of (i:=1) rfl AA (by rfl) ?_;refine zq tb AA (AF ⟨AA,?_⟩);exact As (AJ AA) (BG (by kernel_rfl) ((hA _ _ _).1 A_1)) rfl
    ·refine Ec.of (i:=2) rfl AA (by rfl) ?_;refine zq tb AA (AF ⟨AA,?_⟩);exact As (AJ AA) (BG (by kernel_rfl) ((hA _ _ _).1 A_2)) rfl
    ·refine Ec.of (i:=4) rfl AA (by rfl) ?_;refine zq tb AA (AF ⟨AA,?_⟩);exact As (AJ AA) (BG (by kernel_rfl) ((hA _ _ _).1 A_4)) rfl)
   exact A_e
 · have hS0:S 0=[⟨1,35,3,[]⟩,⟨0,35,3,[[i64 r.op,i64 r.num,ow 5 0 r.kids]]⟩,⟨0,3,1,[[i64 p2]]⟩,⟨0,35,3,[[i64 0,i64 0,.zc]]⟩,⟨0,33,1,[[ls Au p0]]⟩,ro 0 35 3 (BP 35) r.kids]:=by rw[hS,wV]
   rw[hS0];refine RW.seq λK4 zj=>RW.dq AA AA AA (zq tb AA (Am AI BE AA AA AA AA AA AA nj rfl (AF (zj _ ?_))));exact RW.ret (Exists.intro _ (And.intro (Bj (L:=[(6,N2)]) (st':=[NH,WX r,⟨0,35,3,[Za r]⟩]) (st1:=[NH,WX r,⟨0,35,3,[RI r]⟩]) [0,5,3] AA (.pure (by intro x hx;cases hx) .nil) (by decide) rfl AA (.pure (by intro x hx;cases hx) (.deep (Ah Al) (.raw AA AA .nil))) ⟨.rfl,jf⟩) (Ar (x:=.tmp 6) (off:=0) (cs:=(Za r)) (vs:=(Za r)) BE AA AA AA nj rfl _ ⟨AA,AA⟩)))
end
end Go.Proofs.YtihdgoiebmfapaaGreat.La
