/- impl.letAll,by hand: rows that own all. -/
import Derived.Test.YtihdgoiebmfapaaGreatProg
import Derived.Test.YtihdgoiebmfapaaGreatGHADefsToFTDefs
import Derived.Test.YtihdgoiebmfapaaGreatAbsQ
import Derived.Test.YtihdgoiebmfapaaGreatAbsRI
import Derived.Test.YtihdgoiebmfapaaGreatBWK
import Derived.Test.YtihdgoiebmfapaaGreatSufF
import Derived.Test.YtihdgoiebmfapaaGreatGAbsXToAbsZN
namespace Go.Proofs.YtihdgoiebmfapaaGreat.La
open Go Go.Abs RC
attribute [local irreducible] Go.Abs.D6
set_option maxRecDepth 100000
noncomputable abbrev SS (z0:AE):=([i64 z0.op,i64 z0.num,ls Au z0.kids]:List AV)
noncomputable abbrev Q8 (z0:AE):=([i64 z0.op,i64 z0.num,ow 5 0 z0.kids]:List AV)
noncomputable abbrev NM:=(⟨1,35,3,[]⟩:Row)
noncomputable abbrev YE:=(⟨0,35,3,[[i64 0,i64 0,.zc]]⟩:Row)
noncomputable abbrev QM (z0:AE)(z1 z2:_)(z3:AE):=([NM,⟨0,35,3,[[i64 z0.op,i64 z0.num,ow 5 0 z0.kids]]⟩,⟨0,3,1,[[i64 z1]]⟩,YE,⟨0,33,1,[[ls Au z2]]⟩,ro 0 35 3 (BP 35) z0.kids,⟨0,35,3,[[i64 z3.op,i64 z3.num,ls Au z3.kids]]⟩]:List Row)
noncomputable abbrev L8:=((.ptr 1 0 0 0):AV)
noncomputable abbrev V6 (z0:AE):=((ro 0 35 3 (BP 35) z0.kids):Row)
noncomputable abbrev OU:=((.ptr 2 0 0 0):AV)
noncomputable abbrev X8 (z0:_):=(⟨0,33,1,[[ls Au z0]]⟩:Row)
noncomputable abbrev Z6 (z0:AE):=([i64 z0.op,i64 z0.num,ow 1 0 z0.kids]:List AV)
set_option maxHeartbeats 4000000
def tb:Ka Tryz.prog where
 t:=[(3,false,1),(33,false,1),(35,true,3)]
 f:=[(35,0,0),(35,1,1),(35,2,2)]
 v:=[]
 b:=[]
 s:=[33]
 ht:=by kernel_rfl
 hf:=by kernel_rfl
 hv:=by kernel_rfl
 hb:=by kernel_rfl
 hs:=by kernel_rfl
theorem Oc:IW Tryz.prog 35=true:=by kernel_rfl
theorem Oe:Js Tryz.prog 35=some [(0,1),(1,1),(2,1)]:=by kernel_rfl
theorem BU:D4 Tryz.prog 33=some ⟨35,3,40,[.int .i64 0,.int .i64 0,.sl []]⟩:=by kernel_rfl
theorem gH:Dl Tryz.prog 44=true:=by kernel_rfl
theorem iw:Dl Tryz.prog 71=true:=by kernel_rfl
theorem HU:D7 Tryz.prog 3=some (false,1):=by kernel_rfl
theorem YL:D7 Tryz.prog 33=some (false,1):=by kernel_rfl
theorem BE:D7 Tryz.prog 35=some (true,3):=by kernel_rfl
theorem DH:IC Tryz.prog 35=some [.int .i64 0,.int .i64 0,.zc]:=by kernel_rfl
theorem X5 {l:List AE}:Ab Tryz.prog 71 [ls Au l] [] (λv st=>v=(.fn 107 [.ptr 0 0 0 0])/\st=[X8 l]):=by
 refine ai Tryz.func71 AA AA AA AA (sr AA λK1 hK1=>Bf (m:=0) AI AA AA AA AA AA (zq tb AA (dn hK1 AA (sr AA λK2 hK2=>zz (.fn 107 [.ptr 0 0 0 0]) (eJ AA) rfl (zq tb AA (dn hK2 AA ?_))))));exact Aq ⟨_,Wk.refl _ _,AA,AA⟩
theorem Rt {N:Nat}(hsh :∀{p0:AE} {p1:Int} {p2:Int} {r:AE},Gp N p0 p1 p2=some r->Ab Tryz.prog 44 [.agg (SS p0),i64 p1,i64 p2] [] (λv st=>v=(.agg [i64 r.op,i64 r.num,ow 0 0 r.kids])/\st=[V6 r]))
  {s0 p0:List AE} {p1_0 p1_1 p2:Int} {r:AE} (h0:KQ N s0 p0 p1_0 p1_1 p2=some r):Ab Tryz.prog 43 [ls Au p0,.agg [i64 p1_0,i64 p1_1,ow 0 0 s0],i64 p2] [ro 0 35 3 (BP 35) s0] (λv st=>v=(.agg (Z6 r))/\st=[NM,V6 r]):=by
 unfold KQ at h0;by_cases hlen:p0.length<=1048576
 case neg=>rw[jn hlen]at h0;cases h0
 rw[jm hlen]at h0;obtain⟨bs,hbl,hb0,hst⟩:=Qg _ h0;refine Ab.wk (r0:=(.agg (Z6 r))) (st0:=[NM,V6 r,⟨0,35,3,[Z6 r]⟩]) ?_ (Dc (L:=[(0,.agg (Z6 r))]) (st':=[NM,V6 r]) [0,1] AA (by decide) rfl AA (.pure (by intro x hx;cases hx) (.deep (Ah Al) jf)) ⟨.rfl,jf⟩);refine Ab.fX Tryz.func43 AA AA AA AA ?_;refine Qh (Ow (L:=[(0,ls Au p0),(1,.agg [i64 p1_0,i64 p1_1,ow 1 0 s0]),(2,i64 p2)]) (id:=0) (N:=1) (st':=[NM,ro 0 35 3 (BP 35) s0]) rfl AA ⟨.rfl,.rfl,.rfl,jf⟩ AA) ?_;refine Tj λK1 hK1=>AH AA (Bf (m:=2) AI AA AA AA AA AA (Bf (m:=3) AI AA AA AA AA AA (Av (m:=4) AI DH AA AA (AF (hK1 _ ?_)))));refine Pg.jB λK2 hK2=>Tj λK3 hK3=>AH AA (zq tb AA (CL (v':=(.fn 107 [.ptr 5 0 0 0])) AI iw X5 AA AA ⟨(λx hx c hc=>by simp at hx;subst hx;simp at hc;subst hc;rfl),jf⟩ AA AA (AF (hK3 _ ?_))));obtain⟨S,hS⟩ :∃S:Nat->List Row,∀i,S i=[NM,⟨0,35,3,[[i64 (bs i).op,i64 (bs i).num,ow 5 0 (bs i).kids]]⟩,⟨0,3,1,[[i64 p2]]⟩,YE,X8 p0,ro 0 35 3 (BP 35) (bs i).kids]:=⟨_,λ_=>rfl⟩
 have hSl:S p0.length=[⟨1,35,3,[]⟩,⟨0,35,3,[[i64 p1_0,i64 p1_1,ow 5 0 s0]]⟩,⟨0,3,1,[[i64 p2]]⟩,⟨0,35,3,[[i64 0,i64 0,.zc]]⟩,⟨0,33,1,[[ls Au p0]]⟩,ro 0 35 3 (BP 35) s0]:=by rw[hS,hbl];rfl
 refine Qh (s':=⟨21,Aa [(4,L8),(5,OU),(6,.ptr 3 0 0 0),(10,.fn 107 [.ptr 4 0 0 0])],S p0.length⟩) ?_ ?_
 · rw[hSl];exact Bj (st1:=[NM,⟨0,35,3,[[i64 p1_0,i64 p1_1,ow 1 0 s0]]⟩,⟨0,3,1,[[i64 p2]]⟩,YE,X8 p0,ro 0 35 3 (BP 35) s0]) [0,2,3,4,5,1] AA (.pure (by intro x hx;cases hx) .nil) (by decide) rfl AA (.pure (by intro x hx;cases hx) (.raw AA AA (.raw AA AA (.raw AA AA (.raw AA AA (.deep (Ah Al) .nil)))))) ⟨.rfl,.rfl,.rfl,.rfl,jf⟩
 refine Pg.block (Pg.range (t:=10) (gf:=107) (id:=4) (T:=33) (l:=p0) (enc:=Au) (S:=S) rfl AA (enters_of Tryz.func107 (by kernel_rfl) rfl) (λb=>Ts b p0.length hlen) (λi=>by rw[hS];rfl) (λx=>by rw[Ai];rfl) (k':=5) (lr AA) (λt=>?_) (by decide) (by decide) (λi x lb hx=>?_) (hK2 _ ?_))
 · simp only[Aa]
   repeat' split
   all_goals first|exact jf|exact (show (1:Nat)<5 by decide)|exact (show (2:Nat)<5 by decide)|exact (show (3:Nat)<5 by decide)|exact (show (4:Nat)<5 by decide)
 · obtain⟨x',q,e1,e2,e3⟩:=hst i (jg.1 hx).1;obtain rfl:x=x':=by
     have e4:=(Sh.get_some e1).2.1;rw[lY,hx]at e4;exact lT e4
   have hSi:S i=[⟨1,35,3,[]⟩,⟨0,35,3,[[i64 13,i64 0,.own 5 0 2]]⟩,⟨0,3,1,[[i64 p2]]⟩,⟨0,35,3,[[i64 0,i64 0,.zc]]⟩,⟨0,33,1,[[ls Au p0]]⟩,⟨0,35,3,List.map (BP 35) [q,bs (i+1)]⟩]:=by rw[hS,e3];rfl
   rw[hS (i+1)];generalize bs (i+1)=y at *;refine Ql (s':=⟨21,Aa [(4,.ptr 1 0 0 0),(5,.ptr 2 0 0 0),(6,.ptr 3 0 0 0),(10,.fn 107 [.ptr 4 0 0 0]),(11,i64 i),(12,.agg [i64 x.op,i64 x.num,ls Au x.kids])],_⟩) (by rw[Ai];exact AJ AA) ?_;refine Nq.seq λK4 hK4=>PQ AA AA (zq tb AA (AF (hK4 _ ?_)));refine PQ AA AA (Av (m:=6) AI DH AA AA (Am AI BE AA AA AA AA AA AA nj rfl (AF ?_)));dsimp only[KG];refine Nq.block ?_;refine Ql (AJ (L:=[(4,L8),(5,OU),(7,i64 i),(8,.ptr 6 0 0 0)]) rfl) ?_;refine Nq.gU (by kernel_rfl) rfl (J9 λA hA=>?_);have A_01234567:A 0 (bm 8 255) ⟨21,Aa [(4,L8)],[NM,⟨0,35,3,[[i64 13,i64 0,.own 8 0 2]]⟩,⟨0,3,1,[[i64 p2]]⟩,YE,X8 p0,NM,⟨0,35,3,[SS x]⟩,NM,⟨0,35,3,List.map (BP 35) [q,y]⟩]⟩:=(hA _ _ _).2 (by
    refine As (LM (L:=[]) (st':=S i) (st1:=[NM,⟨0,35,3,[[i64 13,i64 0,.own 8 0 2]]⟩,⟨0,3,1,[[i64 p2]]⟩,YE,X8 p0,⟨0,35,3,List.map (BP 35) [q,y]⟩]) [0,1,2,3,4,8] AA (by decide) rfl AA ?_ jf) (HX AA (by kernel_rfl) ⟨AA,AA⟩) rfl;rw[hSi];exact (.pure (by intro x hx;cases hx) (.raw rfl rfl (.raw rfl rfl (.raw rfl rfl (.raw rfl rfl (.deep (Ah Al) .nil)))))))
   have A_0123456:A 1 (bm 8 127) ⟨21,Aa [(4,L8),(19,.agg [i64 13,i64 0,.own 8 0 2])],[NM,⟨0,35,3,[Q8 y]⟩,⟨0,3,1,[[i64 p2]]⟩,YE,X8 p0,NM,⟨0,35,3,[SS x]⟩,NM,⟨0,35,3,List.map (BP 35) [q,y]⟩]⟩:=(hA _ _ _).2 (by
    refine CJ [7] AA (by kernel_rfl) (by decide) ⟨?_,jf⟩
    ·refine Ea.of (i:=7) rfl AA (by rfl) ?_;refine Am AI BE AA AA AA AA AA AA nj rfl (AF ⟨AA,?_⟩);exact As (AJ AA) (BG (by kernel_rfl) ((hA _ _ _).1 A_01234567)) rfl)
   have A_012345:A 2 (bm 8 63) ⟨21,Aa [(4,L8),(18,.own 8 0 2)],[NM,⟨0,35,3,[Q8 y]⟩,⟨0,3,1,[[i64 p2]]⟩,YE,X8 p0,NM,⟨0,35,3,[SS x]⟩,NM,⟨0,35,3,List.map (BP 35) [q,y]⟩]⟩:=(hA _ _ _).2 (by
    refine CJ [6] AA (by kernel_rfl) (by decide) ⟨?_,jf⟩
    ·refine Ea.of (i:=6) rfl AA (by rfl) ?_;refine zz (.agg [i64 13,i64 0,.own 8 0 2]) (C9 Oc Oe DH AA AA) rfl (AF ⟨AA,?_⟩);exact As (AJ AA) (BG (by kernel_rfl) ((hA _ _ _).1 A_0123456)) rfl)
   have A_01234:A 3 (bm 8 31) ⟨21,Aa [(4,L8),(16,.agg [i64 q.op,i64 q.num,ow 7 0 q.kids]),(17,.agg (Q8 y))],[NM,⟨0,35,3,[Q8 y]⟩,⟨0,3,1,[[i64 p2]]⟩,YE,X8 p0,V6 y,⟨0,35,3,[SS x]⟩,V6 q]⟩:=(hA _ _ _).2 (by
    refine CJ [5] AA (by kernel_rfl) (by decide) ⟨?_,jf⟩
    ·refine Ea.of (i:=5) rfl AA (by rfl) ?_;refine BF (m:=8) (l:=[true,false]) (enc:=λc=>if c then [i64 q.op,i64 q.num,ow 7 0 q.kids] else (Q8 y)) AI BU (by decide) rfl AA AA AA AA AA ?_;refine AR (KN (id:=8) (m:=7) (i:=0) (j:=2) (st':=[⟨1,35,3,[]⟩,⟨0,35,3,[[i64 y.op,i64 y.num,ow 5 0 y.kids]]⟩,⟨0,3,1,[[i64 p2]]⟩,⟨0,35,3,[[i64 0,i64 0,.zc]]⟩,⟨0,33,1,[[ls Au p0]]⟩,ro 0 35 3 (BP 35) y.kids,⟨0,35,3,[[i64 x.op,i64 x.num,ls Au x.kids]]⟩,⟨1,35,3,[]⟩,⟨0,35,3,[[i64 q.op,i64 q.num,.dv 35 3 (q.kids.map (BP 35))],[i64 y.op,i64 y.num,ow 5 0 y.kids]]⟩]) rfl AA AA AA (by simp) (by decide) (show 5<=7 by decide) (I3 Eu) rfl) ?_;refine AR (KN (id:=8) (m:=5) (i:=1) (j:=2) (st':=[⟨1,35,3,[]⟩,⟨0,35,3,[[i64 y.op,i64 y.num,ow 5 0 y.kids]]⟩,⟨0,3,1,[[i64 p2]]⟩,⟨0,35,3,[[i64 0,i64 0,.zc]]⟩,⟨0,33,1,[[ls Au p0]]⟩,⟨1,35,3,[]⟩,⟨0,35,3,[[i64 x.op,i64 x.num,ls Au x.kids]]⟩,⟨1,35,3,[]⟩,⟨0,35,3,List.map (BP 35) [q,y]⟩]) rfl AA AA AA (by simp) (by decide) (show 5<=5 by decide) (I3 Eu) (by simp only[List.map,Cv];rfl)) (AF ⟨AA,?_⟩);exact As (AJ AA) (BG (by kernel_rfl) ((hA _ _ _).1 A_012345)) rfl)
   have A_0123:A 4 (bm 8 15) ⟨21,Aa [(4,L8),(16,.agg [i64 q.op,i64 q.num,ow 7 0 q.kids])],[NM,⟨0,35,3,[Q8 y]⟩,⟨0,3,1,[[i64 p2]]⟩,YE,X8 p0,V6 y,⟨0,35,3,[SS x]⟩,V6 q]⟩:=(hA _ _ _).2 (by
    refine CJ [4] AA (by kernel_rfl) (by decide) ⟨?_,jf⟩
    ·refine Ea.of (i:=4) rfl AA (by rfl) ?_;refine zq tb AA (AF ⟨AA,?_⟩);exact As (AJ AA) (BG (by kernel_rfl) ((hA _ _ _).1 A_01234)) rfl)
   have A_0124:A 4 (bm 8 23) ⟨21,Aa [(4,L8),(5,OU),(7,i64 i),(8,.ptr 6 0 0 0),(13,.agg (SS x)),(14,i64 p2),(15,i64 i),(17,.agg (Q8 y))],QM y p2 p0 x⟩:=(hA _ _ _).2 (by
    refine CJ [3] AA (by kernel_rfl) (by decide) ⟨?_,jf⟩
    ·refine Ea.of (i:=3) rfl AA (by rfl) ?_;refine CL (v':=(.agg [i64 q.op,i64 q.num,ow 7 0 q.kids])) AI gH (hsh e2) rfl AA ⟨Ah Al,jf⟩ AA AA (AF ⟨AA,?_⟩);exact As (AJ AA) (BG (by kernel_rfl) ((hA _ _ _).1 A_01234)) rfl)
   have A_012:A 5 (bm 8 7) ⟨21,Aa [(4,L8),(5,OU),(7,i64 i),(8,.ptr 6 0 0 0),(13,.agg (SS x)),(14,i64 p2),(15,i64 i)],QM y p2 p0 x⟩:=(hA _ _ _).2 (by
    refine CJ [3,4] AA (by kernel_rfl) (by decide) ⟨?_,?_,jf⟩
    ·refine Ea.of (i:=3) rfl AA (by rfl) ?_;refine CL (v':=(.agg [i64 q.op,i64 q.num,ow 7 0 q.kids])) AI gH (hsh e2) rfl AA ⟨Ah Al,jf⟩ AA AA (AF ⟨AA,?_⟩);exact As (AJ AA) (BG (by kernel_rfl) ((hA _ _ _).1 A_0123)) rfl
    ·refine Ea.of (i:=4) rfl AA (by rfl) ?_;refine zq tb AA (AF ⟨AA,?_⟩);exact As (AJ AA) (BG (by kernel_rfl) ((hA _ _ _).1 A_0124)) rfl)
   have A_014:A 5 (bm 8 19) ⟨21,Aa [(4,L8),(5,OU),(7,i64 i),(8,.ptr 6 0 0 0),(13,.agg (SS x)),(14,i64 p2),(17,.agg (Q8 y))],QM y p2 p0 x⟩:=(hA _ _ _).2 (by
    refine CJ [2] AA (by kernel_rfl) (by decide) ⟨?_,jf⟩
    ·refine Ea.of (i:=2) rfl AA (by rfl) ?_;refine zq tb AA (AF ⟨AA,?_⟩);exact As (AJ AA) (BG (by kernel_rfl) ((hA _ _ _).1 A_0124)) rfl)
   have A_024:A 5 (bm 8 21) ⟨21,Aa [(4,L8),(5,OU),(7,i64 i),(8,.ptr 6 0 0 0),(13,.agg (SS x)),(15,i64 i),(17,.agg (Q8 y))],QM y p2 p0 x⟩:=(hA _ _ _).2 (by
    refine CJ [1] AA (by kernel_rfl) (by decide) ⟨?_,jf⟩
    ·refine Ea.of (i:=1) rfl AA (by rfl) ?_;refine zq tb AA (AF ⟨AA,?_⟩);exact As (AJ AA) (BG (by kernel_rfl) ((hA _ _ _).1 A_0124)) rfl)
   have A_124:A 5 (bm 8 22) ⟨21,Aa [(4,L8),(5,OU),(7,i64 i),(8,.ptr 6 0 0 0),(14,i64 p2),(15,i64 i),(17,.agg (Q8 y))],QM y p2 p0 x⟩:=(hA _ _ _).2 (by
    refine CJ [0] AA (by kernel_rfl) (by decide) ⟨?_,jf⟩
    ·refine Ea.of (i:=0) rfl AA (by rfl) ?_;refine zq tb AA (AF ⟨AA,?_⟩);exact As (AJ AA) (BG (by kernel_rfl) ((hA _ _ _).1 A_0124)) rfl)
   have A_01:A 6 (bm 8 3) ⟨21,Aa [(4,L8),(5,OU),(7,i64 i),(8,.ptr 6 0 0 0),(13,.agg (SS x)),(14,i64 p2)],QM y p2 p0 x⟩:=(hA _ _ _).2 (by
    refine CJ [2,4] AA (by kernel_rfl) (by decide) ⟨?_,?_,jf⟩
    ·refine Ea.of (i:=2) rfl AA (by rfl) ?_;refine zq tb AA (AF ⟨AA,?_⟩);exact As (AJ AA) (BG (by kernel_rfl) ((hA _ _ _).1 A_012)) rfl
    ·refine Ea.of (i:=4) rfl AA (by rfl) ?_;refine zq tb AA (AF ⟨AA,?_⟩);exact As (AJ AA) (BG (by kernel_rfl) ((hA _ _ _).1 A_014)) rfl)
   have A_02:A 6 (bm 8 5) ⟨21,Aa [(4,L8),(5,OU),(7,i64 i),(8,.ptr 6 0 0 0),(13,.agg (SS x)),(15,i64 i)],QM y p2 p0 x⟩:=(hA _ _ _).2 (by
    refine CJ [1,4] AA (by kernel_rfl) (by decide) ⟨?_,?_,jf⟩
    ·refine Ea.of (i:=1) rfl AA (by rfl) ?_;refine zq tb AA (AF ⟨AA,?_⟩);exact As (AJ AA) (BG (by kernel_rfl) ((hA _ _ _).1 A_012)) rfl
    ·refine Ea.of (i:=4) rfl AA (by rfl) ?_;refine zq tb AA (AF ⟨AA,?_⟩);exact As (AJ AA) (BG (by kernel_rfl) ((hA _ _ _).1 A_024)) rfl)
   have A_04:A 6 (bm 8 17) ⟨21,Aa [(4,L8),(5,OU),(7,i64 i),(8,.ptr 6 0 0 0),(13,.agg (SS x)),(17,.agg (Q8 y))],QM y p2 p0 x⟩:=(hA _ _ _).2 (by
    refine CJ [1,2] AA (by kernel_rfl) (by decide) ⟨?_,?_,jf⟩
    ·refine Ea.of (i:=1) rfl AA (by rfl) ?_;refine zq tb AA (AF ⟨AA,?_⟩);exact As (AJ AA) (BG (by kernel_rfl) ((hA _ _ _).1 A_014)) rfl
    ·refine Ea.of (i:=2) rfl AA (by rfl) ?_;refine zq tb AA (AF ⟨AA,?_⟩);exact As (AJ AA) (BG (by kernel_rfl) ((hA _ _ _).1 A_024)) rfl)
   have A_12:A 6 (bm 8 6) ⟨21,Aa [(4,L8),(5,OU),(7,i64 i),(8,.ptr 6 0 0 0),(14,i64 p2),(15,i64 i)],QM y p2 p0 x⟩:=(hA _ _ _).2 (by
    refine CJ [0,4] AA (by kernel_rfl) (by decide) ⟨?_,?_,jf⟩
    ·refine Ea.of (i:=0) rfl AA (by rfl) ?_;refine zq tb AA (AF ⟨AA,?_⟩);exact As (AJ AA) (BG (by kernel_rfl) ((hA _ _ _).1 A_012)) rfl
    ·refine Ea.of (i:=4) rfl AA (by rfl) ?_;refine zq tb AA (AF ⟨AA,?_⟩);exact As (AJ AA) (BG (by kernel_rfl) ((hA _ _ _).1 A_124)) rfl)
   have A_14:A 6 (bm 8 18) ⟨21,Aa [(4,L8),(5,OU),(7,i64 i),(8,.ptr 6 0 0 0),(14,i64 p2),(17,.agg (Q8 y))],QM y p2 p0 x⟩:=(hA _ _ _).2 (by
    refine CJ [0,2] AA (by kernel_rfl) (by decide) ⟨?_,?_,jf⟩
    ·refine Ea.of (i:=0) rfl AA (by rfl) ?_;refine zq tb AA (AF ⟨AA,?_⟩);exact As (AJ AA) (BG (by kernel_rfl) ((hA _ _ _).1 A_014)) rfl
    ·refine Ea.of (i:=2) rfl AA (by rfl) ?_;refine zq tb AA (AF ⟨AA,?_⟩);exact As (AJ AA) (BG (by kernel_rfl) ((hA _ _ _).1 A_124)) rfl)
   have A_24:A 6 (bm 8 20) ⟨21,Aa [(4,L8),(5,OU),(7,i64 i),(8,.ptr 6 0 0 0),(15,i64 i),(17,.agg (Q8 y))],QM y p2 p0 x⟩:=(hA _ _ _).2 (by
    refine CJ [0,1] AA (by kernel_rfl) (by decide) ⟨?_,?_,jf⟩
    ·refine Ea.of (i:=0) rfl AA (by rfl) ?_;refine zq tb AA (AF ⟨AA,?_⟩);exact As (AJ AA) (BG (by kernel_rfl) ((hA _ _ _).1 A_024)) rfl
    ·refine Ea.of (i:=1) rfl AA (by rfl) ?_;refine zq tb AA (AF ⟨AA,?_⟩);exact As (AJ AA) (BG (by kernel_rfl) ((hA _ _ _).1 A_124)) rfl)
   have A_0:A 7 (bm 8 1) ⟨21,Aa [(4,L8),(5,OU),(7,i64 i),(8,.ptr 6 0 0 0),(13,.agg (SS x))],QM y p2 p0 x⟩:=(hA _ _ _).2 (by
    refine CJ [1,2,4] AA (by kernel_rfl) (by decide) ⟨?_,?_,?_,jf⟩
    ·refine Ea.of (i:=1) rfl AA (by rfl) ?_;refine zq tb AA (AF ⟨AA,?_⟩);exact As (AJ AA) (BG (by kernel_rfl) ((hA _ _ _).1 A_01)) rfl
    ·refine Ea.of (i:=2) rfl AA (by rfl) ?_;refine zq tb AA (AF ⟨AA,?_⟩);exact As (AJ AA) (BG (by kernel_rfl) ((hA _ _ _).1 A_02)) rfl
    ·refine Ea.of (i:=4) rfl AA (by rfl) ?_;refine zq tb AA (AF ⟨AA,?_⟩);exact As (AJ AA) (BG (by kernel_rfl) ((hA _ _ _).1 A_04)) rfl)
   have A_1:A 7 (bm 8 2) ⟨21,Aa [(4,L8),(5,OU),(7,i64 i),(8,.ptr 6 0 0 0),(14,i64 p2)],QM y p2 p0 x⟩:=(hA _ _ _).2 (by
    refine CJ [0,2,4] AA (by kernel_rfl) (by decide) ⟨?_,?_,?_,jf⟩
    ·refine Ea.of (i:=0) rfl AA (by rfl) ?_;refine zq tb AA (AF ⟨AA,?_⟩);exact As (AJ AA) (BG (by kernel_rfl) ((hA _ _ _).1 A_01)) rfl
    ·refine Ea.of (i:=2) rfl AA (by rfl) ?_;refine zq tb AA (AF ⟨AA,?_⟩);exact As (AJ AA) (BG (by kernel_rfl) ((hA _ _ _).1 A_12)) rfl
    ·refine Ea.of (i:=4) rfl AA (by rfl) ?_;refine zq tb AA (AF ⟨AA,?_⟩);exact As (AJ AA) (BG (by kernel_rfl) ((hA _ _ _).1 A_14)) rfl)
   have A_2:A 7 (bm 8 4) ⟨21,Aa [(4,L8),(5,OU),(7,i64 i),(8,.ptr 6 0 0 0),(15,i64 i)],QM y p2 p0 x⟩:=(hA _ _ _).2 (by
    refine CJ [0,1,4] AA (by kernel_rfl) (by decide) ⟨?_,?_,?_,jf⟩
    ·refine Ea.of (i:=0) rfl AA (by rfl) ?_;refine zq tb AA (AF ⟨AA,?_⟩);exact As (AJ AA) (BG (by kernel_rfl) ((hA _ _ _).1 A_02)) rfl
    ·refine Ea.of (i:=1) rfl AA (by rfl) ?_;refine zq tb AA (AF ⟨AA,?_⟩);exact As (AJ AA) (BG (by kernel_rfl) ((hA _ _ _).1 A_12)) rfl
    ·refine Ea.of (i:=4) rfl AA (by rfl) ?_;refine zq tb AA (AF ⟨AA,?_⟩);exact As (AJ AA) (BG (by kernel_rfl) ((hA _ _ _).1 A_24)) rfl)
   have A_4:A 7 (bm 8 16) ⟨21,Aa [(4,L8),(5,OU),(7,i64 i),(8,.ptr 6 0 0 0),(17,.agg (Q8 y))],QM y p2 p0 x⟩:=(hA _ _ _).2 (by
    refine CJ [0,1,2] AA (by kernel_rfl) (by decide) ⟨?_,?_,?_,jf⟩
    ·refine Ea.of (i:=0) rfl AA (by rfl) ?_;refine zq tb AA (AF ⟨AA,?_⟩);exact As (AJ AA) (BG (by kernel_rfl) ((hA _ _ _).1 A_04)) rfl
    ·refine Ea.of (i:=1) rfl AA (by rfl) ?_;refine zq tb AA (AF ⟨AA,?_⟩);exact As (AJ AA) (BG (by kernel_rfl) ((hA _ _ _).1 A_14)) rfl
    ·refine Ea.of (i:=2) rfl AA (by rfl) ?_;refine zq tb AA (AF ⟨AA,?_⟩);exact As (AJ AA) (BG (by kernel_rfl) ((hA _ _ _).1 A_24)) rfl)
   have A_e:A 8 (bm 8 0) ⟨21,Aa [(4,L8),(5,OU),(7,i64 i),(8,.ptr 6 0 0 0)],QM y p2 p0 x⟩:=(hA _ _ _).2 (by
    refine CJ [0,1,2,4] AA (by kernel_rfl) (by decide) ⟨?_,?_,?_,?_,jf⟩
    ·refine Ea.of (i:=0) rfl AA (by rfl) ?_;refine zq tb AA (AF ⟨AA,?_⟩);exact As (AJ AA) (BG (by kernel_rfl) ((hA _ _ _).1 A_0)) rfl
    ·refine Ea.of (i:=1) rfl AA (by rfl) ?_;refine zq tb AA (AF ⟨AA,?_⟩);exact As (AJ AA) (BG (by kernel_rfl) ((hA _ _ _).1 A_1)) rfl
    ·refine Ea.of (i:=2) rfl AA (by rfl) ?_;refine zq tb AA (AF ⟨AA,?_⟩);exact As (AJ AA) (BG (by kernel_rfl) ((hA _ _ _).1 A_2)) rfl
    ·refine Ea.of (i:=4) rfl AA (by rfl) ?_;refine zq tb AA (AF ⟨AA,?_⟩);exact As (AJ AA) (BG (by kernel_rfl) ((hA _ _ _).1 A_4)) rfl)
   exact A_e
 · have hS0:S 0=[⟨1,35,3,[]⟩,⟨0,35,3,[[i64 r.op,i64 r.num,ow 5 0 r.kids]]⟩,⟨0,3,1,[[i64 p2]]⟩,⟨0,35,3,[[i64 0,i64 0,.zc]]⟩,⟨0,33,1,[[ls Au p0]]⟩,ro 0 35 3 (BP 35) r.kids]:=by rw[hS,hb0]
   rw[hS0];refine Rv.seq λK4 hK4=>Rv.dI AA AA AA (zq tb AA (Am AI BE AA AA AA AA AA AA nj rfl (AF (hK4 _ ?_))));exact Rv.ret (Exists.intro _ (And.intro (Bj (L:=[(6,OU)]) (st':=[NM,V6 r,⟨0,35,3,[Z6 r]⟩]) (st1:=[NM,V6 r,⟨0,35,3,[Q8 r]⟩]) [0,5,3] AA (.pure (by intro x hx;cases hx) .nil) (by decide) rfl AA (.pure (by intro x hx;cases hx) (.deep (Ah Al) (.raw AA AA .nil))) ⟨.rfl,jf⟩) (Ar (x:=.tmp 6) (off:=0) (cs:=(Z6 r)) (vs:=(Z6 r)) BE AA AA AA nj rfl _ ⟨AA,AA⟩)))
end Go.Proofs.YtihdgoiebmfapaaGreat.La
