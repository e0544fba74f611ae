/- impl.letAll,by hand: rows that own all. -/
import Derived.Test.YtihdgoiebmfapaaGreatGHADefsToFEDefs
import Derived.Test.YtihdgoiebmfapaaGreatBWK
set_option linter.all false
namespace Go.Proofs.YtihdgoiebmfapaaGreat.La
noncomputable section
open Go Go.Abs RC
attribute [local irreducible] Go.Abs.D7
set_option maxRecDepth 100000
abbrev Sd (z0:AE):=([i64 z0.op,i64 z0.num,ls Ar z0.kids]:List AV)
abbrev RL (z0:AE):=([i64 z0.op,i64 z0.num,ow 5 0 z0.kids]:List AV)
abbrev Nl:=(⟨1,35,3,[]⟩:Row)
abbrev ZD:=(⟨0,35,3,[[i64 0,i64 0,.zc]]⟩:Row)
abbrev Qi (z0:AE)(z1 z2:_)(z3:AE):=([Nl,⟨0,35,3,[[i64 z0.op,i64 z0.num,ow 5 0 z0.kids]]⟩,⟨0,3,1,[[i64 z1]]⟩,ZD,⟨0,33,1,[[ls Ar z2]]⟩,ro 0 35 3 (BS 35) z0.kids,⟨0,35,3,[[i64 z3.op,i64 z3.num,ls Ar z3.kids]]⟩]:List Row)
abbrev Mw:=((.ptr 1 0 0 0):AV)
abbrev W7 (z0:AE):=((ro 0 35 3 (BS 35) z0.kids):Row)
abbrev Oh:=((.ptr 2 0 0 0):AV)
abbrev Yr (z0:_):=(⟨0,33,1,[[ls Ar z0]]⟩:Row)
abbrev bN (z0:AE):=([i64 z0.op,i64 z0.num,ow 1 0 z0.kids]:List AV)
set_option maxHeartbeats 4000000
def tb:Kr Tryz.prog where
 t:=[(3,false,1),(33,false,1),(35,true,3)]
 f:=[(35,0,0),(35,1,1),(35,2,2)]
 v:=[]
 b:=[]
 s:=[33]
 ht:=by kernel_rfl
 hf:=by kernel_rfl
 hv:=by kernel_rfl
 hb:=by kernel_rfl
 hs:=by kernel_rfl
theorem PG:Im Tryz.prog 35=true:=by kernel_rfl
theorem PA:J7 Tryz.prog 35=some [(0,1),(1,1),(2,1)]:=by kernel_rfl
theorem BU:Ds Tryz.prog 33=some ⟨35,3,40,[.int .i64 0,.int .i64 0,.sl []]⟩:=by kernel_rfl
theorem jH:Dq Tryz.prog 44=true:=by kernel_rfl
theorem kb:Dq Tryz.prog 71=true:=by kernel_rfl
theorem HV:Dr Tryz.prog 3=some (false,1):=by kernel_rfl
theorem aW:Dr Tryz.prog 33=some (false,1):=by kernel_rfl
theorem BE:Dr Tryz.prog 35=some (true,3):=by kernel_rfl
theorem DE:ID Tryz.prog 35=some [.int .i64 0,.int .i64 0,.zc]:=by kernel_rfl
theorem Yy {l:List AE}:Ab Tryz.prog 71 [ls Ar l] [] (λv st=>v=(.fn 107 [.ptr 0 0 0 0])/\st=[Yr l]):=by
 refine ai Tryz.func71 AA AA AA AA (sr AA λK1 zu=>Bd (m:=0) AI AA AA AA AA AA (zq tb AA (dn zu AA (sr AA λK2 xJ=>zz (.fn 107 [.ptr 0 0 0 0]) (bW AA) rfl (zq tb AA (dn xJ AA ?_))))));exact Ao ⟨_,Wk.refl _ _,AA,AA⟩
theorem R7 {N:Nat}(tk :∀{p0:AE} {p1:Int} {p2:Int} {r:AE},Gz N p0 p1 p2=some r->Ab Tryz.prog 44 [.agg (Sd p0),i64 p1,i64 p2] [] (λv st=>v=(.agg [i64 r.op,i64 r.num,ow 0 0 r.kids])/\st=[W7 r]))
  {s0 p0:List AE} {qX qn p2:Int} {r:AE} (h0:Kc N s0 p0 qX qn p2=some r):Ab Tryz.prog 43 [ls Ar p0,.agg [i64 qX,i64 qn,ow 0 0 s0],i64 p2] [ro 0 35 3 (BS 35) s0] (λv st=>v=(.agg (bN r))/\st=[Nl,W7 r]):=by
 unfold Kc at h0;by_cases hlen:p0.length<=1048576
 case neg=>rw[la hlen]at h0;cases h0
 rw[ld hlen]at h0;obtain⟨bs,hbl,ye,qz⟩:=Qz _ h0;refine Ab.wk (r0:=(.agg (bN r))) (st0:=[Nl,W7 r,⟨0,35,3,[bN r]⟩]) ?_ (Dg (L:=[(0,.agg (bN r))]) (st':=[Nl,W7 r]) [0,1] AA (by decide) rfl AA (.pure (by intro x hx;cases hx) (.deep (Ah Al) lU)) ⟨.rfl,lU⟩);refine Ab.iX Tryz.func43 AA AA AA AA ?_;refine RF (Pq (L:=[(0,ls Ar p0),(1,.agg [i64 qX,i64 qn,ow 1 0 s0]),(2,i64 p2)]) (id:=0) (N:=1) (st':=[Nl,ro 0 35 3 (BS 35) s0]) rfl AA ⟨.rfl,.rfl,.rfl,lU⟩ AA) ?_;refine UI λK1 zu=>AH AA (Bd (m:=2) AI AA AA AA AA AA (Bd (m:=3) AI AA AA AA AA AA (Av (m:=4) AI DE AA AA (AF (zu _ ?_)))));refine Pz.kx λK2 xJ=>UI λK3 xk=>AH AA (zq tb AA (CH (v':=(.fn 107 [.ptr 5 0 0 0])) AI kb Yy AA AA ⟨(λx hx c hc=>by simp at hx;subst hx;simp at hc;subst hc;rfl),lU⟩ AA AA (AF (xk _ ?_))));obtain⟨S,hS⟩ :∃S:Nat->List Row,∀i,S i=[Nl,⟨0,35,3,[[i64 (bs i).op,i64 (bs i).num,ow 5 0 (bs i).kids]]⟩,⟨0,3,1,[[i64 p2]]⟩,ZD,Yr p0,ro 0 35 3 (BS 35) (bs i).kids]:=⟨_,λ_=>rfl⟩
 have hSl:S p0.length=[⟨1,35,3,[]⟩,⟨0,35,3,[[i64 qX,i64 qn,ow 5 0 s0]]⟩,⟨0,3,1,[[i64 p2]]⟩,⟨0,35,3,[[i64 0,i64 0,.zc]]⟩,⟨0,33,1,[[ls Ar p0]]⟩,ro 0 35 3 (BS 35) s0]:=by rw[hS,hbl];rfl
 refine RF (s':=⟨21,Aa [(4,Mw),(5,Oh),(6,.ptr 3 0 0 0),(10,.fn 107 [.ptr 4 0 0 0])],S p0.length⟩) ?_ ?_
 · rw[hSl];exact Bq (st1:=[Nl,⟨0,35,3,[[i64 qX,i64 qn,ow 1 0 s0]]⟩,⟨0,3,1,[[i64 p2]]⟩,ZD,Yr p0,ro 0 35 3 (BS 35) s0]) [0,2,3,4,5,1] AA (.pure (by intro x hx;cases hx) .nil) (by decide) rfl AA (.pure (by intro x hx;cases hx) (.raw AA AA (.raw AA AA (.raw AA AA (.raw AA AA (.deep (Ah Al) .nil)))))) ⟨.rfl,.rfl,.rfl,.rfl,lU⟩
 refine Pz.block (Pz.range (t:=10) (gf:=107) (id:=4) (T:=33) (l:=p0) (enc:=Ar) (S:=S) rfl AA (enters_of Tryz.func107 (by kernel_rfl) rfl) (λb=>Ui b p0.length hlen) (λi=>by rw[hS];rfl) (λx=>by rw[Ai];rfl) (k':=5) (np AA) (λt=>?_) (by decide) (by decide) (λi x lb hx=>?_) (xJ _ ?_))
 · simp only[Aa]
   repeat' split
   all_goals first|exact lU|exact (show (1:Nat)<5 by decide)|exact (show (2:Nat)<5 by decide)|exact (show (3:Nat)<5 by decide)|exact (show (4:Nat)<5 by decide)
 · obtain⟨x',q,e1,e2,e3⟩:=qz i (lV.1 hx).1;obtain rfl:x=x':=by
     have e4:=(Sh.get_some e1).2.1;rw[nY,hx]at e4;exact nT e4
   have hSi:S i=[⟨1,35,3,[]⟩,⟨0,35,3,[[i64 13,i64 0,.own 5 0 2]]⟩,⟨0,3,1,[[i64 p2]]⟩,⟨0,35,3,[[i64 0,i64 0,.zc]]⟩,⟨0,33,1,[[ls Ar p0]]⟩,⟨0,35,3,List.map (BS 35) [q,bs (i+1)]⟩]:=by rw[hS,e3];rfl
   rw[hS (i+1)];generalize bs (i+1)=y at *;refine Q4 (s':=⟨21,Aa [(4,.ptr 1 0 0 0),(5,.ptr 2 0 0 0),(6,.ptr 3 0 0 0),(10,.fn 107 [.ptr 4 0 0 0]),(11,i64 i),(12,.agg [i64 x.op,i64 x.num,ls Ar x.kids])],_⟩) (by rw[Ai];exact AJ AA) ?_;refine OH.seq λK4 hK4=>QE AA AA (zq tb AA (AF (hK4 _ ?_)));refine QE AA AA (Av (m:=6) AI DE AA AA (Am AI BE AA AA AA AA AA AA pj rfl (AF ?_)));dsimp only[Kk];refine OH.block ?_;refine Q4 (AJ (L:=[(4,Mw),(5,Oh),(7,i64 i),(8,.ptr 6 0 0 0)]) rfl) ?_;refine OH.jX (by kernel_rfl) rfl (KO λA hA=>?_);have vd:A 0 (bm 8 255) ⟨21,Aa [(4,Mw)],[Nl,⟨0,35,3,[[i64 13,i64 0,.own 8 0 2]]⟩,⟨0,3,1,[[i64 p2]]⟩,ZD,Yr p0,Nl,⟨0,35,3,[Sd x]⟩,Nl,⟨0,35,3,List.map (BS 35) [q,y]⟩]⟩:=(hA _ _ _).2 (by
    refine Au (LU (L:=[]) (st':=S i) (st1:=[Nl,⟨0,35,3,[[i64 13,i64 0,.own 8 0 2]]⟩,⟨0,3,1,[[i64 p2]]⟩,ZD,Yr p0,⟨0,35,3,List.map (BS 35) [q,y]⟩]) [0,1,2,3,4,8] AA (by decide) rfl AA ?_ lU) (Hr AA (by kernel_rfl) ⟨AA,AA⟩) rfl;rw[hSi];exact (.pure (by intro x hx;cases hx) (.raw rfl rfl (.raw rfl rfl (.raw rfl rfl (.raw rfl rfl (.deep (Ah Al) .nil)))))))
   have wK:A 1 (bm 8 127) ⟨21,Aa [(4,Mw),(19,.agg [i64 13,i64 0,.own 8 0 2])],[Nl,⟨0,35,3,[RL y]⟩,⟨0,3,1,[[i64 p2]]⟩,ZD,Yr p0,Nl,⟨0,35,3,[Sd x]⟩,Nl,⟨0,35,3,List.map (BS 35) [q,y]⟩]⟩:=(hA _ _ _).2 (by
    refine CK [7] AA (by kernel_rfl) (by decide) ⟨?_,lU⟩
    ·refine En.of (i:=7) rfl AA (by rfl) ?_;refine Am AI BE AA AA AA AA AA AA pj rfl (AF ⟨AA,?_⟩);exact Au (AJ AA) (BH (by kernel_rfl) ((hA _ _ _).1 vd)) rfl)
   have xM:A 2 (bm 8 63) ⟨21,Aa [(4,Mw),(18,.own 8 0 2)],[Nl,⟨0,35,3,[RL y]⟩,⟨0,3,1,[[i64 p2]]⟩,ZD,Yr p0,Nl,⟨0,35,3,[Sd x]⟩,Nl,⟨0,35,3,List.map (BS 35) [q,y]⟩]⟩:=(hA _ _ _).2 (by
    refine CK [6] AA (by kernel_rfl) (by decide) ⟨?_,lU⟩
    ·refine En.of (i:=6) rfl AA (by rfl) ?_;refine zz (.agg [i64 13,i64 0,.own 8 0 2]) (DC PG PA DE AA AA) rfl (AF ⟨AA,?_⟩);exact Au (AJ AA) (BH (by kernel_rfl) ((hA _ _ _).1 wK)) rfl)
   have vo:A 3 (bm 8 31) ⟨21,Aa [(4,Mw),(16,.agg [i64 q.op,i64 q.num,ow 7 0 q.kids]),(17,.agg (RL y))],[Nl,⟨0,35,3,[RL y]⟩,⟨0,3,1,[[i64 p2]]⟩,ZD,Yr p0,W7 y,⟨0,35,3,[Sd x]⟩,W7 q]⟩:=(hA _ _ _).2 (by
    refine CK [5] AA (by kernel_rfl) (by decide) ⟨?_,lU⟩
    ·refine En.of (i:=5) rfl AA (by rfl) ?_;refine BF (m:=8) (l:=[true,false]) (enc:=λc=>if c then [i64 q.op,i64 q.num,ow 7 0 q.kids] else (RL y)) AI BU (by decide) rfl AA AA AA AA AA ?_;refine AR (Kj (id:=8) (m:=7) (i:=0) (j:=2) (st':=[⟨1,35,3,[]⟩,⟨0,35,3,[[i64 y.op,i64 y.num,ow 5 0 y.kids]]⟩,⟨0,3,1,[[i64 p2]]⟩,⟨0,35,3,[[i64 0,i64 0,.zc]]⟩,⟨0,33,1,[[ls Ar p0]]⟩,ro 0 35 3 (BS 35) y.kids,⟨0,35,3,[[i64 x.op,i64 x.num,ls Ar x.kids]]⟩,⟨1,35,3,[]⟩,⟨0,35,3,[[i64 q.op,i64 q.num,.dv 35 3 (q.kids.map (BS 35))],[i64 y.op,i64 y.num,ow 5 0 y.kids]]⟩]) rfl AA AA AA (by simp) (by decide) (show 5<=7 by decide) (JI Ey) rfl) ?_;refine AR (Kj (id:=8) (m:=5) (i:=1) (j:=2) (st':=[⟨1,35,3,[]⟩,⟨0,35,3,[[i64 y.op,i64 y.num,ow 5 0 y.kids]]⟩,⟨0,3,1,[[i64 p2]]⟩,⟨0,35,3,[[i64 0,i64 0,.zc]]⟩,⟨0,33,1,[[ls Ar p0]]⟩,⟨1,35,3,[]⟩,⟨0,35,3,[[i64 x.op,i64 x.num,ls Ar x.kids]]⟩,⟨1,35,3,[]⟩,⟨0,35,3,List.map (BS 35) [q,y]⟩]) rfl AA AA AA (by simp) (by decide) (show 5<=5 by decide) (JI Ey) (by simp only[List.map,Cx];rfl)) (AF ⟨AA,?_⟩);exact Au (AJ AA) (BH (by kernel_rfl) ((hA _ _ _).1 xM)) rfl)
   have AAA:A 4 (bm 8 15) ⟨21,Aa [(4,Mw),(16,.agg [i64 q.op,i64 q.num,ow 7 0 q.kids])],[Nl,⟨0,35,3,[RL y]⟩,⟨0,3,1,[[i64 p2]]⟩,ZD,Yr p0,W7 y,⟨0,35,3,[Sd x]⟩,W7 q]⟩:=(hA _ _ _).2 (by
    refine CK [4] AA (by kernel_rfl) (by decide) ⟨?_,lU⟩
    ·refine En.of (i:=4) rfl AA (by rfl) ?_;refine zq tb AA (AF ⟨AA,?_⟩);exact Au (AJ AA) (BH (by kernel_rfl) ((hA _ _ _).1 vo)) rfl)
   have uQ:A 4 (bm 8 23) ⟨21,Aa [(4,Mw),(5,Oh),(7,i64 i),(8,.ptr 6 0 0 0),(13,.agg (Sd x)),(14,i64 p2),(15,i64 i),(17,.agg (RL y))],Qi y p2 p0 x⟩:=(hA _ _ _).2 (by
    refine CK [3] AA (by kernel_rfl) (by decide) ⟨?_,lU⟩
    ·refine En.of (i:=3) rfl AA (by rfl) ?_;refine CH (v':=(.agg [i64 q.op,i64 q.num,ow 7 0 q.kids])) AI jH (tk e2) rfl AA ⟨Ah Al,lU⟩ AA AA (AF ⟨AA,?_⟩);exact Au (AJ AA) (BH (by kernel_rfl) ((hA _ _ _).1 vo)) rfl)
   have xN:A 5 (bm 8 7) ⟨21,Aa [(4,Mw),(5,Oh),(7,i64 i),(8,.ptr 6 0 0 0),(13,.agg (Sd x)),(14,i64 p2),(15,i64 i)],Qi y p2 p0 x⟩:=(hA _ _ _).2 (by
    refine CK [3,4] AA (by kernel_rfl) (by decide) ⟨?_,?_,lU⟩
    ·refine En.of (i:=3) rfl AA (by rfl) ?_;refine CH (v':=(.agg [i64 q.op,i64 q.num,ow 7 0 q.kids])) AI jH (tk e2) rfl AA ⟨Ah Al,lU⟩ AA AA (AF ⟨AA,?_⟩);exact Au (AJ AA) (BH (by kernel_rfl) ((hA _ _ _).1 AAA)) rfl
    ·refine En.of (i:=4) rfl AA (by rfl) ?_;refine zq tb AA (AF ⟨AA,?_⟩);exact Au (AJ AA) (BH (by kernel_rfl) ((hA _ _ _).1 uQ)) rfl)
   have xO:A 5 (bm 8 19) ⟨21,Aa [(4,Mw),(5,Oh),(7,i64 i),(8,.ptr 6 0 0 0),(13,.agg (Sd x)),(14,i64 p2),(17,.agg (RL y))],Qi y p2 p0 x⟩:=(hA _ _ _).2 (by
    refine CK [2] AA (by kernel_rfl) (by decide) ⟨?_,lU⟩
    ·refine En.of (i:=2) rfl AA (by rfl) ?_;refine zq tb AA (AF ⟨AA,?_⟩);exact Au (AJ AA) (BH (by kernel_rfl) ((hA _ _ _).1 uQ)) rfl)
   have xP:A 5 (bm 8 21) ⟨21,Aa [(4,Mw),(5,Oh),(7,i64 i),(8,.ptr 6 0 0 0),(13,.agg (Sd x)),(15,i64 i),(17,.agg (RL y))],Qi y p2 p0 x⟩:=(hA _ _ _).2 (by
    refine CK [1] AA (by kernel_rfl) (by decide) ⟨?_,lU⟩
    ·refine En.of (i:=1) rfl AA (by rfl) ?_;refine zq tb AA (AF ⟨AA,?_⟩);exact Au (AJ AA) (BH (by kernel_rfl) ((hA _ _ _).1 uQ)) rfl)
   have xQ:A 5 (bm 8 22) ⟨21,Aa [(4,Mw),(5,Oh),(7,i64 i),(8,.ptr 6 0 0 0),(14,i64 p2),(15,i64 i),(17,.agg (RL y))],Qi y p2 p0 x⟩:=(hA _ _ _).2 (by
    refine CK [0] AA (by kernel_rfl) (by decide) ⟨?_,lU⟩
    ·refine En.of (i:=0) rfl AA (by rfl) ?_;refine zq tb AA (AF ⟨AA,?_⟩);exact Au (AJ AA) (BH (by kernel_rfl) ((hA _ _ _).1 uQ)) rfl)
   have yN:A 6 (bm 8 3) ⟨21,Aa [(4,Mw),(5,Oh),(7,i64 i),(8,.ptr 6 0 0 0),(13,.agg (Sd x)),(14,i64 p2)],Qi y p2 p0 x⟩:=(hA _ _ _).2 (by
    refine CK [2,4] AA (by kernel_rfl) (by decide) ⟨?_,?_,lU⟩
    ·refine En.of (i:=2) rfl AA (by rfl) ?_;refine zq tb AA (AF ⟨AA,?_⟩);exact Au (AJ AA) (BH (by kernel_rfl) ((hA _ _ _).1 xN)) rfl
    ·refine En.of (i:=4) rfl AA (by rfl) ?_;refine zq tb AA (AF ⟨AA,?_⟩);exact Au (AJ AA) (BH (by kernel_rfl) ((hA _ _ _).1 xO)) rfl)
   have yM:A 6 (bm 8 5) ⟨21,Aa [(4,Mw),(5,Oh),(7,i64 i),(8,.ptr 6 0 0 0),(13,.agg (Sd x)),(15,i64 i)],Qi y p2 p0 x⟩:=(hA _ _ _).2 (by
    refine CK [1,4] AA (by kernel_rfl) (by decide) ⟨?_,?_,lU⟩
    ·refine En.of (i:=1) rfl AA (by rfl) ?_;refine zq tb AA (AF ⟨AA,?_⟩);exact Au (AJ AA) (BH (by kernel_rfl) ((hA _ _ _).1 xN)) rfl
    ·refine En.of (i:=4) rfl AA (by rfl) ?_;refine zq tb AA (AF ⟨AA,?_⟩);exact Au (AJ AA) (BH (by kernel_rfl) ((hA _ _ _).1 xP)) rfl)
   have A_04:A 6 (bm 8 17) ⟨21,Aa [(4,Mw),(5,Oh),(7,i64 i),(8,.ptr 6 0 0 0),(13,.agg (Sd x)),(17,.agg (RL y))],Qi y p2 p0 x⟩:=(hA _ _ _).2 (by
    refine CK [1,2] AA (by kernel_rfl) (by decide) ⟨?_,?_,lU⟩
    ·refine En.of (i:=1) rfl AA (by rfl) ?_;refine zq tb AA (AF ⟨AA,?_⟩);exact Au (AJ AA) (BH (by kernel_rfl) ((hA _ _ _).1 xO)) rfl
    ·refine En.of (i:=2) rfl AA (by rfl) ?_;refine zq tb AA (AF ⟨AA,?_⟩);exact Au (AJ AA) (BH (by kernel_rfl) ((hA _ _ _).1 xP)) rfl)
   have xK:A 6 (bm 8 6) ⟨21,Aa [(4,Mw),(5,Oh),(7,i64 i),(8,.ptr 6 0 0 0),(14,i64 p2),(15,i64 i)],Qi y p2 p0 x⟩:=(hA _ _ _).2 (by
    refine CK [0,4] AA (by kernel_rfl) (by decide) ⟨?_,?_,lU⟩
    ·refine En.of (i:=0) rfl AA (by rfl) ?_;refine zq tb AA (AF ⟨AA,?_⟩);exact Au (AJ AA) (BH (by kernel_rfl) ((hA _ _ _).1 xN)) rfl
    ·refine En.of (i:=4) rfl AA (by rfl) ?_;refine zq tb AA (AF ⟨AA,?_⟩);exact Au (AJ AA) (BH (by kernel_rfl) ((hA _ _ _).1 xQ)) rfl)
   have A_14:A 6 (bm 8 18) ⟨21,Aa [(4,Mw),(5,Oh),(7,i64 i),(8,.ptr 6 0 0 0),(14,i64 p2),(17,.agg (RL y))],Qi y p2 p0 x⟩:=(hA _ _ _).2 (by
    refine CK [0,2] AA (by kernel_rfl) (by decide) ⟨?_,?_,lU⟩
    ·refine En.of (i:=0) rfl AA (by rfl) ?_;refine zq tb AA (AF ⟨AA,?_⟩);exact Au (AJ AA) (BH (by kernel_rfl) ((hA _ _ _).1 xO)) rfl
    ·refine En.of (i:=2) rfl AA (by rfl) ?_;refine zq tb AA (AF ⟨AA,?_⟩);exact Au (AJ AA) (BH (by kernel_rfl) ((hA _ _ _).1 xQ)) rfl)
   have A_24:A 6 (bm 8 20) ⟨21,Aa [(4,Mw),(5,Oh),(7,i64 i),(8,.ptr 6 0 0 0),(15,i64 i),(17,.agg (RL y))],Qi y p2 p0 x⟩:=(hA _ _ _).2 (by
    refine CK [0,1] AA (by kernel_rfl) (by decide) ⟨?_,?_,lU⟩
    ·refine En.of (i:=0) rfl AA (by rfl) ?_;refine zq tb AA (AF ⟨AA,?_⟩);exact Au (AJ AA) (BH (by kernel_rfl) ((hA _ _ _).1 xP)) rfl
    ·refine En.of (i:=1) rfl AA (by rfl) ?_;refine zq tb AA (AF ⟨AA,?_⟩);exact Au (AJ AA) (BH (by kernel_rfl) ((hA _ _ _).1 xQ)) rfl)
   have A_0:A 7 (bm 8 1) ⟨21,Aa [(4,Mw),(5,Oh),(7,i64 i),(8,.ptr 6 0 0 0),(13,.agg (Sd x))],Qi y p2 p0 x⟩:=(hA _ _ _).2 (by
    refine CK [1,2,4] AA (by kernel_rfl) (by decide) ⟨?_,?_,?_,lU⟩
    ·refine En.of (i:=1) rfl AA (by rfl) ?_;refine zq tb AA (AF ⟨AA,?_⟩);exact Au (AJ AA) (BH (by kernel_rfl) ((hA _ _ _).1 yN)) rfl
    ·refine En.of (i:=2) rfl AA (by rfl) ?_;refine zq tb AA (AF ⟨AA,?_⟩);exact Au (AJ AA) (BH (by kernel_rfl) ((hA _ _ _).1 yM)) rfl
    ·refine En.of (i:=4) rfl AA (by rfl) ?_;refine zq tb AA (AF ⟨AA,?_⟩);exact Au (AJ AA) (BH (by kernel_rfl) ((hA _ _ _).1 A_04)) rfl)
   have A_1:A 7 (bm 8 2) ⟨21,Aa [(4,Mw),(5,Oh),(7,i64 i),(8,.ptr 6 0 0 0),(14,i64 p2)],Qi y p2 p0 x⟩:=(hA _ _ _).2 (by
    refine CK [0,2,4] AA (by kernel_rfl) (by decide) ⟨?_,?_,?_,lU⟩
    ·refine En.of (i:=0) rfl AA (by rfl) ?_;refine zq tb AA (AF ⟨AA,?_⟩);exact Au (AJ AA) (BH (by kernel_rfl) ((hA _ _ _).1 yN)) rfl
    ·refine En.of (i:=2) rfl AA (by rfl) ?_;refine zq tb AA (AF ⟨AA,?_⟩);exact Au (AJ AA) (BH (by kernel_rfl) ((hA _ _ _).1 xK)) rfl
    ·refine En.of (i:=4) rfl AA (by rfl) ?_;refine zq tb AA (AF ⟨AA,?_⟩);exact Au (AJ AA) (BH (by kernel_rfl) ((hA _ _ _).1 A_14)) rfl)
   have A_2:A 7 (bm 8 4) ⟨21,Aa [(4,Mw),(5,Oh),(7,i64 i),(8,.ptr 6 0 0 0),(15,i64 i)],Qi y p2 p0 x⟩:=(hA _ _ _).2 (by
    refine CK [0,1,4] AA (by kernel_rfl) (by decide) ⟨?_,?_,?_,lU⟩
    ·refine En.of (i:=0) rfl AA (by rfl) ?_;refine zq tb AA (AF ⟨AA,?_⟩);exact Au (AJ AA) (BH (by kernel_rfl) ((hA _ _ _).1 yM)) rfl
    ·refine En.of (i:=1) rfl AA (by rfl) ?_;refine zq tb AA (AF ⟨AA,?_⟩);exact Au (AJ AA) (BH (by kernel_rfl) ((hA _ _ _).1 xK)) rfl
    ·refine En.of (i:=4) rfl AA (by rfl) ?_;refine zq tb AA (AF ⟨AA,?_⟩);exact Au (AJ AA) (BH (by kernel_rfl) ((hA _ _ _).1 A_24)) rfl)
   have A_4:A 7 (bm 8 16) ⟨21,Aa [(4,Mw),(5,Oh),(7,i64 i),(8,.ptr 6 0 0 0),(17,.agg (RL y))],Qi y p2 p0 x⟩:=(hA _ _ _).2 (by
    refine CK [0,1,2] AA (by kernel_rfl) (by decide) ⟨?_,?_,?_,lU⟩
    ·refine En.of (i:=0) rfl AA (by rfl) ?_;refine zq tb AA (AF ⟨AA,?_⟩);exact Au (AJ AA) (BH (by kernel_rfl) ((hA _ _ _).1 A_04)) rfl
    ·refine En.of (i:=1) rfl AA (by rfl) ?_;refine zq tb AA (AF ⟨AA,?_⟩);exact Au (AJ AA) (BH (by kernel_rfl) ((hA _ _ _).1 A_14)) rfl
    ·refine En.of (i:=2) rfl AA (by rfl) ?_;refine zq tb AA (AF ⟨AA,?_⟩);exact Au (AJ AA) (BH (by kernel_rfl) ((hA _ _ _).1 A_24)) rfl)
   have A_e:A 8 (bm 8 0) ⟨21,Aa [(4,Mw),(5,Oh),(7,i64 i),(8,.ptr 6 0 0 0)],Qi y p2 p0 x⟩:=(hA _ _ _).2 (by
    refine CK [0,1,2,4] AA (by kernel_rfl) (by decide) ⟨?_,?_,?_,?_,lU⟩
    ·refine En.of (i:=0) rfl AA (by rfl) ?_;refine zq tb AA (AF ⟨AA,?_⟩);exact Au (AJ AA) (BH (by kernel_rfl) ((hA _ _ _).1 A_0)) rfl
    ·refine En.of (i:=1) rfl AA (by rfl) ?_;refine zq tb AA (AF ⟨AA,?_⟩);exact Au (AJ AA) (BH (by kernel_rfl) ((hA _ _ _).1 A_1)) rfl
    ·refine En.of (i:=2) rfl AA (by rfl) ?_;refine zq tb AA (AF ⟨AA,?_⟩);exact Au (AJ AA) (BH (by kernel_rfl) ((hA _ _ _).1 A_2)) rfl
    ·refine En.of (i:=4) rfl AA (by rfl) ?_;refine zq tb AA (AF ⟨AA,?_⟩);exact Au (AJ AA) (BH (by kernel_rfl) ((hA _ _ _).1 A_4)) rfl)
   exact A_e
 · have hS0:S 0=[⟨1,35,3,[]⟩,⟨0,35,3,[[i64 r.op,i64 r.num,ow 5 0 r.kids]]⟩,⟨0,3,1,[[i64 p2]]⟩,⟨0,35,3,[[i64 0,i64 0,.zc]]⟩,⟨0,33,1,[[ls Ar p0]]⟩,ro 0 35 3 (BS 35) r.kids]:=by rw[hS,ye]
   rw[hS0];refine Sr.seq λK4 hK4=>Sr.eZ AA AA AA (zq tb AA (Am AI BE AA AA AA AA AA AA pj rfl (AF (hK4 _ ?_))));exact Sr.ret (Exists.intro _ (And.intro (Bq (L:=[(6,Oh)]) (st':=[Nl,W7 r,⟨0,35,3,[bN r]⟩]) (st1:=[Nl,W7 r,⟨0,35,3,[RL r]⟩]) [0,5,3] AA (.pure (by intro x hx;cases hx) .nil) (by decide) rfl AA (.pure (by intro x hx;cases hx) (.deep (Ah Al) (.raw AA AA .nil))) ⟨.rfl,lU⟩) (As (x:=.tmp 6) (off:=0) (cs:=(bN r)) (vs:=(bN r)) BE AA AA AA pj rfl _ ⟨AA,AA⟩)))
end
end Go.Proofs.YtihdgoiebmfapaaGreat.La
