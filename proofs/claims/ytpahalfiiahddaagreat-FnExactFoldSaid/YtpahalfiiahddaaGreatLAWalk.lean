/- impl.letAll,by hand: rows that own all. -/
import Derived.Test.YtpahalfiiahddaaGreatProg
import Derived.Test.YtpahalfiiahddaaGreatGHADefsToFODefs
import Derived.Test.YtpahalfiiahddaaGreatAbsQ
import Derived.Test.YtpahalfiiahddaaGreatAbsRI
import Derived.Test.YtpahalfiiahddaaGreatBWK
import Derived.Test.YtpahalfiiahddaaGreatSufF
import Derived.Test.YtpahalfiiahddaaGreatGAbsXToSSDefs

namespace Go.Proofs.YtpahalfiiahddaaGreat.La
open Go Go.Abs RC
attribute [local irreducible] Go.Abs.C3
set_option maxRecDepth 100000
noncomputable abbrev P7 (z0:AG):=([(i64 z0.op),(i64 z0.num),(ls BS z0.kids)]:List AV)
noncomputable abbrev Oo (z0:AG):=([(i64 z0.op),(i64 z0.num),(ow 5 0 z0.kids)]:List AV)
noncomputable abbrev LC:=(⟨1,44,3,[]⟩:Row)
noncomputable abbrev Uu:=(⟨0,44,3,[[(i64 0),(i64 0),.zc]]⟩:Row)
noncomputable abbrev N9 (z0:AG) (z1:_) (z2:_) (z3:AG):=([LC,⟨0,44,3,[[(i64 z0.op),(i64 z0.num),(ow 5 0 z0.kids)]]⟩,⟨0,3,1,[[(i64 z1)]]⟩,Uu,⟨0,42,1,[[(ls BS z2)]]⟩,(ro 0 44 3 (Av 44) z0.kids),⟨0,44,3,[[(i64 z3.op),(i64 z3.num),(ls BS z3.kids)]]⟩]:List Row)
noncomputable abbrev KP:=((.ptr 1 0 0 0):AV)
noncomputable abbrev Tl (z0:AG):=((ro 0 44 3 (Av 44) z0.kids):Row)
noncomputable abbrev MJ:=((.ptr 2 0 0 0):AV)
noncomputable abbrev VN (z0:_):=(⟨0,42,1,[[(ls BS z0)]]⟩:Row)
noncomputable abbrev Wr (z0:AG):=([(i64 z0.op),(i64 z0.num),(ow 1 0 z0.kids)]:List AV)
noncomputable abbrev Nf:=((.ptr 6 0 0 0):AV)
noncomputable abbrev aI (z0:AG):=([(i64 z0.op),(i64 z0.num),(ow 7 0 z0.kids)]:List AV)
noncomputable abbrev Vr (z0:_):=(⟨0,3,1,[[(i64 z0)]]⟩:Row)
set_option maxHeartbeats 4000000

def tb:Kh Tryz.prog where
 t:=[(3,false,1),(42,false,1),(44,true,3)]
 f:=[(44,0,0),(44,1,1),(44,2,2)]
 v:=[]
 b:=[]
 s:=[42]
 ht:=by kernel_rfl
 hf:=by kernel_rfl
 hv:=by kernel_rfl
 hb:=by kernel_rfl
 hs:=by kernel_rfl

theorem RL:HA Tryz.prog 44=true:=by kernel_rfl
theorem RB:IX Tryz.prog 44=some [(0,1),(1,1),(2,1)]:=by kernel_rfl
theorem Bc:CQ Tryz.prog 42=some ⟨44,3,40,[.int .i64 0,.int .i64 0,.sl []]⟩:=by kernel_rfl
theorem Sj:Ao Tryz.prog 41=true:=by kernel_rfl
theorem fR:Ao Tryz.prog 80=true:=by kernel_rfl
theorem IJ:Cr Tryz.prog 3=some (false,1):=by kernel_rfl
theorem UM:Cr Tryz.prog 42=some (false,1):=by kernel_rfl
theorem Bl:Cr Tryz.prog 44=some (true,3):=by kernel_rfl
theorem Fz:G9 Tryz.prog 44=some [.int .i64 0,.int .i64 0,.zc]:=by kernel_rfl

theorem U9 {l:List AG}:Ag Tryz.prog 80 [(ls BS l)] [] (fun v st=>v=(.fn 118 [.ptr 0 0 0 0])∧st=[(VN l)]):=by
 refine ai Tryz.func80 U U U U (sr U fun K1 hK1=>BH (m:=0) Ah U U U U U (zq tb U (dn hK1 U (sr U fun K2 hK2=>zz (.fn 118 [.ptr 0 0 0 0]) (W8 U) rfl (zq tb U (dn hK2 U ?_))))))
 exact AJ ⟨_,FC _ _,U,U⟩

theorem Pc {N:Nat} (hsh :∀{p0:AG} {p1:Int} {p2:Int} {r:AG},FK N p0 p1 p2=some r→Ag Tryz.prog 41 [(.agg (P7 p0)),(i64 p1),(i64 p2)] [] (fun v st=>v=(.agg [(i64 r.op),(i64 r.num),(ow 0 0 r.kids)])∧st=[(Tl r)]))
  {s0 p0:List AG} {p1_0 p1_1 p2:Int} {r:AG} (h0:Ia N s0 p0 p1_0 p1_1 p2=some r):Ag Tryz.prog 40 [(ls BS p0),(.agg [(i64 p1_0),(i64 p1_1),(ow 0 0 s0)]),(i64 p2)] [(ro 0 44 3 (Av 44) s0)] (fun v st=>v=(.agg (Wr r))∧st=[LC,(Tl r)]):=by
 unfold Ia at h0
 by_cases hlen:p0.length≤1048576
 case neg=>rw[if_neg hlen] at h0;cases h0
 rw[if_pos hlen] at h0
 obtain⟨bs,hbl,hb0,hst⟩:=OP _ h0
 refine Ag.wk (r0:=(.agg (Wr r))) (st0:=[LC,(Tl r),⟨0,44,3,[(Wr r)]⟩]) ?_ (Ev (L:=[(0,(.agg (Wr r)))]) (st':=[LC,(Tl r)]) [0,1] U (by decide) rfl U (.pure (by intro x hx;cases hx) (.deep (AL Ac) trivial)) ⟨.rfl,trivial⟩)
 refine Ag.bC Tryz.func40 U U U U ?_
 refine OI (Nb (L:=[(0,(ls BS p0)),(1,(.agg [(i64 p1_0),(i64 p1_1),(ow 1 0 s0)])),(2,(i64 p2))]) (id:=0) (N:=1) (st':=[LC,(ro 0 44 3 (Av 44) s0)]) rfl U ⟨.rfl,.rfl,.rfl,trivial⟩ U) ?_
 refine RI fun K1 hK1=>AK U (BH (m:=2) Ah U U U U U (BH (m:=3) Ah U U U U U (A0 (m:=4) Ah Fz U U (AA (hK1 _ ?_)))))
 refine Mr.fE fun K2 hK2=>RI fun K3 hK3=>AK U (zq tb U (BY (v':=(.fn 118 [.ptr 5 0 0 0])) Ah fR U9 U U ⟨(fun x hx c hc=>by simp at hx;subst hx;simp at hc;subst hc;rfl),trivial⟩ U U (AA (hK3 _ ?_))))
 obtain⟨S,hS⟩ :∃S:Nat→List Row,∀i,S i=[LC,⟨0,44,3,[[(i64 (bs i).op),(i64 (bs i).num),(ow 5 0 (bs i).kids)]]⟩,(Vr p2),Uu,(VN p0),(ro 0 44 3 (Av 44) (bs i).kids)]:=⟨_,fun _=>rfl⟩
 have hSl:S p0.length=[⟨1,44,3,[]⟩,⟨0,44,3,[[(i64 p1_0),(i64 p1_1),(ow 5 0 s0)]]⟩,⟨0,3,1,[[(i64 p2)]]⟩,⟨0,44,3,[[(i64 0),(i64 0),.zc]]⟩,⟨0,42,1,[[(ls BS p0)]]⟩,(ro 0 44 3 (Av 44) s0)]:=by rw[hS,hbl];rfl
 refine OI (s':=⟨21,AP [(4,KP),(5,MJ),(6,(.ptr 3 0 0 0)),(10,(.fn 118 [.ptr 4 0 0 0]))],S p0.length⟩) ?_ ?_
 · rw[hSl]
   exact A4 (st1:=[LC,⟨0,44,3,[[(i64 p1_0),(i64 p1_1),(ow 1 0 s0)]]⟩,(Vr p2),Uu,(VN p0),(ro 0 44 3 (Av 44) s0)]) [0,2,3,4,5,1] U (.pure (by intro x hx;cases hx) .nil) (by decide) rfl U (.pure (by intro x hx;cases hx) (.raw U U (.raw U U (.raw U U (.raw U U (.deep (AL Ac) .nil)))))) ⟨.rfl,.rfl,.rfl,.rfl,trivial⟩
 refine Mr.block (Mr.range (t:=10) (gf:=118) (id:=4) (T:=42) (l:=p0) (enc:=BS) (S:=S) rfl U (enters_of Tryz.func118 (by kernel_rfl) rfl) (fun b=>RZ b p0.length hlen) (fun i=>by rw[hS];rfl) (fun x=>by rw[Ax];rfl) (k':=5) (Nat.le_of_ble_eq_true U) (fun t=>?_) (by decide) (by decide) (fun i x lb hx=>?_) (hK2 _ ?_))
 · simp only[AP]
   repeat' split
   all_goals first | exact trivial | exact (show (1:Nat) < 5 by decide) | exact (show (2:Nat) < 5 by decide) | exact (show (3:Nat) < 5 by decide) | exact (show (4:Nat) < 5 by decide)
 · obtain⟨x',q,e1,e2,e3⟩:=hst i (List.getElem?_eq_some_iff.1 hx).1
   obtain rfl:x=x':=by
     have e4:=(Sh.get_some e1).2.1
     rw[Int.toNat_natCast,hx] at e4;exact Option.some.inj e4
   have hSi:S i=[⟨1,44,3,[]⟩,⟨0,44,3,[[(i64 13),(i64 0),(.own 5 0 2)]]⟩,⟨0,3,1,[[(i64 p2)]]⟩,⟨0,44,3,[[(i64 0),(i64 0),.zc]]⟩,⟨0,42,1,[[(ls BS p0)]]⟩,⟨0,44,3,List.map (Av 44) [q,(bs (i+1))]⟩]:=by rw[hS,e3];rfl
   rw[hS (i+1)]
   generalize bs (i+1)=y at *
   refine OJ (s':=⟨21,AP [(4,(.ptr 1 0 0 0)),(5,(.ptr 2 0 0 0)),(6,(.ptr 3 0 0 0)),(10,(.fn 118 [.ptr 4 0 0 0])),(11,(i64 i)),(12,(.agg [(i64 x.op),(i64 x.num),(ls BS x.kids)]))],_⟩) (by rw[Ax];exact AD U) ?_
   refine LU.seq fun K4 hK4=>NA U U (zq tb U (AA (hK4 _ ?_)))
   refine NA U U (A0 (m:=6) Ah Fz U U (A1 Ah Bl U U U U U U (show 0+3≤3 by decide) rfl (AA ?_)))
   dsimp only[JH]
   refine LU.block ?_
   refine OJ (AD (L:=[(4,KP),(5,MJ),(7,(i64 i)),(8,Nf)]) rfl) ?_
   refine LU.dr (by kernel_rfl) rfl (JP fun A hA=>?_)
   have A_01234567:A 0 (bm 8 255) ⟨21,AP [(4,KP)],[LC,⟨0,44,3,[[(i64 13),(i64 0),(.own 8 0 2)]]⟩,(Vr p2),Uu,(VN p0),LC,⟨0,44,3,[(P7 x)]⟩,LC,⟨0,44,3,List.map (Av 44) [q,y]⟩]⟩:=(hA _ _ _).2 (by
    refine AE (IG (L:=[]) (st':=S i) (st1:=[LC,⟨0,44,3,[[(i64 13),(i64 0),(.own 8 0 2)]]⟩,(Vr p2),Uu,(VN p0),⟨0,44,3,List.map (Av 44) [q,y]⟩]) [0,1,2,3,4,8] U (by decide) rfl U ?_ trivial) (GZ U (by kernel_rfl) ⟨U,U⟩) rfl
    rw[hSi];exact (.pure (by intro x hx;cases hx) (.raw rfl rfl (.raw rfl rfl (.raw rfl rfl (.raw rfl rfl (.deep (AL Ac) .nil)))))))
   have A_0123456:A 1 (bm 8 127) ⟨21,AP [(4,KP),(19,(.agg [(i64 13),(i64 0),(.own 8 0 2)]))],[LC,⟨0,44,3,[(Oo y)]⟩,(Vr p2),Uu,(VN p0),LC,⟨0,44,3,[(P7 x)]⟩,LC,⟨0,44,3,List.map (Av 44) [q,y]⟩]⟩:=(hA _ _ _).2 (by
    refine Ae [7] U (by kernel_rfl) (by decide) ⟨?_,trivial⟩
    ·refine Az.of (i:=7) rfl U (by rfl) ?_
     refine A1 Ah Bl U U U U U U (show 0+3≤3 by decide) rfl (AA ⟨U,?_⟩)
     exact AE (AD U) (AH (by kernel_rfl) ((hA _ _ _).1 A_01234567)) rfl)
   have A_012345:A 2 (bm 8 63) ⟨21,AP [(4,KP),(18,(.own 8 0 2))],[LC,⟨0,44,3,[(Oo y)]⟩,(Vr p2),Uu,(VN p0),LC,⟨0,44,3,[(P7 x)]⟩,LC,⟨0,44,3,List.map (Av 44) [q,y]⟩]⟩:=(hA _ _ _).2 (by
    refine Ae [6] U (by kernel_rfl) (by decide) ⟨?_,trivial⟩
    ·refine Az.of (i:=6) rfl U (by rfl) ?_
     refine zz (.agg [(i64 13),(i64 0),(.own 8 0 2)]) (FG RL RB Fz U U) rfl (AA ⟨U,?_⟩)
     exact AE (AD U) (AH (by kernel_rfl) ((hA _ _ _).1 A_0123456)) rfl)
   have A_01234:A 3 (bm 8 31) ⟨21,AP [(4,KP),(16,(.agg (aI q))),(17,(.agg (Oo y)))],[LC,⟨0,44,3,[(Oo y)]⟩,(Vr p2),Uu,(VN p0),(Tl y),⟨0,44,3,[(P7 x)]⟩,(Tl q)]⟩:=(hA _ _ _).2 (by
    refine Ae [5] U (by kernel_rfl) (by decide) ⟨?_,trivial⟩
    ·refine Az.of (i:=5) rfl U (by rfl) ?_
     refine Cb (m:=8) (l:=[true,false]) (enc:=fun c=>if c then (aI q) else (Oo y)) Ah Bc (by decide) rfl U U U U U ?_
     refine Ak (IP (id:=8) (m:=7) (i:=0) (j:=2) (st':=[⟨1,44,3,[]⟩,⟨0,44,3,[[(i64 y.op),(i64 y.num),(ow 5 0 y.kids)]]⟩,⟨0,3,1,[[(i64 p2)]]⟩,⟨0,44,3,[[(i64 0),(i64 0),.zc]]⟩,⟨0,42,1,[[(ls BS p0)]]⟩,(ro 0 44 3 (Av 44) y.kids),⟨0,44,3,[[(i64 x.op),(i64 x.num),(ls BS x.kids)]]⟩,⟨1,44,3,[]⟩,⟨0,44,3,[[(i64 q.op),(i64 q.num),(.dv 44 3 (q.kids.map (Av 44)))],[(i64 y.op),(i64 y.num),(ow 5 0 y.kids)]]⟩]) rfl U U U (by simp) (by decide) (show 5≤7 by decide) (EY CM) rfl) ?_
     refine Ak (IP (id:=8) (m:=5) (i:=1) (j:=2) (st':=[⟨1,44,3,[]⟩,⟨0,44,3,[[(i64 y.op),(i64 y.num),(ow 5 0 y.kids)]]⟩,⟨0,3,1,[[(i64 p2)]]⟩,⟨0,44,3,[[(i64 0),(i64 0),.zc]]⟩,⟨0,42,1,[[(ls BS p0)]]⟩,⟨1,44,3,[]⟩,⟨0,44,3,[[(i64 x.op),(i64 x.num),(ls BS x.kids)]]⟩,⟨1,44,3,[]⟩,⟨0,44,3,List.map (Av 44) [q,y]⟩]) rfl U U U (by simp) (by decide) (show 5≤5 by decide) (EY CM) (by simp only[List.map,BV];rfl)) (AA ⟨U,?_⟩)
     exact AE (AD U) (AH (by kernel_rfl) ((hA _ _ _).1 A_012345)) rfl)
   have A_0123:A 4 (bm 8 15) ⟨21,AP [(4,KP),(16,(.agg (aI q)))],[LC,⟨0,44,3,[(Oo y)]⟩,(Vr p2),Uu,(VN p0),(Tl y),⟨0,44,3,[(P7 x)]⟩,(Tl q)]⟩:=(hA _ _ _).2 (by
    refine Ae [4] U (by kernel_rfl) (by decide) ⟨?_,trivial⟩
    ·refine Az.of (i:=4) rfl U (by rfl) ?_
     refine zq tb U (AA ⟨U,?_⟩)
     exact AE (AD U) (AH (by kernel_rfl) ((hA _ _ _).1 A_01234)) rfl)
   have A_0124:A 4 (bm 8 23) ⟨21,AP [(4,KP),(5,MJ),(7,(i64 i)),(8,Nf),(13,(.agg (P7 x))),(14,(i64 p2)),(15,(i64 i)),(17,(.agg (Oo y)))],(N9 y p2 p0 x)⟩:=(hA _ _ _).2 (by
    refine Ae [3] U (by kernel_rfl) (by decide) ⟨?_,trivial⟩
    ·refine Az.of (i:=3) rfl U (by rfl) ?_
     refine BY (v':=(.agg (aI q))) Ah Sj (hsh e2) rfl U ⟨(AL Ac),trivial⟩ U U (AA ⟨U,?_⟩)
     exact AE (AD U) (AH (by kernel_rfl) ((hA _ _ _).1 A_01234)) rfl)
   have A_012:A 5 (bm 8 7) ⟨21,AP [(4,KP),(5,MJ),(7,(i64 i)),(8,Nf),(13,(.agg (P7 x))),(14,(i64 p2)),(15,(i64 i))],(N9 y p2 p0 x)⟩:=(hA _ _ _).2 (by
    refine Ae [3,4] U (by kernel_rfl) (by decide) ⟨?_,?_,trivial⟩
    ·refine Az.of (i:=3) rfl U (by rfl) ?_
     refine BY (v':=(.agg (aI q))) Ah Sj (hsh e2) rfl U ⟨(AL Ac),trivial⟩ U U (AA ⟨U,?_⟩)
     exact AE (AD U) (AH (by kernel_rfl) ((hA _ _ _).1 A_0123)) rfl
    ·refine Az.of (i:=4) rfl U (by rfl) ?_
     refine zq tb U (AA ⟨U,?_⟩)
     exact AE (AD U) (AH (by kernel_rfl) ((hA _ _ _).1 A_0124)) rfl)
   have A_014:A 5 (bm 8 19) ⟨21,AP [(4,KP),(5,MJ),(7,(i64 i)),(8,Nf),(13,(.agg (P7 x))),(14,(i64 p2)),(17,(.agg (Oo y)))],(N9 y p2 p0 x)⟩:=(hA _ _ _).2 (by
    refine Ae [2] U (by kernel_rfl) (by decide) ⟨?_,trivial⟩
    ·refine Az.of (i:=2) rfl U (by rfl) ?_
     refine zq tb U (AA ⟨U,?_⟩)
     exact AE (AD U) (AH (by kernel_rfl) ((hA _ _ _).1 A_0124)) rfl)
   have A_024:A 5 (bm 8 21) ⟨21,AP [(4,KP),(5,MJ),(7,(i64 i)),(8,Nf),(13,(.agg (P7 x))),(15,(i64 i)),(17,(.agg (Oo y)))],(N9 y p2 p0 x)⟩:=(hA _ _ _).2 (by
    refine Ae [1] U (by kernel_rfl) (by decide) ⟨?_,trivial⟩
    ·refine Az.of (i:=1) rfl U (by rfl) ?_
     refine zq tb U (AA ⟨U,?_⟩)
     exact AE (AD U) (AH (by kernel_rfl) ((hA _ _ _).1 A_0124)) rfl)
   have A_124:A 5 (bm 8 22) ⟨21,AP [(4,KP),(5,MJ),(7,(i64 i)),(8,Nf),(14,(i64 p2)),(15,(i64 i)),(17,(.agg (Oo y)))],(N9 y p2 p0 x)⟩:=(hA _ _ _).2 (by
    refine Ae [0] U (by kernel_rfl) (by decide) ⟨?_,trivial⟩
    ·refine Az.of (i:=0) rfl U (by rfl) ?_
     refine zq tb U (AA ⟨U,?_⟩)
     exact AE (AD U) (AH (by kernel_rfl) ((hA _ _ _).1 A_0124)) rfl)
   have A_01:A 6 (bm 8 3) ⟨21,AP [(4,KP),(5,MJ),(7,(i64 i)),(8,Nf),(13,(.agg (P7 x))),(14,(i64 p2))],(N9 y p2 p0 x)⟩:=(hA _ _ _).2 (by
    refine Ae [2,4] U (by kernel_rfl) (by decide) ⟨?_,?_,trivial⟩
    ·refine Az.of (i:=2) rfl U (by rfl) ?_
     refine zq tb U (AA ⟨U,?_⟩)
     exact AE (AD U) (AH (by kernel_rfl) ((hA _ _ _).1 A_012)) rfl
    ·refine Az.of (i:=4) rfl U (by rfl) ?_
     refine zq tb U (AA ⟨U,?_⟩)
     exact AE (AD U) (AH (by kernel_rfl) ((hA _ _ _).1 A_014)) rfl)
   have A_02:A 6 (bm 8 5) ⟨21,AP [(4,KP),(5,MJ),(7,(i64 i)),(8,Nf),(13,(.agg (P7 x))),(15,(i64 i))],(N9 y p2 p0 x)⟩:=(hA _ _ _).2 (by
    refine Ae [1,4] U (by kernel_rfl) (by decide) ⟨?_,?_,trivial⟩
    ·refine Az.of (i:=1) rfl U (by rfl) ?_
     refine zq tb U (AA ⟨U,?_⟩)
     exact AE (AD U) (AH (by kernel_rfl) ((hA _ _ _).1 A_012)) rfl
    ·refine Az.of (i:=4) rfl U (by rfl) ?_
     refine zq tb U (AA ⟨U,?_⟩)
     exact AE (AD U) (AH (by kernel_rfl) ((hA _ _ _).1 A_024)) rfl)
   have A_04:A 6 (bm 8 17) ⟨21,AP [(4,KP),(5,MJ),(7,(i64 i)),(8,Nf),(13,(.agg (P7 x))),(17,(.agg (Oo y)))],(N9 y p2 p0 x)⟩:=(hA _ _ _).2 (by
    refine Ae [1,2] U (by kernel_rfl) (by decide) ⟨?_,?_,trivial⟩
    ·refine Az.of (i:=1) rfl U (by rfl) ?_
     refine zq tb U (AA ⟨U,?_⟩)
     exact AE (AD U) (AH (by kernel_rfl) ((hA _ _ _).1 A_014)) rfl
    ·refine Az.of (i:=2) rfl U (by rfl) ?_
     refine zq tb U (AA ⟨U,?_⟩)
     exact AE (AD U) (AH (by kernel_rfl) ((hA _ _ _).1 A_024)) rfl)
   have A_12:A 6 (bm 8 6) ⟨21,AP [(4,KP),(5,MJ),(7,(i64 i)),(8,Nf),(14,(i64 p2)),(15,(i64 i))],(N9 y p2 p0 x)⟩:=(hA _ _ _).2 (by
    refine Ae [0,4] U (by kernel_rfl) (by decide) ⟨?_,?_,trivial⟩
    ·refine Az.of (i:=0) rfl U (by rfl) ?_
     refine zq tb U (AA ⟨U,?_⟩)
     exact AE (AD U) (AH (by kernel_rfl) ((hA _ _ _).1 A_012)) rfl
    ·refine Az.of (i:=4) rfl U (by rfl) ?_
     refine zq tb U (AA ⟨U,?_⟩)
     exact AE (AD U) (AH (by kernel_rfl) ((hA _ _ _).1 A_124)) rfl)
   have A_14:A 6 (bm 8 18) ⟨21,AP [(4,KP),(5,MJ),(7,(i64 i)),(8,Nf),(14,(i64 p2)),(17,(.agg (Oo y)))],(N9 y p2 p0 x)⟩:=(hA _ _ _).2 (by
    refine Ae [0,2] U (by kernel_rfl) (by decide) ⟨?_,?_,trivial⟩
    ·refine Az.of (i:=0) rfl U (by rfl) ?_
     refine zq tb U (AA ⟨U,?_⟩)
     exact AE (AD U) (AH (by kernel_rfl) ((hA _ _ _).1 A_014)) rfl
    ·refine Az.of (i:=2) rfl U (by rfl) ?_
     refine zq tb U (AA ⟨U,?_⟩)
     exact AE (AD U) (AH (by kernel_rfl) ((hA _ _ _).1 A_124)) rfl)
   have A_24:A 6 (bm 8 20) ⟨21,AP [(4,KP),(5,MJ),(7,(i64 i)),(8,Nf),(15,(i64 i)),(17,(.agg (Oo y)))],(N9 y p2 p0 x)⟩:=(hA _ _ _).2 (by
    refine Ae [0,1] U (by kernel_rfl) (by decide) ⟨?_,?_,trivial⟩
    ·refine Az.of (i:=0) rfl U (by rfl) ?_
     refine zq tb U (AA ⟨U,?_⟩)
     exact AE (AD U) (AH (by kernel_rfl) ((hA _ _ _).1 A_024)) rfl
    ·refine Az.of (i:=1) rfl U (by rfl) ?_
     refine zq tb U (AA ⟨U,?_⟩)
     exact AE (AD U) (AH (by kernel_rfl) ((hA _ _ _).1 A_124)) rfl)
   have A_0:A 7 (bm 8 1) ⟨21,AP [(4,KP),(5,MJ),(7,(i64 i)),(8,Nf),(13,(.agg (P7 x)))],(N9 y p2 p0 x)⟩:=(hA _ _ _).2 (by
    refine Ae [1,2,4] U (by kernel_rfl) (by decide) ⟨?_,?_,?_,trivial⟩
    ·refine Az.of (i:=1) rfl U (by rfl) ?_
     refine zq tb U (AA ⟨U,?_⟩)
     exact AE (AD U) (AH (by kernel_rfl) ((hA _ _ _).1 A_01)) rfl
    ·refine Az.of (i:=2) rfl U (by rfl) ?_
     refine zq tb U (AA ⟨U,?_⟩)
     exact AE (AD U) (AH (by kernel_rfl) ((hA _ _ _).1 A_02)) rfl
    ·refine Az.of (i:=4) rfl U (by rfl) ?_
     refine zq tb U (AA ⟨U,?_⟩)
     exact AE (AD U) (AH (by kernel_rfl) ((hA _ _ _).1 A_04)) rfl)
   have A_1:A 7 (bm 8 2) ⟨21,AP [(4,KP),(5,MJ),(7,(i64 i)),(8,Nf),(14,(i64 p2))],(N9 y p2 p0 x)⟩:=(hA _ _ _).2 (by
    refine Ae [0,2,4] U (by kernel_rfl) (by decide) ⟨?_,?_,?_,trivial⟩
    ·refine Az.of (i:=0) rfl U (by rfl) ?_
     refine zq tb U (AA ⟨U,?_⟩)
     exact AE (AD U) (AH (by kernel_rfl) ((hA _ _ _).1 A_01)) rfl
    ·refine Az.of (i:=2) rfl U (by rfl) ?_
     refine zq tb U (AA ⟨U,?_⟩)
     exact AE (AD U) (AH (by kernel_rfl) ((hA _ _ _).1 A_12)) rfl
    ·refine Az.of (i:=4) rfl U (by rfl) ?_
     refine zq tb U (AA ⟨U,?_⟩)
     exact AE (AD U) (AH (by kernel_rfl) ((hA _ _ _).1 A_14)) rfl)
   have A_2:A 7 (bm 8 4) ⟨21,AP [(4,KP),(5,MJ),(7,(i64 i)),(8,Nf),(15,(i64 i))],(N9 y p2 p0 x)⟩:=(hA _ _ _).2 (by
    refine Ae [0,1,4] U (by kernel_rfl) (by decide) ⟨?_,?_,?_,trivial⟩
    ·refine Az.of (i:=0) rfl U (by rfl) ?_
     refine zq tb U (AA ⟨U,?_⟩)
     exact AE (AD U) (AH (by kernel_rfl) ((hA _ _ _).1 A_02)) rfl
    ·refine Az.of (i:=1) rfl U (by rfl) ?_
     refine zq tb U (AA ⟨U,?_⟩)
     exact AE (AD U) (AH (by kernel_rfl) ((hA _ _ _).1 A_12)) rfl
    ·refine Az.of (i:=4) rfl U (by rfl) ?_
     refine zq tb U (AA ⟨U,?_⟩)
     exact AE (AD U) (AH (by kernel_rfl) ((hA _ _ _).1 A_24)) rfl)
   have A_4:A 7 (bm 8 16) ⟨21,AP [(4,KP),(5,MJ),(7,(i64 i)),(8,Nf),(17,(.agg (Oo y)))],(N9 y p2 p0 x)⟩:=(hA _ _ _).2 (by
    refine Ae [0,1,2] U (by kernel_rfl) (by decide) ⟨?_,?_,?_,trivial⟩
    ·refine Az.of (i:=0) rfl U (by rfl) ?_
     refine zq tb U (AA ⟨U,?_⟩)
     exact AE (AD U) (AH (by kernel_rfl) ((hA _ _ _).1 A_04)) rfl
    ·refine Az.of (i:=1) rfl U (by rfl) ?_
     refine zq tb U (AA ⟨U,?_⟩)
     exact AE (AD U) (AH (by kernel_rfl) ((hA _ _ _).1 A_14)) rfl
    ·refine Az.of (i:=2) rfl U (by rfl) ?_
     refine zq tb U (AA ⟨U,?_⟩)
     exact AE (AD U) (AH (by kernel_rfl) ((hA _ _ _).1 A_24)) rfl)
   have A_e:A 8 (bm 8 0) ⟨21,AP [(4,KP),(5,MJ),(7,(i64 i)),(8,Nf)],(N9 y p2 p0 x)⟩:=(hA _ _ _).2 (by
    refine Ae [0,1,2,4] U (by kernel_rfl) (by decide) ⟨?_,?_,?_,?_,trivial⟩
    ·refine Az.of (i:=0) rfl U (by rfl) ?_
     refine zq tb U (AA ⟨U,?_⟩)
     exact AE (AD U) (AH (by kernel_rfl) ((hA _ _ _).1 A_0)) rfl
    ·refine Az.of (i:=1) rfl U (by rfl) ?_
     refine zq tb U (AA ⟨U,?_⟩)
     exact AE (AD U) (AH (by kernel_rfl) ((hA _ _ _).1 A_1)) rfl
    ·refine Az.of (i:=2) rfl U (by rfl) ?_
     refine zq tb U (AA ⟨U,?_⟩)
     exact AE (AD U) (AH (by kernel_rfl) ((hA _ _ _).1 A_2)) rfl
    ·refine Az.of (i:=4) rfl U (by rfl) ?_
     refine zq tb U (AA ⟨U,?_⟩)
     exact AE (AD U) (AH (by kernel_rfl) ((hA _ _ _).1 A_4)) rfl)
   exact A_e
 · have hS0:S 0=[⟨1,44,3,[]⟩,⟨0,44,3,[[(i64 r.op),(i64 r.num),(ow 5 0 r.kids)]]⟩,⟨0,3,1,[[(i64 p2)]]⟩,⟨0,44,3,[[(i64 0),(i64 0),.zc]]⟩,⟨0,42,1,[[(ls BS p0)]]⟩,(ro 0 44 3 (Av 44) r.kids)]:=by rw[hS,hb0]
   rw[hS0]
   refine PA.seq fun K4 hK4=>PA.Zi U U U (zq tb U (A1 Ah Bl U U U U U U (show 0+3≤3 by decide) rfl (AA (hK4 _ ?_))))
   exact PA.ret (Exists.intro _ (And.intro (A4 (L:=[(6,MJ)]) (st':=[LC,(Tl r),⟨0,44,3,[(Wr r)]⟩]) (st1:=[LC,(Tl r),⟨0,44,3,[(Oo r)]⟩]) [0,5,3] U (.pure (by intro x hx;cases hx) .nil) (by decide) rfl U (.pure (by intro x hx;cases hx) (.deep (AL Ac) (.raw U U .nil))) ⟨.rfl,trivial⟩) (BE (x:=.tmp 6) (off:=0) (cs:=(Wr r)) (vs:=(Wr r)) Bl U U U (show 0+3≤3 by decide) rfl _ ⟨U,U⟩)))
end Go.Proofs.YtpahalfiiahddaaGreat.La

