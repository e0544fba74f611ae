/- impl.letAll,by hand: rows that own all. -/
import Derived.Test.YtpahalfiiahddaaGreatProg
import Derived.Test.YtpahalfiiahddaaGreatGHADefsToINDefs
import Derived.Test.YtpahalfiiahddaaGreatAbsQ
import Derived.Test.YtpahalfiiahddaaGreatAbsRI
import Derived.Test.YtpahalfiiahddaaGreatBWK
import Derived.Test.YtpahalfiiahddaaGreatSufF
import Derived.Test.YtpahalfiiahddaaGreatGAbsXToAbsZN

namespace Go.Proofs.YtpahalfiiahddaaGreat.La
open Go Go.Abs RC
attribute [local irreducible] Go.Abs.DF
set_option maxRecDepth 100000
noncomputable abbrev Qd (z0:AD):=([(i64 z0.op),(i64 z0.num),(ls A4 z0.kids)]:List AV)
noncomputable abbrev QA (z0:AD):=([(i64 z0.op),(i64 z0.num),(ow 5 0 z0.kids)]:List AV)
noncomputable abbrev Lk:=(⟨1,44,3,[]⟩:Row)
noncomputable abbrev WX:=(⟨0,44,3,[[(i64 0),(i64 0),.zc]]⟩:Row)
noncomputable abbrev Oi (z0:AD) (z1:_) (z2:_) (z3:AD):=([Lk,⟨0,44,3,[[(i64 z0.op),(i64 z0.num),(ow 5 0 z0.kids)]]⟩,⟨0,3,1,[[(i64 z1)]]⟩,WX,⟨0,42,1,[[(ls A4 z2)]]⟩,(ro 0 44 3 (Au 44) z0.kids),⟨0,44,3,[[(i64 z3.op),(i64 z3.num),(ls A4 z3.kids)]]⟩]:List Row)
noncomputable abbrev Kv:=((.ptr 1 0 0 0):AV)
noncomputable abbrev VH (z0:AD):=((ro 0 44 3 (Au 44) z0.kids):Row)
noncomputable abbrev Mw:=((.ptr 2 0 0 0):AV)
noncomputable abbrev Wd (z0:_):=(⟨0,42,1,[[(ls A4 z0)]]⟩:Row)
noncomputable abbrev YL (z0:AD):=([(i64 z0.op),(i64 z0.num),(ow 1 0 z0.kids)]:List AV)
noncomputable abbrev Nl:=((.ptr 6 0 0 0):AV)
noncomputable abbrev bf (z0:AD):=([(i64 z0.op),(i64 z0.num),(ow 7 0 z0.kids)]:List AV)
noncomputable abbrev Xs (z0:_):=(⟨0,3,1,[[(i64 z0)]]⟩:Row)
set_option maxHeartbeats 4000000

def tb:Kg Tryz.prog where
 t:=[(3,false,1),(42,false,1),(44,true,3)]
 f:=[(44,0,0),(44,1,1),(44,2,2)]
 v:=[]
 b:=[]
 s:=[42]
 ht:=by kernel_rfl
 hf:=by kernel_rfl
 hv:=by kernel_rfl
 hb:=by kernel_rfl
 hs:=by kernel_rfl

theorem Vl:Hl Tryz.prog 44=true:=by kernel_rfl
theorem Vb:Ix Tryz.prog 44=some [(0,1),(1,1),(2,1)]:=by kernel_rfl
theorem Bw:By Tryz.prog 42=some ⟨44,3,40,[.int .i64 0,.int .i64 0,.sl []]⟩:=by kernel_rfl
theorem dc:DI Tryz.prog 41=true:=by kernel_rfl
theorem fG:DI Tryz.prog 80=true:=by kernel_rfl
theorem Ja:Ch Tryz.prog 3=some (false,1):=by kernel_rfl
theorem VZ:Ch Tryz.prog 42=some (false,1):=by kernel_rfl
theorem Cz:Ch Tryz.prog 44=some (true,3):=by kernel_rfl
theorem Hb:HN Tryz.prog 44=some [.int .i64 0,.int .i64 0,.zc]:=by kernel_rfl

theorem We {l:List AD}:Aa Tryz.prog 80 [(ls A4 l)] [] (fun v st=>v=(.fn 118 [.ptr 0 0 0 0])∧st=[(Wd l)]):=by
 refine ai Tryz.func80 U U U U (sr U fun K1 hK1=>A7 (m:=0) Ac U U U U U (zq tb U (dn hK1 U (sr U fun K2 hK2=>zz (.fn 118 [.ptr 0 0 0 0]) (Vz U) rfl (zq tb U (dn hK2 U ?_))))))
 exact AI ⟨_,Wk.refl _ _,U,U⟩

theorem Q1 {N:Nat} (hsh :∀{p0:AD} {p1:Int} {p2:Int} {r:AD},FH N p0 p1 p2=some r→Aa Tryz.prog 41 [(.agg (Qd p0)),(i64 p1),(i64 p2)] [] (fun v st=>v=(.agg [(i64 r.op),(i64 r.num),(ow 0 0 r.kids)])∧st=[(VH r)]))
  {s0 p0:List AD} {p1_0 p1_1 p2:Int} {r:AD} (h0:I5 N s0 p0 p1_0 p1_1 p2=some r):Aa Tryz.prog 40 [(ls A4 p0),(.agg [(i64 p1_0),(i64 p1_1),(ow 0 0 s0)]),(i64 p2)] [(ro 0 44 3 (Au 44) s0)] (fun v st=>v=(.agg (YL r))∧st=[Lk,(VH r)]):=by
 unfold I5 at h0
 by_cases hlen:p0.length≤1048576
 case neg=>rw[if_neg hlen] at h0;cases h0
 rw[if_pos hlen] at h0
 obtain⟨bs,hbl,hb0,hst⟩:=PF _ h0
 refine Aa.wk (r0:=(.agg (YL r))) (st0:=[Lk,(VH r),⟨0,44,3,[(YL r)]⟩]) ?_ (FZ (L:=[(0,(.agg (YL r)))]) (st':=[Lk,(VH r)]) [0,1] U (by decide) rfl U (.pure (by intro x hx;cases hx) (.deep (AR Ag) trivial)) ⟨.rfl,trivial⟩)
 refine Aa.dH Tryz.func40 U U U U ?_
 refine PE (Sb (L:=[(0,(ls A4 p0)),(1,(.agg [(i64 p1_0),(i64 p1_1),(ow 1 0 s0)])),(2,(i64 p2))]) (id:=0) (N:=1) (st':=[Lk,(ro 0 44 3 (Au 44) s0)]) rfl U ⟨.rfl,.rfl,.rfl,trivial⟩ U) ?_
 refine SX fun K1 hK1=>AF U (A7 (m:=2) Ac U U U U U (A7 (m:=3) Ac U U U U U (As (m:=4) Ac Hb U U (AE (hK1 _ ?_)))))
 refine Nk.fK fun K2 hK2=>SX fun K3 hK3=>AF U (zq tb U (BF (v':=(.fn 118 [.ptr 5 0 0 0])) Ac fG We U U ⟨(fun x hx c hc=>by simp at hx;subst hx;simp at hc;subst hc;rfl),trivial⟩ U U (AE (hK3 _ ?_))))
 obtain⟨S,hS⟩ :∃S:Nat→List Row,∀i,S i=[Lk,⟨0,44,3,[[(i64 (bs i).op),(i64 (bs i).num),(ow 5 0 (bs i).kids)]]⟩,(Xs p2),WX,(Wd p0),(ro 0 44 3 (Au 44) (bs i).kids)]:=⟨_,fun _=>rfl⟩
 have hSl:S p0.length=[⟨1,44,3,[]⟩,⟨0,44,3,[[(i64 p1_0),(i64 p1_1),(ow 5 0 s0)]]⟩,⟨0,3,1,[[(i64 p2)]]⟩,⟨0,44,3,[[(i64 0),(i64 0),.zc]]⟩,⟨0,42,1,[[(ls A4 p0)]]⟩,(ro 0 44 3 (Au 44) s0)]:=by rw[hS,hbl];rfl
 refine PE (s':=⟨21,AL [(4,Kv),(5,Mw),(6,(.ptr 3 0 0 0)),(10,(.fn 118 [.ptr 4 0 0 0]))],S p0.length⟩) ?_ ?_
 · rw[hSl]
   exact A5 (st1:=[Lk,⟨0,44,3,[[(i64 p1_0),(i64 p1_1),(ow 1 0 s0)]]⟩,(Xs p2),WX,(Wd p0),(ro 0 44 3 (Au 44) s0)]) [0,2,3,4,5,1] U (.pure (by intro x hx;cases hx) .nil) (by decide) rfl U (.pure (by intro x hx;cases hx) (.raw U U (.raw U U (.raw U U (.raw U U (.deep (AR Ag) .nil)))))) ⟨.rfl,.rfl,.rfl,.rfl,trivial⟩
 refine Nk.block (Nk.range (t:=10) (gf:=118) (id:=4) (T:=42) (l:=p0) (enc:=A4) (S:=S) rfl U (enters_of Tryz.func118 (by kernel_rfl) rfl) (fun b=>Sz b p0.length hlen) (fun i=>by rw[hS];rfl) (fun x=>by rw[Aw];rfl) (k':=5) (Nat.le_of_ble_eq_true U) (fun t=>?_) (by decide) (by decide) (fun i x lb hx=>?_) (hK2 _ ?_))
 · simp only[AL]
   repeat' split
   all_goals first | exact trivial | exact (show (1:Nat) < 5 by decide) | exact (show (2:Nat) < 5 by decide) | exact (show (3:Nat) < 5 by decide) | exact (show (4:Nat) < 5 by decide)
 · obtain⟨x',q,e1,e2,e3⟩:=hst i (List.getElem?_eq_some_iff.1 hx).1
   obtain rfl:x=x':=by
     have e4:=(Sh.get_some e1).2.1
     rw[Int.toNat_natCast,hx] at e4;exact Option.some.inj e4
   have hSi:S i=[⟨1,44,3,[]⟩,⟨0,44,3,[[(i64 13),(i64 0),(.own 5 0 2)]]⟩,⟨0,3,1,[[(i64 p2)]]⟩,⟨0,44,3,[[(i64 0),(i64 0),.zc]]⟩,⟨0,42,1,[[(ls A4 p0)]]⟩,⟨0,44,3,List.map (Au 44) [q,(bs (i+1))]⟩]:=by rw[hS,e3];rfl
   rw[hS (i+1)]
   generalize bs (i+1)=y at *
   refine PI (s':=⟨21,AL [(4,(.ptr 1 0 0 0)),(5,(.ptr 2 0 0 0)),(6,(.ptr 3 0 0 0)),(10,(.fn 118 [.ptr 4 0 0 0])),(11,(i64 i)),(12,(.agg [(i64 x.op),(i64 x.num),(ls A4 x.kids)]))],_⟩) (by rw[Aw];exact AH U) ?_
   refine MF.seq fun K4 hK4=>OG U U (zq tb U (AE (hK4 _ ?_)))
   refine OG U U (As (m:=6) Ac Hb U U (Ay Ac Cz U U U U U U (show 0+3≤3 by decide) rfl (AE ?_)))
   dsimp only[I0]
   refine MF.block ?_
   refine PI (AH (L:=[(4,Kv),(5,Mw),(7,(i64 i)),(8,Nl)]) rfl) ?_
   refine MF.eP (by kernel_rfl) rfl (Jo fun A hA=>?_)
   have A_01234567:A 0 (bm 8 255) ⟨21,AL [(4,Kv)],[Lk,⟨0,44,3,[[(i64 13),(i64 0),(.own 8 0 2)]]⟩,(Xs p2),WX,(Wd p0),Lk,⟨0,44,3,[(Qd x)]⟩,Lk,⟨0,44,3,List.map (Au 44) [q,y]⟩]⟩:=(hA _ _ _).2 (by
    refine An (Im (L:=[]) (st':=S i) (st1:=[Lk,⟨0,44,3,[[(i64 13),(i64 0),(.own 8 0 2)]]⟩,(Xs p2),WX,(Wd p0),⟨0,44,3,List.map (Au 44) [q,y]⟩]) [0,1,2,3,4,8] U (by decide) rfl U ?_ trivial) (G0 U (by kernel_rfl) ⟨U,U⟩) rfl
    rw[hSi];exact (.pure (by intro x hx;cases hx) (.raw rfl rfl (.raw rfl rfl (.raw rfl rfl (.raw rfl rfl (.deep (AR Ag) .nil)))))))
   have A_0123456:A 1 (bm 8 127) ⟨21,AL [(4,Kv),(19,(.agg [(i64 13),(i64 0),(.own 8 0 2)]))],[Lk,⟨0,44,3,[(QA y)]⟩,(Xs p2),WX,(Wd p0),Lk,⟨0,44,3,[(Qd x)]⟩,Lk,⟨0,44,3,List.map (Au 44) [q,y]⟩]⟩:=(hA _ _ _).2 (by
    refine DM [7] U (by kernel_rfl) (by decide) ⟨?_,trivial⟩
    ·refine Da.of (i:=7) rfl U (by rfl) ?_
     refine Ay Ac Cz U U U U U U (show 0+3≤3 by decide) rfl (AE ⟨U,?_⟩)
     exact An (AH U) (Ax (by kernel_rfl) ((hA _ _ _).1 A_01234567)) rfl)
   have A_012345:A 2 (bm 8 63) ⟨21,AL [(4,Kv),(18,(.own 8 0 2))],[Lk,⟨0,44,3,[(QA y)]⟩,(Xs p2),WX,(Wd p0),Lk,⟨0,44,3,[(Qd x)]⟩,Lk,⟨0,44,3,List.map (Au 44) [q,y]⟩]⟩:=(hA _ _ _).2 (by
    refine DM [6] U (by kernel_rfl) (by decide) ⟨?_,trivial⟩
    ·refine Da.of (i:=6) rfl U (by rfl) ?_
     refine zz (.agg [(i64 13),(i64 0),(.own 8 0 2)]) (GA Vl Vb Hb U U) rfl (AE ⟨U,?_⟩)
     exact An (AH U) (Ax (by kernel_rfl) ((hA _ _ _).1 A_0123456)) rfl)
   have A_01234:A 3 (bm 8 31) ⟨21,AL [(4,Kv),(16,(.agg (bf q))),(17,(.agg (QA y)))],[Lk,⟨0,44,3,[(QA y)]⟩,(Xs p2),WX,(Wd p0),(VH y),⟨0,44,3,[(Qd x)]⟩,(VH q)]⟩:=(hA _ _ _).2 (by
    refine DM [5] U (by kernel_rfl) (by decide) ⟨?_,trivial⟩
    ·refine Da.of (i:=5) rfl U (by rfl) ?_
     refine Bu (m:=8) (l:=[true,false]) (enc:=fun c=>if c then (bf q) else (QA y)) Ac Bw (by decide) rfl U U U U U ?_
     refine Af (JS (id:=8) (m:=7) (i:=0) (j:=2) (st':=[⟨1,44,3,[]⟩,⟨0,44,3,[[(i64 y.op),(i64 y.num),(ow 5 0 y.kids)]]⟩,⟨0,3,1,[[(i64 p2)]]⟩,⟨0,44,3,[[(i64 0),(i64 0),.zc]]⟩,⟨0,42,1,[[(ls A4 p0)]]⟩,(ro 0 44 3 (Au 44) y.kids),⟨0,44,3,[[(i64 x.op),(i64 x.num),(ls A4 x.kids)]]⟩,⟨1,44,3,[]⟩,⟨0,44,3,[[(i64 q.op),(i64 q.num),(.dv 44 3 (q.kids.map (Au 44)))],[(i64 y.op),(i64 y.num),(ow 5 0 y.kids)]]⟩]) rfl U U U (by simp) (by decide) (show 5≤7 by decide) (Ev Dz) rfl) ?_
     refine Af (JS (id:=8) (m:=5) (i:=1) (j:=2) (st':=[⟨1,44,3,[]⟩,⟨0,44,3,[[(i64 y.op),(i64 y.num),(ow 5 0 y.kids)]]⟩,⟨0,3,1,[[(i64 p2)]]⟩,⟨0,44,3,[[(i64 0),(i64 0),.zc]]⟩,⟨0,42,1,[[(ls A4 p0)]]⟩,⟨1,44,3,[]⟩,⟨0,44,3,[[(i64 x.op),(i64 x.num),(ls A4 x.kids)]]⟩,⟨1,44,3,[]⟩,⟨0,44,3,List.map (Au 44) [q,y]⟩]) rfl U U U (by simp) (by decide) (show 5≤5 by decide) (Ev Dz) (by simp only[List.map,CX];rfl)) (AE ⟨U,?_⟩)
     exact An (AH U) (Ax (by kernel_rfl) ((hA _ _ _).1 A_012345)) rfl)
   have A_0123:A 4 (bm 8 15) ⟨21,AL [(4,Kv),(16,(.agg (bf q)))],[Lk,⟨0,44,3,[(QA y)]⟩,(Xs p2),WX,(Wd p0),(VH y),⟨0,44,3,[(Qd x)]⟩,(VH q)]⟩:=(hA _ _ _).2 (by
    refine DM [4] U (by kernel_rfl) (by decide) ⟨?_,trivial⟩
    ·refine Da.of (i:=4) rfl U (by rfl) ?_
     refine zq tb U (AE ⟨U,?_⟩)
     exact An (AH U) (Ax (by kernel_rfl) ((hA _ _ _).1 A_01234)) rfl)
   have A_0124:A 4 (bm 8 23) ⟨21,AL [(4,Kv),(5,Mw),(7,(i64 i)),(8,Nl),(13,(.agg (Qd x))),(14,(i64 p2)),(15,(i64 i)),(17,(.agg (QA y)))],(Oi y p2 p0 x)⟩:=(hA _ _ _).2 (by
    refine DM [3] U (by kernel_rfl) (by decide) ⟨?_,trivial⟩
    ·refine Da.of (i:=3) rfl U (by rfl) ?_
     refine BF (v':=(.agg (bf q))) Ac dc (hsh e2) rfl U ⟨(AR Ag),trivial⟩ U U (AE ⟨U,?_⟩)
     exact An (AH U) (Ax (by kernel_rfl) ((hA _ _ _).1 A_01234)) rfl)
   have A_012:A 5 (bm 8 7) ⟨21,AL [(4,Kv),(5,Mw),(7,(i64 i)),(8,Nl),(13,(.agg (Qd x))),(14,(i64 p2)),(15,(i64 i))],(Oi y p2 p0 x)⟩:=(hA _ _ _).2 (by
    refine DM [3,4] U (by kernel_rfl) (by decide) ⟨?_,?_,trivial⟩
    ·refine Da.of (i:=3) rfl U (by rfl) ?_
     refine BF (v':=(.agg (bf q))) Ac dc (hsh e2) rfl U ⟨(AR Ag),trivial⟩ U U (AE ⟨U,?_⟩)
     exact An (AH U) (Ax (by kernel_rfl) ((hA _ _ _).1 A_0123)) rfl
    ·refine Da.of (i:=4) rfl U (by rfl) ?_
     refine zq tb U (AE ⟨U,?_⟩)
     exact An (AH U) (Ax (by kernel_rfl) ((hA _ _ _).1 A_0124)) rfl)
   have A_014:A 5 (bm 8 19) ⟨21,AL [(4,Kv),(5,Mw),(7,(i64 i)),(8,Nl),(13,(.agg (Qd x))),(14,(i64 p2)),(17,(.agg (QA y)))],(Oi y p2 p0 x)⟩:=(hA _ _ _).2 (by
    refine DM [2] U (by kernel_rfl) (by decide) ⟨?_,trivial⟩
    ·refine Da.of (i:=2) rfl U (by rfl) ?_
     refine zq tb U (AE ⟨U,?_⟩)
     exact An (AH U) (Ax (by kernel_rfl) ((hA _ _ _).1 A_0124)) rfl)
   have A_024:A 5 (bm 8 21) ⟨21,AL [(4,Kv),(5,Mw),(7,(i64 i)),(8,Nl),(13,(.agg (Qd x))),(15,(i64 i)),(17,(.agg (QA y)))],(Oi y p2 p0 x)⟩:=(hA _ _ _).2 (by
    refine DM [1] U (by kernel_rfl) (by decide) ⟨?_,trivial⟩
    ·refine Da.of (i:=1) rfl U (by rfl) ?_
     refine zq tb U (AE ⟨U,?_⟩)
     exact An (AH U) (Ax (by kernel_rfl) ((hA _ _ _).1 A_0124)) rfl)
   have A_124:A 5 (bm 8 22) ⟨21,AL [(4,Kv),(5,Mw),(7,(i64 i)),(8,Nl),(14,(i64 p2)),(15,(i64 i)),(17,(.agg (QA y)))],(Oi y p2 p0 x)⟩:=(hA _ _ _).2 (by
    refine DM [0] U (by kernel_rfl) (by decide) ⟨?_,trivial⟩
    ·refine Da.of (i:=0) rfl U (by rfl) ?_
     refine zq tb U (AE ⟨U,?_⟩)
     exact An (AH U) (Ax (by kernel_rfl) ((hA _ _ _).1 A_0124)) rfl)
   have A_01:A 6 (bm 8 3) ⟨21,AL [(4,Kv),(5,Mw),(7,(i64 i)),(8,Nl),(13,(.agg (Qd x))),(14,(i64 p2))],(Oi y p2 p0 x)⟩:=(hA _ _ _).2 (by
    refine DM [2,4] U (by kernel_rfl) (by decide) ⟨?_,?_,trivial⟩
    ·refine Da.of (i:=2) rfl U (by rfl) ?_
     refine zq tb U (AE ⟨U,?_⟩)
     exact An (AH U) (Ax (by kernel_rfl) ((hA _ _ _).1 A_012)) rfl
    ·refine Da.of (i:=4) rfl U (by rfl) ?_
     refine zq tb U (AE ⟨U,?_⟩)
     exact An (AH U) (Ax (by kernel_rfl) ((hA _ _ _).1 A_014)) rfl)
   have A_02:A 6 (bm 8 5) ⟨21,AL [(4,Kv),(5,Mw),(7,(i64 i)),(8,Nl),(13,(.agg (Qd x))),(15,(i64 i))],(Oi y p2 p0 x)⟩:=(hA _ _ _).2 (by
    refine DM [1,4] U (by kernel_rfl) (by decide) ⟨?_,?_,trivial⟩
    ·refine Da.of (i:=1) rfl U (by rfl) ?_
     refine zq tb U (AE ⟨U,?_⟩)
     exact An (AH U) (Ax (by kernel_rfl) ((hA _ _ _).1 A_012)) rfl
    ·refine Da.of (i:=4) rfl U (by rfl) ?_
     refine zq tb U (AE ⟨U,?_⟩)
     exact An (AH U) (Ax (by kernel_rfl) ((hA _ _ _).1 A_024)) rfl)
   have A_04:A 6 (bm 8 17) ⟨21,AL [(4,Kv),(5,Mw),(7,(i64 i)),(8,Nl),(13,(.agg (Qd x))),(17,(.agg (QA y)))],(Oi y p2 p0 x)⟩:=(hA _ _ _).2 (by
    refine DM [1,2] U (by kernel_rfl) (by decide) ⟨?_,?_,trivial⟩
    ·refine Da.of (i:=1) rfl U (by rfl) ?_
     refine zq tb U (AE ⟨U,?_⟩)
     exact An (AH U) (Ax (by kernel_rfl) ((hA _ _ _).1 A_014)) rfl
    ·refine Da.of (i:=2) rfl U (by rfl) ?_
     refine zq tb U (AE ⟨U,?_⟩)
     exact An (AH U) (Ax (by kernel_rfl) ((hA _ _ _).1 A_024)) rfl)
   have A_12:A 6 (bm 8 6) ⟨21,AL [(4,Kv),(5,Mw),(7,(i64 i)),(8,Nl),(14,(i64 p2)),(15,(i64 i))],(Oi y p2 p0 x)⟩:=(hA _ _ _).2 (by
    refine DM [0,4] U (by kernel_rfl) (by decide) ⟨?_,?_,trivial⟩
    ·refine Da.of (i:=0) rfl U (by rfl) ?_
     refine zq tb U (AE ⟨U,?_⟩)
     exact An (AH U) (Ax (by kernel_rfl) ((hA _ _ _).1 A_012)) rfl
    ·refine Da.of (i:=4) rfl U (by rfl) ?_
     refine zq tb U (AE ⟨U,?_⟩)
     exact An (AH U) (Ax (by kernel_rfl) ((hA _ _ _).1 A_124)) rfl)
   have A_14:A 6 (bm 8 18) ⟨21,AL [(4,Kv),(5,Mw),(7,(i64 i)),(8,Nl),(14,(i64 p2)),(17,(.agg (QA y)))],(Oi y p2 p0 x)⟩:=(hA _ _ _).2 (by
    refine DM [0,2] U (by kernel_rfl) (by decide) ⟨?_,?_,trivial⟩
    ·refine Da.of (i:=0) rfl U (by rfl) ?_
     refine zq tb U (AE ⟨U,?_⟩)
     exact An (AH U) (Ax (by kernel_rfl) ((hA _ _ _).1 A_014)) rfl
    ·refine Da.of (i:=2) rfl U (by rfl) ?_
     refine zq tb U (AE ⟨U,?_⟩)
     exact An (AH U) (Ax (by kernel_rfl) ((hA _ _ _).1 A_124)) rfl)
   have A_24:A 6 (bm 8 20) ⟨21,AL [(4,Kv),(5,Mw),(7,(i64 i)),(8,Nl),(15,(i64 i)),(17,(.agg (QA y)))],(Oi y p2 p0 x)⟩:=(hA _ _ _).2 (by
    refine DM [0,1] U (by kernel_rfl) (by decide) ⟨?_,?_,trivial⟩
    ·refine Da.of (i:=0) rfl U (by rfl) ?_
     refine zq tb U (AE ⟨U,?_⟩)
     exact An (AH U) (Ax (by kernel_rfl) ((hA _ _ _).1 A_024)) rfl
    ·refine Da.of (i:=1) rfl U (by rfl) ?_
     refine zq tb U (AE ⟨U,?_⟩)
     exact An (AH U) (Ax (by kernel_rfl) ((hA _ _ _).1 A_124)) rfl)
   have A_0:A 7 (bm 8 1) ⟨21,AL [(4,Kv),(5,Mw),(7,(i64 i)),(8,Nl),(13,(.agg (Qd x)))],(Oi y p2 p0 x)⟩:=(hA _ _ _).2 (by
    refine DM [1,2,4] U (by kernel_rfl) (by decide) ⟨?_,?_,?_,trivial⟩
    ·refine Da.of (i:=1) rfl U (by rfl) ?_
     refine zq tb U (AE ⟨U,?_⟩)
     exact An (AH U) (Ax (by kernel_rfl) ((hA _ _ _).1 A_01)) rfl
    ·refine Da.of (i:=2) rfl U (by rfl) ?_
     refine zq tb U (AE ⟨U,?_⟩)
     exact An (AH U) (Ax (by kernel_rfl) ((hA _ _ _).1 A_02)) rfl
    ·refine Da.of (i:=4) rfl U (by rfl) ?_
     refine zq tb U (AE ⟨U,?_⟩)
     exact An (AH U) (Ax (by kernel_rfl) ((hA _ _ _).1 A_04)) rfl)
   have A_1:A 7 (bm 8 2) ⟨21,AL [(4,Kv),(5,Mw),(7,(i64 i)),(8,Nl),(14,(i64 p2))],(Oi y p2 p0 x)⟩:=(hA _ _ _).2 (by
    refine DM [0,2,4] U (by kernel_rfl) (by decide) ⟨?_,?_,?_,trivial⟩
    ·refine Da.of (i:=0) rfl U (by rfl) ?_
     refine zq tb U (AE ⟨U,?_⟩)
     exact An (AH U) (Ax (by kernel_rfl) ((hA _ _ _).1 A_01)) rfl
    ·refine Da.of (i:=2) rfl U (by rfl) ?_
     refine zq tb U (AE ⟨U,?_⟩)
     exact An (AH U) (Ax (by kernel_rfl) ((hA _ _ _).1 A_12)) rfl
    ·refine Da.of (i:=4) rfl U (by rfl) ?_
     refine zq tb U (AE ⟨U,?_⟩)
     exact An (AH U) (Ax (by kernel_rfl) ((hA _ _ _).1 A_14)) rfl)
   have A_2:A 7 (bm 8 4) ⟨21,AL [(4,Kv),(5,Mw),(7,(i64 i)),(8,Nl),(15,(i64 i))],(Oi y p2 p0 x)⟩:=(hA _ _ _).2 (by
    refine DM [0,1,4] U (by kernel_rfl) (by decide) ⟨?_,?_,?_,trivial⟩
    ·refine Da.of (i:=0) rfl U (by rfl) ?_
     refine zq tb U (AE ⟨U,?_⟩)
     exact An (AH U) (Ax (by kernel_rfl) ((hA _ _ _).1 A_02)) rfl
    ·refine Da.of (i:=1) rfl U (by rfl) ?_
     refine zq tb U (AE ⟨U,?_⟩)
     exact An (AH U) (Ax (by kernel_rfl) ((hA _ _ _).1 A_12)) rfl
    ·refine Da.of (i:=4) rfl U (by rfl) ?_
     refine zq tb U (AE ⟨U,?_⟩)
     exact An (AH U) (Ax (by kernel_rfl) ((hA _ _ _).1 A_24)) rfl)
   have A_4:A 7 (bm 8 16) ⟨21,AL [(4,Kv),(5,Mw),(7,(i64 i)),(8,Nl),(17,(.agg (QA y)))],(Oi y p2 p0 x)⟩:=(hA _ _ _).2 (by
    refine DM [0,1,2] U (by kernel_rfl) (by decide) ⟨?_,?_,?_,trivial⟩
    ·refine Da.of (i:=0) rfl U (by rfl) ?_
     refine zq tb U (AE ⟨U,?_⟩)
     exact An (AH U) (Ax (by kernel_rfl) ((hA _ _ _).1 A_04)) rfl
    ·refine Da.of (i:=1) rfl U (by rfl) ?_
     refine zq tb U (AE ⟨U,?_⟩)
     exact An (AH U) (Ax (by kernel_rfl) ((hA _ _ _).1 A_14)) rfl
    ·refine Da.of (i:=2) rfl U (by rfl) ?_
     refine zq tb U (AE ⟨U,?_⟩)
     exact An (AH U) (Ax (by kernel_rfl) ((hA _ _ _).1 A_24)) rfl)
   have A_e:A 8 (bm 8 0) ⟨21,AL [(4,Kv),(5,Mw),(7,(i64 i)),(8,Nl)],(Oi y p2 p0 x)⟩:=(hA _ _ _).2 (by
    refine DM [0,1,2,4] U (by kernel_rfl) (by decide) ⟨?_,?_,?_,?_,trivial⟩
    ·refine Da.of (i:=0) rfl U (by rfl) ?_
     refine zq tb U (AE ⟨U,?_⟩)
     exact An (AH U) (Ax (by kernel_rfl) ((hA _ _ _).1 A_0)) rfl
    ·refine Da.of (i:=1) rfl U (by rfl) ?_
     refine zq tb U (AE ⟨U,?_⟩)
     exact An (AH U) (Ax (by kernel_rfl) ((hA _ _ _).1 A_1)) rfl
    ·refine Da.of (i:=2) rfl U (by rfl) ?_
     refine zq tb U (AE ⟨U,?_⟩)
     exact An (AH U) (Ax (by kernel_rfl) ((hA _ _ _).1 A_2)) rfl
    ·refine Da.of (i:=4) rfl U (by rfl) ?_
     refine zq tb U (AE ⟨U,?_⟩)
     exact An (AH U) (Ax (by kernel_rfl) ((hA _ _ _).1 A_4)) rfl)
   exact A_e
 · have hS0:S 0=[⟨1,44,3,[]⟩,⟨0,44,3,[[(i64 r.op),(i64 r.num),(ow 5 0 r.kids)]]⟩,⟨0,3,1,[[(i64 p2)]]⟩,⟨0,44,3,[[(i64 0),(i64 0),.zc]]⟩,⟨0,42,1,[[(ls A4 p0)]]⟩,(ro 0 44 3 (Au 44) r.kids)]:=by rw[hS,hb0]
   rw[hS0]
   refine Qv.seq fun K4 hK4=>Qv.cO U U U (zq tb U (Ay Ac Cz U U U U U U (show 0+3≤3 by decide) rfl (AE (hK4 _ ?_))))
   exact Qv.ret (Exists.intro _ (And.intro (A5 (L:=[(6,Mw)]) (st':=[Lk,(VH r),⟨0,44,3,[(YL r)]⟩]) (st1:=[Lk,(VH r),⟨0,44,3,[(QA r)]⟩]) [0,5,3] U (.pure (by intro x hx;cases hx) .nil) (by decide) rfl U (.pure (by intro x hx;cases hx) (.deep (AR Ag) (.raw U U .nil))) ⟨.rfl,trivial⟩) (BM (x:=.tmp 6) (off:=0) (cs:=(YL r)) (vs:=(YL r)) Cz U U U (show 0+3≤3 by decide) rfl _ ⟨U,U⟩)))
end Go.Proofs.YtpahalfiiahddaaGreat.La

