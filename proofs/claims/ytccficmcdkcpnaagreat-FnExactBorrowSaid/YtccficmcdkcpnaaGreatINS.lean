import Derived.Test.YtccficmcdkcpnaaGreatProg
import Derived.Shelf.Spec.SlicesInsertGrow
set_option linter.unusedVariables false
set_option linter.unusedSimpArgs false
set_option linter.all false
namespace Go.Proofs.YtccficmcdkcpnaaGreat
open Go Go.Proofs Go.Shelf Go.RowKit Go.Lib
theorem cI:(Tryz.prog.info? 3).map (λi=>(i.zero,i.size,i.bytes))=some (some (Value.int IntKind.i64 0),1,8):=by kernel_rfl
theorem cL:Tryz.prog.follows .mixedOrders=true:=by kernel_rfl
set_option maxHeartbeats 4000000 in
set_option maxRecDepth 100000 in
theorem bM (b off n c i vb vo m vc:Nat)(cs vs:List Value)(w:World)(hi:i<n)(hm:0<m)(sb:n+m<=c)(hc63:c<=9223372036854775807)(hvb:vb≠b)
  (uL:cs.length=n) (vr:vs.length=m) (tD :∀j v,cs[j]?=some v->w.cell? ⟨b,off+j,none⟩=some v) (zH :∀j,j<n+m->(w.cell? ⟨b,off+j,none⟩).isSome=true) (hfz :∀j,j<n+m->w.frozen? ⟨b,off+j,none⟩=false)
  (wB :∀j v,vs[j]?=some v->w.cell? ⟨vb,vo+j,none⟩=some v) (h1c :∀v∈cs,v.oneCell'=true) (wQ :∀v∈vs,v.oneCell'=true)
  (tA tB:TypeId) (kA kB:Nat) (hsa:w.shape? vb=some (tA,kA)) (hsb:w.shape? b=some (tB,kB)) (hkB:kB≠0) (hfa:w.frozen? ⟨vb,vo,none⟩=false) (hfe:w.frozen? ⟨vb,kA,none⟩=false) :
  Calls Tryz.prog 93 #[.slice (some ⟨b,off,none⟩) n c,.int .i64 i,.slice (some ⟨vb,vo,none⟩) m vc] w λe w'=>
   e=.returned (.slice (some ⟨b,off,none⟩) (n+m) c)/\w'=(w.drew.setCells b (off+(i+m)) (cs.drop i)).setCells b (off+i) vs:=by
 have t0:=Tryz.underlying0;have a0:=Tryz.isAgg0;have z0:=Tryz.sizeOf0;have v0:=Tryz.zeroValue0;have t3:=Tryz.underlying3;have a3:=Tryz.isAgg3;have z3:=Tryz.sizeOf3;have v3:=Tryz.zeroValue3;have t4:=Tryz.underlying4;have a4:=Tryz.isAgg4;have z4:=Tryz.sizeOf4;have v4:=Tryz.zeroValue4;have t45:=Tryz.underlying45;have a45:=Tryz.isAgg45;have z45:=Tryz.sizeOf45;have v45:=Tryz.zeroValue45;have t75:=Tryz.underlying75;have a75:=Tryz.isAgg75;have z75:=Tryz.sizeOf75;have v75:=Tryz.zeroValue75;have u0:=run_underlying Tryz.underlying0;have u3:=run_underlying Tryz.underlying3;have u4:=run_underlying Tryz.underlying4;have u45:=run_underlying Tryz.underlying45;have u75:=run_underlying Tryz.underlying75;have mixed:=cL;have hz1:¬ ((m:Int)=0):=by omega
 have hz2:¬ ((i:Int)=(n:Int)):=by omega
 have ru:(Tryz.prog.info? 3).map (·.size)=some 1:=by
  obtain⟨i0,hi0,h0,h1,h2⟩:=info_parts cI;rw[hi0];simp[h1]
 have hov:∀lb cb,(callFunc 158 #[.slice (some ⟨vb,vo,none⟩) m vc,.slice (some ⟨b,off+(i+m),none⟩) lb cb]).run Tryz.prog w=.ok (.value (.bool false)) w:=λlb cb=>by
  rw[run_callFunc_extern Tryz.func158 (by kernel_rfl) (by kernel_rfl) (by kernel_rfl) (e:=Extern.SlicesOverlaps.overlaps #[45,45] #[4]) (by kernel_rfl),
   Lib.run_overlaps_apart w 45 4 3 Tryz.underlying45 1 Tryz.sizeOf3 ⟨vb,vo,none⟩ ⟨b,off+(i+m),none⟩ m vc lb cb hvb tA tB kA kB hsa hsb hkB hfa hfe]
  rfl
 have hdl:(cs.drop i).length=n-i:=by rw[List.length_drop,uL]
 have xy:IntKind.i64.wrap ((i:Int)+(m:Int))=(i:Int)+(m:Int):=by rw[IntKind.wrap_i64];omega
 have sf:(0:Int)<=(i:Int)+(m:Int):=by omega
 have tE:i<=n:=by omega
 have htn:((i:Int)+(m:Int)).toNat=i+m:=by omega
 have sd:¬ (c=i+m):=by omega
 have hb3:(i:Int)<=(n:Int)+(m:Int):=by omega
 have hb4:¬ (c=i):=by omega
 have hcp1:∀ty dc sc,(Builtin.copy_ #[75,75] ty #[.slice (some ⟨b,off+(i+m),none⟩) (n+m-(i+m)) dc,.slice (some ⟨b,off+i,none⟩) (n+m-i) sc]).run Tryz.prog w.drew=.ok (goInt (cs.drop i).length) (w.drew.setCells b (off+(i+m)) (cs.drop i)):=λty dc sc=>
  run_copy_cells w.drew _ _ ty 3 b (off+(i+m)) (n+m-(i+m)) dc ⟨b,off+i,none⟩ (n+m-i) sc (cs.drop i) Tryz.underlying75 ru (by rw[hdl];simp only[Nat.min_def];split<;>omega)
   (λj v hj=>by rw[Addr.add_lit,Nat.add_assoc];exact tD (i+j) v (by rwa [List.getElem?_drop]at hj))
   (λj hj=>by rw[Nat.add_assoc];exact zH _ (by omega)) (λj hj=>by rw[Nat.add_assoc];exact hfz _ (by omega)) (λv hv=>h1c v (List.mem_of_mem_drop hv))
 obtain⟨W1,hW1⟩ :∃W1,W1=w.drew.setCells b (off+(i+m)) (cs.drop i):=⟨_,rfl⟩
 have hsp1:∀k,k<n+m->(W1.cell? ⟨b,off+k,none⟩).isSome=true:=λk hk=>by
  rw[hW1];exact isSome_setCells b _ _ _ (λj hj=>by rw[Nat.add_assoc];exact zH _ (by omega)) _ (zH k hk)
 have hcp2:∀(W:World),(∀x,W.cell? x=W1.cell? x)->(∀x,W.frozen? x=W1.frozen? x)->∀ty dc,(Builtin.copy_ #[75,45] ty #[.slice (some ⟨b,off+i,none⟩) (n+m-i) dc,.slice (some ⟨vb,vo,none⟩) m vc]).run Tryz.prog W=.ok (goInt vs.length) (W.setCells b (off+i) vs):=λW yZ hWf ty dc=>
  run_copy_cells W _ _ ty 3 b (off+i) (n+m-i) dc ⟨vb,vo,none⟩ m vc vs Tryz.underlying75 ru (by rw[vr];simp only[Nat.min_def];split<;>omega)
   (λj v hj=>by
    rw[Addr.add_lit,yZ,hW1,World.cell?_setCells_out b _ _ _ _ (λh _=>absurd h hvb)];exact wB j v hj)
   (λj hj=>by rw[yZ,Nat.add_assoc];exact hsp1 _ (by omega)) (λj hj=>by rw[hWf,hW1,World.frozen?_setCells,Nat.add_assoc];exact hfz _ (by omega)) wQ
 rw[<- hW1]at hcp1
 go_enter Tryz.func93,Tryz.ntmps93
 go_wp2_with (simp only[hov])
 go_region_law_o (refine step_copy_runI rfl _ _ 75 75 rfl _ _ (by simp[Act.eval,Act.put]) (by simp[Act.eval,Act.put]) (hcp1 _ _ _) ?_)
 go_wp2_with (at_builtin;refine wpList_copy_runI _ rfl _ _ 75 45 rfl _ _ rfl rfl (hcp2 _ (λ_=>rfl) (λ_=>rfl) _ _) ?_)
 go_ret
 first|exact⟨rfl,rfl⟩|exact⟨rfl,by rw[hW1]⟩
set_option maxHeartbeats 4000000 in
set_option maxRecDepth 100000 in
theorem WI (b off n c vb vo m vc:Nat)(vs:List Value)(w:World)(hm:0<m)(sb:n+m<=c)(hc63:c<=9223372036854775807)
  (vr:vs.length=m) (zH :∀j,j<m->(w.cell? ⟨b,off+n+j,none⟩).isSome=true) (hfz :∀j,j<m->w.frozen? ⟨b,off+n+j,none⟩=false)
  (wB :∀j v,vs[j]?=some v->w.cell? ⟨vb,vo+j,none⟩=some v) (wQ :∀v∈vs,v.oneCell'=true) :
  Calls Tryz.prog 93 #[.slice (some ⟨b,off,none⟩) n c,.int .i64 n,.slice (some ⟨vb,vo,none⟩) m vc] w λe w'=>
   e=.returned (.slice (some ⟨b,off,none⟩) (n+m) c)/\w'=w.setCells b (off+n) vs:=by
 have t0:=Tryz.underlying0;have a0:=Tryz.isAgg0;have z0:=Tryz.sizeOf0;have v0:=Tryz.zeroValue0;have t3:=Tryz.underlying3;have a3:=Tryz.isAgg3;have z3:=Tryz.sizeOf3;have v3:=Tryz.zeroValue3;have t4:=Tryz.underlying4;have a4:=Tryz.isAgg4;have z4:=Tryz.sizeOf4;have v4:=Tryz.zeroValue4;have t45:=Tryz.underlying45;have a45:=Tryz.isAgg45;have z45:=Tryz.sizeOf45;have v45:=Tryz.zeroValue45;have t75:=Tryz.underlying75;have a75:=Tryz.isAgg75;have z75:=Tryz.sizeOf75;have v75:=Tryz.zeroValue75;have u0:=run_underlying Tryz.underlying0;have u3:=run_underlying Tryz.underlying3;have u4:=run_underlying Tryz.underlying4;have u45:=run_underlying Tryz.underlying45;have u75:=run_underlying Tryz.underlying75;have mixed:=cL;have hz1:¬ ((m:Int)=0):=by omega
 have wg:Src Tryz.prog 1 45 (.slice (some ⟨vb,vo,none⟩) m vc) m vs w:=Src.ofSlice w Tryz.underlying45 ⟨vb,vo,none⟩ m vc vs (by omega) (λj u hj=>by rw[Addr.add_lit];exact wB j u hj) wQ
 go_enter Tryz.func93,Tryz.ntmps93
 go_wp2_with (at_builtin;refine wpList_append_room1 _ rfl _ _ 75 45 rfl 3 _ _ Tryz.underlying75 cI b off n c rfl _ rfl m vs wg sb (by rw[vr];exact zH) (by rw[vr];exact hfz) ?_)
 go_ret
 exact⟨rfl,rfl⟩
set_option maxHeartbeats 4000000 in
set_option maxRecDepth 100000 in
theorem Qw (base:Option Addr)(n c vb vo m vc:Nat)(cs vs:List Value)(w:World)(hm:0<m)(hnc:n<=c)(sb:c<n+m)(vt:(n+m)*8<=140737488355328)
  (uL:cs.length=n) (vr:vs.length=m) (hnil:base=none->n=0)
  (tD :∀a,base=some a->∀j v,cs[j]?=some v->w.cell? (a.add j)=some v)
  (wB :∀j v,vs[j]?=some v->w.cell? ⟨vb,vo+j,none⟩=some v) (wQ :∀v∈vs,v.oneCell'=true) :
  Calls Tryz.prog 93 #[.slice base n c,.int .i64 n,.slice (some ⟨vb,vo,none⟩) m vc] w λe w'=>
   e=.returned (.slice (some ⟨w.heap.size,0,none⟩) (n+m) (grownCap w (n+m) c 3))/\
   w'=w.drew.alloc (.cells ((cs++vs).toArray++Builtin.zeroCells (Value.int .i64 0).cells (grownCap w (n+m) c 3-(n+m))) 3):=by
 have t0:=Tryz.underlying0;have a0:=Tryz.isAgg0;have z0:=Tryz.sizeOf0;have v0:=Tryz.zeroValue0;have t3:=Tryz.underlying3;have a3:=Tryz.isAgg3;have z3:=Tryz.sizeOf3;have v3:=Tryz.zeroValue3;have t4:=Tryz.underlying4;have a4:=Tryz.isAgg4;have z4:=Tryz.sizeOf4;have v4:=Tryz.zeroValue4;have t45:=Tryz.underlying45;have a45:=Tryz.isAgg45;have z45:=Tryz.sizeOf45;have v45:=Tryz.zeroValue45;have t75:=Tryz.underlying75;have a75:=Tryz.isAgg75;have z75:=Tryz.sizeOf75;have v75:=Tryz.zeroValue75;have u0:=run_underlying Tryz.underlying0;have u3:=run_underlying Tryz.underlying3;have u4:=run_underlying Tryz.underlying4;have u45:=run_underlying Tryz.underlying45;have u75:=run_underlying Tryz.underlying75;have mixed:=cL;obtain⟨i0,hi0,yI,ta,hzb⟩:=info_parts cI;have hz1:¬ ((m:Int)=0):=by omega
 have wg:Src Tryz.prog i0.size 45 (.slice (some ⟨vb,vo,none⟩) m vc) m vs w:=by
  rw[ta];exact Src.ofSlice w Tryz.underlying45 ⟨vb,vo,none⟩ m vc vs (by omega) (λj u hj=>by rw[Addr.add_lit];exact wB j u hj) wQ
 have hold:(Builtin.firstCells i0.size n (.slice base n c)).run Tryz.prog w.drew=.ok cs.toArray w.drew:=by
  rw[ta];cases base with
  | none=>
   have h0:=hnil rfl;subst h0;rw[List.length_eq_zero_iff.1 uL];exact run_firstCells_none w.drew 1 0 0 c
  | some a=>exact run_firstCells_some w.drew 1 n a n c cs (by omega) (λj v hj=>tD a rfl j v hj)
 have rm:∀ty,(Builtin.append_ #[75,45] ty #[.slice base n c,.slice (some ⟨vb,vo,none⟩) m vc]).run Tryz.prog w=_:=λty=>
  run_append_grow_src w 75 45 ty 3 i0 _ Tryz.underlying75 hi0 yI base n c cs hold _ m vs wg sb (by omega) (by rw[hzb];exact growslice_fits sb vt)
 go_enter Tryz.func93,Tryz.ntmps93
 cases base with
 | none=>
  have h0:=hnil rfl;subst h0
  go_wp2_with (at_builtin;refine Lib.wpList_append_run _ rfl _ _ _ _ rfl _ _ rfl rfl _ _ (rm _) ?_)
  go_ret
  exact⟨rfl,rfl⟩
 | some a=>
  obtain⟨ab,ao,asp⟩:=a
  go_wp2_with (at_builtin;refine Lib.wpList_append_run _ rfl _ _ _ _ rfl _ _ rfl rfl _ _ (rm _) ?_)
  all_goals (go_ret;exact⟨rfl,rfl⟩)
set_option maxHeartbeats 4000000 in
set_option maxRecDepth 100000 in
theorem eA (b off n c i vb vo m vc:Nat)(cs vs:List Value)(w:World)(hi:i<n)(hm:0<m)(hnc:n<=c)(sb:c<n+m)(vt:(n+m)*8<=140737488355328)
  (uL:cs.length=n) (vr:vs.length=m)
  (tD :∀j v,cs[j]?=some v->w.cell? ⟨b,off+j,none⟩=some v)
  (wB :∀j v,vs[j]?=some v->w.cell? ⟨vb,vo+j,none⟩=some v) (h1c :∀v∈cs,v.oneCell'=true) (wQ :∀v∈vs,v.oneCell'=true) :
  Calls Tryz.prog 93 #[.slice (some ⟨b,off,none⟩) n c,.int .i64 i,.slice (some ⟨vb,vo,none⟩) m vc] w λe w'=>
   e=.returned (.slice (some ⟨w.heap.size,0,none⟩) (n+m) (grownCap w (n+m) c 3))/\
   w'=(((w.alloc (.cells ((cs.take i).toArray++Builtin.zeroCells (Value.int .i64 0).cells (n+m-i)++Builtin.zeroCells (Value.int .i64 0).cells (grownCap w (n+m) c 3-(n+m))) 3)).drew.setCells w.heap.size i vs).drew).setCells w.heap.size (i+m) (cs.drop i):=by
 have t0:=Tryz.underlying0;have a0:=Tryz.isAgg0;have z0:=Tryz.sizeOf0;have v0:=Tryz.zeroValue0;have t3:=Tryz.underlying3;have a3:=Tryz.isAgg3;have z3:=Tryz.sizeOf3;have v3:=Tryz.zeroValue3;have t4:=Tryz.underlying4;have a4:=Tryz.isAgg4;have z4:=Tryz.sizeOf4;have v4:=Tryz.zeroValue4;have t45:=Tryz.underlying45;have a45:=Tryz.isAgg45;have z45:=Tryz.sizeOf45;have v45:=Tryz.zeroValue45;have t75:=Tryz.underlying75;have a75:=Tryz.isAgg75;have z75:=Tryz.sizeOf75;have v75:=Tryz.zeroValue75;have u0:=run_underlying Tryz.underlying0;have u3:=run_underlying Tryz.underlying3;have u4:=run_underlying Tryz.underlying4;have u45:=run_underlying Tryz.underlying45;have u75:=run_underlying Tryz.underlying75;have mixed:=cL;obtain⟨i0,hi0,yI,ta,hzb⟩:=info_parts cI;have hz1:¬ ((m:Int)=0):=by omega
 have hz2:¬ ((i:Int)=(n:Int)):=by omega
 have hz3:(c:Int)<(n:Int)+(m:Int):=by omega
 have ru:(Tryz.prog.info? 3).map (·.size)=some 1:=by rw[hi0];simp[ta]
 have vw:b<w.heap.size:=block_lt_of_cell (tD 0 _ (List.getElem?_eq_getElem (by omega)));have hvw:vb<w.heap.size:=block_lt_of_cell (wB 0 _ (List.getElem?_eq_getElem (by omega)));have hkk:(n:Int)+(m:Int)-(i:Int)=((n+m-i:Nat):Int):=by omega
 have hik:i+(n+m-i)=n+m:=by omega
 have hold:(Builtin.firstCells i0.size i (.slice (some ⟨b,off,none⟩) i c)).run Tryz.prog w.drew=.ok (cs.take i).toArray w.drew:=by
  rw[ta];exact run_firstCells_some w.drew 1 i ⟨b,off,none⟩ i c (cs.take i) (by rw[List.length_take];omega) (λj v hj=>by
   rw[Addr.add_lit];rw[List.getElem?_take]at hj;split at hj
   ·exact tD j v hj
   ·cases hj)
 have hrz:∀ty,(Builtin.append_ #[75,3] ty #[.slice (some ⟨b,off,none⟩) i c,.int .i64 ((n:Int)+(m:Int)-(i:Int))]).run Tryz.prog w =
   .ok (.slice (some ⟨w.heap.size,0,none⟩) (n+m) (grownCap w (n+m) c 3)) (w.drew.alloc (.cells ((cs.take i).toArray++Builtin.zeroCells (Value.int .i64 0).cells (n+m-i)++Builtin.zeroCells (Value.int .i64 0).cells (grownCap w (n+m) c 3-(n+m))) 3)):=λty=>by
  have h:=Lib.run_append_grow_zeros w 75 3 ty 3 i0 _ .i64 .i64 Tryz.underlying75 Tryz.underlying3 hi0 yI (some ⟨b,off,none⟩) i c (cs.take i) hold (n+m-i) (by omega) (by omega) (by omega) (by omega) (by rw[hzb];omega) (by rw[hzb,hik];exact growslice_fits sb vt);rw[hik]at h;rw[hkk];exact h
 obtain⟨G,hG⟩ :∃G,G=grownCap w (n+m) c 3:=⟨_,rfl⟩
 obtain⟨wC,hROW⟩ :∃wC:Array Value,wC=(cs.take i).toArray++Builtin.zeroCells (Value.int .i64 0).cells (n+m-i)++Builtin.zeroCells (Value.int .i64 0).cells (G-(n+m)):=⟨_,rfl⟩
 rw[<- hG]at hrz⊢;rw[<- hROW]at hrz⊢;have hRl:n+m<=wC.size:=by
  rw[hROW];simp[Builtin.zeroCells,Value.cells];omega
 obtain⟨W1,hW1⟩ :∃W1,W1=w.drew.alloc (.cells wC 3):=⟨_,rfl⟩
 rw[<- hW1]at hrz;have hN:∀j,j<n+m->(W1.cell? ⟨w.heap.size,j,none⟩).isSome=true:=λj hj=>by
  rw[hW1,World.cell?_alloc_at (w:=w.drew) wC _ w.heap.size j rfl,Array.getElem?_eq_getElem (by omega)];rfl
 have hNf:∀j,W1.frozen? ⟨w.heap.size,j,none⟩=false:=λj=>by rw[hW1];exact World.frozen?_alloc_at (w:=w.drew) wC _ w.heap.size j rfl
 have hOb:∀j v,w.cell? ⟨b,j,none⟩=some v->W1.cell? ⟨b,j,none⟩=some v:=λj v h=>by rw[hW1,World.cell?_alloc_past (w:=w.drew) _ b j vw];exact h
 have hOv:∀j v,w.cell? ⟨vb,j,none⟩=some v->W1.cell? ⟨vb,j,none⟩=some v:=λj v h=>by rw[hW1,World.cell?_alloc_past (w:=w.drew) _ vb j hvw];exact h
 have hcpA:∀(W:World),(∀x,W.cell? x=W1.cell? x)->(∀x,W.frozen? x=W1.frozen? x)->∀ty dc,(Builtin.copy_ #[75,45] ty #[.slice (some ⟨w.heap.size,i,none⟩) (n+m-i) dc,.slice (some ⟨vb,vo,none⟩) m vc]).run Tryz.prog W=.ok (goInt vs.length) (W.setCells w.heap.size i vs):=λW yZ hWf ty dc=>
  run_copy_cells W _ _ ty 3 w.heap.size i (n+m-i) dc ⟨vb,vo,none⟩ m vc vs Tryz.underlying75 ru (by rw[vr];simp only[Nat.min_def];split<;>omega)
   (λj v hj=>by rw[Addr.add_lit,yZ];exact hOv _ v (wB j v hj))
   (λj hj=>by rw[yZ];exact hN _ (by omega)) (λj hj=>by rw[hWf];exact hNf _) wQ
 have hGn:n+m<=G:=by rw[hG];exact grownCap_ge w _ _ _
 have hG63:G<=9223372036854775807:=by
  have:=grownCap_le_maxLen w (n+m) c 3 (by unfold maxLen;omega);rw[<- hG]at this;unfold maxLen at this;omega
 have hGi:¬ (G=i):=by omega
 have hGim:¬ (G=i+m):=by omega
 have hci:¬ (c=i):=by omega
 have hbN:b≠w.heap.size:=by omega
 have hdl:(cs.drop i).length=n-i:=by rw[List.length_drop,uL]
 have hcpB:∀(W:World),(∀x,W.cell? x=(W1.setCells w.heap.size i vs).cell? x)->(∀x,W.frozen? x=(W1.setCells w.heap.size i vs).frozen? x)->∀ty dc sc,(Builtin.copy_ #[75,75] ty #[.slice (some ⟨w.heap.size,i+m,none⟩) (n+m-(i+m)) dc,.slice (some ⟨b,off+i,none⟩) (n-i) sc]).run Tryz.prog W=.ok (goInt (cs.drop i).length) (W.setCells w.heap.size (i+m) (cs.drop i)):=λW yZ hWf ty dc sc=>
  run_copy_cells W _ _ ty 3 w.heap.size (i+m) (n+m-(i+m)) dc ⟨b,off+i,none⟩ (n-i) sc (cs.drop i) Tryz.underlying75 ru (by rw[hdl];simp only[Nat.min_def];split<;>omega)
   (λj v hj=>by
    rw[Addr.add_lit,yZ,World.cell?_setCells_out _ _ _ _ _ (λh _=>absurd h hbN),Nat.add_assoc];exact hOb _ v (tD (i+j) v (by rwa [List.getElem?_drop]at hj)))
   (λj hj=>by rw[yZ];exact isSome_setCells _ _ _ _ (λt ht=>hN _ (by omega)) _ (hN _ (by omega)))
   (λj hj=>by rw[hWf,World.frozen?_setCells];exact hNf _) (λv hv=>h1c v (List.mem_of_mem_drop hv))
 subst hW1;have yL:∀x,((w.alloc (.cells wC 3)).drew).cell? x=(w.drew.alloc (.cells wC 3)).cell? x:=λx=>rfl;have xb:∀x,((w.alloc (.cells wC 3)).drew).frozen? x=(w.drew.alloc (.cells wC 3)).frozen? x:=λx=>rfl;have vZ:∀x,(((w.alloc (.cells wC 3)).drew.setCells w.heap.size i vs).drew).cell? x=((w.drew.alloc (.cells wC 3)).setCells w.heap.size i vs).cell? x:=λx=>rfl;have hF2:∀x,(((w.alloc (.cells wC 3)).drew.setCells w.heap.size i vs).drew).frozen? x=((w.drew.alloc (.cells wC 3)).setCells w.heap.size i vs).frozen? x:=λx=>rfl;have xy:IntKind.i64.wrap ((i:Int)+(m:Int))=(i:Int)+(m:Int):=by rw[IntKind.wrap_i64];omega
 have sf:(0:Int)<=(i:Int)+(m:Int):=by omega
 have tE:i<=n:=by omega
 have htn:((i:Int)+(m:Int)).toNat=i+m:=by omega
 have hb3:(i:Int)<=(n:Int):=by omega
 clear hkk hik hold hROW hG hRl
 go_enter Tryz.func93,Tryz.ntmps93
 go_wp2_with (first
  | (at_builtin;refine Lib.wpList_append_run _ rfl _ _ _ _ rfl _ _ rfl rfl _ _ (hrz _) ?_)
  | (at_builtin;refine wpList_copy_runI _ rfl _ _ 75 45 rfl _ _ rfl rfl (hcpA _ yL xb _ _) ?_)
  | (at_builtin;refine wpList_copy_runI _ rfl _ _ 75 75 rfl _ _ rfl rfl (hcpB _ (λ_=>rfl) (λ_=>rfl) _ _ _) ?_))
 go_region_law_o (refine step_copy_runI rfl _ _ 75 75 rfl (.slice (some ⟨w.heap.size,i+m,none⟩) (n+m-(i+m)) (G-(i+m))) (.slice (some ⟨b,off+i,none⟩) (n-i) (c-i)) (by simp[Act.eval,Act.put]) (by simp[Act.eval,Act.put]) (hcpB _ vZ hF2 3 (G-(i+m)) (c-i)) ?_)
 go_wp2
 go_ret
 exact⟨rfl,rfl⟩
end Go.Proofs.YtccficmcdkcpnaaGreat
