import Derived.Test.YtgiajkaabnbieaaGreatCTWalkP0
set_option linter.all false
namespace Go.Proofs.YtgiajkaabnbieaaGreat
open Go Go.Abs RC
attribute [local irreducible] Go.Abs.Di
set_option maxRecDepth 100000
set_option maxHeartbeats 4000000
theorem Xg:Hu Tryz.prog 30=true:=by kernel_rfl
theorem jO:Hu Tryz.prog 45=true:=by kernel_rfl
theorem UP:Hu Tryz.prog 52=true:=by kernel_rfl
theorem fM:Hu Tryz.prog 54=true:=by kernel_rfl
theorem lJ:Hu Tryz.prog 87=true:=by kernel_rfl
theorem fP:Hu Tryz.prog 97=true:=by kernel_rfl
theorem Xm:Jo Tryz.prog 30=some [(0,1),(1,1)]:=by kernel_rfl
theorem jY:Jo Tryz.prog 45=some [(0,1),(1,1)]:=by kernel_rfl
theorem US:Jo Tryz.prog 52=some [(0,1),(1,1)]:=by kernel_rfl
theorem fB:Jo Tryz.prog 54=some [(0,1),(1,1),(2,1),(3,2)]:=by kernel_rfl
theorem lE:Jo Tryz.prog 87=some [(0,1),(1,1),(2,1)]:=by kernel_rfl
theorem fc:Jo Tryz.prog 97=some [(0,1),(1,1),(2,1),(3,1),(4,1)]:=by kernel_rfl
theorem RL:Cj Tryz.prog 43=some ⟨87,3,56,[.sl [],.sl [],.int .i64 0]⟩:=by kernel_rfl
theorem ic:Hm Tryz.prog 97 4=some 4:=by kernel_rfl
theorem Za:CY Tryz.prog 43=true:=by kernel_rfl
theorem lL:DS Tryz.prog 43=some (false,1):=by kernel_rfl
theorem S5:DS Tryz.prog 45=some (true,2):=by kernel_rfl
theorem lP:DS Tryz.prog 87=some (true,3):=by kernel_rfl
theorem lq:H0 Tryz.prog 3=some [.int .i64 0]:=by kernel_rfl
theorem XS:H0 Tryz.prog 45=some [.zc,.zc]:=by kernel_rfl
theorem jP:H0 Tryz.prog 87=some [.zc,.zc,.int .i64 0]:=by kernel_rfl
theorem Mg {N:Nat}{p0:AT}{p1:(List Int)}{p2:Step}{r:Int}(h0:Gw N p0 p1 p2=some r):AS Tryz.prog 123 (ax p0 p1 p2) [] (λv st=>v=(i64 r)/\st=[]):=by
 unfold Gw at h0;refine ai Tryz.func123 AA AA AA AA (sr AA λK1 S=>Aw (m:=0) AR AA AA AA AA AA (Aw (m:=1) AR AA AA AA AA AA (zq tb AA (dn S AA (sr AA λK2 T=>zm tb 4 AA (bs h0 λh U h0=>BE (v':=(ow 2 0 h)) AR (hb 128) (MU U) rfl AA ⟨(Ay λ_=>AA),mD⟩ AA AA (zq tb AA (dn T AA ?_))))))));refine sr AA λK4 V=>zq tb AA (zz (Eu h) (D0 F8 AA AA AA) rfl (zq tb AA (dn V AA (AD λK5 W=>bs h0 λo7 b h0=>?_))));have M7:∀(a:Int),o7=a->∀s,Wk 0 s ⟨71,AN (Gc p1 (Ul h a [])),Qw p0 p2 [BQ h]⟩->K5 s:=by
  intro a R s l;subst o7;try dsimp only at h0
  refine W _ (AJ l (AD λK8 X=>AD λK9 Y=>bs h0 λz b h0=>?_));have A:∀(q:Bool),z=q->∀s,Wk 0 s ⟨71,AN (Gc p1 (Ul h a [(31,.bool q)])),Qw p0 p2 [BQ h]⟩->K9 s:=by
   intro q R s l;subst z;try dsimp only at h0
   refine Y _ (AJ l ?_);refine ci h0 AA ?_ ?_<;>clear h0<;>intro b5 h0
   ·refine zr tb AA AA ?_;obtain rfl:=Sh.AB h0;exact rd [(6,i64 (-1))]
   ·refine AG (X _ (zr tb AA AA (AD λZ B=>zr tb AA AA ?_)));obtain⟨t,b,h0⟩:=Sh.Av h0;have b0:∀(o:Int),t=Sum.inr o->∀s,Wk 0 s ⟨71,AN [(9,i64 o)],[]⟩->Z s:=by
     intro o R s l;subst t;try dsimp only at h0
     refine B _ (AJ l (zr tb AA AA ?_));obtain rfl:=Sh.AB h0;exact rt [(6,i64 o)]
    refine AL (Af (σ:=Int×Int) (λn v=>E7 N a p0 p1 p2 h n v.1 v.2=some t) (λ(i,j)=>⟨71,AN [(1,ls eI p1),(3,.ptr 0 0 0 0),(5,.ptr 1 0 0 0),(7,ow 2 0 h),(8,i64 a),(9,i64 i),(10,i64 j)],[Kc p0.decls p0.AH,Vd p2.op p2.num p2.BB p2.args p2.kids,ro 0 3 1 eI h]⟩) N (0,0) b (AI AA) (λ_ hv=>by rw[E7]at hv;cases hv) ?_);rintro n ⟨i,j⟩ b;try dsimp only at b⊢
    rw[E7]at b;refine AD λb6 C=>zr tb AA AA ?_;refine ci b AA ?_ ?_<;>clear b<;>intro b7 b
    ·refine AG (C _ (AD λb8 D=>AL (zr tb AA AA (AD λb1 E=>bs b λF e b=>?_))));have G:∀(d:(List Int)),F=d->∀s,Wk 0 s ⟨71,AN (Gc p1 (Ul h a [(9,i64 i),(10,i64 j),(11,Fs d)])),Qw p0 p2 [BQ h]⟩->b1 s:=by
      intro d R s l;subst F;try dsimp only at b
      refine E _ (AJ l (AD λb9 H=>?_));refine CT (by kernel_rfl) (by kernel_rfl) (by rfl) ?_;iterate 5 refine yq tb rfl ?_
      refine bs b λc0 I b=>yx JF I AA AA AA (yq tb AA (bs b λk J b=>CI (v:=(i64 k)) AR (hb 71) (NT J) rfl AA AA (yq tb AA (BO (H _ (AD λc1 K=>AD λb2 M=>bs b λO e b=>?_))))));have u:∀(x:Bool),O=x->∀s,Wk 0 s ⟨71,AN (Gc p1 (Ul h a [(10,i64 j),(12,i64 k),(68,.bool x)])),Qw p0 p2 [BQ h]⟩->b2 s:=by
       intro x R s l;subst O;try dsimp only at b
       refine M _ (AJ l ?_);refine ci b AA ?_ ?_<;>clear b<;>intro c2 b
       ·refine zr tb AA AA ?_;obtain rfl:=Sh.AB b;try dsimp only[id]at h0
        obtain rfl:=Sh.AB h0;exact rd [(6,i64 (-1))]
       ·exact AG (K _ (AF AA (zm tb 2 AA (dn D AA (AF AA (zm tb 3 AA (AE (xi (k,Sh.w (j+1)) b (AI AA)))))))))
      refine AF AA (zm tb 3 AA ?_);rcases Sh.AU e with ⟨c,e⟩|⟨c,e⟩
      ·refine zs c AA (zs c AA (zs c AA ?_));iterate 3 refine zn rfl ?_
       exact zs c AA (zt c AA (AE (u true (Sh.AB e).symm _ (AI AA))))
      ·refine zg tb c AA (zg tb c AA (zg tb c AA ?_));rcases Sh.AU e with ⟨g,e⟩|⟨g,e⟩
       ·exact zg tb g AA (zg tb g AA (zg tb g AA (Ap (v:=(.bool (!decide (k=i)))) (BH AA AA c) rfl (Cc AA g AA) (zf c AA (AE (u (!decide (k=i)) (Sh.AB e).symm _ (AI AA)))))))
       ·exact zs g AA (zs g AA (zs g AA (Ap (v:=(.bool false)) (BH AA AA c) rfl (CO AA g AA) (zf c AA (AE (u false (Sh.AB e).symm _ (AI AA)))))))
     refine zr tb AA AA ?_;refine ci e AA ?_ ?_<;>clear e<;>intro c3 e
     ·refine CC 9 (by kernel_rfl) (by kernel_rfl) (by rfl) ?_;iterate 5 refine yq tb rfl ?_
      refine bs e λb3 p e=>yz (.ptr 2 0 (Int.toNat j) 0) (Cb BD AA AA AA AA p) rfl (yz (i64 b3) (DQ Ie AA AA (Ed p) rfl) rfl (bs e λb4 P e=>CI (v:=(ls eI b4)) AR (hb 122) (G8 P) rfl AA AA (bs e λy Q e=>?_)));refine CI (v:=(ls eI y)) AR (hb 130) (AS.wk (HP Q) (by refine Wk.trans (Wk.CQ (L:=[(0,ls eI y)]) (st':=XH) (id:=0) rfl qM (AK λ_=>AA) ⟨.CQ AA,mD⟩ AA) ?_;exact Ab [] AA AA .nil (.same AA))) rfl AA AA ?_;exact BO (zq tb AA (AE (G y (Sh.AB e).symm _ (AI AA))))
     ·exact AG (G p1 (Sh.AB e).symm _ (AI AA))
    ·exact Ah (b0 i (Sh.AB b).symm _ (BF _ AA))
  refine AF AA (zm tb 3 AA ?_);rcases Sh.AU b with ⟨f,b⟩|⟨f,b⟩
  ·refine zs f AA ?_;iterate 4 refine zs f rfl ?_
   exact zt f AA (AE (A true (Sh.AB b).symm _ (AI AA)))
  ·exact zg tb f AA (zg tb f AA (Ap (v:=(Sm p2)) (BH AA AA f) rfl (Br Oi AA) (zg tb f AA (zg tb f AA (zf f AA (AE (A (!decide ((Sh.len p2.kids)=a)) (Sh.AB b).symm _ (AI AA))))))))
 refine zr tb AA AA ?_;refine ci b AA ?_ ?_<;>clear b<;>intro c4 b
 ·exact AF AA (zq tb AA (AE (M7 2 (Sh.AB b).symm _ (AI AA))))
 ·exact AG (M7 (Sh.len h) (Sh.AB b).symm _ (AI AA))
theorem Q7 {N:Nat}{p0:AT}{p1:(List Int)}{p2:Step}{r:Int}(h0:Hz N p0 p1 p2=some r):AS Tryz.prog 75 (ax p0 p1 p2) [] (λv st=>v=(i64 r)/\st=[]):=by
 unfold Hz at h0;refine ai Tryz.func75 AA AA AA AA (sr AA λK1 k4=>Aw (m:=0) AR AA AA AA AA AA (Aw (m:=1) AR AA AA AA AA AA (zq tb AA (dn k4 AA (AD λK2 k5=>AD λK3 k6=>bs h0 λo5 a h0=>?_)))));have I:∀(t4:Bool),o5=t4->∀s,Wk 0 s ⟨183,AN (Gc p1 [(38,.bool t4)]),Qw p0 p2 []⟩->K3 s:=by
  intro t4 hq s E;subst o5;try dsimp only at h0
  refine k6 _ (AJ E ?_);refine ci h0 AA ?_ ?_<;>clear h0<;>intro b6 h0
  ·refine zr tb AA AA ?_;obtain rfl:=Sh.AB h0;exact rd [(6,i64 (-1))]
  ·refine AG (k5 _ (AD λK8 k7=>?_));obtain⟨o9,a,h0⟩:=Sh.Av h0;have J:∀(_:Unit),o9=Sum.inr ()->∀s,Wk 0 s ⟨183,AN [],[]⟩->K8 s:=by
    intro _ hq s E;subst o9;try dsimp only at h0
    refine k7 _ (AJ E (zr tb AA AA ?_));obtain rfl:=Sh.AB h0;exact rt [(6,i64 (-1))]
   refine zr tb AA AA (AL (zr tb AA AA ?_));refine ci a AA ?_ ?_<;>clear a<;>intro q2 a
   ·refine AD λk8 Z=>bs a λb0 b a=>?_;have b1:∀(P:Bool),b0=P->∀s,Wk 0 s ⟨183,AN [(51,.bool P)],[]⟩->k8 s:=by
     intro P hq s E;subst b0;try dsimp only at a
     refine Z _ (AJ E ?_);refine ci a AA ?_ ?_<;>clear a<;>intro q3 a
     ·refine zr tb AA AA ?_;obtain rfl:=Sh.AB a;try dsimp only[id]at h0
      obtain rfl:=Sh.AB h0;exact rt [(6,i64 0)]
     ·exact AG (J () (Sh.AB a).symm _ (AI AA))
    refine AF AA (zm tb 2 AA (zl tb AA AA (zm tb 2 AA ?_)));rcases Sh.AU b with ⟨B,b⟩|⟨B,b⟩
    ·exact zg tb B AA (zg tb B AA (bs b λk9 b2 b=>zd B (hb 117) (Bk b2) rfl AA AA AA (zt B AA (AE (b1 k9 (Sh.AB b).symm _ (BF _ AA))))))
    ·exact zs B AA (zs B AA (zs B AA (zf B AA (AE (b1 false (Sh.AB b).symm _ (BF _ AA))))))
   ·refine AD λl0 b3=>bs a λb4 b a=>?_;have K:∀(Q:Bool),b4=Q->∀s,Wk 0 s ⟨183,AN (Gc p1 [(40,i64 p2.op),(52,.bool Q)]),Qw p0 p2 []⟩->l0 s:=by
     intro Q hq s E;subst b4;try dsimp only at a
     refine b3 _ (AJ E ?_);refine ci a AA ?_ ?_<;>clear a<;>intro q4 a
     ·refine sr AA λq5 b5=>zm tb 3 AA ?_;refine CE (m:=2) (l:=[(0:Int),0]) (enc:=eI) AR BD (by decide) rfl AA AA AA AA AA ?_;refine Aa (Wk.CQ (L:=[(57,ls eI p1),(59,Q2 p2),(60,ls eI [(0:Int),0])]) (st':=(Qw p0 p2 [⟨1,3,1,[]⟩])) (id:=2) rfl qI (AK λ_=>AA) ⟨.rfl,.rfl,.CQ AA,mD⟩ AA) (bs a λq6 b7 a=>zc (hb 120) (DU b7) rfl AA AA (dn b5 AA ?_));refine ci a AA ?_ ?_<;>clear a<;>intro q7 a
      ·refine zr tb AA AA ?_;obtain rfl:=Sh.AB a;try dsimp only[id]at h0
       obtain rfl:=Sh.AB h0;exact rd [(6,i64 0)]
      ·exact AG (J () (Sh.AB a).symm _ (BF _ AA))
     ·refine zr tb AA AA ?_;refine ci a AA ?_ ?_<;>clear a<;>intro q8 a
      ·refine sr AA λq9 b8=>zm tb 3 AA ?_;refine CE (m:=2) (l:=[(0:Int)]) (enc:=eI) AR BD (by decide) rfl AA AA AA AA AA ?_;refine Aa (Wk.CQ (L:=[(64,ls eI p1),(66,Q2 p2),(67,ls eI [(0:Int)])]) (st':=(Qw p0 p2 [⟨1,3,1,[]⟩])) (id:=2) rfl qI (AK λ_=>AA) ⟨.rfl,.rfl,.CQ AA,mD⟩ AA) (bs a λt0 b9 a=>zc (hb 120) (DU b9) rfl AA AA (dn b8 AA ?_));refine ci a AA ?_ ?_<;>clear a<;>intro t1 a
       ·refine zr tb AA AA ?_;obtain rfl:=Sh.AB a;try dsimp only[id]at h0
        obtain rfl:=Sh.AB h0;exact rd [(6,i64 0)]
       ·exact AG (J () (Sh.AB a).symm _ (BF _ AA))
      ·refine zr tb AA AA ?_;refine ci a AA ?_ ?_<;>clear a<;>intro t2 a
       ·refine AD λl1 c0=>bs a λc1 b a=>?_;have c2:∀(R:Bool),c1=R->∀s,Wk 0 s ⟨183,AN [(3,Bm),(5,Dh),(87,.bool R)],Qw p0 p2 []⟩->l1 s:=by
         intro R hq s E;subst c1;try dsimp only at a
         refine c0 _ (AJ E ?_);refine ci a AA ?_ ?_<;>clear a<;>intro t3 a
         ·refine sr AA λt5 c3=>zm tb 4 AA (bs a λl2 c4 a=>zc (hb 121) (IE c4) rfl AA AA (zq tb AA (dn c3 AA ?_)));obtain rfl:=Sh.AB a;try dsimp only[id]at h0
          obtain rfl:=Sh.AB h0;exact rd [(6,i64 l2)]
         ·exact AG (J () (Sh.AB a).symm _ (BF _ AA))
        refine CC 16 (by kernel_rfl) (by kernel_rfl) (by rfl) ?_;iterate 4 refine yq tb rfl ?_
        refine bs b λl3 c5 b=>CI (v:=(i64 l3)) AR (hb 121) (IE c5) rfl AA AA ?_;iterate 2 refine yq tb rfl ?_
        rcases Sh.AU b with ⟨C,b⟩|⟨C,b⟩
        ·refine yg tb C AA ?_;iterate 6 refine yg tb C rfl ?_
         exact bs b λl4 c6 b=>CI (v:=(ls eI l4)) (BH AA AA C) (hb 122) (G8 c6) rfl AA AA (bs b λc7 c8 b=>CI (v:=(.bool c7)) (BH AA AA C) (hb 120) (DU c8) rfl AA AA (BO (zt C AA (AE (c2 c7 (Sh.AB b).symm _ (AI AA))))))
        ·refine ys C AA ?_;iterate 8 refine ys C rfl ?_
         exact BO (zf C AA (AE (c2 false (Sh.AB b).symm _ (AI AA))))
       ·refine zr tb AA AA ?_;refine ci a AA ?_ ?_<;>clear a<;>intro t6 a
        ·refine sr AA λt7 c9=>zm tb 3 AA ?_;refine CE (m:=2) (l:=[(0:Int)]) (enc:=eI) AR BD (by decide) rfl AA AA AA AA AA ?_;refine Aa (Wk.CQ (L:=(Gc p1 [(95,ls eI p1),(97,Q2 p2),(98,ls eI [(0:Int)])])) (st':=(Qw p0 p2 [⟨1,3,1,[]⟩])) (id:=2) rfl qI (AK λ_=>AA) ⟨.rfl,.rfl,.rfl,.rfl,.rfl,.CQ AA,mD⟩ AA) (bs a λt8 d1 a=>zc (hb 120) (DU d1) rfl AA AA (dn c9 AA ?_));refine ci a AA ?_ ?_<;>clear a<;>intro t9 a
         ·refine sr AA λv0 d2=>zm tb 3 AA (bs a λl5 d3 a=>zc (hb 123) (Mg d3) rfl AA AA (zq tb AA (dn d2 AA ?_)));obtain rfl:=Sh.AB a;try dsimp only[id]at h0
          obtain rfl:=Sh.AB h0;exact rd [(6,i64 l5)]
         ·exact AG (J () (Sh.AB a).symm _ (BF _ AA))
        ·refine zr tb AA AA ?_;refine ci a AA ?_ ?_<;>clear a<;>intro v1 a
         ·refine sr AA λv2 d4=>zm tb 5 AA ?_;refine CE (m:=2) (l:=[p2.num]) (enc:=eI) AR BD (by decide) rfl AA AA AA AA AA ?_;refine Aa (Wk.CQ (L:=(Gc p1 [(106,ls eI p1),(108,Q2 p2),(111,ls eI [p2.num])])) (st':=(Qw p0 p2 [⟨1,3,1,[]⟩])) (id:=2) rfl qI (AK λ_=>AA) ⟨.rfl,.rfl,.rfl,.rfl,.rfl,.CQ AA,mD⟩ AA) (bs a λv3 d5 a=>zc (hb 120) (DU d5) rfl AA AA (dn d4 AA ?_));refine ci a AA ?_ ?_<;>clear a<;>intro v4 a
          ·refine sr AA λv5 d6=>zm tb 3 AA (bs a λl6 d7 a=>zc (hb 123) (Mg d7) rfl AA AA (zq tb AA (dn d6 AA ?_)));obtain rfl:=Sh.AB a;try dsimp only[id]at h0
           obtain rfl:=Sh.AB h0;exact rd [(6,i64 l6)]
          ·exact AG (J () (Sh.AB a).symm _ (BF _ AA))
         ·refine AD λl7 d8=>bs a λd9 b a=>?_;have g0:∀(S:Bool),d9=S->∀s,Wk 0 s ⟨183,AN (Gc p1 [(40,i64 p2.op),(117,.bool S)]),Qw p0 p2 []⟩->l7 s:=by
           intro S hq s E;subst d9;try dsimp only at a
           refine d8 _ (AJ E ?_);refine ci a AA ?_ ?_<;>clear a<;>intro v6 a
           ·refine sr AA λv7 g1=>zm tb 3 AA (bs a λl8 g2 a=>zc (hb 124) (MG g2) rfl AA AA (zq tb AA (dn g1 AA ?_)));obtain rfl:=Sh.AB a;try dsimp only[id]at h0
            obtain rfl:=Sh.AB h0;exact rd [(6,i64 l8)]
           ·refine zr tb AA AA ?_;refine ci a AA ?_ ?_<;>clear a<;>intro v8 a
            ·refine AD λl9 g3=>bs a λg4 b a=>?_;have T:∀(U:Bool),g4=U->∀s,Wk 0 s ⟨183,AN (Gc p1 [(151,.bool U)]),Qw p0 p2 []⟩->l9 s:=by
              intro U hq s E;subst g4;try dsimp only at a
              refine g3 _ (AJ E ?_);refine ci a AA ?_ ?_<;>clear a<;>intro v9 a
              ·refine AD λw0 g5=>?_;refine IT (by kernel_rfl) ?_;refine bs a λm0 g6 a=>bs a λG g7 a=>bs a λD F a=>LV λvf f=>?_;have k:vf 0 (bm 14 16383) ⟨183,AN (S4 p1 [(7,Dh)]),[Vd p2.op p2.num p2.BB p2.args p2.kids,T3 D]⟩:=(f _ _ _).2 (by
                refine GD AA (by kernel_rfl) ?_;refine g5 _ (AD λw1 g8=>?_);refine CC 7 (by kernel_rfl) (by kernel_rfl) (by rfl) ?_;iterate 3 refine yq tb rfl ?_
                refine bs a λw2 g9 a=>aX (i:=1) (j:=Sh.len p2.args) AR BD AA AA AA (λ_=>AA) g9 ?_;iterate 2 refine yq tb rfl ?_
                refine XU (l:=[D.from_]) (enc:=eI) AR BD (by decide) rfl AA AA AA AA (AK λ_=>AA) ?_;refine BO (bs a λh3 H a=>zc (hb 120) (DU H) rfl AA AA (dn g8 AA ?_));refine ci a AA ?_ ?_<;>clear a<;>intro w a
                ·refine zr tb AA AA ?_;obtain rfl:=Sh.AB a;try dsimp only[id]at h0
                 obtain rfl:=Sh.AB h0;exact rd [(6,i64 D.to)]
                ·exact AG (J () (Sh.AB a).symm _ (by refine Wk.trans (Ab (L:=[]) (st':=[]) [] AA AA .nil mD) ?_;exact Ao (L:=[]) mD)))
               have e:vf 1 (bm 14 8191) ⟨183,AN (S4 p1 [(7,Dh),(163,OJ D)]),[Vd p2.op p2.num p2.BB p2.args p2.kids,jx]⟩:=(f _ _ _).2 (by
                refine xa [13] ⟨?_,mD⟩
                ·refine xo 13 ?_;exact Aq AR I9 AA AA AA AA AA AA qJ rfl (xd f k))
               have g:vf 2 (bm 14 4095) ⟨183,AN (S4 p1 [(163,OJ D)]),[Vd p2.op p2.num p2.BB p2.args p2.kids]⟩:=(f _ _ _).2 (by
                refine xa [12] ⟨?_,mD⟩
                ·refine xo 12 ?_;exact Al (m:=1) AR GY AA AA (xd f e))
               have h:vf 4 (bm 14 4607) ⟨183,AN (S4 p1 [(7,Dh),(153,EG p0.decls),(160,i64 G)]),[Vd p2.op p2.num p2.BB p2.args p2.kids,jx]⟩:=(f _ _ _).2 (by
                refine xa [9] ⟨?_,mD⟩
                ·refine xo 9 ?_;refine zq tb AA (AE ⟨AA,?_⟩);refine G9 10 (v:=(Sk D)) rfl (by kernel_rfl) (by kernel_rfl) (Bc Dl AA AA F AA) ?_;refine BU tb 11 AA (by kernel_rfl) rfl ?_;exact xt f e)
               have y:vf 5 (bm 14 511) ⟨183,AN (S4 p1 [(153,EG p0.decls),(160,i64 G)]),[Vd p2.op p2.num p2.BB p2.args p2.kids]⟩:=(f _ _ _).2 (by
                refine xa [9,12] ⟨?_,?_,mD⟩
                ·refine xo 9 ?_;refine zq tb AA (AE ⟨AA,?_⟩);refine G9 10 (v:=(Sk D)) rfl (by kernel_rfl) (by kernel_rfl) (Bc Dl AA AA F AA) ?_;refine BU tb 11 AA (by kernel_rfl) rfl ?_;exact xt f g
                ·refine xo 12 ?_;exact Al (m:=1) AR GY AA AA (xd f h))
               have z:vf 5 (bm 14 4605) ⟨183,AN (S4 p1 [(7,Dh),(152,G6),(160,i64 G)]),[Vd p2.op p2.num p2.BB p2.args p2.kids,jx,Kc p0.decls p0.AH]⟩:=(f _ _ _).2 (by
                refine xa [1,9] ⟨?_,?_,mD⟩
                ·refine xo 1 ?_;exact zq tb AA (W5 f h (by exact Ab [0,1] AA AA (.raw AA AA (.raw AA AA .nil)) (.same AA)))
                ·refine xo 9 ?_;refine zq tb AA (AE ⟨AA,?_⟩);refine BU tb 1 AA (by kernel_rfl) rfl ?_;refine G9 10 (v:=(Sk D)) rfl (by kernel_rfl) (by kernel_rfl) (Bc Dl AA AA F AA) ?_;refine BU tb 11 AA (by kernel_rfl) rfl ?_;exact xw f e (by exact Ab [0,1] AA AA (.raw AA AA (.raw AA AA .nil)) (.same AA)))
               have A:vf 6 (bm 14 509) ⟨183,AN (S4 p1 [(152,Dh),(160,i64 G)]),[Vd p2.op p2.num p2.BB p2.args p2.kids,Kc p0.decls p0.AH]⟩:=(f _ _ _).2 (by
                refine xa [1,9,12] ⟨?_,?_,?_,mD⟩
                ·refine xo 1 ?_;exact zq tb AA (W5 f y (by exact Ab [0] AA AA (.raw AA AA .nil) (.same AA)))
                ·refine xo 9 ?_;refine zq tb AA (AE ⟨AA,?_⟩);refine BU tb 1 AA (by kernel_rfl) rfl ?_;refine G9 10 (v:=(Sk D)) rfl (by kernel_rfl) (by kernel_rfl) (Bc Dl AA AA F AA) ?_;refine BU tb 11 AA (by kernel_rfl) rfl ?_;exact xw f g (by exact Ab [0] AA AA (.raw AA AA .nil) (.same AA))
                ·refine xo 12 ?_;exact Al (m:=2) AR GY AA AA (W5 f z (by exact Ab [0,2,1] AA AA (.raw AA AA (.raw AA AA (.raw AA AA .nil))) (.same AA))))
               refine (f _ _ _).2 ?_;refine BU tb 0 AA (by kernel_rfl) rfl ?_;refine BU tb 2 AA (by kernel_rfl) rfl ?_;refine BU tb 3 AA (by kernel_rfl) rfl ?_;refine BU tb 4 AA (by kernel_rfl) rfl ?_;refine G9 5 (v:=(Jq m0)) rfl (by kernel_rfl) (by kernel_rfl) (Bc BD AA AA g6 AA) ?_;refine BU tb 6 AA (by kernel_rfl) rfl ?_;refine G9 7 (v:=(Jq G)) rfl (by kernel_rfl) (by kernel_rfl) (Bc BD AA AA g7 AA) ?_;refine BU tb 8 AA (by kernel_rfl) rfl ?_;exact xw f A (by exact Ab [1,0] AA AA (.raw AA AA (.raw AA AA .nil)) (.same AA))
              ·exact AG (J () (Sh.AB a).symm _ (BF _ AA))
             refine CT (by kernel_rfl) (by kernel_rfl) (by rfl) ?_;iterate 2 refine yq tb rfl ?_
             refine yl tb AA AA ?_;iterate 2 refine yq tb rfl ?_
             rcases Sh.AU b with ⟨x,b⟩|⟨x,b⟩
             ·refine yg tb x AA (yg tb x AA (bs b λh4 O b=>IP (v:=(Jq h4)) (BH AA AA x) rfl (Bc BD AA AA O AA) ?_));iterate 2 refine yg tb x rfl ?_
              refine IP (v:=(Eu p1)) (BH AA AA x) rfl (Br F8 AA) (yg tb x AA (bs b λh3 H b=>CI (v:=(.bool h3)) (BH AA AA x) (hb 117) (Bk H) rfl AA AA (yt x AA (yq tb AA ?_))));rcases Sh.AU b with ⟨w,b⟩|⟨w,b⟩
              ·refine yg tb w AA ?_;iterate 4 refine yg tb w rfl ?_
               exact IP (v:=(Jq h4)) (BH AA AA w) rfl (Bc BD AA AA O AA) (yg tb w AA (bs b λm1 h5 b=>IP (v:=(Jq m1)) (BH AA AA w) rfl (Bc BD AA AA h5 AA) (yg tb w AA (bs b λh6 h7 b=>CI (v:=(.bool h6)) (BH AA AA w) (hb 125) (Lh h7) rfl AA AA (yt w AA (BO (T h6 (Sh.AB b).symm _ (AI AA))))))))
              ·refine ys w AA ?_;iterate 9 refine ys w rfl ?_
               exact yf w AA (BO (T false (Sh.AB b).symm _ (AI AA)))
             ·refine ys x AA ?_;iterate 7 refine ys x rfl ?_
              refine yf x AA (yq tb AA ?_);iterate 10 refine ys rfl rfl ?_
              exact yf AA AA (BO (T false (Sh.AB b).symm _ (AI AA)))
            ·refine AD λm2 h8=>bs a λh9 b a=>?_;have M:∀(V:Bool),h9=V->∀s,Wk 0 s ⟨183,AN (Gc p1 [(174,.bool V)]),Qw p0 p2 []⟩->m2 s:=by
              intro V hq s E;subst h9;try dsimp only at a
              refine h8 _ (AJ E ?_);refine ci a AA ?_ ?_<;>clear a<;>intro w3 a
              ·refine sr AA λw4 k0=>zm tb 3 AA (bs a λm3 k1 a=>zc (hb 126) (LS k1) rfl AA AA (zq tb AA (dn k0 AA ?_)));obtain rfl:=Sh.AB a;try dsimp only[id]at h0
               obtain rfl:=Sh.AB h0;exact rd [(6,i64 m3)]
              ·exact AG (J () (Sh.AB a).symm _ (BF _ AA))
             refine zr tb AA AA ?_;refine ci b AA ?_ ?_<;>clear b<;>intro m4 b
             ·exact AG (M true (Sh.AB b).symm _ (Ao (L:=(Gc p1 [(174,.bool true)])) ⟨.rfl,.rfl,.rfl,.of (mr AV.bool m4),mD⟩))
             ·refine zr tb AA AA ?_;refine ci b AA ?_ ?_<;>clear b<;>intro m5 b
              ·exact AG (M true (Sh.AB b).symm _ (Ao (L:=(Gc p1 [(174,.bool true)])) ⟨.rfl,.rfl,.rfl,.of (mr AV.bool m5),mD⟩))
              ·refine zr tb AA AA ?_;refine ci b AA ?_ ?_<;>clear b<;>intro m6 b
               ·exact AG (M true (Sh.AB b).symm _ (Ao (L:=(Gc p1 [(174,.bool true)])) ⟨.rfl,.rfl,.rfl,.of (mr AV.bool m6),mD⟩))
               ·exact AF AA (zm tb 2 AA (AE (M (decide (p2.op=17)) (Sh.AB b).symm _ (AI AA))))
          refine zr tb AA AA ?_;refine ci b AA ?_ ?_<;>clear b<;>intro m7 b
          ·exact AG (g0 true (Sh.AB b).symm _ (Ao (L:=(Gc p1 [(40,i64 p2.op),(117,.bool true)])) ⟨.rfl,.rfl,.rfl,.rfl,.of (mr AV.bool m7),mD⟩))
          ·exact AF AA (zm tb 2 AA (AE (g0 (decide (p2.op=10)) (Sh.AB b).symm _ (AI AA))))
    refine zr tb AA AA ?_;refine ci b AA ?_ ?_<;>clear b<;>intro m8 b
    ·exact AG (K true (Sh.AB b).symm _ (Ao (L:=(Gc p1 (dA p2 []))) ⟨.rfl,.rfl,.rfl,.rfl,.of (mr AV.bool m8),mD⟩))
    ·refine zr tb AA AA ?_;refine ci b AA ?_ ?_<;>clear b<;>intro k2 b
     ·exact AG (K true (Sh.AB b).symm _ (Ao (L:=(Gc p1 (dA p2 []))) ⟨.rfl,.rfl,.rfl,.rfl,.of (mr AV.bool k2),mD⟩))
     ·refine zr tb AA AA ?_;refine ci b AA ?_ ?_<;>clear b<;>intro k3 b
      ·exact AG (K true (Sh.AB b).symm _ (Ao (L:=(Gc p1 (dA p2 []))) ⟨.rfl,.rfl,.rfl,.rfl,.of (mr AV.bool k3),mD⟩))
      ·exact AF AA (zm tb 2 AA (AE (K (decide (p2.op=4)) (Sh.AB b).symm _ (AI AA))))
 refine AF AA (zm tb 4 AA ?_);rcases Sh.AU a with ⟨n,a⟩|⟨n,a⟩
 ·refine zg tb n AA (zg tb n AA (bs a λm9 W a=>zd n (hb 118) (PY W) rfl AA AA AA (zg tb n AA (zt n AA (zq tb AA ?_)))));rcases Sh.AU a with ⟨o,a⟩|⟨o,a⟩
  ·refine zs o AA ?_;iterate 3 refine zs o rfl ?_
   refine zt o AA (zq tb AA ?_);iterate 5 refine zs rfl rfl ?_
   iterate 3 refine zn rfl ?_
   refine zs AA AA (zs AA AA ?_);iterate 3 refine zn rfl ?_
   exact zs AA AA (zt AA AA (AE (I true (Sh.AB a).symm _ (AI AA))))
  ·refine zg tb o AA (zg tb o AA (bs a λq0 X a=>zd o (hb 119) (Ia X) rfl AA AA AA (zg tb o AA (zf o AA (zq tb AA ?_)))));rcases Sh.AU a with ⟨c,a⟩|⟨c,a⟩
   ·refine zs c AA ?_;iterate 4 refine zs c rfl ?_
    iterate 3 refine zn rfl ?_
    refine zs c AA (zs c AA ?_);iterate 3 refine zn rfl ?_
    exact zs c AA (zt c AA (AE (I true (Sh.AB a).symm _ (AI AA))))
   ·refine zg tb c AA (zg tb c AA (Ap (v:=(Sm p2)) (BH AA AA c) rfl (Br Oi AA) (zg tb c AA (zg tb c AA ?_))));rcases Sh.AU a with ⟨p,a⟩|⟨p,a⟩
    ·refine zg tb p AA (zg tb p AA (zg tb p AA (Ap (v:=(.bool (!decide (p2.op=7)))) (BH AA AA c) rfl (Cc AA p AA) (zg tb c AA ?_))));rcases Sh.AU a with ⟨q,a⟩|⟨q,a⟩
     ·exact zg tb q AA (zg tb q AA (zg tb q AA (Ap (v:=(.bool (!decide (p2.op=8)))) (BH AA AA c) rfl (Cc AA q AA) (zf c AA (AE (I (!decide (p2.op=8)) (Sh.AB a).symm _ (AI AA)))))))
     ·exact zs q AA (zs q AA (zs q AA (Ap (v:=(.bool false)) (BH AA AA c) rfl (CO AA q AA) (zf c AA (AE (I false (Sh.AB a).symm _ (AI AA)))))))
    ·refine zs p AA (zs p AA (zs p AA (Ap (v:=(.bool false)) (BH AA AA c) rfl (CO AA p AA) (zg tb c AA ?_))));iterate 3 refine zs rfl rfl ?_
     exact Ap (v:=(.bool false)) (BH AA AA c) rfl (CO AA AA AA) (zf c AA (AE (I false (Sh.AB a).symm _ (AI AA))))
 ·refine zs n AA ?_;iterate 3 refine zs n rfl ?_
  refine zf n AA (zq tb AA (zg tb AA AA (zg tb AA AA (bs a λq1 Y a=>zd AA (hb 119) (Ia Y) rfl AA AA AA (zg tb AA AA (zf AA AA (zq tb AA ?_)))))));rcases Sh.AU a with ⟨d,a⟩|⟨d,a⟩
  ·refine zs d AA ?_;iterate 4 refine zs d rfl ?_
   iterate 3 refine zn rfl ?_
   refine zs d AA (zs d AA ?_);iterate 3 refine zn rfl ?_
   exact zs d AA (zt d AA (AE (I true (Sh.AB a).symm _ (AI AA))))
  ·refine zg tb d AA (zg tb d AA (Ap (v:=(Sm p2)) (BH AA AA d) rfl (Br Oi AA) (zg tb d AA (zg tb d AA ?_))));rcases Sh.AU a with ⟨t,a⟩|⟨t,a⟩
   ·refine zg tb t AA (zg tb t AA (zg tb t AA (Ap (v:=(.bool (!decide (p2.op=7)))) (BH AA AA d) rfl (Cc AA t AA) (zg tb d AA ?_))));rcases Sh.AU a with ⟨u,a⟩|⟨u,a⟩
    ·exact zg tb u AA (zg tb u AA (zg tb u AA (Ap (v:=(.bool (!decide (p2.op=8)))) (BH AA AA d) rfl (Cc AA u AA) (zf d AA (AE (I (!decide (p2.op=8)) (Sh.AB a).symm _ (AI AA)))))))
    ·exact zs u AA (zs u AA (zs u AA (Ap (v:=(.bool false)) (BH AA AA d) rfl (CO AA u AA) (zf d AA (AE (I false (Sh.AB a).symm _ (AI AA)))))))
   ·refine zs t AA (zs t AA (zs t AA (Ap (v:=(.bool false)) (BH AA AA d) rfl (CO AA t AA) (zg tb d AA ?_))));iterate 3 refine zs rfl rfl ?_
    exact Ap (v:=(.bool false)) (BH AA AA d) rfl (CO AA AA AA) (zf d AA (AE (I false (Sh.AB a).symm _ (AI AA))))
theorem Sn {p0:Int}{r:Bool}(h0:Ja p0=some r):AS Tryz.prog 148 [i64 p0] [] (λv st=>v=(.bool r)/\st=[]):=by
 unfold Ja at h0;refine ai Tryz.func148 AA AA AA AA (zr tb AA AA (AD λi g=>bs h0 λh a h0=>?_));have e:∀(f:Bool),h=f->∀s,Wk 0 s ⟨17,AN [(2,.bool f)],[]⟩->i s:=by
  intro f k s j;subst h;try dsimp only at h0
  refine g _ (AJ j ?_);obtain rfl:=Sh.AB h0;exact rt [(2,.bool f)]
 refine AF AA (zm tb 3 AA ?_);rcases Sh.AU a with ⟨b,a⟩|⟨b,a⟩
 ·refine zs b AA (zs b AA (zt b AA (zq tb AA (zs AA AA (zs AA AA (zt AA AA (zq tb AA (zs AA AA (zs AA AA (zt AA AA (zq tb AA ?_)))))))))));exact AE (e true (Sh.AB a).symm _ (AI AA))
 ·refine zg tb b AA (zg tb b AA (zf b AA (zq tb AA ?_)));rcases Sh.AU a with ⟨c,a⟩|⟨c,a⟩
  ·exact zs c AA (zs c AA (zt c AA (zq tb AA (zs AA AA (zs AA AA (zt AA AA (zq tb AA (AE (e true (Sh.AB a).symm _ (AI AA))))))))))
  ·refine zg tb c AA (zg tb c AA (zf c AA (zq tb AA ?_)));rcases Sh.AU a with ⟨d,a⟩|⟨d,a⟩
   ·exact zs d AA (zs d AA (zt d AA (zq tb AA (AE (e true (Sh.AB a).symm _ (AI AA))))))
   ·exact zg tb d AA (zg tb d AA (zf d AA (zq tb AA (AE (e (decide (p0=11)) (Sh.AB a).symm _ (AI AA))))))
theorem U4 {N:Nat}{p0:AT}{p1:Step}{p2:Int}{r:Bool}(h0:LI N p0 p1 p2=some r):AS Tryz.prog 149 [G2 p0,Mb p1,i64 p2] [] (λv st=>v=(.bool r)/\st=[]):=by
 unfold LI at h0;refine ai Tryz.func149 AA AA AA AA (sr AA λo d=>Aw (m:=0) AR AA AA AA AA AA (Aw (m:=1) AR AA AA AA AA AA (zq tb AA (dn d AA (AD λj e=>bs h0 λh b h0=>?_)))));have i:∀(c:Bool),h=c->∀s,Wk 0 s ⟨21,AN [(6,.bool c)],[]⟩->j s:=by
  intro c p s k;subst h;try dsimp only at h0
  refine e _ (AJ k ?_);obtain rfl:=Sh.AB h0;exact rt [(6,.bool c)]
 refine AF AA (zm tb 4 AA ?_);rcases Sh.AU b with ⟨a,b⟩|⟨a,b⟩
 ·refine zg tb a AA ?_;iterate 3 refine zg tb a rfl ?_
  refine bs b λl f b=>Ap (v:=(.Bt (Aj l) 0)) (BH AA AA a) rfl (Bc GZ AA AA f AA) ?_;iterate 3 refine zg tb a rfl ?_
  exact bs b λn g b=>zd a (hb 80) (Ra g) rfl AA AA AA (zt a AA (zq tb AA (AE (i n (Sh.AB b).symm _ (BF _ AA)))))
 ·refine zs a AA ?_;iterate 8 refine zs a rfl ?_
  exact zf a AA (zq tb AA (AE (i false (Sh.AB b).symm _ (BF _ AA))))
theorem Qu {N:Nat}{p0:AT}{p1:(List Int)}{p2:Step}{p3:Int}{r:Bool}(h0:Hv N p0 p1 p2 p3=some r):AS Tryz.prog 127 [G2 p0,ls eI p1,Mb p2,i64 p3] [] (λv st=>v=(.bool r)/\st=[]):=by
 unfold Hv at h0;refine ai Tryz.func127 AA AA AA AA (sr AA λu f=>Aw (m:=0) AR AA AA AA AA AA (Aw (m:=1) AR AA AA AA AA AA (zq tb AA (dn f AA (AD λo g=>bs h0 λn a h0=>?_)))));have h:∀(e:Bool),n=e->∀s,Wk 0 s ⟨30,AN [(8,.bool e)],[]⟩->o s:=by
  intro e w s p;subst n;try dsimp only at h0
  refine g _ (AJ p ?_);obtain rfl:=Sh.AB h0;exact rt [(8,.bool e)]
 refine AF AA (zm tb 2 AA (bs a λx i a=>zc (hb 148) (Sn i) rfl AA AA (zq tb AA ?_)));rcases Sh.AU a with ⟨b,a⟩|⟨b,a⟩
 ·refine zg tb b AA ?_;iterate 3 refine zg tb b rfl ?_
  refine bs a λq j a=>Ap (v:=(Jq q)) (BH AA AA b) rfl (Bc BD AA AA j AA) (zg tb b AA (bs a λt k a=>Ap (v:=(Jq t)) (BH AA AA b) rfl (Bc BD AA AA k AA) (zg tb b AA (zg tb b AA (zt b AA (zq tb AA ?_))))));rcases Sh.AU a with ⟨c,a⟩|⟨c,a⟩
  ·exact zg tb c AA (zg tb c AA (zg tb c AA (bs a λl d a=>zd c (hb 149) (U4 d) rfl AA AA AA (zg tb c AA (zt c AA (zq tb AA (AE (h (!l) (Sh.AB a).symm _ (BF _ AA)))))))))
  ·refine zs c AA ?_;iterate 4 refine zs c rfl ?_
   exact zf c AA (zq tb AA (AE (h false (Sh.AB a).symm _ (BF _ AA))))
 ·refine zs b AA ?_;iterate 8 refine zs b rfl ?_
  refine zf b AA (zq tb AA ?_);iterate 5 refine zs rfl rfl ?_
  exact zf AA AA (zq tb AA (AE (h false (Sh.AB a).symm _ (BF _ AA))))
theorem OI {N:Nat}{p0:AT}{p1:(List Int)}{p2:Step}{r:(List Int)}(h0:GP N p0 p1 p2=some r):AS Tryz.prog 77 (ax p0 p1 p2) [] (λv st=>v=(ow 0 0 r)/\st=[BQ r]):=by
 unfold GP at h0;refine ai Tryz.func77 AA AA AA AA (sr AA λQ y=>Aw (m:=0) AR AA AA AA AA AA (Aw (m:=1) AR AA AA AA AA AA (zq tb AA (dn y AA (sr AA λR z=>?_)))));refine CE (m:=2) (l:=([]:List Int)) (enc:=eI) AR BD (by decide) rfl AA AA AA AA AA ?_;refine zq tb AA (dn z AA (AD λF A=>zr tb AA AA (bs h0 λB a h0=>?_)));have G:∀(f:(List Int)),B=f->∀s,Wk 0 s ⟨31,AN [(7,ow 0 0 f)],[BQ f]⟩->F s:=by
  intro f H s C;subst B;try dsimp only at h0
  refine A _ (AJ C (zr tb AA AA ?_));obtain rfl:=Sh.AB h0;exact rt [(6,ow 0 0 f)]
 refine AL (Af (σ:=Int×(List Int)) (λn v=>Bj N p0 p1 p2 n v.1 v.2=some B) (λ(g,h)=>⟨31,AN [(1,ls eI p1),(3,.ptr 0 0 0 0),(5,.ptr 1 0 0 0),(7,ow 2 0 h),(8,i64 g)],[Kc p0.decls p0.AH,Vd p2.op p2.num p2.BB p2.args p2.kids,ro 0 3 1 eI h]⟩) N (0,[]) a (AI AA) (λ_ E=>by rw[Bj]at E;cases E) ?_);rintro n ⟨g,h⟩ a;try dsimp only at a⊢
 rw[Bj]at a;refine AD λI i=>sr AA λJ j=>zm tb 3 AA (zl tb AA AA (zq tb AA (dn j AA ?_)));refine ci a AA ?_ ?_<;>clear a<;>intro K a
 ·refine AG (i _ (AD λD k=>bs a λo b a=>?_));have p:∀(c:(List Int)),o=c->∀s,Wk 0 s ⟨31,AN (Gc p1 (Ul c g [])),Qw p0 p2 [BQ c]⟩->D s:=by
   intro c H s C;subst o;try dsimp only at a
   exact k _ (AJ C (AF AA (zm tb 3 AA (AE (xi (Sh.w (g+1),c) a (AI AA))))))
  refine AL (sr AA λM q=>zm tb 4 AA (bs b λO t b=>zc (hb 127) (Qu t) rfl AA AA (dn q AA ?_)));refine ci b AA ?_ ?_<;>clear b<;>intro P b
  ·refine AF AA (zm tb 4 AA (bs b λd u b=>zx BD u AA AA AA (zq tb AA ?_)));refine CE (m:=3) (l:=[d]) (enc:=eI) AR BD (by decide) rfl AA AA AA AA AA ?_;refine bs b λe x b=>Cd (l2:=[d]) AR BD AA AA AA AA (H6 AA AA) (λ_=>AA) x AA (zq tb AA ?_);exact AE (p e (Sh.AB b).symm _ (by refine Wk.trans (CJ (L:=(Gc p1 (Ul e g []))) (st':=(Qw p0 p2 [BQ e,Qr d])) (.raw AA AA (.raw AA AA (.pure (AK λ_=>AA) (.pure (AK λ_=>AA) .nil)))) (.same AA)) ?_;exact Ab [0,1,2] AA AA (.raw AA AA (.raw AA AA (.pure (AK λ_=>AA) .nil))) (.same AA)))
  ·exact AG (p h (Sh.AB b).symm _ (AI AA))
 ·exact Ah (G h (Sh.AB a).symm _ (Ab [2] AA AA (.pure (AK λ_=>AA) .nil) (.same AA)))
theorem N0 {p0 p1:Int}{r:Step}(h0:G4 p0 p1=some r):AS Tryz.prog 79 [i64 p0,i64 p1] [] (λv st=>v=(Mb r)/\st=[]):=by
 unfold G4 at h0;refine FK AA (ai Tryz.func79 AA AA AA AA (sr AA λc a=>Al (m:=0) AR Nl AA AA (dn a AA (sr AA λd b=>zm tb 2 AA ?_))));refine CE (m:=1) (l:=[p1]) (enc:=eI) AR BD (by decide) rfl AA AA AA AA AA ?_;refine CE (m:=2) (l:=([]:List Block)) (enc:=Bq) AR JF (by decide) rfl AA AA AA AA AA ?_;refine zz (.agg [i64 p0,i64 0,i64 0,ow 1 0 [p1],iJ]) (Fo fP fc Nl AA AA) rfl (Aa (Wk.CQ (L:=[(4,Bm),(9,.agg [i64 p0,i64 0,i64 0,ls eI [p1],iJ])]) (st':=[Zg,⟨1,3,1,[]⟩,ro 0 52 2 Bq ([]:List Block)]) (id:=1) rfl qN (AK λ_=>AA) ⟨.rfl,.agg ⟨.rfl,.rfl,.rfl,.Hr AA,.rfl,mD⟩,mD⟩ AA) (Aa (Wk.CQ (L:=[(4,Bm),(9,.agg (ku p0 p1))]) (st':=[Zg,⟨1,3,1,[]⟩,da]) (id:=2) rfl qI (AK λ_=>AA) ⟨.rfl,.agg ⟨.rfl,.rfl,.rfl,.rfl,.Hr AA,mD⟩,mD⟩ AA) (Aq AR L6 AA AA AA AA AA AA qG rfl (dn b AA ?_))));obtain rfl:=Sh.AB h0;exact BG (Exists.intro _ (And.intro (Wk.refl _ _) (Ch (x:=.tmp 4) (off:=0) (cs:=(ku p0 p1)) (vs:=(ku p0 p1)) L6 AA AA AA qG rfl _ AA)))
theorem Eo {N:Nat}{p0:Int}{p1:(List Int)}{r:(List Step)}(h0:Gd N p0 p1=some r):AS Tryz.prog 76 [i64 p0,ls eI p1] [] (λv st=>v=(ow 0 0 r)/\st=[PE r]):=by
 unfold Gd at h0;refine ai Tryz.func76 AA AA AA AA (zr tb AA AA (sr AA λF p=>?_));refine CE (m:=0) (l:=([]:List Step)) (enc:=Bx) AR DT (by decide) rfl AA (by simp only[List.map,CK];rfl) rfl AA AA ?_;refine zq tb AA (dn p AA (AD λx q=>zr tb AA AA (bs h0 λt a h0=>?_)));have y:∀(d:(List Step)),t=d->∀s,Wk 0 s ⟨24,AN [(5,ow 0 0 d)],[PE d]⟩->x s:=by
  intro d G s z;subst t;try dsimp only at h0
  refine q _ (AJ z (zr tb AA AA ?_));obtain rfl:=Sh.AB h0;exact rt [(4,ow 0 0 d)]
 refine AL (Af (σ:=Int×(List Step)) (λn v=>Ei p0 p1 n v.1 v.2=some t) (λ(k,o)=>⟨24,AN [(0,i64 p0),(1,ls eI p1),(5,ow 0 0 o),(6,i64 k)],[ro 0 97 5 Bx o]⟩) N (0,[]) a (AI AA) (λ_ u=>by rw[Ei]at u;cases u) ?_);rintro n ⟨k,o⟩ a;try dsimp only at a⊢
 rw[Ei]at a;refine AD λA e=>sr AA λB f=>zm tb 2 AA (zl tb AA AA (zq tb AA (dn f AA ?_)));refine ci a AA ?_ ?_<;>clear a<;>intro C a
 ·refine AG (e _ (AD λD g=>AL (AF AA (zm tb 4 AA (bs a λE h a=>zx BD h AA AA AA (zq tb AA (bs a λb i a=>zc (v':=(Mb b)) (hb 79) (N0 i) rfl AA AA ?_)))))));refine CE (m:=1) (l:=[b]) (enc:=Bx) AR DT (by decide) rfl AA (by simp only[List.map,CK];rfl) rfl AA AA ?_;refine bs a λc j a=>Cd (l2:=[b]) AR DT AA AA AA AA (H6 AA AA Gt) Ge j AA (zq tb AA (dn g AA (AF AA (zm tb 3 AA ?_))));exact AE (xi (Sh.w (k+1),c) a (by refine Wk.trans (CJ (L:=[(0,i64 p0),(1,ls eI p1),(5,ow 0 0 c),(6,MO k)]) (st':=[PE c,ro 0 97 5 Bx [b]]) (.pure (AK BV) (.pure (AK BV) .nil)) (.same AA)) ?_;exact Ab [0] AA AA (.pure (AK BV) .nil) (.same AA)))
 ·exact Ah (y o (Sh.AB a).symm _ (AI AA))
theorem Si {N:Nat}{p0:(List Int)}{p1:Int}{r:(List Int)}(h0:JV N p0 p1=some r):AS Tryz.prog 129 [ls eI p0,i64 p1] [] (λv st=>v=(ow 0 0 r)/\st=[BQ r]):=by
 unfold JV at h0;refine ai Tryz.func129 AA AA AA AA (zr tb AA AA (sr AA λP y=>?_));refine CE (m:=0) (l:=([]:List Int)) (enc:=eI) AR BD (by decide) rfl AA AA AA AA AA ?_;refine zq tb AA (dn y AA (AD λE z=>zr tb AA AA (bs h0 λA a h0=>?_)));have F:∀(f:(List Int)),A=f->∀s,Wk 0 s ⟨26,AN [(5,ow 0 0 f)],[BQ f]⟩->E s:=by
  intro f G s B;subst A;try dsimp only at h0
  refine z _ (AJ B (zr tb AA AA ?_));obtain rfl:=Sh.AB h0;exact rt [(4,ow 0 0 f)]
 refine AL (Af (σ:=Int×(List Int)) (λn v=>Eb p0 p1 n v.1 v.2=some A) (λ(d,g)=>⟨26,AN [(0,ls eI p0),(1,i64 p1),(5,ow 0 0 g),(6,i64 d)],[ro 0 3 1 eI g]⟩) N (0,[]) a (AI AA) (λ_ D=>by rw[Eb]at D;cases D) ?_);rintro n ⟨d,g⟩ a;try dsimp only at a⊢
 rw[Eb]at a;refine AD λH h=>sr AA λI i=>zm tb 2 AA (zl tb AA AA (zq tb AA (dn i AA ?_)));refine ci a AA ?_ ?_<;>clear a<;>intro J a
 ·refine AG (h _ (AD λC j=>bs a λk c a=>?_));have o:∀(b:(List Int)),k=b->∀s,Wk 0 s ⟨26,AN [(0,ls eI p0),(1,i64 p1),(5,ow 0 0 b),(6,i64 d)],[BQ b]⟩->C s:=by
   intro b G s B;subst k;try dsimp only at a
   exact j _ (AJ B (AF AA (zm tb 3 AA (AE (xi (Sh.w (d+1),b) a (AI AA))))))
  refine AL (sr AA λK p=>zm tb 2 AA (bs c λq t c=>zx BD t AA AA AA (zm tb 2 AA (dn p AA ?_))));refine ci c AA ?_ ?_<;>clear c<;>intro u c
  ·have M:decide (q=0)=false:=by simpa using u
   refine AF AA (zm tb 4 AA ?_);refine CE (m:=1) (l:=[Sh.w (p1+d)]) (enc:=eI) AR BD (by decide) rfl AA AA AA AA AA ?_;refine bs c λe x c=>Cd (l2:=[Sh.w (p1+d)]) AR BD AA AA AA AA (H6 AA AA) (λ_=>AA) x AA (zq tb AA ?_);exact AE (o e (Sh.AB c).symm _ (by refine Wk.trans (CJ (L:=[(0,ls eI p0),(1,i64 p1),(5,ow 0 0 e),(6,i64 d)]) (st':=[BQ e,ro 0 3 1 eI [Sh.w (p1+d)]]) (.pure (AK λ_=>AA) (.pure (AK λ_=>AA) .nil)) (.same AA)) ?_;exact Ab [0] AA AA (.pure (AK λ_=>AA) .nil) (.same AA)))
  ·have O:decide (q=0)=true:=by simpa using u
   exact AG (o g (Sh.AB c).symm _ (AI AA))
 ·exact Ah (F g (Sh.AB a).symm _ (AI AA))
theorem Sj {N:Nat}{qs:AT->(List Int)->Block->(List Int)->Option (Block)}(rU :∀{p0:AT} {p1:(List Int)} {p2:Block} {p3:(List Int)} {r:Block},qs p0 p1 p2 p3=some r->AS Tryz.prog 39 [G2 p0,ls eI p1,DH p2,ls eI p3] [] (λv st=>v=(DH r)/\st=[])){s0:(List Int)}{p0:AT}{p2 r:Step}(h0:Jm N qs s0 p0 p2=some r):AS Tryz.prog 78 [G2 p0,ow 0 0 s0,Mb p2] [BQ s0] (λv st=>v=(Mb r)/\st=[BQ s0]):=by
 unfold Jm at h0;refine AS.wk (r0:=(Mb r)) (st0:=(gW s0 r [])) ?_ (GA (L:=[(0,Mb r)]) (st':=[BQ s0]) [0] AA (by decide) rfl AA (.pure (AK λ_=>AA) mD) (.same AA));refine ai Tryz.func78 AA AA AA AA (sr AA λK1 c6=>Aw (m:=1) AR AA AA AA AA AA (Aa (Wk.CQ (L:=[(1,ow 0 0 s0),(2,Mb p2),(3,fe p0)]) (st':=[BQ s0,⟨1,30,2,[]⟩]) (id:=1) rfl qO (IC AA) (.same AA) rfl) (Aw (m:=2) AR AA AA AA AA AA (Aa (Wk.CQ (L:=[(1,ow 0 0 s0),(3,fe p0),(5,Lj p2)]) (st':=[BQ s0,⟨1,30,2,[]⟩,dV]) (id:=2) rfl qW (IC AA) (.same AA) rfl) (Al (m:=3) AR Nl AA AA (dn c6 AA (sr AA λK2 c7=>?_)))))));refine CE (m:=4) (l:=([]:List Block)) (enc:=Bq) AR JF (by decide) rfl AA AA AA AA AA ?_;refine zq tb AA (dn c7 AA (sr AA λK3 c8=>zm tb 4 AA (bs h0 λe c9 h0=>BE (v':=(ow 5 0 e)) AR (hb 128) (MU c9) rfl AA ⟨(Ay λ_=>AA),mD⟩ AA AA (zq tb AA (dn c8 AA (AD λK5 d0=>zr tb AA AA (bs h0 λb0 A h0=>?_)))))));have d1:∀(V:(List Block)),b0=V->∀s,Wk 1 s ⟨72,AN [(5,Lj p2),(6,Dh),(7,ow 2 0 V)],[BQ s0,Zg,jE V]⟩->K5 s:=by
  intro V hq s hw;subst b0;try dsimp only at h0
  refine d0 _ (AJ hw (AD λd5 b1=>?_));refine CC 9 (by kernel_rfl) (by kernel_rfl) (by rfl) ?_;iterate 6 refine yq tb rfl ?_
  refine bs h0 λO b2 h0=>?_;refine CI (v:=(ls eI O)) AR (hb 74) (AS.wk (FB b2) (by refine Wk.trans (Wk.CQ (L:=[(0,ls eI O)]) (st':=XH) (id:=0) rfl qM (AK λ_=>AA) ⟨.CQ AA,mD⟩ AA) ?_;exact Ab [] AA AA .nil (.same AA))) rfl AA AA ?_;refine yq tb AA (yz (.agg [i64 p2.op,i64 p2.num,i64 0,ls eI O,ow 2 0 V]) (Fo fP fc Nl AA AA) rfl (BO (Aa (Wk.CQ (L:=[(6,Dh),(71,.agg (gv p2 O V))]) (st':=[BQ s0,Zg,da]) (id:=2) rfl qW (AK λ_=>AA) ⟨.rfl,.agg ⟨.rfl,.rfl,.rfl,.rfl,.Hr AA,mD⟩,mD⟩ AA) (Aq AR L6 AA AA AA AA AA AA qG rfl (dn b1 AA ?_)))));obtain rfl:=Sh.AB h0;exact BG (Exists.intro _ (And.intro ((Ab (L:=[(6,Dh)]) (st':=[BQ s0,⟨0,97,5,[gv p2 O V]⟩]) [0,1] AA AA (.pure (AK λ_=>AA) (.raw AA AA .nil)) ⟨.rfl,mD⟩).trans (Ao (L:=[(6,Dh)]) ⟨.rfl,mD⟩)) (Ch (x:=.tmp 6) (off:=0) (cs:=(gv p2 O V)) (vs:=(gv p2 O V)) L6 AA AA AA qG rfl _ ⟨AA,AA⟩)))
 refine AL (Af (σ:=Int×(List Block)) (λn v=>Dx N s0 p0 p2 e qs n v.1 v.2=some b0) (λ(p,d)=>⟨72,AN [(1,ow 0 0 s0),(3,.Bt [ls Am p0.decls,ls Aj p0.AH] 0),(5,.Bt [i64 p2.op,i64 p2.num,i64 p2.BB,ls eI p2.args,ls Bq p2.kids] 0),(6,.ptr 1 0 0 0),(7,ow 2 0 d),(8,ow 3 0 e),(9,i64 p)],[ro 0 3 1 eI s0,Zg,ro 0 52 2 Bq d,ro 0 3 1 eI e]⟩) N (0,[]) A (Ab [0,3,4,5] AA AA (.pure (AK λ_=>AA) (.raw AA AA (.pure (AK λ_=>AA) (.pure (AK λ_=>AA) .nil)))) (.same AA)) (λ_ hv=>by rw[Dx]at hv;cases hv) ?_);rintro n ⟨p,d⟩ A;try dsimp only at A⊢
 rw[Dx]at A;refine AD λd6 b3=>sr AA λd7 b4=>zm tb 3 AA (zl tb AA AA (zq tb AA (dn b4 AA ?_)));refine ci A AA ?_ ?_<;>clear A<;>intro d8 A
 ·refine AG (b3 _ (AD λd9 b5=>AL (sr AA λg0 b6=>?_)));refine CE (m:=4) (l:=([]:List Int)) (enc:=eI) AR BD (by decide) rfl AA AA AA AA AA ?_;refine zq tb AA (dn b6 AA (AD λd2 b7=>bs A λb8 W A=>?_));have b9:∀(g:(List Int)),b8=g->∀s,Wk 1 s ⟨72,AN (Kb s0 p0 p2 d e p [(10,Fs g)]),Z8 s0 d e⟩->d2 s:=by
   intro g hq s hw;subst b8;try dsimp only at A
   refine b7 _ (AJ hw (sr AA λg1 c0=>zm tb 2 AA (zz (Eu s0) (D0 F8 AA AA AA) rfl (bs A λb c1 A=>BE (v':=(ow 4 0 b)) AR (hb 129) (Si c1) rfl AA ⟨(Ay λ_=>AA),mD⟩ AA AA (zq tb AA (dn c0 AA (AD λg2 c2=>?_)))))));refine IX (by kernel_rfl) ?_;refine bs A λD R A=>bs A λG c3 A=>bs A λf X A=>?_;refine MF (f':=13) (listed':=(bm 13 0)) rfl (by kernel_rfl) ?_;refine BL 0 (v:=(G2 p0)) rfl AA (by kernel_rfl) (by kernel_rfl) (by kernel_rfl) rfl (Hb Hs AA qD rfl) ?_;refine BL 1 (v:=(ow 0 0 s0)) rfl AA (by kernel_rfl) (by kernel_rfl) (by kernel_rfl) rfl (CU (EK AA)) ?_;refine BL 2 (v:=(Fs g)) rfl AA (by kernel_rfl) (by kernel_rfl) (by kernel_rfl) rfl (CU (EK AA)) ?_;refine BL 4 (v:=(.Bt (jJ p2) 4)) rfl AA (by kernel_rfl) (by kernel_rfl) (by kernel_rfl) rfl (CU (JS ic AA AA)) ?_;refine BL 5 (v:=(gF p2)) rfl AA (by kernel_rfl) (by kernel_rfl) (by kernel_rfl) rfl (KM cX AA AA) ?_;refine BL 6 (v:=(i64 p)) rfl AA (by kernel_rfl) (by kernel_rfl) (by kernel_rfl) rfl (CU (EK AA)) ?_;refine BL 9 (v:=(ow 4 0 b)) rfl AA (by kernel_rfl) (by kernel_rfl) (by kernel_rfl) rfl (CU (EK AA)) ?_;refine MI (KU λyL c=>?_);have t:yL 0 (bm 13 8191) ⟨72,AN (Kb s0 p0 p2 d e p [(11,ls eI b),(12,T1 f)]),Z8 s0 d e⟩:=(c _ _ _).2 (by
    refine Jk AA (by kernel_rfl) ?_;refine c2 _ ?_;refine IT (by kernel_rfl) ?_;refine bs A λM S A=>bs A λu Y A=>bs A λT c4 A=>LV λxV a=>?_;have y:xV 0 (bm 12 4095) ⟨72,AN (Kb s0 p0 p2 T e p []),Z8 s0 T e⟩:=(a _ _ _).2 (by
     refine GD AA (by kernel_rfl) ?_;exact b5 _ (AF AA (zm tb 3 AA (AE (xi (Sh.w (p+1),T) A (Ao (L:=[(1,ow 0 0 s0),(3,fe p0),(5,Lj p2),(6,Dh),(7,ow 2 0 T),(8,ow 3 0 e),(9,MO p)]) (.same AA)))))))
    have E:xV 2 (bm 12 1023) ⟨72,AN (Kb s0 p0 p2 d e p [(52,ow 2 0 d),(61,ow 4 0 [Block.mk u f.result])]),Q0 s0 d e [ro 0 52 2 Bq [Block.mk u f.result]]⟩:=(a _ _ _).2 (by
     refine xa [10] ⟨?_,mD⟩
     ·refine xo 10 ?_;refine Cd (l2:=[Block.mk u f.result]) AR JF AA AA AA AA (H6 AA AA) (λ_=>AA) c4 AA (AE ⟨AA,?_⟩);refine BU tb 11 AA (by kernel_rfl) rfl ?_;exact S6 (by refine Wk.trans (QO (L:=(Kb s0 p0 p2 T e p [])) (st':=(Q0 s0 T e [ro 0 52 2 Bq [Block.mk u f.result]])) (.pure AA (AK λ_=>AA) (.raw AA AA AA (.pure AA (AK λ_=>AA) (.pure AA (AK λ_=>AA) (.pure AA (AK λ_=>AA) .nil))))) (.same AA)) ?_;exact Ab [0,1,2,3] AA AA (.pure (AK λ_=>AA) (.raw AA AA (.pure (AK λ_=>AA) (.pure (AK λ_=>AA) .nil)))) (.same AA)) (T5 (by kernel_rfl) ((a _ _ _).1 y)) rfl)
    have H:xV 3 (bm 12 511) ⟨72,AN (Kb s0 p0 p2 d e p [(52,ow 2 0 d),(60,.agg [ow 4 0 u,i64 f.result])]),eF s0 d e u⟩:=(a _ _ _).2 (by
     refine xa [9] ⟨?_,mD⟩
     ·refine xo 9 ?_;refine Aa (Wk.CQ (L:=(Kb s0 p0 p2 d e p [(52,ow 2 0 d),(60,.agg (Rx u f.result))])) (st':=(Q0 s0 d e [dV])) (id:=4) rfl qU (AK BV) ⟨.rfl,.rfl,.rfl,.rfl,.rfl,.rfl,.rfl,.rfl,.agg ⟨.Hr AA,.rfl,mD⟩,mD⟩ AA) ?_;refine CE (m:=5) (l:=[Block.mk u f.result]) (enc:=Bq) AR JF (by decide) rfl AA AA AA AA AA ?_;exact W5 a E (by exact Ab [0,1,2,3,5] AA AA (.pure (AK λ_=>AA) (.raw AA AA (.pure (AK λ_=>AA) (.pure (AK λ_=>AA) (.pure (AK λ_=>AA) .nil))))) (.same AA)))
    have q:xV 4 (bm 12 255) ⟨72,AN (Kb s0 p0 p2 d e p [(52,ow 2 0 d),(57,ow 4 0 u),(59,i64 f.result)]),eF s0 d e u⟩:=(a _ _ _).2 (by
     refine xa [8] ⟨?_,mD⟩
     ·refine xo 8 ?_;exact zz (.agg [ow 4 0 u,i64 f.result]) (Fo UP US Hq AA AA) rfl (xd a H))
    have j:xV 5 (bm 12 223) ⟨72,AN (Kb s0 p0 p2 d e p [(52,ow 2 0 d),(54,ow 4 0 M),(56,TV f),(59,i64 f.result)]),eF s0 d e M⟩:=(a _ _ _).2 (by
     refine xa [5] ⟨?_,mD⟩
     ·refine xo 5 ?_;exact Cd (l2:=f.steps) AR DT AA AA AA AA Nq Ge Y AA (W5 a q (by exact QO (L:=(Kb s0 p0 p2 d e p [(52,ow 2 0 d),(57,ow 4 0 u),(59,i64 f.result)])) (st':=(eF s0 d e u)) (.pure AA (AK λ_=>AA) (.raw AA AA AA (.pure AA (AK λ_=>AA) (.pure AA (AK λ_=>AA) (.pure AA (AK BV) .nil))))) (.same AA))))
    have B:xV 6 (bm 12 95) ⟨72,AN (Kb s0 p0 p2 d e p [(52,ow 2 0 d),(54,ow 4 0 M),(56,TV f),(58,.Bt (an f) 1)]),eF s0 d e M⟩:=(a _ _ _).2 (by
     refine xa [5,7] ⟨?_,?_,mD⟩
     ·refine xo 5 ?_;refine Cd (l2:=f.steps) AR DT AA AA AA AA Nq Ge Y AA (AE ⟨AA,?_⟩);refine BU tb 7 AA (by kernel_rfl) rfl ?_;exact xw a q (by exact QO (L:=(Kb s0 p0 p2 d e p [(52,ow 2 0 d),(57,ow 4 0 u),(59,i64 f.result)])) (st':=(eF s0 d e u)) (.pure AA (AK λ_=>AA) (.raw AA AA AA (.pure AA (AK λ_=>AA) (.pure AA (AK λ_=>AA) (.pure AA (AK BV) .nil))))) (.same AA))
     ·exact xq tb a j)
    have C:xV 6 (bm 12 219) ⟨72,AN (Kb s0 p0 p2 d e p [(52,ow 2 0 d),(53,ls eI b),(56,TV f),(59,i64 f.result)]),Z8 s0 d e⟩:=(a _ _ _).2 (by
     refine xa [2] ⟨?_,mD⟩
     ·refine xo 2 ?_;exact BE (v':=(ow 4 0 M)) AR (hb 76) (Eo S) rfl AA ⟨Ay BV,mD⟩ AA AA (xd a j))
    have P:xV 7 (bm 12 91) ⟨72,AN (Kb s0 p0 p2 d e p [(52,ow 2 0 d),(53,ls eI b),(56,TV f),(58,.Bt (an f) 1)]),Z8 s0 d e⟩:=(a _ _ _).2 (by
     refine xa [2,7] ⟨?_,?_,mD⟩
     ·refine xo 2 ?_;exact BE (v':=(ow 4 0 M)) AR (hb 76) (Eo S) rfl AA ⟨Ay BV,mD⟩ AA AA (xd a B)
     ·exact xq tb a C)
    have Q:xV 7 (bm 12 203) ⟨72,AN (Kb s0 p0 p2 d e p [(52,ow 2 0 d),(53,ls eI b),(55,T1 f),(59,i64 f.result)]),Z8 s0 d e⟩:=(a _ _ _).2 (by
     refine xa [2,4] ⟨?_,?_,mD⟩
     ·refine xo 2 ?_;refine BE (v':=(ow 4 0 M)) AR (hb 76) (Eo S) rfl AA ⟨Ay BV,mD⟩ AA AA (AE ⟨AA,?_⟩);refine BU tb 4 AA (by kernel_rfl) rfl ?_;exact xt a j
     ·exact xq tb a C)
    have U:xV 8 (bm 12 75) ⟨72,AN (Kb s0 p0 p2 d e p [(52,ow 2 0 d),(53,ls eI b),(55,T1 f),(58,.Bt (an f) 1)]),Z8 s0 d e⟩:=(a _ _ _).2 (by
     refine xa [2,4,7] ⟨?_,?_,?_,mD⟩
     ·refine xo 2 ?_;refine BE (v':=(ow 4 0 M)) AR (hb 76) (Eo S) rfl AA ⟨Ay BV,mD⟩ AA AA (AE ⟨AA,?_⟩);refine BU tb 4 AA (by kernel_rfl) rfl ?_;exact xt a B
     ·exact xq tb a P
     ·exact xq tb a Q)
    refine (a _ _ _).2 ?_;refine BU tb 0 AA (by kernel_rfl) rfl ?_;refine BU tb 1 AA (by kernel_rfl) rfl ?_;refine BU tb 3 AA (by kernel_rfl) rfl ?_;refine BU tb 6 AA (by kernel_rfl) rfl ?_;exact xt a U)
   have i:yL 1 (bm 13 4095) ⟨72,AN (Kb s0 p0 p2 d e p [(11,ls eI b),(12,dd),(51,DH f)]),Q0 s0 d e [ZL]⟩:=(c _ _ _).2 (by
    refine ya [12] ⟨?_,mD⟩
    ·refine yo 12 ?_;exact Aq AR Ho AA AA AA AA AA AA qD rfl (Aa (Wk.CQ (L:=(Kb s0 p0 p2 d e p [(11,ls eI b),(12,T1 f)])) (st':=(Q0 s0 d e [da])) (id:=4) rfl qU (IC AA) (.same AA) rfl) (NL c t (by exact Ab [0,1,2,3] AA AA (.pure (AK λ_=>AA) (.raw AA AA (.pure (AK λ_=>AA) (.pure (AK λ_=>AA) .nil)))) (.same AA)))))
   have z:yL 2 (bm 13 2047) ⟨72,AN (Kb s0 p0 p2 d e p [(11,ls eI b),(51,DH f)]),Z8 s0 d e⟩:=(c _ _ _).2 (by
    refine ya [11] ⟨?_,mD⟩
    ·refine yo 11 ?_;exact Al (m:=4) AR Hq AA AA (yd c i))
   have h:yL 2 (bm 13 3071) ⟨72,AN (Kb s0 p0 p2 d e p (iH b p0 [(44,ow 6 0 D),(49,DH G),(50,ow 4 0 b)])),Q0 s0 d e [BQ b,ZL,BQ D]⟩:=(c _ _ _).2 (by
    refine ya [10] ⟨?_,mD⟩
    ·refine yo 10 ?_;exact Aa (Wk.CQ (L:=(Kb s0 p0 p2 d e p (iH b p0 [(44,ls eI D),(49,DH G),(50,ow 4 0 b)]))) (st':=(Q0 s0 d e [BQ b,ZL,⟨1,3,1,[]⟩])) (id:=6) rfl (show 1<=6 by decide) (AK λ_=>AA) ⟨.rfl,.rfl,.rfl,.rfl,.rfl,.rfl,.rfl,.rfl,.rfl,.rfl,.CQ AA,.rfl,.rfl,mD⟩ AA) (Aa (Wk.CQ (L:=(Kb s0 p0 p2 d e p [(11,ls eI b),(12,.ptr 5 0 0 0),(41,G2 p0),(44,ls eI D),(49,DH G),(50,ls eI b)])) (st':=(Q0 s0 d e [⟨1,3,1,[]⟩,ZL,⟨1,3,1,[]⟩])) (id:=4) rfl qU (AK λ_=>AA) ⟨.rfl,.rfl,.rfl,.rfl,.rfl,.rfl,.rfl,.CQ AA,.rfl,.rfl,.rfl,.rfl,.CQ AA,mD⟩ AA) (zc (v':=(DH f)) (hb 39) (rU X) rfl AA AA (NL c i (by exact Ab [0,1,2,3,5] AA AA (.pure (AK λ_=>AA) (.raw AA AA (.pure (AK λ_=>AA) (.pure (AK λ_=>AA) (.raw AA AA .nil))))) (.same AA))))))
   have k:yL 3 (bm 13 1023) ⟨72,AN (Kb s0 p0 p2 d e p [(11,ow 4 0 b),(41,G2 p0),(44,ow 5 0 D),(49,DH G),(50,ow 4 0 b)]),Q0 s0 d e [BQ b,BQ D]⟩:=(c _ _ _).2 (by
    refine ya [10,11] ⟨?_,?_,mD⟩
    ·refine yo 10 ?_;exact Aa (Wk.CQ (L:=(Kb s0 p0 p2 d e p [(11,ow 4 0 b),(41,G2 p0),(44,ls eI D),(49,DH G),(50,ow 4 0 b)])) (st':=(Q0 s0 d e [BQ b,⟨1,3,1,[]⟩])) (id:=5) rfl (show 1<=5 by decide) (AK λ_=>AA) ⟨.rfl,.rfl,.rfl,.rfl,.rfl,.rfl,.rfl,.rfl,.rfl,.CQ AA,.rfl,.rfl,mD⟩ AA) (Aa (Wk.CQ (L:=(Kb s0 p0 p2 d e p [(11,ls eI b),(41,G2 p0),(44,ls eI D),(49,DH G),(50,ls eI b)])) (st':=(Q0 s0 d e [⟨1,3,1,[]⟩,⟨1,3,1,[]⟩])) (id:=4) rfl qU (AK λ_=>AA) ⟨.rfl,.rfl,.rfl,.rfl,.rfl,.rfl,.rfl,.CQ AA,.rfl,.rfl,.rfl,.CQ AA,mD⟩ AA) (zc (v':=(DH f)) (hb 39) (rU X) rfl AA AA (NL c z (by exact Ab [0,1,2,3] AA AA (.pure (AK λ_=>AA) (.raw AA AA (.pure (AK λ_=>AA) (.pure (AK λ_=>AA) .nil)))) (.same AA)))))
    ·refine yo 11 ?_;exact Al (m:=6) AR Hq AA AA (NL c h (by exact Ab [0,1,2,3,4,6,5] AA AA (.pure (AK λ_=>AA) (.raw AA AA (.pure (AK λ_=>AA) (.pure (AK λ_=>AA) (.pure (AK λ_=>AA) (.raw AA AA (.pure (AK λ_=>AA) .nil))))))) (.same AA))))
   have o:yL 3 (bm 13 3063) ⟨72,AN (Kb s0 p0 p2 d e p (iH b p0 [(42,ow 0 0 s0),(43,Fs g),(49,DH G),(50,ow 4 0 b)])),Q0 s0 d e [BQ b,ZL]⟩:=(c _ _ _).2 (by
    refine ya [3] ⟨?_,mD⟩
    ·refine yo 3 ?_;exact Fz (v':=(ow 6 0 D)) AR (hb 130) (HP R) rfl (.own AA AA (λ_=>AA) (.val AA .nil)) rfl (Zb (λ_=>AA) mD) rfl AA (yd c h))
   have I:yL 4 (bm 13 1015) ⟨72,AN (Kb s0 p0 p2 d e p [(11,ow 4 0 b),(41,G2 p0),(42,ow 0 0 s0),(43,Fs g),(49,DH G),(50,ow 4 0 b)]),Q0 s0 d e [BQ b]⟩:=(c _ _ _).2 (by
    refine ya [3,11] ⟨?_,?_,mD⟩
    ·refine yo 3 ?_;exact Fz (v':=(ow 5 0 D)) AR (hb 130) (HP R) rfl (.own AA AA (λ_=>AA) (.val AA .nil)) rfl (Zb (λ_=>AA) mD) rfl AA (yd c k)
    ·refine yo 11 ?_;exact Al (m:=5) AR Hq AA AA (yd c o))
   have J:yL 4 (bm 13 2807) ⟨72,AN (Kb s0 p0 p2 d e p (iH b p0 [(42,ow 0 0 s0),(43,Fs g),(48,.Bt (Bq G) 0),(50,ow 4 0 b)])),Q0 s0 d e [BQ b,ZL]⟩:=(c _ _ _).2 (by
    refine ya [3,8] ⟨?_,?_,mD⟩
    ·refine yo 3 ?_;refine Fz (v':=(ow 6 0 D)) AR (hb 130) (HP R) rfl (.own AA AA (λ_=>AA) (.val AA .nil)) rfl (Zb (λ_=>AA) mD) rfl AA (AE ⟨AA,?_⟩);refine HX tb 8 AA (by kernel_rfl) rfl ?_;exact U5 c h
    ·exact XC tb c o)
   have K:yL 5 (bm 13 759) ⟨72,AN (Kb s0 p0 p2 d e p [(11,ow 4 0 b),(41,G2 p0),(42,ow 0 0 s0),(43,Fs g),(48,.Bt (Bq G) 0),(50,ow 4 0 b)]),Q0 s0 d e [BQ b]⟩:=(c _ _ _).2 (by
    refine ya [3,8,11] ⟨?_,?_,?_,mD⟩
    ·refine yo 3 ?_;refine Fz (v':=(ow 5 0 D)) AR (hb 130) (HP R) rfl (.own AA AA (λ_=>AA) (.val AA .nil)) rfl (Zb (λ_=>AA) mD) rfl AA (AE ⟨AA,?_⟩);refine HX tb 8 AA (by kernel_rfl) rfl ?_;exact U5 c k
    ·exact XC tb c I
    ·refine yo 11 ?_;exact Al (m:=5) AR Hq AA AA (yd c J))
   refine (c _ _ _).2 ?_;refine Wa 7 (v:=(.Bt (Bq G) 0)) rfl (by kernel_rfl) (by kernel_rfl) (Bc JF AA AA c3 AA) ?_;exact U5 c K
  refine zr tb AA AA ?_;refine ci W AA ?_ ?_<;>clear W<;>intro g3 W
  ·refine CC 6 (by kernel_rfl) (by kernel_rfl) (by rfl) ?_;iterate 4 refine yq tb rfl ?_
   refine bs W λd3 Z W=>yz (.ptr 3 0 (Int.toNat p) 0) (Cb BD AA AA AA AA Z) rfl (yz (i64 d3) (DQ Ie AA AA (Ed Z) rfl) rfl (BO (bs W λd4 c5 W=>zc (hb 122) (G8 c5) rfl AA AA (zq tb AA ?_))));exact AE (b9 d4 (Sh.AB W).symm _ (Ab [0,1,2,3] AA AA (.pure (AK λ_=>AA) (.raw AA AA (.pure (AK λ_=>AA) (.pure (AK λ_=>AA) .nil)))) (.same AA)))
  ·exact AG (b9 [] (Sh.AB W).symm _ (by refine Wk.trans (Wk.CQ (L:=(Kb s0 p0 p2 d e p [(10,Yr)])) (st':=(Q0 s0 d e [⟨1,3,1,[]⟩])) (id:=4) rfl qU (AK λ_=>AA) ⟨.rfl,.rfl,.rfl,.rfl,.rfl,.rfl,.rfl,.CQ AA,mD⟩ AA) ?_;exact Ab [0,1,2,3] AA AA (.pure (AK λ_=>AA) (.raw AA AA (.pure (AK λ_=>AA) (.pure (AK λ_=>AA) .nil)))) (.same AA)))
 ·exact Ah (d1 d (Sh.AB A).symm _ (Ab [0,1,2] AA AA (.pure (AK λ_=>AA) (.raw AA AA (.pure (AK λ_=>AA) .nil))) (.same AA)))
theorem Pw {N:Nat}{qs:AT->(List Int)->Block->(List Int)->Option (Block)}(rU :∀{p0:AT} {p1:(List Int)} {p2:Block} {p3:(List Int)} {r:Block},qs p0 p1 p2 p3=some r->AS Tryz.prog 39 [G2 p0,ls eI p1,DH p2,ls eI p3] [] (λv st=>v=(DH r)/\st=[])){p0:AT}{p1:(List Int)}{p2:Block}{p3:(List Int)}{r:Block}(h0:HZ N qs p0 p1 p2 p3=some r):AS Tryz.prog 39 [G2 p0,ls eI p1,DH p2,ls eI p3] [] (λv st=>v=(DH r)/\st=[]):=by
 unfold HZ at h0;refine FK AA (ai Tryz.func39 AA AA AA AA (sr AA λK1 g2=>Aw (m:=0) AR AA AA AA AA AA (Aw (m:=1) AR AA AA AA AA AA (Al (m:=2) AR Hq AA AA (dn g2 AA (sr AA λK2 g3=>?_))))));refine CE (m:=3) (l:=([]:List Step)) (enc:=Bx) AR DT (by decide) rfl AA (by simp only[List.map,CK];rfl) rfl AA AA ?_;refine zq tb AA (dn g3 AA (sr AA λK3 g4=>zq tb AA (bs h0 λq4 g5 h0=>BE (v':=(ow 4 0 q4)) AR (hb 74) (FB g5) rfl AA ⟨(Ay λ_=>AA),mD⟩ AA AA (zq tb AA (dn g4 AA (sr AA λK5 g6=>zq tb AA (bs h0 λq6 g7 h0=>BE (v':=(ow 5 0 q6)) AR (hb 74) (FB g7) rfl AA ⟨(Ay λ_=>AA),mD⟩ AA AA ?_)))))));refine zq tb AA (dn g6 AA (AD λK7 g8=>zr tb AA AA (bs h0 λD a h0=>?_)));have g9:∀(o:(List Step)) (p:(List Int)) (c:(List Int)),D=(o,p,c)->∀s,Wk 0 s ⟨80,AN [(6,Bm),(8,Dh),(9,ow 2 0 o),(10,ow 3 0 p),(11,ow 4 0 c)],Ph p2 [PE o,BQ p,BQ c]⟩->K7 s:=by
  intro o p c hq s E;subst D;try dsimp only at h0
  refine g8 _ (AJ E (AD λh3 T=>bs h0 λU a h0=>?_));have V:∀(d:(List Step)),U=d->∀s,Wk 0 s ⟨80,AN [(6,Bm),(8,Dh),(9,ow 2 0 d),(11,ow 3 0 c)],Ph p2 [PE d,BQ c]⟩->h3 s:=by
   intro d hq s E;subst U;try dsimp only at h0
   refine T _ (AJ E (AD λh4 W=>bs h0 λX a h0=>?_));have j:∀(q:(List Step)),X=q->∀s,Wk 0 s ⟨80,AN [(8,Bm)],[fT q p2.result]⟩->h4 s:=by
    intro q hq s E;subst X;try dsimp only at h0
    refine W _ (AJ E ?_);obtain rfl:=Sh.AB h0;exact BG (Exists.intro _ (And.intro (Wk.refl _ _) (Ch (x:=.tmp 8) (off:=0) (cs:=(Rx q p2.result)) (vs:=(Rx q p2.result)) Ho AA AA AA qD rfl _ AA)))
   refine IT (by kernel_rfl) ?_;refine JW 0 (v:=(ow 2 0 d)) rfl AA (by kernel_rfl) (by kernel_rfl) (by kernel_rfl) rfl (EK AA) ?_;refine JW 1 (v:=(ow 3 0 c)) rfl AA (by kernel_rfl) (by kernel_rfl) (by kernel_rfl) rfl (EK AA) ?_;refine xa [2,4] ⟨?_,?_,mD⟩
   ·refine xo 2 ?_;refine Aa (Wk.CQ (L:=[(6,Bm),(8,Dh),(73,ow 2 0 d),(74,ls eI c)]) (st':=(Ph p2 [PE d,⟨1,3,1,[]⟩])) (id:=3) rfl qQ (AK λ_=>AA) ⟨.rfl,.rfl,.rfl,.CQ AA,mD⟩ AA) (bs a λh Y a=>BE (v':=(ow 4 0 h)) AR (hb 76) (Eo Y) rfl AA ⟨Ay BV,mD⟩ AA AA (AE ⟨AA,?_⟩));refine xa [3,4] ⟨?_,?_,mD⟩
    ·refine xo 3 ?_;refine bs a λF Z a=>Cd (l2:=h) AR DT AA AA AA AA (H6 AA AA Gt) Ge Z AA (AE ⟨AA,?_⟩);refine xa [4] ⟨?_,mD⟩
     ·refine xo 4 ?_;refine zq tb AA (AE ⟨AA,?_⟩);refine xa [5] ⟨?_,mD⟩
      ·refine xo 5 ?_;refine zq tb AA (AE ⟨AA,?_⟩);refine xa [6] ⟨?_,mD⟩
       ·refine xo 6 ?_;refine zz (dN F p2.result) (Fo UP US Hq AA AA) rfl (AE ⟨AA,?_⟩);refine xa [7] ⟨?_,mD⟩
        ·refine xo 7 ?_;refine Aa (Wk.CQ (L:=[(8,Dh),(79,.agg (Rx F p2.result))]) (st':=(Ph p2 (dC h []))) (id:=2) rfl qI (AK BV) ⟨.rfl,.agg ⟨.Hr AA,.rfl,mD⟩,mD⟩ AA) (Aq AR Ho AA AA AA AA AA AA qD rfl (AE ⟨AA,?_⟩));exact GD AA (by kernel_rfl) (j F (Sh.AB a).symm _ (by exact Ab [1] AA AA (.raw AA AA .nil) (.same AA)))
    ·refine xo 4 ?_;refine zq tb AA (AE ⟨AA,?_⟩);refine xa [3,5] ⟨?_,?_,mD⟩
     ·refine xo 3 ?_;refine bs a λG b0 a=>Cd (l2:=h) AR DT AA AA AA AA (H6 AA AA Gt) Ge b0 AA (AE ⟨AA,?_⟩);refine xa [5] ⟨?_,mD⟩
      ·refine xo 5 ?_;refine zq tb AA (AE ⟨AA,?_⟩);refine xa [6] ⟨?_,mD⟩
       ·refine xo 6 ?_;refine zz (dN G p2.result) (Fo UP US Hq AA AA) rfl (AE ⟨AA,?_⟩);refine xa [7] ⟨?_,mD⟩
        ·refine xo 7 ?_;refine Aa (Wk.CQ (L:=[(8,Dh),(79,.agg (Rx G p2.result))]) (st':=(Ph p2 (dC h []))) (id:=2) rfl qI (AK BV) ⟨.rfl,.agg ⟨.Hr AA,.rfl,mD⟩,mD⟩ AA) (Aq AR Ho AA AA AA AA AA AA qD rfl (AE ⟨AA,?_⟩));exact GD AA (by kernel_rfl) (j G (Sh.AB a).symm _ (by exact Ab [1] AA AA (.raw AA AA .nil) (.same AA)))
     ·refine xo 5 ?_;refine zq tb AA (AE ⟨AA,?_⟩);refine xa [3] ⟨?_,mD⟩
      ·refine xo 3 ?_;refine bs a λH b1 a=>Cd (l2:=h) AR DT AA AA AA AA (H6 AA AA Gt) Ge b1 AA (AE ⟨AA,?_⟩);refine xa [6] ⟨?_,mD⟩
       ·refine xo 6 ?_;refine zz (dN H p2.result) (Fo UP US Hq AA AA) rfl (AE ⟨AA,?_⟩);refine xa [7] ⟨?_,mD⟩
        ·refine xo 7 ?_;refine Aa (Wk.CQ (L:=[(8,Dh),(79,.agg (Rx H p2.result))]) (st':=(Ph p2 (dC h []))) (id:=2) rfl qI (AK BV) ⟨.rfl,.agg ⟨.Hr AA,.rfl,mD⟩,mD⟩ AA) (Aq AR Ho AA AA AA AA AA AA qD rfl (AE ⟨AA,?_⟩));exact GD AA (by kernel_rfl) (j H (Sh.AB a).symm _ (by exact Ab [1] AA AA (.raw AA AA .nil) (.same AA)))
   ·refine xo 4 ?_;refine zq tb AA (AE ⟨AA,?_⟩);refine xa [2,5] ⟨?_,?_,mD⟩
    ·refine xo 2 ?_;refine Aa (Wk.CQ (L:=[(8,Dh),(73,ow 2 0 d),(74,ls eI c),(77,.ptr 0 0 0 1)]) (st':=(Ph p2 [PE d,⟨1,3,1,[]⟩])) (id:=3) rfl qQ (AK λ_=>AA) ⟨.rfl,.rfl,.CQ AA,.rfl,mD⟩ AA) (bs a λt b2 a=>BE (v':=(ow 4 0 t)) AR (hb 76) (Eo b2) rfl AA ⟨Ay BV,mD⟩ AA AA (AE ⟨AA,?_⟩));refine xa [3,5] ⟨?_,?_,mD⟩
     ·refine xo 3 ?_;refine bs a λI b3 a=>Cd (l2:=t) AR DT AA AA AA AA (H6 AA AA Gt) Ge b3 AA (AE ⟨AA,?_⟩);refine xa [5] ⟨?_,mD⟩
      ·refine xo 5 ?_;refine zq tb AA (AE ⟨AA,?_⟩);refine xa [6] ⟨?_,mD⟩
       ·refine xo 6 ?_;refine zz (dN I p2.result) (Fo UP US Hq AA AA) rfl (AE ⟨AA,?_⟩);refine xa [7] ⟨?_,mD⟩
        ·refine xo 7 ?_;refine Aa (Wk.CQ (L:=[(8,Dh),(79,.agg (Rx I p2.result))]) (st':=(Ph p2 (dC t []))) (id:=2) rfl qI (AK BV) ⟨.rfl,.agg ⟨.Hr AA,.rfl,mD⟩,mD⟩ AA) (Aq AR Ho AA AA AA AA AA AA qD rfl (AE ⟨AA,?_⟩));exact GD AA (by kernel_rfl) (j I (Sh.AB a).symm _ (by exact Ab [1] AA AA (.raw AA AA .nil) (.same AA)))
     ·refine xo 5 ?_;refine zq tb AA (AE ⟨AA,?_⟩);refine xa [3] ⟨?_,mD⟩
      ·refine xo 3 ?_;refine bs a λJ b4 a=>Cd (l2:=t) AR DT AA AA AA AA (H6 AA AA Gt) Ge b4 AA (AE ⟨AA,?_⟩);refine xa [6] ⟨?_,mD⟩
       ·refine xo 6 ?_;refine zz (dN J p2.result) (Fo UP US Hq AA AA) rfl (AE ⟨AA,?_⟩);refine xa [7] ⟨?_,mD⟩
        ·refine xo 7 ?_;refine Aa (Wk.CQ (L:=[(8,Dh),(79,.agg (Rx J p2.result))]) (st':=(Ph p2 (dC t []))) (id:=2) rfl qI (AK BV) ⟨.rfl,.agg ⟨.Hr AA,.rfl,mD⟩,mD⟩ AA) (Aq AR Ho AA AA AA AA AA AA qD rfl (AE ⟨AA,?_⟩));exact GD AA (by kernel_rfl) (j J (Sh.AB a).symm _ (by exact Ab [1] AA AA (.raw AA AA .nil) (.same AA)))
    ·refine xo 5 ?_;refine zq tb AA (AE ⟨AA,?_⟩);refine xa [2] ⟨?_,mD⟩
     ·refine xo 2 ?_;refine Aa (Wk.CQ (L:=[(8,Dh),(73,ow 2 0 d),(74,ls eI c),(78,i64 p2.result)]) (st':=(Ph p2 [PE d,⟨1,3,1,[]⟩])) (id:=3) rfl qQ (AK λ_=>AA) ⟨.rfl,.rfl,.CQ AA,.rfl,mD⟩ AA) (bs a λK b5 a=>BE (v':=(ow 4 0 K)) AR (hb 76) (Eo b5) rfl AA ⟨Ay BV,mD⟩ AA AA (AE ⟨AA,?_⟩));refine xa [3] ⟨?_,mD⟩
      ·refine xo 3 ?_;refine bs a λM b6 a=>Cd (l2:=K) AR DT AA AA AA AA (H6 AA AA Gt) Ge b6 AA (AE ⟨AA,?_⟩);refine xa [6] ⟨?_,mD⟩
       ·refine xo 6 ?_;refine zz (dN M p2.result) (Fo UP US Hq AA AA) rfl (AE ⟨AA,?_⟩);refine xa [7] ⟨?_,mD⟩
        ·refine xo 7 ?_;refine Aa (Wk.CQ (L:=[(8,Dh),(79,.agg (Rx M p2.result))]) (st':=(Ph p2 (dC K []))) (id:=2) rfl qI (AK BV) ⟨.rfl,.agg ⟨.Hr AA,.rfl,mD⟩,mD⟩ AA) (Aq AR Ho AA AA AA AA AA AA qD rfl (AE ⟨AA,?_⟩));exact GD AA (by kernel_rfl) (j M (Sh.AB a).symm _ (by exact Ab [1] AA AA (.raw AA AA .nil) (.same AA)))
  refine sr AA λh7 b7=>zm tb 3 AA (bs a λO B a=>zz (.ptr 3 0 (Int.toNat p2.result) 0) (Cb BD AA AA AA AA B) rfl (zz (i64 O) (DQ Ie AA AA (Ed B) rfl) rfl (zq tb AA (dn b7 AA ?_))));refine ci a AA ?_ ?_<;>clear a<;>intro b8 a
  ·have h8:decide (O=0)=false:=by simpa using b8
   refine AF AA (zm tb 3 AA (bs a λA b9 a=>zc (v':=(Mb A)) (hb 79) (N0 b9) rfl AA AA ?_));refine CE (m:=5) (l:=[A]) (enc:=Bx) AR DT (by decide) rfl AA (by simp only[List.map,CK];rfl) rfl AA AA ?_;refine bs a λP c0 a=>Cd (l2:=[A]) AR DT AA AA AA AA (H6 AA AA Gt) Ge c0 AA (zq tb AA ?_);exact AE (V P (Sh.AB a).symm _ (by refine Wk.trans (CJ (L:=[(6,Bm),(8,Dh),(9,ow 2 0 P),(11,ow 4 0 c)]) (st':=(Ph p2 [PE P,BQ p,BQ c,ro 0 97 5 Bx [A]])) (.raw AA AA (.raw AA AA (.pure (AK BV) (.pure (AK λ_=>AA) (.pure (AK λ_=>AA) (.pure (AK BV) .nil)))))) (.same AA)) ?_;exact Ab [0,1,2,4] AA AA (.raw AA AA (.raw AA AA (.pure (AK BV) (.pure (AK λ_=>AA) .nil)))) (.same AA)))
  ·have h9:decide (O=0)=true:=by simpa using b8
   exact AG (V o (Sh.AB a).symm _ (Ab [0,1,2,4] AA AA (.raw AA AA (.raw AA AA (.pure (AK BV) (.pure (AK λ_=>AA) .nil)))) (.same AA)))
 refine AL (Af (σ:=Int×(List Step)×(List Int)×(List Int)) (λn v=>DR N p0 p2 qs n v.1 v.2.1 v.2.2.1 v.2.2.2=some D) (λ(C,k,b,e)=>⟨80,AN [(4,.ptr 0 0 0 0),(6,.ptr 1 0 0 0),(8,.ptr 2 0 0 0),(9,ow 3 0 k),(10,ow 4 0 b),(11,ow 5 0 e),(12,i64 C)],[Kc p0.decls p0.AH,fT p2.steps p2.result,ZL,ro 0 97 5 Bx k,ro 0 3 1 eI b,ro 0 3 1 eI e]⟩) N (0,[],q4,q6) a (AI AA) (λ_ hv=>by rw[DR]at hv;cases hv) ?_);rintro n ⟨C,k,b,e⟩ a;try dsimp only at a⊢
 rw[DR]at a;refine AD λk0 c1=>sr AA λk1 c2=>zm tb 3 AA (zl tb AA AA (zq tb AA (dn c2 AA ?_)));refine ci a AA ?_ ?_<;>clear a<;>intro k2 a
 ·refine AG (c1 _ (AD λk3 c3=>AL (sr AA λk4 c4=>zm tb 3 AA (bs a λu c5 a=>zz (Lj u) (E3 DT AA AA c5 (CK _) rfl) rfl (zq tb AA (Al (m:=6) AR Nl AA AA (Aq AR L6 AA AA AA AA AA AA qG rfl (dn c4 AA (sr AA λk5 c6=>?_)))))))));refine zm tb 3 AA (bs a λf c7 a=>Fz (v':=(i64 f)) AR (hb 75) (Q7 c7) rfl (.val AA (.own AA AA (λ_=>AA) (.val AA .nil))) rfl mD AA AA (zq tb AA (dn c6 AA (sr AA λk6 c8=>zm tb 4 AA (bs a λc9 d0 a=>Fz (v':=(ow 7 0 c9)) AR (hb 77) (OI d0) rfl (.val AA (.own AA AA (λ_=>AA) (.val AA .nil))) rfl (Zb (λ_=>AA) mD) rfl AA (Aa (Wk.CQ (L:=[(4,Bm),(6,Dh),(8,G6),(10,ow 4 0 b),(11,ow 5 0 e),(12,i64 C),(13,.ptr 6 0 0 0),(14,i64 f),(36,ow 3 0 k),(40,ls eI c9)]) (st':=((Kc p0.decls p0.AH)::Ph p2 ((PE k)::(BQ b)::gW e u [⟨1,3,1,[]⟩]))) (id:=7) rfl qX (AK λ_=>AA) ⟨.rfl,.rfl,.rfl,.rfl,.rfl,.rfl,.rfl,.rfl,.rfl,.CQ AA,mD⟩ AA) (bs a λy d1 a=>BE (v':=(ow 8 0 y)) AR (hb 76) (Eo d1) rfl AA ⟨Ay BV,mD⟩ AA AA ?_)))))));refine bs a λh5 d2 a=>Cd (l2:=y) AR DT AA AA AA AA (H6 AA AA Gt) Ge d2 AA (zq tb AA (dn c8 AA (sr AA λk7 d3=>zm tb 4 AA (bs a λz d4 a=>?_))));refine UD (rows0:=[BQ b]) (rows1:=[BQ b]) (st':=((Kc p0.decls p0.AH)::Ph p2 ((ro 1 97 5 Bx h5)::(BQ b)::gW e u [⟨1,3,1,[]⟩,PE y]))) (v':=(Mb z)) [4] AR (hb 78) (Sj rU d4) rfl (by decide) rfl AA (.pure (AK λ_=>AA) .nil) rfl AA (.pure (AK λ_=>AA) .nil) .nil AA AA ?_;refine CE (m:=9) (l:=[z]) (enc:=Bx) AR DT (by decide) rfl AA (by simp only[List.map,CK];rfl) rfl AA AA ?_;refine bs a λg d5 a=>Cd (l2:=[z]) AR DT AA AA AA AA (H6 AA AA Gt) Ge d5 AA (zq tb AA (dn d3 AA (AD λh6 d6=>bs a λd7 Q a=>?_)));have d8:∀(i:(List Int)),d7=i->∀s,Wk 0 s ⟨80,AN (iz g b i [(12,i64 C),(14,i64 f)]),((Kc p0.decls p0.AH)::Ph p2 [PE g,BQ b,BQ i])⟩->h6 s:=by
   intro i hq s E;subst d7;try dsimp only at a
   refine d6 _ (AJ E (AF AA (zm tb 2 AA ?_)));refine CE (m:=6) (l:=[f]) (enc:=eI) AR BD (by decide) rfl AA AA AA AA AA ?_;refine bs a λR d9 a=>Cd (l2:=[f]) AR BD AA AA AA AA (H6 AA AA) (λ_=>AA) d9 AA (zq tb AA (dn c3 AA (AF AA (zm tb 3 AA ?_))));exact AE (xi (Sh.w (C+1),g,R,i) a (by refine Wk.trans (CJ (L:=(iz g R i [(12,MO C)])) (st':=((Kc p0.decls p0.AH)::Ph p2 [PE g,BQ R,BQ i,Qr f])) (.raw AA AA (.raw AA AA (.raw AA AA (.pure (AK BV) (.pure (AK λ_=>AA) (.pure (AK λ_=>AA) (.pure (AK λ_=>AA) .nil))))))) (.same AA)) ?_;exact Ab [0,1,2,3,4,5] AA AA (.raw AA AA (.raw AA AA (.raw AA AA (.pure (AK BV) (.pure (AK λ_=>AA) (.pure (AK λ_=>AA) .nil)))))) (.same AA)))
  refine zr tb AA AA ?_;refine ci Q AA ?_ ?_<;>clear Q<;>intro g0 Q
  ·have k8:decide (f=0)=false:=by simpa using g0
   refine AF AA (zm tb 2 AA (zz (Eu b) (D0 F8 AA AA AA) rfl ?_));refine CE (m:=10) (l:=[Sh.len b]) (enc:=eI) AR BD (by decide) rfl AA AA AA AA AA ?_;refine bs Q λS g1 Q=>Cd (l2:=[Sh.len b]) AR BD AA AA AA AA (H6 AA AA) (λ_=>AA) g1 AA (zq tb AA ?_);exact AE (d8 S (Sh.AB Q).symm _ (by refine Wk.trans (CJ (L:=(iz g b S [(12,i64 C),(14,i64 f)])) (st':=((Kc p0.decls p0.AH)::Ph p2 ((PE g)::(BQ b)::gW S u [⟨0,3,1,[]⟩,PE y,ro 0 97 5 Bx [z],ro 0 3 1 eI [Sh.len b]]))) (.raw AA AA (.raw AA AA (.raw AA AA (.pure (AK BV) (.pure (AK λ_=>AA) (.pure (AK λ_=>AA) (.raw AA AA (.pure (by intro x hx;cases hx) (.pure (AK BV) (.pure (AK BV) (.pure (AK λ_=>AA) .nil))))))))))) (.same AA)) ?_;exact Ab [0,1,2,3,4,5] AA AA (.raw AA AA (.raw AA AA (.raw AA AA (.pure (AK BV) (.pure (AK λ_=>AA) (.pure (AK λ_=>AA) .nil)))))) (.same AA)))
  ·have l0:decide (f=0)=true:=by simpa using g0
   exact AG (d8 e (Sh.AB Q).symm _ (by refine Wk.trans (CJ (L:=(iz g b e [(12,i64 C),(14,i64 f)])) (st':=((Kc p0.decls p0.AH)::Ph p2 ((PE g)::(BQ b)::gW e u [⟨0,3,1,[]⟩,PE y,ro 0 97 5 Bx [z]]))) (.raw AA AA (.raw AA AA (.raw AA AA (.pure (AK BV) (.pure (AK λ_=>AA) (.pure (AK λ_=>AA) (.raw AA AA (.pure (by intro x hx;cases hx) (.pure (AK BV) (.pure (AK BV) .nil)))))))))) (.same AA)) ?_;exact Ab [0,1,2,3,4,5] AA AA (.raw AA AA (.raw AA AA (.raw AA AA (.pure (AK BV) (.pure (AK λ_=>AA) (.pure (AK λ_=>AA) .nil)))))) (.same AA)))
 ·exact Ah (g9 k b e (Sh.AB a).symm _ (Ab [1,2,3,4,5] AA AA (.raw AA AA (.raw AA AA (.pure (AK BV) (.pure (AK λ_=>AA) (.pure (AK λ_=>AA) .nil))))) (.same AA)))
theorem Pr {N:Nat}:∀(n:Nat),∀{p0:AT} {p1:(List Int)} {p2:Block} {p3:(List Int)} {r:Block},GX N n p0 p1 p2 p3=some r->AS Tryz.prog 39 [G2 p0,ls eI p1,DH p2,ls eI p3] [] (λv st=>v=(DH r)/\st=[]):=by
 intro n
 induction n with
 | zero=>intro p0 p1 p2 p3 r a;cases a
 | succ n ih=>
  intro p0 p1 p2 p3 r a;rw[GX]at a;exact Pw (λh=>ih h) a
theorem Ro {N:Nat}:∀{p0:AT} {p1:(List Int)} {p2:Block} {p3:(List Int)} {r:Block},MQ N p0 p1 p2 p3=some r->AS Tryz.prog 39 [G2 p0,ls eI p1,DH p2,ls eI p3] [] (λv st=>v=(DH r)/\st=[]):=by
 intro p0 p1 p2 p3 r a;exact Pr N a
theorem SX {p0:Ad}{p1:Block}{r:Ad}(h0:LC p0 p1=some r):AS Tryz.prog 38 [Wc p0,DH p1] [] (λv st=>v=(Wc r)/\st=[]):=by
 unfold LC at h0;refine FK AA (ai Tryz.func38 AA AA AA AA (sr AA λg c=>Aw (m:=0) AR AA AA AA AA AA (Aw (m:=1) AR AA AA AA AA AA (Al (m:=2) AR Ni AA AA (dn c AA (AD λh d=>?_))))));refine CC 10 (by kernel_rfl) (by kernel_rfl) (by rfl) ?_;iterate 2 refine yq tb rfl ?_
 refine bs h0 λa e h0=>?_;refine CI (v:=(ls eI a)) AR (hb 74) (AS.wk (FB e) (by refine Wk.trans (Wk.CQ (L:=[(0,ls eI a)]) (st':=XH) (id:=0) rfl qM (AK λ_=>AA) ⟨.CQ AA,mD⟩ AA) ?_;exact Ab [] AA AA .nil (.same AA))) rfl AA AA ?_;iterate 2 refine yq tb rfl ?_
 refine bs h0 λb f h0=>?_;refine CI (v:=(ls eI b)) AR (hb 74) (AS.wk (FB f) (by refine Wk.trans (Wk.CQ (L:=[(0,ls eI b)]) (st':=XH) (id:=0) rfl qM (AK λ_=>AA) ⟨.CQ AA,mD⟩ AA) ?_;exact Ab [] AA AA .nil (.same AA))) rfl AA AA ?_;iterate 3 refine yq tb rfl ?_
 refine yz (.agg [ls eI a,ls eI b,i64 p0.result,TV p1,i64 p1.result]) (Fo fM fB Ni AA AA) rfl (BO (Aq AR Nv AA AA AA AA AA AA qG rfl (dn d AA ?_)));obtain rfl:=Sh.AB h0;exact BG (Exists.intro _ (And.intro (Wk.refl _ _) (Ch (x:=.tmp 4) (off:=0) (cs:=[ls eI a,ls eI b,i64 p0.result,TV p1,i64 p1.result]) (vs:=[ls eI a,ls eI b,i64 p0.result,TV p1,i64 p1.result]) Nv AA AA AA qG rfl _ AA)))
theorem XL {N:Nat}{p0 r:AT}(h0:NP N p0=some r):AS Tryz.prog 15 [G2 p0] [] (λv st=>v=(G2 r)/\st=[]):=by
 unfold NP at h0;refine FK AA (ai Tryz.func15 AA AA AA AA (sr AA λT A=>Aw (m:=0) AR AA AA AA AA AA (Al (m:=1) AR KW AA AA (dn A AA (sr AA λU B=>zm tb 2 AA (bs h0 λb C h0=>BE (v':=(ow 2 0 b)) AR (hb 37) (R5 C) rfl AA ⟨(Ay λ_=>AA),mD⟩ AA AA ?_))))));refine CE (m:=3) (l:=([]:List Ad)) (enc:=Aj) AR GZ (by decide) rfl AA AA AA AA AA ?_;refine zz (.agg [ow 2 0 b,iI]) (Fo Xg Xm KW AA AA) rfl (Al (m:=4) AR KW AA AA (Aa (Wk.CQ (L:=[(1,Bm),(2,Dh),(3,dd),(10,.agg [EG b,iI])]) (st':=[Kc p0.decls p0.AH,U7,bW,ro 0 54 5 Aj ([]:List Ad),U7]) (id:=2) rfl qI (AK λ_=>AA) ⟨.rfl,.rfl,.rfl,.agg ⟨.Hr AA,.rfl,mD⟩,mD⟩ AA) (Aq AR Hs AA AA AA AA AA AA qD rfl (dn B AA (AD λI D=>zr tb AA AA (bs h0 λE a h0=>?_))))));have J:∀(c:(List Ad)),E=c->∀s,Wk 0 s ⟨39,AN [(2,Bm),(3,G6)],[U7,ro 0 54 5 Aj c,⟨0,30,2,[[EG b,ow 1 0 c]]⟩]⟩->I s:=by
  intro c V s K;subst E;try dsimp only at h0
  refine D _ (AJ K (sr AA λM g=>zq tb AA (Aa (Wk.CQ (L:=[(2,Bm),(38,.agg (Wq b c))]) (st':=[U7,⟨1,54,5,[]⟩,⟨0,30,2,[[EG b,ow 1 0 c]]⟩]) (id:=1) rfl qN (AK λ_=>AA) ⟨.rfl,.agg ⟨.rfl,.Hr AA,mD⟩,mD⟩ AA) (Aq AR Hs AA AA AA AA AA AA qD rfl (dn g AA ?_)))));obtain rfl:=Sh.AB h0;exact BG (Exists.intro _ (And.intro (Wk.refl _ _) (Ch (x:=.tmp 2) (off:=0) (cs:=(Wq b c)) (vs:=(Wq b c)) Hs AA AA AA qD rfl _ AA)))
 refine AL (Af (σ:=Int×(List Ad)) (λn v=>GI N p0 n v.1 v.2=some E) (λ(z,d)=>⟨39,AN [(1,.ptr 0 0 0 0),(2,.ptr 1 0 0 0),(3,.ptr 3 0 0 0),(4,i64 z)],[Kc p0.decls p0.AH,U7,ro 0 54 5 Aj d,⟨0,30,2,[[ls Am b,ow 2 0 d]]⟩]⟩) N (0,[]) a (CP (L:=[(1,.ptr 0 0 0 0),(2,.ptr 1 0 0 0),(3,.ptr 3 0 0 0),(4,i64 0)]) (st':=[Kc p0.decls p0.AH,U7,ro 0 54 5 Aj ([]:List Ad),⟨0,30,2,[[ls Am b,.own 2 0 (List.length ([]:List Ad))]]⟩]) (st1:=[Kc p0.decls p0.AH,U7,ro 0 54 5 Aj ([]:List Ad),⟨0,30,2,[[ls Am b,.own 3 0 (List.length ([]:List Ad))]]⟩]) [0,1,3,4] AA AA (.raw AA AA (.raw AA AA (.pure (AK λ_=>AA) (.raw AA AA .nil)))) (.same AA)) (λ_ H=>by rw[GI]at H;cases H) ?_);rintro n ⟨z,d⟩ a;try dsimp only at a⊢
 rw[GI]at a;refine AD λO h=>sr AA λP i=>zm tb 3 AA (zl tb AA AA (zq tb AA (dn i AA ?_)));refine ci a AA ?_ ?_<;>clear a<;>intro Q a
 ·refine AG (h _ (AD λR j=>AL (sr AA λS k=>zm tb 3 AA (bs a λF o a=>zx GZ o AA AA AA (zq tb AA (Al (m:=4) AR Ni AA AA (Aq AR Nv AA AA AA AA AA AA qG rfl (dn k AA ?_))))))));refine CC 13 (by kernel_rfl) (by kernel_rfl) (by rfl) ?_;iterate 9 refine yq tb rfl ?_
  refine bs a λp q a=>?_;refine CI (v:=(ls eI p)) AR (hb 40) (AS.wk (SA q) (by refine Wk.trans (Wk.CQ (L:=[(0,ls eI p)]) (st':=XH) (id:=0) rfl qM (AK λ_=>AA) ⟨.CQ AA,mD⟩ AA) ?_;exact Ab [] AA AA .nil (.same AA))) rfl AA AA ?_;refine bs a λG t a=>CI (v:=(DH G)) AR (hb 39) (Ro t) rfl AA AA (bs a λe u a=>CI (v:=(Wc e)) AR (hb 38) (SX u) rfl AA AA ?_);refine XU (l:=[e]) (enc:=Aj) AR GZ (by decide) rfl AA AA AA AA (AK λ_=>AA) ?_;refine BO (bs a λf y a=>Cd (l2:=[e]) AR GZ AA AA AA AA Nq (λ_=>AA) y AA (zq tb AA (Aq AR fD AA AA AA AA AA AA qS rfl (dn j AA (AF AA (zm tb 3 AA ?_))))));exact AE (xi (Sh.w (z+1),f) a (by refine Wk.trans (CJ (L:=[(1,Bm),(2,Dh),(3,Ue),(4,MO z)]) (st':=[Kc p0.decls p0.AH,U7,ro 0 54 5 Aj f,⟨0,30,2,[[EG b,ow 2 0 f]]⟩,⟨0,54,5,[ZZ F]⟩]) (.raw AA AA (.raw AA AA (.pure (AK λ_=>AA) (.raw AA AA (.raw AA AA .nil))))) (.same AA)) ?_;exact Ab [0,1,2,3] AA AA (.raw AA AA (.raw AA AA (.pure (AK λ_=>AA) (.raw AA AA .nil)))) (.same AA)))
 ·exact Ah (J d (Sh.AB a).symm _ (CP (L:=[(2,Bm),(3,G6)]) (st':=[U7,ro 0 54 5 Aj d,⟨0,30,2,[[EG b,ow 1 0 d]]⟩]) (st1:=[U7,ro 0 54 5 Aj d,⟨0,30,2,[[EG b,ow 2 0 d]]⟩]) [1,2,3] AA AA (.raw AA AA (.pure (AK λ_=>AA) (.raw AA AA .nil))) (.same AA)))
theorem XO {N:Nat}{p0:AT}{r:AT×Bool}(h0:NI N p0=some r):AS Tryz.prog 14 [G2 p0] [] (λv st=>v=(.DX [.agg (Wq r.1.decls r.1.AH),.bool r.2])/\st=[]):=by
 unfold NI at h0;refine FK AA (ai Tryz.func14 AA AA AA AA (sr AA λE g=>Aw (m:=0) AR AA AA AA AA AA (Al (m:=1) AR KW AA AA (zq tb AA (dn g AA (AD λq h=>zr tb AA AA ?_))))));obtain⟨i,a,h0⟩:=Sh.Av h0;have t:∀(_:Unit),i=Sum.inr ()->∀s,Wk 0 s ⟨22,AN [(1,Bm),(2,Dh)],[Kc p0.decls p0.AH,U7]⟩->q s:=by
  intro _ F s u;subst i;try dsimp only at h0
  refine h _ (AJ u (sr AA λG j=>zq tb AA (Aq AR Hs AA AA AA AA AA AA qD rfl (zq tb AA (dn j AA ?_)))));obtain rfl:=Sh.AB h0;exact BG (Exists.intro _ (And.intro ((Ab (L:=[(2,Bm),(3,.bool true)]) (st':=[Kc p0.decls p0.AH]) [1] AA AA (.raw AA AA .nil) ⟨.rfl,.rfl,mD⟩).trans (Ao (L:=[(2,Bm),(3,.bool true)]) ⟨.rfl,.rfl,mD⟩)) (Ch (x:=.tmp 2) (off:=0) (cs:=(jA p0)) (vs:=(jA p0)) Hs AA AA AA qD rfl _ AA)))
 refine AL (Af (σ:=Int) (λn v=>GH N p0 n v=some i) (λk=>⟨22,AN [(1,.ptr 0 0 0 0),(2,.ptr 1 0 0 0),(4,i64 k)],[Kc p0.decls p0.AH,U7]⟩) N 0 a (AI AA) (λ_ p=>by rw[GH]at p;cases p) ?_);rintro n k a;try dsimp only at a⊢
 rw[GH]at a;refine AD λH l=>sr AA λI o=>zm tb 3 AA (zl tb AA AA (zq tb AA (dn o AA ?_)));refine ci a AA ?_ ?_<;>clear a<;>intro J a
 ·refine AG (l _ (AD λy b=>AL (sr AA λz c=>zm tb 3 AA (bs a λA d a=>zx GZ d AA AA AA (zm tb 2 AA (bs a λB e a=>zc (hb 36) (OG e) rfl AA AA (zq tb AA (dn c AA ?_))))))));refine ci a AA ?_ ?_<;>clear a<;>intro C a
  ·refine sr AA λD f=>zz (.agg [.zc,.zc]) (Fo Xg Xm KW AA AA) rfl (Aq AR Hs AA AA AA AA AA AA qD rfl (zq tb AA (dn f AA ?_)));obtain rfl:=Sh.AB a;try dsimp only[id]at h0
   obtain rfl:=Sh.AB h0;exact BG (Exists.intro _ (And.intro ((((Ha (id:=1) (cs:=[.zc,.zc]) (cs':=[VV,.zc]) (st':=[Kc p0.decls p0.AH,⟨0,30,2,[[VV,.zc]]⟩]) rfl ⟨le.zc,le.rfl,mD⟩ AA AA).trans (Ha (id:=1) (cs:=[VV,.zc]) (cs':=XA) (st':=[Kc p0.decls p0.AH,⟨0,30,2,[XA]⟩]) rfl ⟨le.rfl,le.zc,mD⟩ AA AA)).trans (Ab (L:=(dL [])) (st':=[⟨0,30,2,[XA]⟩]) [1] AA AA (.raw AA AA .nil) ⟨.rfl,.rfl,mD⟩)).trans (Ao (L:=(dL [])) ⟨.rfl,.rfl,mD⟩)) (Ch (x:=.tmp 2) (off:=0) (cs:=XA) (vs:=XA) Hs AA AA AA qD rfl _ AA)))
  ·exact AG (b _ (AF AA (zm tb 3 AA (AE (xi (Sh.w (k+1)) a (AI AA))))))
 ·exact Ah (t () (Sh.AB a).symm _ (AI AA))
theorem Rn {N:Nat}{p0:AT}{r:AT×Bool}(h0:I1 N p0=some r):AS Tryz.prog 5 [G2 p0] [] (λv st=>v=(.DX [.agg (Wq r.1.decls r.1.AH),.bool r.2])/\st=[]):=by
 unfold I1 at h0;refine FK AA (ai Tryz.func5 AA AA AA AA (sr AA λn d=>Aw (m:=0) AR AA AA AA AA AA (Al (m:=1) AR KW AA AA (zq tb AA (dn d AA (AD λo e=>sr AA λp f=>zq tb AA (bs h0 λk g h0=>zc (hb 13) (UB g) rfl AA AA ?_)))))));refine zq tb AA (dn f AA ?_);refine ci h0 AA ?_ ?_<;>clear h0<;>intro l h0
 ·have q:k=false:=by simpa using l
  refine sr AA λs h=>zz (.agg [.zc,.zc]) (Fo Xg Xm KW AA AA) rfl (Aq AR Hs AA AA AA AA AA AA qD rfl (zq tb AA (dn h AA ?_)));obtain rfl:=Sh.AB h0;exact BG (Exists.intro _ (And.intro ((((Ha (id:=1) (cs:=[.zc,.zc]) (cs':=[VV,.zc]) (st':=[Kc p0.decls p0.AH,⟨0,30,2,[[VV,.zc]]⟩]) rfl ⟨le.zc,le.rfl,mD⟩ AA AA).trans (Ha (id:=1) (cs:=[VV,.zc]) (cs':=XA) (st':=[Kc p0.decls p0.AH,⟨0,30,2,[XA]⟩]) rfl ⟨le.rfl,le.zc,mD⟩ AA AA)).trans (Ab (L:=(dL [])) (st':=[⟨0,30,2,[XA]⟩]) [1] AA AA (.raw AA AA .nil) ⟨.rfl,.rfl,mD⟩)).trans (Ao (L:=(dL [])) ⟨.rfl,.rfl,mD⟩)) (Ch (x:=.tmp 2) (off:=0) (cs:=XA) (vs:=XA) Hs AA AA AA qD rfl _ AA)))
 ·have t:k=true:=by simpa using l
  refine AG (e _ (sr AA λu i=>zq tb AA (bs h0 λj b h0=>zc (v':=(G2 j)) (hb 15) (XL b) rfl AA AA (bs h0 λa c h0=>zc (v':=(.DX [.agg (Wq a.1.decls a.1.AH),.bool a.2])) (hb 14) (XO c) rfl AA AA (zm tb 2 AA (Aq AR Hs AA AA AA AA AA AA qD rfl (zq tb AA (dn i AA ?_))))))));obtain rfl:=Sh.AB h0;exact BG (Exists.intro _ (And.intro ((Ab (L:=[(2,Bm),(3,.bool a.2)]) (st':=[Kc a.1.decls a.1.AH]) [1] AA AA (.raw AA AA .nil) ⟨.rfl,.rfl,mD⟩).trans (Ao (L:=[(2,Bm),(3,.bool a.2)]) ⟨.rfl,.rfl,mD⟩)) (Ch (x:=.tmp 2) (off:=0) (cs:=(Wq a.1.decls a.1.AH)) (vs:=(Wq a.1.decls a.1.AH)) Hs AA AA AA qD rfl _ AA)))
theorem KJ {p0:(List Ac)}{p1:Int}{r:Bool}(h0:HS p0 p1=some r):AS Tryz.prog 90 (TY p0 p1) [] (λv st=>v=(.bool r)/\st=[]):=by
 unfold HS at h0;refine ai Tryz.func90 AA AA AA AA (zr tb AA AA (AD λg d=>bs h0 λe b h0=>?_));have f:∀(c:Bool),e=c->∀s,Wk 0 s ⟨13,AN [(4,.bool c)],[]⟩->g s:=by
  intro c i s h;subst e;try dsimp only at h0
  refine d _ (AJ h ?_);obtain rfl:=Sh.AB h0;exact rt [(4,.bool c)]
 refine AF AA (zm tb 3 AA ?_);rcases Sh.AU b with ⟨a,b⟩|⟨a,b⟩
 ·exact zg tb a AA (zg tb a AA (Ap (v:=(Eu p0)) (BH AA AA a) rfl (Br TI AA) (zg tb a AA (zt a AA (zq tb AA (AE (f (decide (p1<=(Sh.len p0))) (Sh.AB b).symm _ (AI AA))))))))
 ·refine zs a AA ?_;iterate 3 refine zs a rfl ?_
  exact zf a AA (zq tb AA (AE (f false (Sh.AB b).symm _ (AI AA))))
theorem N4 {N:Nat}{p0:(List Ac)}{p1:(List Int)}{r:Bool}(h0:IG N p0 p1=some r):AS Tryz.prog 89 [EG p0,ls eI p1] [] (λv st=>v=(.bool r)/\st=[]):=by
 unfold IG at h0;refine ai Tryz.func89 AA AA AA AA (zr tb AA AA (AD λp i=>sr AA λC j=>zq tb AA (zl tb AA AA (zq tb AA (dn j AA ?_)))));obtain⟨k,a,h0⟩:=Sh.Av h0;have q:∀(_:Unit),k=Sum.inr ()->∀s,Wk 0 s ⟨18,AN [],[]⟩->p s:=by
  intro _ D s t;subst k;try dsimp only at h0
  refine i _ (AJ t (zr tb AA AA ?_));obtain rfl:=Sh.AB h0;exact rt [(4,.bool true)]
 refine AL (Af (σ:=Int) (λn v=>FH p0 p1 n v=some k) (λl=>⟨18,AN [(0,ls Am p0),(7,ls eI p1),(8,i64 (Sh.len p1)),(9,i64 l)],[]⟩) N 0 a (AI AA) (λ_ o=>by rw[FH]at o;cases o) ?_);rintro n l a;try dsimp only at a⊢
 rw[FH]at a;refine zr tb AA AA (AD λE m=>?_);refine ci a AA ?_ ?_<;>clear a<;>intro F a
 ·refine AG (m _ (AD λu b=>AL (sr AA λx c=>bs a λy d a=>zx BD d AA AA AA (zm tb 2 AA (dn c AA (sr AA λz e=>zm tb 2 AA (bs a λf g a=>zc (hb 90) (KJ g) rfl AA AA ?_)))))));refine zq tb AA (dn e AA ?_);refine ci a AA ?_ ?_<;>clear a<;>intro h a
  ·have A:f=false:=by simpa using h
   refine zr tb AA AA ?_;obtain rfl:=Sh.AB a;try dsimp only[id]at h0
   obtain rfl:=Sh.AB h0;exact rt [(4,.bool false)]
  ·have B:f=true:=by simpa using h
   exact AG (b _ (AF AA (zm tb 2 AA (AE (xi (Sh.w (l+1)) a (AI AA))))))
 ·exact Ah (q () (Sh.AB a).symm _ (AI AA))
theorem Qt {N:Nat}{p0:(List Ac)}{r:Bool}(h0:H3 N p0=some r):AS Tryz.prog 88 [EG p0] [] (λv st=>v=(.bool r)/\st=[]):=by
 unfold H3 at h0;refine ai Tryz.func88 AA AA AA AA (zr tb AA AA (AD λK2 c3=>sr AA λK3 c4=>zq tb AA (zl tb AA AA (zq tb AA (dn c4 AA ?_)))));refine ci h0 AA ?_ ?_<;>clear h0<;>intro b4 h0
 ·refine zr tb AA AA ?_;obtain rfl:=Sh.AB h0;exact rt [(2,.bool false)]
 ·refine AG (c3 _ (AD λK6 c5=>sr AA λK7 c6=>zq tb AA (zl tb AA AA (zq tb AA (dn c6 AA ?_)))));obtain⟨o9,d,h0⟩:=Sh.Av h0;have M9:∀(_:Unit),o9=Sum.inr ()->∀s,Wk 0 s ⟨106,AN [],[]⟩->K6 s:=by
   intro _ I s x;subst o9;try dsimp only at h0
   refine c5 _ (AJ x (zr tb AA AA ?_));obtain rfl:=Sh.AB h0;exact rt [(2,.bool true)]
  refine AL (Af (σ:=Int) (λn v=>EP N p0 n v=some o9) (λu=>⟨106,AN [(0,ls Am p0),(12,ls Am p0),(13,i64 (Sh.len p0)),(14,i64 u)],[]⟩) N 0 d (AI AA) (λ_ C=>by rw[EP]at C;cases C) ?_);rintro n u d;try dsimp only at d⊢
  rw[EP]at d;refine zr tb AA AA (AD λd6 J=>?_);refine ci d AA ?_ ?_<;>clear d<;>intro d7 d
  ·refine AG (J _ (AD λc7 K=>AL (sr AA λd8 L=>zq tb AA (bs d λb M d=>zx Dl M AA AA AA (zq tb AA (Al (m:=0) AR GY AA AA (zq tb AA (Aq AR I9 AA AA AA AA AA AA qJ rfl (dn L AA ?_)))))))));refine AD λd9 O=>AD λc8 P=>bs d λQ a d=>?_;have t:∀(D:Bool),Q=D->∀s,Wk 0 s ⟨106,AN (kx p0 u [(52,.bool D)]),[T3 b]⟩->c8 s:=by
    intro D I s x;subst Q;try dsimp only at d
    refine P _ (AJ x ?_);refine ci d AA ?_ ?_<;>clear d<;>intro g0 d
    ·refine zr tb AA AA ?_;obtain rfl:=Sh.AB d;try dsimp only[id]at h0
     obtain rfl:=Sh.AB h0;exact rd [(2,.bool false)]
    ·refine AG (O _ (AD λc9 R=>sr AA λg1 S=>zm tb 2 AA (zl tb AA AA (zq tb AA (dn S AA ?_)))));obtain⟨E,a,d⟩:=Sh.Av d;have d1:∀(_:Unit),E=Sum.inr ()->∀s,Wk 0 s ⟨106,AN (kx p0 u []),[T3 b]⟩->c9 s:=by
      intro _ I s x;subst E;try dsimp only at d
      refine R _ (AJ x (sr AA λg2 T=>zm tb 2 AA (bs d λy U d=>X6 (i:=0) (j:=u) AR Dl AA AA AA (λ_=>AA) U (zl tb AA AA (zq tb AA (dn T AA ?_))))));obtain⟨F,a,d⟩:=Sh.Av d;have d2:∀(_:Unit),F=Sum.inr ()->∀s,Wk 0 s ⟨106,AN [(0,EG p0),(12,EG p0),(13,Eu p0),(14,i64 u)],[]⟩->c7 s:=by
       intro _ I s x;subst F;try dsimp only at d
       exact K _ (AJ x (AF AA (zm tb 2 AA (AE (xi (Sh.w (u+1)) d (AI AA))))))
      refine AL (Af (σ:=Int) (λn v=>Dq b y n v=some F) (λz=>⟨106,AN [(0,ls Am p0),(4,.ptr 0 0 0 0),(12,ls Am p0),(13,i64 (Sh.len p0)),(14,i64 u),(74,ls Am y),(75,i64 (Sh.len y)),(76,i64 z)],[⟨0,83,3,[Am b]⟩]⟩) N 0 a (AI AA) (λ_ C=>by rw[Dq]at C;cases C) ?_);rintro n z a;try dsimp only at a⊢
      rw[Dq]at a;refine zr tb AA AA (AD λg3 V=>?_);refine ci a AA ?_ ?_<;>clear a<;>intro g4 a
      ·refine AG (V _ (AD λg5 W=>AL (sr AA λg6 X=>bs a λY Z a=>zx Dl Z AA AA AA (zq tb AA (Al (m:=1) AR GY AA AA (Aq AR I9 AA AA AA AA AA AA qJ rfl (dn X AA (AD λd3 b0=>bs a λb1 f a=>?_))))))));have A:∀(G:Bool),b1=G->∀s,Wk 0 s ⟨106,AN [(0,EG p0),(4,Bm),(12,EG p0),(13,Eu p0),(14,i64 u),(74,EG y),(75,Eu y),(76,i64 z),(103,.bool G)],[T3 b]⟩->d3 s:=by
        intro G I s x;subst b1;try dsimp only at a
        refine b0 _ (AJ x ?_);refine ci a AA ?_ ?_<;>clear a<;>intro g7 a
        ·refine zr tb AA AA ?_;obtain rfl:=Sh.AB a;try dsimp only[id]at d
         obtain rfl:=Sh.AB d;try dsimp only[id]at h0
         obtain rfl:=Sh.AB h0;exact rd [(2,.bool false)]
        ·exact AG (W _ (AF AA (zm tb 2 AA (AE (xi (Sh.w (z+1)) a (AI AA))))))
       refine AF AA (zm tb 2 AA (zl tb AA AA (zm tb 2 AA ?_)));rcases Sh.AU f with ⟨k,f⟩|⟨k,f⟩
       ·refine zg tb k AA (zg tb k AA (Ap (v:=(Zk Y)) (BH AA AA k) rfl (Br RN AA) (zg tb k AA (zt k AA (zq tb AA ?_)))));rcases Sh.AU f with ⟨p,f⟩|⟨p,f⟩
        ·refine zg tb p AA ?_;iterate 4 refine zg tb p rfl ?_
         refine zt p AA (zq tb AA ?_);rcases Sh.AU f with ⟨q,f⟩|⟨q,f⟩
         ·refine zg tb q AA ?_;iterate 4 refine zg tb q rfl ?_
          refine zt q AA ?_;exact AE (A (decide (Y.to=b.to)) (Sh.AB f).symm _ (Ab [0] AA AA (.raw AA AA .nil) (.same AA)))
         ·refine zs q AA ?_;iterate 4 refine zs q rfl ?_
          refine zf q AA ?_;exact AE (A false (Sh.AB f).symm _ (Ab [0] AA AA (.raw AA AA .nil) (.same AA)))
        ·refine zs p AA ?_;iterate 4 refine zs p rfl ?_
         refine zf p AA (zq tb AA ?_);iterate 5 refine zs rfl rfl ?_
         refine zf AA AA ?_;exact AE (A false (Sh.AB f).symm _ (Ab [0] AA AA (.raw AA AA .nil) (.same AA)))
       ·refine zs k AA ?_;iterate 3 refine zs k rfl ?_
        refine zf k AA (zq tb AA ?_);iterate 5 refine zs rfl rfl ?_
        refine zf AA AA (zq tb AA ?_);iterate 5 refine zs rfl rfl ?_
        refine zf AA AA ?_;exact AE (A false (Sh.AB f).symm _ (Ab [0] AA AA (.raw AA AA .nil) (.same AA)))
      ·exact Ah (d2 () (Sh.AB a).symm _ (BF _ AA))
     refine AL (Af (σ:=Int) (λn v=>Dn N b p0 n v=some E) (λB=>⟨106,AN [(0,ls Am p0),(3,i64 u),(4,.ptr 0 0 0 0),(12,ls Am p0),(13,i64 (Sh.len p0)),(14,i64 u),(54,ls Bv b.cons),(55,i64 (Sh.len b.cons)),(56,i64 B)],[⟨0,83,3,[Am b]⟩]⟩) N 0 a (AI AA) (λ_ C=>by rw[Dn]at C;cases C) ?_);rintro n B a;try dsimp only at a⊢
     rw[Dn]at a;refine zr tb AA AA (AD λg8 b2=>?_);refine ci a AA ?_ ?_<;>clear a<;>intro g9 a
     ·refine AG (b2 _ (AD λh4 b3=>AL (sr AA λh5 b5=>bs a λh6 b6 a=>zx KV b6 AA AA AA (zq tb AA (Al (m:=1) AR OB AA AA (Aq AR LY AA AA AA AA AA AA qK rfl (dn b5 AA (AD λd4 b7=>bs a λb8 f a=>?_))))))));have b9:∀(H:Bool),b8=H->∀s,Wk 0 s ⟨106,AN (kx p0 u [(54,ls Bv b.cons),(55,Zk b),(56,i64 B),(70,.bool H)]),[T3 b]⟩->d4 s:=by
       intro H I s x;subst b8;try dsimp only at a
       refine b7 _ (AJ x ?_);refine ci a AA ?_ ?_<;>clear a<;>intro h7 a
       ·refine zr tb AA AA ?_;obtain rfl:=Sh.AB a;try dsimp only[id]at d
        obtain rfl:=Sh.AB d;try dsimp only[id]at h0
        obtain rfl:=Sh.AB h0;exact rd [(2,.bool false)]
       ·exact AG (b3 _ (AF AA (zm tb 2 AA (AE (xi (Sh.w (B+1)) a (AI AA))))))
      refine AF AA (zm tb 2 AA (zl tb AA AA (zm tb 2 AA ?_)));rcases Sh.AU f with ⟨g,f⟩|⟨g,f⟩
      ·refine zs g AA ?_;iterate 4 refine zs g rfl ?_
       refine zt g AA ?_;exact AE (b9 true (Sh.AB f).symm _ (Ab [0] AA AA (.raw AA AA .nil) (.same AA)))
      ·refine zg tb g AA (zg tb g AA (zg tb g AA (bs f λd5 c0 f=>zd g (hb 89) (N4 c0) rfl AA AA AA (zg tb g AA (zf g AA ?_)))));exact AE (b9 (!d5) (Sh.AB f).symm _ (Ab [0] AA AA (.raw AA AA .nil) (.same AA)))
     ·exact Ah (d1 () (Sh.AB a).symm _ (AI AA))
   refine AF AA (zm tb 3 AA (bs a λh8 c1 a=>zc (hb 90) (KJ c1) rfl AA AA (zm tb 2 AA ?_)));rcases Sh.AU a with ⟨h,a⟩|⟨h,a⟩
   ·refine zs h AA ?_;iterate 4 refine zs h rfl ?_
    refine zt h AA (zq tb AA ?_);iterate 4 refine zs rfl rfl ?_
    refine zt AA AA (zq tb AA ?_);iterate 5 refine zs rfl rfl ?_
    iterate 8 refine zn rfl ?_
    exact zs AA AA (zt AA AA (AE (t true (Sh.AB a).symm _ (AI AA))))
   ·refine zg tb h AA (zg tb h AA (zg tb h AA (bs a λh9 c2 a=>zd h (hb 90) (KJ c2) rfl AA AA AA (zg tb h AA (zf h AA (zq tb AA ?_))))));rcases Sh.AU a with ⟨l,a⟩|⟨l,a⟩
    ·refine zs l AA ?_;iterate 3 refine zs l rfl ?_
     refine zt l AA (zq tb AA ?_);iterate 5 refine zs rfl rfl ?_
     iterate 8 refine zn rfl ?_
     exact zs AA AA (zt AA AA (AE (t true (Sh.AB a).symm _ (AI AA))))
    ·refine zg tb l AA (zg tb l AA (Ap (v:=(Zk b)) (BH AA AA l) rfl (Br RN AA) (zg tb l AA (zf l AA (zq tb AA ?_)))));rcases Sh.AU a with ⟨c,a⟩|⟨c,a⟩
     ·refine zs c AA ?_;iterate 4 refine zs c rfl ?_
      iterate 8 refine zn rfl ?_
      exact zs c AA (zt c AA (AE (t true (Sh.AB a).symm _ (AI AA))))
     ·refine zg tb c AA (zg tb c AA (Ap (v:=(Zk b)) (BH AA AA c) rfl (Br RN AA) (zg tb c AA (zg tb c AA ?_))));rcases Sh.AU a with ⟨e,a⟩|⟨e,a⟩
      ·refine zg tb e AA ?_;iterate 3 refine zg tb e rfl ?_
       rcases Sh.AU a with ⟨o,a⟩|⟨o,a⟩
       ·exact zs o AA (zs o AA (zs o AA (Ap (v:=(.bool true)) (BH AA AA e) rfl (Cc AA o AA) (Ap (v:=(.bool true)) (BH AA AA c) rfl (Cc AA e AA) (zf c AA (AE (t true (Sh.AB a).symm _ (AI AA))))))))
       ·exact zg tb o AA (zg tb o AA (zg tb o AA (Ap (v:=(.bool (!decide (b.to=0)))) (BH AA AA e) rfl (CO AA o AA) (Ap (v:=(.bool (!decide (b.to=0)))) (BH AA AA c) rfl (Cc AA e AA) (zf c AA (AE (t (!decide (b.to=0)) (Sh.AB a).symm _ (AI AA))))))))
      ·refine zs e AA ?_;iterate 3 refine zs e rfl ?_
       iterate 3 refine zn rfl ?_
       exact zs e AA (Ap (v:=(.bool false)) (BH AA AA c) rfl (CO AA e AA) (zf c AA (AE (t false (Sh.AB a).symm _ (AI AA)))))
  ·exact Ah (M9 () (Sh.AB d).symm _ (AI AA))
theorem Rg {N:Nat}{p0:(List Ac)}{p1:(List Bg)}{r:Bool}(h0:I0 N p0 p1=some r):AS Tryz.prog 45 [EG p0,YU p1] [] (λv st=>v=(.bool r)/\st=[]):=by
 unfold I0 at h0;refine ai Tryz.func45 AA AA AA AA (zr tb AA AA (AD λK2 b3=>AD λK3 b4=>bs h0 λo5 a h0=>?_));have G:∀(t4:Bool),o5=t4->∀s,Wk 0 s ⟨102,AN [(0,EG p0),(1,YU p1),(36,.bool t4)],[]⟩->K3 s:=by
  intro t4 hq s u;subst o5;try dsimp only at h0
  refine b4 _ (AJ u ?_);refine ci h0 AA ?_ ?_<;>clear h0<;>intro b6 h0
  ·refine zr tb AA AA ?_;obtain rfl:=Sh.AB h0;exact rt [(4,.bool false)]
  ·refine AG (b3 _ (AD λK8 b5=>sr AA λK9 b7=>zq tb AA (zl tb AA AA (zq tb AA (dn b7 AA ?_)))));obtain⟨A,a,h0⟩:=Sh.Av h0;have b8:∀(_:Unit),A=Sum.inr ()->∀s,Wk 0 s ⟨102,AN [],[]⟩->K8 s:=by
    intro _ hq s u;subst A;try dsimp only at h0
    refine b5 _ (AJ u (zr tb AA AA ?_));obtain rfl:=Sh.AB h0;exact rt [(4,.bool true)]
   refine AL (Af (σ:=Int) (λn v=>D5 N p0 p1 n v=some A) (λq=>⟨102,AN [(0,ls Am p0),(37,ls Dd p1),(38,i64 (Sh.len p1)),(39,i64 q)],[]⟩) N 0 a (AI AA) (λ_ H=>by rw[D5]at H;cases H) ?_);rintro n q a;try dsimp only at a⊢
   rw[D5]at a;refine zr tb AA AA (AD λc5 I=>?_);refine ci a AA ?_ ?_<;>clear a<;>intro c6 a
   ·refine AG (I _ (AD λb9 J=>AL (sr AA λc7 K=>bs a λc L a=>zx RL L AA AA AA (zq tb AA (Al (m:=0) AR jP AA AA (Aq AR lP AA AA AA AA AA AA qJ rfl (dn K AA (AD λc8 M=>AD λc0 O=>?_))))))));refine bs a λP b a=>?_;have B:∀(C:Bool),P=C->∀s,Wk 0 s ⟨102,AN [(0,EG p0),(6,Bm),(37,YU p1),(38,Eu p1),(39,i64 q),(60,.bool C)],[⟨0,87,3,[[Fs c.params,Fs c.Ar,i64 c.result]]⟩]⟩->c0 s:=by
     intro C hq s u;subst P;try dsimp only at a
     refine O _ (AJ u ?_);refine ci a AA ?_ ?_<;>clear a<;>intro c9 a
     ·refine zr tb AA AA ?_;obtain rfl:=Sh.AB a;try dsimp only[id]at h0
      obtain rfl:=Sh.AB h0;exact rd [(4,.bool false)]
     ·refine AG (M _ (sr AA λd1 Q=>zm tb 2 AA (zl tb AA AA (zq tb AA (dn Q AA ?_)))));obtain⟨D,b,a⟩:=Sh.Av a;have c1:∀(_:Unit),D=Sum.inr ()->∀s,Wk 0 s ⟨102,AN [(0,EG p0),(37,YU p1),(38,Eu p1),(39,i64 q)],[]⟩->b9 s:=by
       intro _ hq s u;subst D;try dsimp only at a
       exact J _ (AJ u (AF AA (zm tb 2 AA (AE (xi (Sh.w (q+1)) a (AI AA))))))
      refine AL (Af (σ:=Int) (λn v=>D9 c n v=some D) (λx=>⟨102,AN [(0,ls Am p0),(6,.ptr 0 0 0 0),(37,ls Dd p1),(38,i64 (Sh.len p1)),(39,i64 q),(62,ls eI c.Ar),(63,i64 (Sh.len c.Ar)),(64,i64 x)],[⟨0,87,3,[[ls eI c.params,ls eI c.Ar,i64 c.result]]⟩]⟩) N 0 b (AI AA) (λ_ H=>by rw[D9]at H;cases H) ?_);rintro n x b;try dsimp only at b⊢
      rw[D9]at b;refine zr tb AA AA (AD λd2 R=>?_);refine ci b AA ?_ ?_<;>clear b<;>intro d3 b
      ·refine AG (R _ (AD λd4 S=>AL (sr AA λd5 T=>zq tb AA (bs b λU V b=>zx BD V AA AA AA (zm tb 3 AA (dn T AA (AD λc2 W=>bs b λX g b=>?_)))))));have t:∀(E:Bool),X=E->∀s,Wk 0 s ⟨102,AN [(0,EG p0),(6,Bm),(37,YU p1),(38,Eu p1),(39,i64 q),(62,Fs c.Ar),(63,Eu c.Ar),(64,i64 x),(99,.bool E)],[⟨0,87,3,[[Fs c.params,Fs c.Ar,i64 c.result]]⟩]⟩->c2 s:=by
        intro E hq s u;subst X;try dsimp only at b
        refine W _ (AJ u ?_);refine ci b AA ?_ ?_<;>clear b<;>intro d6 b
        ·refine zr tb AA AA ?_;obtain rfl:=Sh.AB b;try dsimp only[id]at a
         obtain rfl:=Sh.AB a;try dsimp only[id]at h0
         obtain rfl:=Sh.AB h0;exact rd [(4,.bool false)]
        ·exact AG (S _ (AF AA (zm tb 2 AA (AE (xi (Sh.w (x+1)) b (AI AA))))))
       refine AF AA (zm tb 3 AA ?_);rcases Sh.AU g with ⟨h,g⟩|⟨h,g⟩
       ·refine zs h AA ?_;iterate 4 refine zs h rfl ?_
        refine zt h AA (zq tb AA ?_);iterate 6 refine zs rfl rfl ?_
        refine zt AA AA (zq tb AA ?_);iterate 3 refine zs rfl rfl ?_
        iterate 8 refine zn rfl ?_
        exact zs AA AA (zt AA AA (AE (t true (Sh.AB g).symm _ (AI AA))))
       ·refine zg tb h AA (zg tb h AA (zg tb h AA (Ap (v:=(Eu c.params)) (BH AA AA h) rfl (Br F8 AA) (zg tb h AA (zf h AA (zq tb AA ?_))))));rcases Sh.AU g with ⟨e,g⟩|⟨e,g⟩
        ·refine zs e AA ?_;iterate 5 refine zs e rfl ?_
         refine zt e AA (zq tb AA ?_);iterate 3 refine zs rfl rfl ?_
         iterate 8 refine zn rfl ?_
         exact zs AA AA (zt AA AA (AE (t true (Sh.AB g).symm _ (AI AA))))
        ·refine zg tb e AA (zg tb e AA (zg tb e AA (bs g λc3 Y g=>Ap (v:=(Jq c3)) (BH AA AA e) rfl (Bc BD AA AA Y AA) (zg tb e AA (zg tb e AA (zf e AA (zq tb AA ?_)))))));rcases Sh.AU g with ⟨d,g⟩|⟨d,g⟩
         ·refine zs d AA (zs d AA (zs d AA ?_));iterate 8 refine zn rfl ?_
          exact zs d AA (zt d AA (AE (t true (Sh.AB g).symm _ (AI AA))))
         ·refine zg tb d AA (zg tb d AA (zg tb d AA ?_));rcases Sh.AU g with ⟨i,g⟩|⟨i,g⟩
          ·refine zg tb i AA ?_;iterate 4 refine zg tb i rfl ?_
           exact bs g λF Z g=>Ap (v:=(Jq F)) (BH AA AA i) rfl (Bc BD AA AA Z AA) (zg tb i AA (zg tb i AA (Ap (v:=(.bool (decide (U<=F)))) (BH AA AA d) rfl (Cc AA i AA) (zf d AA (AE (t (decide (U<=F)) (Sh.AB g).symm _ (AI AA)))))))
          ·refine zs i AA ?_;iterate 7 refine zs i rfl ?_
           exact Ap (v:=(.bool false)) (BH AA AA d) rfl (CO AA i AA) (zf d AA (AE (t false (Sh.AB g).symm _ (AI AA))))
      ·exact Ah (c1 () (Sh.AB b).symm _ (BF _ AA))
    refine AF AA (zm tb 2 AA (zl tb AA AA (zm tb 2 AA ?_)));rcases Sh.AU b with ⟨j,b⟩|⟨j,b⟩
    ·refine zs j AA ?_;iterate 4 refine zs j rfl ?_
     refine zt j AA (zq tb AA ?_);iterate 5 refine zs rfl rfl ?_
     exact zt AA AA (AE (B true (Sh.AB b).symm _ (AI AA)))
    ·refine zg tb j AA (zg tb j AA (zg tb j AA (bs b λd7 b0 b=>zd j (hb 89) (N4 b0) rfl AA AA AA (zg tb j AA (zf j AA (zq tb AA ?_))))));rcases Sh.AU b with ⟨k,b⟩|⟨k,b⟩
     ·refine zs k AA ?_;iterate 4 refine zs k rfl ?_
      exact zt k AA (AE (B true (Sh.AB b).symm _ (AI AA)))
     ·exact zg tb k AA (zg tb k AA (zg tb k AA (bs b λc4 b1 b=>zd k (hb 90) (KJ b1) rfl AA AA AA (zg tb k AA (zf k AA (AE (B (!c4) (Sh.AB b).symm _ (AI AA))))))))
   ·exact Ah (b8 () (Sh.AB a).symm _ (AI AA))
 refine AF AA (zq tb AA (bs a λd8 b2 a=>zc (hb 88) (Qt b2) rfl AA AA (zm tb 2 AA ?_)));rcases Sh.AU a with ⟨l,a⟩|⟨l,a⟩
 ·refine zs l AA (zs l AA (zs l AA (zt l AA (zq tb AA ?_))));iterate 3 refine zs rfl rfl ?_
  refine zt AA AA (zq tb AA ?_);iterate 6 refine zs rfl rfl ?_
  refine zt AA AA (zq tb AA ?_);iterate 5 refine zs rfl rfl ?_
  exact zt AA AA (AE (G true (Sh.AB a).symm _ (AI AA)))
 ·refine zg tb l AA (Ap (v:=(Eu p1)) (BH AA AA l) rfl (Br Za AA) (zg tb l AA (zf l AA (zq tb AA ?_))));rcases Sh.AU a with ⟨o,a⟩|⟨o,a⟩
  ·refine zs o AA (zs o AA (zs o AA (zt o AA (zq tb AA ?_))));iterate 6 refine zs rfl rfl ?_
   refine zt AA AA (zq tb AA ?_);iterate 5 refine zs rfl rfl ?_
   exact zt AA AA (AE (G true (Sh.AB a).symm _ (AI AA)))
  ·refine zg tb o AA (Ap (v:=(Eu p1)) (BH AA AA o) rfl (Br Za AA) (zg tb o AA (zf o AA (zq tb AA ?_))));rcases Sh.AU a with ⟨f,a⟩|⟨f,a⟩
   ·refine zs f AA ?_;iterate 5 refine zs f rfl ?_
    refine zt f AA (zq tb AA ?_);iterate 5 refine zs rfl rfl ?_
    exact zt AA AA (AE (G true (Sh.AB a).symm _ (AI AA)))
   ·refine zg tb f AA (bs a λy z a=>Ap (v:=(.Bt (Dd y) 0)) (BH AA AA f) rfl (Bc RL AA AA z AA) (zg tb f AA (zg tb f AA (Ap (v:=(Eu y.params)) (BH AA AA f) rfl (Br F8 AA) (zg tb f AA (zf f AA (zq tb AA ?_)))))));rcases Sh.AU a with ⟨p,a⟩|⟨p,a⟩
    ·refine zs p AA ?_;iterate 4 refine zs p rfl ?_
     exact zt p AA (AE (G true (Sh.AB a).symm _ (AI AA)))
    ·refine zg tb p AA (Ap (v:=(.Bt (Dd y) 0)) (BH AA AA p) rfl (Bc RL AA AA z AA) ?_);iterate 3 refine zg tb p rfl ?_
     exact zf p AA (AE (G (!decide (y.result=0)) (Sh.AB a).symm _ (AI AA)))
theorem Me {N:Nat}{p0:AT}{r:Ag×Bool}(h0:GB N p0=some r):AS Tryz.prog 19 [G2 p0] [] (λv st=>v=(.DX [NS r.1,.bool r.2])/\st=[]):=by
 unfold GB at h0;refine FK AA (ai Tryz.func19 AA AA AA AA (sr AA λQ y=>Aw (m:=0) AR AA AA AA AA AA (Al (m:=1) AR XS AA AA (zq tb AA (dn y AA (AD λR z=>sr AA λS A=>zm tb 2 AA (zl tb AA AA (zq tb AA ?_))))))));refine dn A AA ?_;refine ci h0 AA ?_ ?_<;>clear h0<;>intro T h0
 ·refine sr AA λU B=>zz (.agg [.zc,.zc]) (Fo jO jY XS AA AA) rfl (Aq AR S5 AA AA AA AA AA AA qD rfl (zq tb AA (dn B AA ?_)));obtain rfl:=Sh.AB h0;exact BG (Exists.intro _ (And.intro ((((Ha (id:=1) (cs:=[.zc,.zc]) (cs':=[VV,.zc]) (st':=[Kc p0.decls p0.AH,⟨0,45,2,[[VV,.zc]]⟩]) rfl ⟨le.zc,le.rfl,mD⟩ AA AA).trans (Ha (id:=1) (cs:=[VV,.zc]) (cs':=ef) (st':=[Kc p0.decls p0.AH,⟨0,45,2,[ef]⟩]) rfl ⟨le.rfl,le.zc,mD⟩ AA AA)).trans (Ab (L:=(dL [])) (st':=[⟨0,45,2,[ef]⟩]) [1] AA AA (.raw AA AA .nil) ⟨.rfl,.rfl,mD⟩)).trans (Ao (L:=(dL [])) ⟨.rfl,.rfl,mD⟩)) (Ch (x:=.tmp 2) (off:=0) (cs:=ef) (vs:=ef) S5 AA AA AA qD rfl _ AA)))
 ·refine AG (z _ (sr AA λV C=>zm tb 2 AA (zz (.agg [EG p0.decls,.zc]) (Fo jO jY XS AA AA) rfl (Al (m:=2) AR XS AA AA (Aq AR S5 AA AA AA AA AA AA qD rfl (dn C AA (AD λH D=>sr AA λW E=>zm tb 2 AA (zl tb AA AA (zq tb AA ?_)))))))));refine dn E AA (bs h0 λf c h0=>?_);have F:∀(b:(List Bg)),f=b->∀s,Wk 0 s ⟨41,AN [(1,Bm),(2,Dh),(4,G6)],jg p0 b [ro 0 87 3 Dd b]⟩->H s:=by
   intro b X s I;subst f;try dsimp only at h0
   refine D _ (AJ I (AD λJ h=>?_));refine CC 6 (by kernel_rfl) (by kernel_rfl) (by rfl) ?_;iterate 5 refine yq tb rfl ?_
   refine bs h0 λd i h0=>WA (v':=(.bool d)) AR (hb 45) (Rg i) rfl (.val AA (.own AA AA (λ_=>AA) .nil)) rfl AA (BO (Aa (Wk.CQ (L:=[(2,Dh),(35,.agg [EG p0.decls,YU b]),(40,.bool d)]) (st':=(jg p0 b [⟨1,87,3,[]⟩])) (id:=3) rfl qQ (AK λ_=>AA) ⟨.rfl,.agg ⟨.rfl,.Hr AA,mD⟩,.rfl,mD⟩ AA) (Aq AR S5 AA AA AA AA AA AA qD rfl (zq tb AA (dn h AA ?_)))));obtain rfl:=Sh.AB h0;exact BG (Exists.intro _ (And.intro ((Ab (L:=[(2,Bm),(3,.bool d)]) (st':=[⟨0,45,2,[[EG p0.decls,YU b]]⟩]) [1] AA AA (.raw AA AA .nil) ⟨.rfl,.rfl,mD⟩).trans (Ao (L:=[(2,Bm),(3,.bool d)]) ⟨.rfl,.rfl,mD⟩)) (Ch (x:=.tmp 2) (off:=0) (cs:=[EG p0.decls,YU b]) (vs:=[EG p0.decls,YU b]) S5 AA AA AA qD rfl _ AA)))
  refine AL (Af (σ:=Int×(List Bg)) (λn v=>DG p0 n v.1 v.2=some f) (λ(u,e)=>⟨41,AN [(1,.ptr 0 0 0 0),(2,.ptr 1 0 0 0),(4,.ptr 2 0 0 0),(16,ls Aj p0.AH),(17,i64 (Sh.len p0.AH)),(18,i64 u)],[Kc p0.decls p0.AH,⟨0,45,2,[[.zc,.zc]]⟩,⟨0,45,2,[[ls Am p0.decls,ow 3 0 e]]⟩,ro 0 87 3 Dd e]⟩) N (0,[]) c (by refine Wk.trans (HR (id:=2) (st':=[Kc p0.decls p0.AH,⟨0,45,2,[[.zc,.zc]]⟩,⟨0,45,2,[[ls Am p0.decls,.own 3 0 (List.length ([]:List Bg))]]⟩,ro 0 87 3 Dd ([]:List Bg)]) (j:=1) rfl AA 87 (size':=3) (by decide) rfl AA AA AA) ?_;exact AI AA) (λ_ G=>by rw[DG]at G;cases G) ?_);rintro n ⟨u,e⟩ c;try dsimp only at c⊢
  rw[DG]at c;refine zr tb AA AA (AD λK k=>?_);refine ci c AA ?_ ?_<;>clear c<;>intro M c
  ·refine AG (k _ (AD λO o=>AL (sr AA λP p=>bs c λa q c=>zx GZ q AA AA AA (zq tb AA (Al (m:=4) AR Ni AA AA (Aq AR Nv AA AA AA AA AA AA qG rfl (dn p AA (AF AA (zm tb 8 AA ?_)))))))));refine zz (.agg [Fs a.params,Fs a.Ar,i64 a.result]) (Fo lJ lE jP AA AA) rfl ?_;refine CE (m:=5) (l:=[Bg.mk a.params a.Ar a.result]) (enc:=Dd) AR RL (by decide) rfl AA AA AA AA AA ?_;refine bs c λg t c=>Cd (l2:=[Bg.mk a.params a.Ar a.result]) AR RL AA AA AA AA (H6 AA AA) (λ_=>AA) t AA (zq tb AA (Aq AR lL AA AA AA AA AA AA qS rfl (dn o AA (AF AA (zm tb 2 AA ?_)))));exact AE (xi (Sh.w (u+1),g) c (by refine Wk.trans (CJ (L:=[(1,Bm),(2,Dh),(4,G6),(16,ft p0),(17,gU p0),(18,MO u)]) (st':=(jg p0 g [ro 0 87 3 Dd g,⟨0,54,5,[ZZ a]⟩,ro 0 87 3 Dd [Bg.mk a.params a.Ar a.result]])) (.raw AA AA (.raw AA AA (.raw AA AA (.pure (AK λ_=>AA) (.raw AA AA (.pure (AK λ_=>AA) .nil)))))) (.same AA)) ?_;exact Ab [0,1,2,3] AA AA (.raw AA AA (.raw AA AA (.raw AA AA (.pure (AK λ_=>AA) .nil)))) (.same AA)))
  ·exact Ah (F e (Sh.AB c).symm _ (AI AA))
theorem Pd {N:Nat}{qv:Int->Block->Option (Bool×Int)}(sV :∀{qt:Int} {p0:Block} {r:Bool×Int},qv qt p0=some r->AS Tryz.prog 105 [DH p0,Bm] [Pc qt] (λv st=>v=(.bool r.1)/\st=[Pc r.2])){qt:Int}{p0:Block}{r:Bool×Int}(h0:Ig N qv qt p0=some r):AS Tryz.prog 105 [DH p0,Bm] [Pc qt] (λv st=>v=(.bool r.1)/\st=[Pc r.2]):=by
 unfold Ig at h0;refine ai Tryz.func105 AA AA AA AA (sr AA λK1 G=>Aw (m:=1) AR AA AA AA AA AA (zq tb AA (dn G AA (AD λQ H=>sr AA λK3 I=>zm tb 2 AA (zl tb AA AA (zq tb AA (dn I AA ?_)))))));obtain⟨J,a,h0⟩:=Sh.Av h0;have R:∀(K:Int),J=Sum.inr K->∀s,Wk 1 s ⟨38,AN [],[Pc K]⟩->Q s:=by
  intro K S s M;subst J;try dsimp only at h0
  refine H _ (AJ M (zr tb AA AA ?_));obtain rfl:=Sh.AB h0;exact rt [(4,.bool true)]
 refine AL (Af (σ:=Int×Int) (λn v=>DC N p0 qv n v.1 v.2=some J) (λ(i,j)=>⟨38,AN [(1,.ptr 0 0 0 0),(10,ls Bx p0.steps),(11,i64 (Sh.len p0.steps)),(12,i64 i)],[Pc j]⟩) N (0,qt) a (Ab [0] AA AA (.raw AA AA .nil) (.same AA)) (λ_ k=>by rw[DC]at k;cases k) ?_);rintro n ⟨i,j⟩ a;try dsimp only at a⊢
 rw[DC]at a;refine zr tb AA AA (AD λT l=>?_);refine ci a AA ?_ ?_<;>clear a<;>intro U a
 ·refine AG (l _ (AD λO o=>AL (sr AA λV p=>bs a λd q a=>zz (Lj d) (E3 DT AA AA q (CK _) rfl) rfl (zq tb AA (Al (m:=1) AR Nl AA AA (Aq AR L6 AA AA AA AA AA AA qG rfl (dn p AA (AD λW t=>sr AA λX u=>?_))))))));refine zm tb 5 AA (Aq AR Ie AA AA AA AA AA AA qK rfl (dn u AA (zr tb AA AA ?_)));refine ci a AA ?_ ?_<;>clear a<;>intro Y a
  ·refine zr tb AA AA ?_;obtain rfl:=Sh.AB a;try dsimp only[id]at h0
   obtain rfl:=Sh.AB h0;exact BG (xr (Ab (L:=[(4,.bool false)]) (st':=[⟨0,3,1,[[MO j]]⟩]) [0] AA AA (.raw AA AA .nil) ⟨.rfl,mD⟩))
  ·refine AG (t _ (sr AA λZ x=>zm tb 2 AA (zl tb AA AA (zq tb AA (dn x AA ?_)))));obtain⟨g,b,a⟩:=Sh.Av a;have P:∀(e:Int),g=Sum.inr e->∀s,Wk 1 s ⟨38,AN [(1,Bm),(10,TV p0),(11,dq p0),(12,i64 i)],[Pc e]⟩->O s:=by
    intro e S s M;subst g;try dsimp only at a
    exact o _ (AJ M (AF AA (zm tb 2 AA (AE (xi (Sh.w (i+1),e) a (AI AA))))))
   refine AL (Af (σ:=Int×Int) (λn v=>Cx d qv n v.1 v.2=some g) (λ(h,f)=>⟨38,AN [(1,.ptr 0 0 0 0),(10,ls Bx p0.steps),(11,i64 (Sh.len p0.steps)),(12,i64 i),(26,ls Bq d.kids),(27,i64 (Sh.len d.kids)),(28,i64 h)],[Pc f]⟩) N (0,Sh.w (j+1)) b (Ab [0] AA AA (.raw AA AA .nil) (.same AA)) (λ_ k=>by rw[Cx]at k;cases k) ?_);rintro n ⟨h,f⟩ b;try dsimp only at b⊢
   rw[Cx]at b;refine zr tb AA AA (AD λb0 y=>?_);refine ci b AA ?_ ?_<;>clear b<;>intro b1 b
   ·refine AG (y _ (AD λb2 z=>AL (sr AA λb3 A=>bs b λB C b=>zx JF C AA AA AA (zq tb AA (Al (m:=1) AR Hq AA AA (Aq AR Ho AA AA AA AA AA AA qD rfl (dn A AA (sr AA λb4 D=>zm tb 2 AA ?_))))))));refine bs b λc E b=>?_;refine UD (rows0:=[Pc f]) (rows1:=[Pc c.2]) (st':=[Pc c.2,fT B.steps B.result]) (v':=(.bool c.1)) [0] AR (hb 105) (sV E) rfl (by decide) rfl AA (.raw AA AA .nil) rfl AA (.raw AA AA .nil) .nil AA AA ?_;refine zq tb AA (dn D AA ?_);refine ci b AA ?_ ?_<;>clear b<;>intro F b
    ·have b5:c.1=false:=by simpa using F
     refine zr tb AA AA ?_;obtain rfl:=Sh.AB b;try dsimp only[id]at a
     obtain rfl:=Sh.AB a;try dsimp only[id]at h0
     obtain rfl:=Sh.AB h0;exact BG (xr (Ab (L:=[(4,.bool false)]) (st':=[Pc c.2]) [0] AA AA (.raw AA AA .nil) ⟨.rfl,mD⟩))
    ·have b6:c.1=true:=by simpa using F
     refine AG (z _ (AF AA (zm tb 2 AA ?_)));exact AE (xi (Sh.w (h+1),c.2) b (Ab [0] AA AA (.raw AA AA .nil) (.same AA)))
   ·exact Ah (P f (Sh.AB b).symm _ (AI AA))
 ·exact Ah (R j (Sh.AB a).symm _ (AI AA))
theorem Pp {N:Nat}:∀(n:Nat),∀{qt:Int} {p0:Block} {r:Bool×Int},FW N n qt p0=some r->AS Tryz.prog 105 [DH p0,Bm] [Pc qt] (λv st=>v=(.bool r.1)/\st=[Pc r.2]):=by
 intro n
 induction n with
 | zero=>intro qt p0 r a;cases a
 | succ n ih=>
  intro qt p0 r a;rw[FW]at a;exact Pd (λh=>ih h) a
theorem Qq {N:Nat}:∀{qt:Int} {p0:Block} {r:Bool×Int},LZ N qt p0=some r->AS Tryz.prog 105 [DH p0,Bm] [Pc qt] (λv st=>v=(.bool r.1)/\st=[Pc r.2]):=by
 intro qt p0 r a;exact Pp N a
theorem Oh {N:Nat}{p0:Block}{r:Int}(h0:I5 N p0=some r):AS Tryz.prog 58 [DH p0] [] (λv st=>v=(i64 r)/\st=[]):=by
 unfold I5 at h0;refine ai Tryz.func58 AA AA AA AA (sr AA λh b=>Aw (m:=0) AR AA AA AA AA AA (zq tb AA (dn b AA (sr AA λi c=>Al (m:=1) AR lq AA AA (Aq AR Ie AA AA AA AA AA AA qK rfl (dn c AA (AD λj d=>sr AA λk e=>zq tb AA ?_)))))));refine bs h0 λa f h0=>?_;refine UD (rows0:=[⟨0,3,1,[[i64 0]]⟩]) (rows1:=[Pc a.2]) (st':=[fT p0.steps p0.result,Pc a.2]) (v':=(.bool a.1)) [1] AR (hb 105) (Qq f) rfl (by decide) rfl AA (.raw AA AA .nil) rfl AA (.raw AA AA .nil) .nil AA AA ?_;refine zq tb AA (dn e AA ?_);refine ci h0 AA ?_ ?_<;>clear h0<;>intro g h0
 ·have l:a.1=false:=by simpa using g
  refine zr tb AA AA ?_;obtain rfl:=Sh.AB h0;exact rd [(2,i64 (-1))]
 ·have n:a.1=true:=by simpa using g
  refine AG (d _ (zr tb AA AA ?_));obtain rfl:=Sh.AB h0;exact rd [(2,i64 a.2)]
theorem Bn {p0:(List Int)}{r:(List Int)}(h0:Bz p0=some r):AS Tryz.prog 47 [ls eI p0] [] (λv st=>v=(ow 0 0 r)/\st=[BQ r]):=by
 unfold Bz at h0;refine ai Tryz.func47 AA AA AA AA (zr tb AA AA (AD λh c=>sr AA λi a=>zq tb AA ?_));refine TH AR F8 AA (λg=>?_) ?_
 ·subst g;replace h0:some []=some r:=by rw[<- h0];first|rfl|simp[Sh.app]
  refine dn a AA (Fi (b:=true) rfl (λ_=>zr tb AA AA ?_) (λq=>nomatch (show true=false from (AA:true=true).symm.trans q)));obtain rfl:=Sh.AB h0;exact BG (Exists.intro _ (And.intro (((FG (t:=2) rfl 3 (size:=1) (by decide)).trans (Ao (L:=[(2,aR)]) (.same AA))).trans (Ao (L:=[(2,aR)]) (.same AA))) (And.intro AA AA)))
 ·refine dn a AA (Fi (b:=false) rfl (λq=>nomatch (show false=true from (AA:false=false).symm.trans q)) (λ_=>AG (c _ (sr AA λj d=>?_))));refine CE (m:=0) (l:=([]:List Int)) (enc:=eI) AR BD (by decide) rfl AA AA AA AA AA ?_;refine zq tb AA (bs h0 λf e h0=>Cd (l2:=p0) AR BD AA AA AA AA Nq (λ_=>AA) e AA (zq tb AA (dn d AA ?_)));obtain rfl:=Sh.AB h0;exact BG (xr (CJ (L:=[(2,ow 0 0 f)]) (st':=[BQ f]) (.pure (AK λ_=>AA) .nil) (.same AA)))
theorem Ht {p0:Int}{r:Bool}(h0:DP p0=some r):AS Tryz.prog 87 [i64 p0] [] (λv st=>v=(.bool r)/\st=[]):=by
 unfold DP at h0;refine ai Tryz.func87 AA AA AA AA (zr tb AA AA (AD λg d=>bs h0 λe b h0=>?_));have f:∀(c:Bool),e=c->∀s,Wk 0 s ⟨9,AN [(2,.bool c)],[]⟩->g s:=by
  intro c i s h;subst e;try dsimp only at h0
  refine d _ (AJ h ?_);obtain rfl:=Sh.AB h0;exact rt [(2,.bool c)]
 refine AF AA (zm tb 3 AA ?_);rcases Sh.AU b with ⟨a,b⟩|⟨a,b⟩
 ·exact zg tb a AA (zg tb a AA (zt a AA (zq tb AA (AE (f (decide (p0<=17)) (Sh.AB b).symm _ (AI AA))))))
 ·exact zs a AA (zs a AA (zf a AA (zq tb AA (AE (f false (Sh.AB b).symm _ (AI AA))))))
end Go.Proofs.YtgiajkaabnbieaaGreat
