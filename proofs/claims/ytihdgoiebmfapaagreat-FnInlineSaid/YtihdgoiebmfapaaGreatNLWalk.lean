import Derived.Test.YtihdgoiebmfapaaGreatNLWalkP4
set_option linter.all false
namespace Go.Proofs.YtihdgoiebmfapaaGreat
open Go Go.Abs RC
attribute [local irreducible] Go.Abs.EN
set_option maxRecDepth 100000
set_option maxHeartbeats 4000000
theorem UM {N:Nat}{p0:List Int}{r:Bool}(h0:LK N p0=some r):Bd 6 [ls FQ p0] [] (.bool r) []:=by
 unfold LK at h0;refine ai Tryz.func6 AA AA AA AA (Ap AA (AE λK2 b3=>sr AA λK3 b5=>AS AA (CZ AA (AS AA (dn b5 AA ?_)))));refine ci h0 AA ?_ ?_<;>intro b4 h0
 .refine Ap AA ?_;cases h0;exact rt [(2,.bool true)]
 .refine AH (b3 _ (sr AA λK6 b6=>AS AA (bs h0 λh b7 h0=>Df (.DF [.agg (Sc h.1.decls h.1.funcs),i64 h.2]) (hb 18) (Rs b7) rfl (Ac 3 AA (DE 0 JD AA (Bw D5 AA (AS AA (dn b6 AA (sr AA λK8 b8=>Ac 2 AA ?_)))))))));refine bs h0 λi b9 h0=>Df (iX i.1.decls i.1.funcs i.2) (hb 19) (Wf b9) rfl (Ac 3 AA (DE 1 JD AA (Bw D5 AA (AS AA (dn b8 AA (sr AA λc8 G=>Ac 2 AA (bs h0 λj H h0=>Df (iX j.1.decls j.1.funcs j.2) (hb 20) (WL H) rfl (Ac 3 AA ?_))))))));refine DE 2 JD AA (Bw D5 AA (AS AA (dn G AA (AE λc9 I=>AE λc0 J=>bs h0 λK a h0=>?_))));have y:∀z,K=z->∀s,Wk 0 s ⟨107,AP [(3,BG),(4,i64 h.2),(5,CJ),(6,.bool i.2),(7,CY),(8,.bool j.2),(42,.bool z)],[ao h.1.decls h.1.funcs,ao i.1.decls i.1.funcs,ao j.1.decls j.1.funcs]⟩->c0 s:=by
   intro z hq s o;subst K;refine J _ (AG o ?_);refine ci h0 AA ?_ ?_<;>intro d1 h0
   .refine AE λc1 L=>bs h0 λM a h0=>?_;have O:∀p,M=p->∀s,Wk 0 s ⟨107,AP [(2,.bool p)],[]⟩->c1 s:=by
     intro p hq s o;subst M;try dsimp only at h0
     refine L _ (AG o ?_);obtain rfl:=Sh.Bf h0;exact rt [(2,.bool p)]
    refine AF AA (Ac 2 AA (bs a λd2 P a=>Gs (hb 11) (Ll P) rfl (AS AA ?_)));rcases Sh.Ad a with ⟨d,a⟩|⟨d,a⟩
    .exact Aw d AA (Aw d AA (Aw d AA (zt d AA (AS AA (AB (O (i.2==j.2) (AT a) _ (Be _ AA)))))))
    .exact zs d AA (zs d AA (zs d AA (zf d AA (AS AA (AB (O false (AT a) _ (Be _ AA)))))))
   .refine AH (I _ (AE λc2 Q=>Ap AA ?_));obtain⟨A,a,h0⟩:=Sh.Bi h0;have c3:∀(_:Unit),A=Sum.inr ()->∀s,Wk 0 s ⟨107,AP [(3,BG),(4,i64 h.2),(5,CJ)],[ao h.1.decls h.1.funcs,ao i.1.decls i.1.funcs]⟩->c2 s:=by
     intro _ hq s o;subst A;refine Q _ (AG o (AE λc4 R=>bs h0 λS a h0=>?_));have B:∀q,S=q->∀s,Wk 0 s ⟨107,AP [(2,.bool q)],[]⟩->c4 s:=by
      intro q hq s o;subst S;try dsimp only at h0
      refine R _ (AG o ?_);obtain rfl:=Sh.Bf h0;exact rt [(2,.bool q)]
     refine AF AA (AS AA (bs a λd3 T a=>Gs (hb 22) (Gh T) rfl (AS AA ?_)));rcases Sh.Ad a with ⟨e,a⟩|⟨e,a⟩
     .refine Aw e AA (Aw e AA (bs a λd4 U a=>zd e (hb 23) (SW U) rfl AA AA AA (Aw e AA (zt e AA (AS AA ?_)))));rcases Sh.Ad a with ⟨f,a⟩|⟨f,a⟩
      .exact Aw f AA (Aw f AA (bs a λc5 V a=>zd f (hb 24) (Nr V) rfl AA AA AA (zt f AA (AS AA (AB (B c5 (AT a) _ (Be _ AA)))))))
      .exact zs f AA (zs f AA (zs f AA (zf f AA (AS AA (AB (B false (AT a) _ (Be _ AA)))))))
     .refine zs e AA ?_;iterate 3 refine zs e rfl ?_
      refine zf e AA (AS AA ?_);iterate 3 refine zs rfl rfl ?_
      exact zf AA AA (AS AA (AB (B false (AT a) _ (Be _ AA))))
    refine AK (Am (σ:=Int) (λn v=>Ey N h i n v=some A) (λt=>⟨107,AP [(3,.ptr 0 0 0 0),(4,i64 h.2),(5,.ptr 1 0 0 0),(9,i64 t)],[ao h.1.decls h.1.funcs,ao i.1.decls i.1.funcs]⟩) N 0 a (AM [0,1] AA AA (.w (.w .nil)) (.same AA)) (λ_ hv=>by rw[Ey]at hv;cases hv) ?_);rintro n t a;rw[Ey]at a;refine AE λd5 W=>sr AA λd6 X=>Ac 3 AA (CZ AA (AS AA (dn X AA ?_)));refine ci a AA ?_ ?_<;>intro d7 a
    .refine AH (W _ (AE λd8 Y=>AK (AE λc6 Z=>bs a λb0 k a=>?_)));have C:∀D,b0=D->∀s,Wk 0 s ⟨107,AP [(3,BG),(4,i64 h.2),(5,CJ),(9,i64 t),(93,.bool D)],[ao h.1.decls h.1.funcs,ao i.1.decls i.1.funcs]⟩->c6 s:=by
      intro D hq s o;subst b0;refine Z _ (AG o ?_);refine ci a AA ?_ ?_<;>intro d9 a
      .refine Ap AA ?_;cases a;cases h0;exact rd [(2,.bool false)]
      .exact AH (Y _ (AF AA (Ac 3 AA (AB (xi (Sh.w (t+1)) a Ao)))))
     refine CW (by kernel_rfl) (by kernel_rfl) (by rfl) ?_;iterate 3 refine yq tb rfl ?_
     refine yl tb AA AA ?_;iterate 2 refine yq tb rfl ?_
     rcases Sh.Ad k with ⟨b,k⟩|⟨b,k⟩
     .refine ys b AA ?_;iterate 13 refine ys b rfl ?_
      refine yt b AA (yq tb AA ?_);iterate 13 refine ys rfl rfl ?_
      exact yt AA AA (As (C true (AT k) _ Ao))
     .refine yg tb b AA ?_;iterate 2 refine yg tb b rfl ?_
      refine bs k λE u k=>H3 (v:=Rr E) (CQ AA AA b) rfl (CR Cd AA AA u AA) ?_;iterate 5 refine yg tb b rfl ?_
      refine bs k λF x k=>H3 (v:=Rr F) (CQ AA AA b) rfl (CR Cd AA AA x AA) ?_;iterate 2 refine yg tb b rfl ?_
      refine bs k λc7 b1 k=>BU (v:=.bool c7) (CQ AA AA b) (hb 21) (Ko b1) rfl AA AA (yg tb b AA (yf b AA (yq tb AA ?_)));rcases Sh.Ad k with ⟨c,k⟩|⟨c,k⟩
      .refine ys c AA ?_;iterate 12 refine ys c rfl ?_
       exact yt c AA (As (C true (AT k) _ Ao))
      .refine yg tb c AA ?_;iterate 2 refine yg tb c rfl ?_
       refine H3 (v:=Rr E) (CQ AA AA c) rfl (CR Cd AA AA u AA) ?_;iterate 5 refine yg tb c rfl ?_
       refine H3 (v:=Rr F) (CQ AA AA c) rfl (CR Cd AA AA x AA) ?_;iterate 3 refine yg tb c rfl ?_
       exact yf c AA (As (C (!decide (E.result=F.result)) (AT k) _ Ao))
    .exact Av (c3 () (AT a) _ Ao)
  refine AF AA (Ac 2 AA (bs a λg0 b2 a=>Gs (hb 11) (Ll b2) rfl (Ac 2 AA ?_)));rcases Sh.Ad a with ⟨g,a⟩|⟨g,a⟩
  .exact zs g AA (zs g AA (zs g AA (zt g AA (AS AA (zs AA AA (zs AA AA (zt AA AA (AB (y true (AT a) _ Ao)))))))))
  .refine Aw g AA (Aw g AA (Aw g AA (zf g AA (AS AA ?_))));rcases Sh.Ad a with ⟨l,a⟩|⟨l,a⟩
   .exact zs l AA (zs l AA (zt l AA (AB (y true (AT a) _ Ao))))
   .exact Aw l AA (Aw l AA (zf l AA (AB (y (!i.2) (AT a) _ Ao))))
end Go.Proofs.YtihdgoiebmfapaaGreat
