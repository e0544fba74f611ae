import Derived.Test.YtihdgoiebmfapaaGreatFEWalkP4
set_option linter.all false
namespace Go.Proofs.YtihdgoiebmfapaaGreat
open Go Go.Abs RC
attribute [local irreducible] Go.Abs.D7
set_option maxRecDepth 100000
set_option maxHeartbeats 4000000
theorem Mu {N:Nat}{p0:AP}{p1:Int}{r:(List Int)}(h0:HK N p0 p1=some r):Ab Tryz.prog 17 [Hs p0,i64 p1] [] (λv st=>v=(ow 0 0 r)/\st=[Bm r]):=by
 unfold HK at h0;refine ai Tryz.func17 AA AA AA AA (sr AA λx g=>Bd (m:=0) AI AA AA AA AA AA (zq tb AA (dn g AA (AG λy h=>AG λq i=>bs h0 λo c h0=>?_))));have j:∀(k:Bool),o=k->∀s,Wk 0 s ⟨23,Aa [(1,i64 p1),(2,BI),(18,.bool k)],[Vd p0.decls p0.funcs]⟩->q s:=by
  intro k z s u;subst o;refine i _ (AK u ?_);refine ci h0 AA ?_ ?_<;>clear h0<;>intro A h0
  ·refine zr tb AA AA ?_;obtain rfl:=Sh.AB h0;exact Ao (Exists.intro _ (And.intro ((((Hb (t:=4) rfl 3 (size:=1) (by decide)).trans (Af (L:=[(4,.own 1 0 (List.length ([]:List Int)))]) ⟨.rfl,lU⟩)).trans (AS (L:=[(4,Z4)]) (st':=[ro 0 3 1 eI ([]:List Int)]) [1] AA (by decide) rfl AA (.pure (AD λ_=>AA) .nil) ⟨.rfl,lU⟩)).trans (Af (L:=[(4,Z4)]) ⟨.rfl,lU⟩)) (And.intro AA AA)))
  ·refine AL (h _ (sr AA λB l=>zm tb 2 AA (bs h0 λp n h0=>CH (v':=(ow 1 0 p)) AI (hb 40) (RR n) rfl AA ⟨(CL λ_=>AA),lU⟩ AA AA (AR (Wk.BL (L:=[(21,ls eB p)]) (st':=[Vd p0.decls p0.funcs,⟨1,4,1,[]⟩]) (id:=1) rfl qD (AD λ_=>AA) ⟨.BL AA,lU⟩ AA) (bs h0 λd e h0=>CH (v':=(ow 2 0 d)) AI (hb 39) (Rr e) rfl AA ⟨(CL λ_=>AA),lU⟩ AA AA (zq tb AA (dn l AA ?_)))))));obtain rfl:=Sh.AB h0;exact Ao (xr (AS (L:=[(4,ow 0 0 d)]) (st':=[Bm d]) [2] AA (by decide) rfl AA (.pure (AD λ_=>AA) .nil) ⟨.rfl,lU⟩))
 refine AH AA (zq tb AA (bs c λw f c=>zc (hb 22) (Ks f) rfl AA AA (zm tb 2 AA ?_)));rcases Sh.Aj c with ⟨b,c⟩|⟨b,c⟩
 ·refine zs b AA (zs b AA (zt b AA (zq tb AA ?_)));iterate 5 refine zs rfl rfl ?_
  exact zt AA AA (AF (j true (Sh.AB c).symm _ (AJ AA)))
 ·refine zg tb b AA (zg tb b AA (zf b AA (zq tb AA ?_)));rcases Sh.Aj c with ⟨a,c⟩|⟨a,c⟩
  ·refine zs a AA ?_;iterate 4 refine zs a rfl ?_
   exact zt a AA (AF (j true (Sh.AB c).symm _ (AJ AA)))
  ·exact zg tb a AA (zg tb a AA (zg tb a AA (Ba (v:=(i64 (Sh.len p0.funcs))) (CS AA AA a) rfl (Cd Rz AA) (zg tb a AA (zf a AA (AF (j (decide ((Sh.len p0.funcs)<=p1)) (Sh.AB c).symm _ (AJ AA))))))))
theorem XU {N:Nat}{p0:(List Int)}{p1:Int}{r:Bool}(h0:Mz N p0 p1=some r):Ab Tryz.prog 38 [ls eI p0,i64 p1] [] (λv st=>v=(.bool r)/\st=[]):=by
 unfold Mz at h0;refine ai Tryz.func38 AA AA AA AA (zr tb AA AA (AG λk e=>zr tb AA AA ?_));obtain⟨f,a,h0⟩:=Sh.Bg h0;have l:∀(_:Unit),f=Sum.inr ()->∀s,Wk 0 s ⟨18,Aa [],[]⟩->k s:=by
  intro _ u s m;subst f;refine e _ (AK m (zr tb AA AA ?_));obtain rfl:=Sh.AB h0;exact rt [(4,.bool false)]
 refine AT (Ax (σ:=Int) (λn v=>GP p0 p1 n v=some f) (λg=>⟨18,Aa [(0,ls eI p0),(1,i64 p1),(5,i64 g)],[]⟩) N 0 a (AJ AA) (λ_ j=>by rw[GP]at j;cases j) ?_);rintro n g a;rw[GP]at a;refine AG λx h=>sr AA λy i=>zm tb 2 AA (zl tb AA AA (zq tb AA (dn i AA ?_)));refine ci a AA ?_ ?_<;>clear a<;>intro z a
 ·refine AL (h _ (AG λo b=>AT (sr AA λp c=>zm tb 2 AA (bs a λq d a=>zx BM d AA AA AA (zm tb 3 AA (dn c AA ?_))))));refine ci a AA ?_ ?_<;>clear a<;>intro t a
  ·refine zr tb AA AA ?_;obtain rfl:=Sh.AB a;obtain rfl:=Sh.AB h0;exact rt [(4,.bool true)]
  ·exact AL (b _ (AH AA (zm tb 3 AA (AF (xi (Sh.w (g+1)) a (AJ AA))))))
 ·exact Az (l () (Sh.AB a).symm _ (AJ AA))
theorem Uq {N:Nat}{p0:(List Int)}{p1:(List Int)}{r:Bool}(h0:Kp N p0 p1=some r):Ab Tryz.prog 16 [ls eI p0,ls eI p1] [] (λv st=>v=(.bool r)/\st=[]):=by
 unfold Kp at h0;refine ai Tryz.func16 AA AA AA AA (zr tb AA AA (AG λo h=>zr tb AA AA ?_));obtain⟨i,a,h0⟩:=Sh.Bg h0;have p:∀(_:Unit),i=Sum.inr ()->∀s,Wk 0 s ⟨19,Aa [],[]⟩->o s:=by
  intro _ A s q;subst i;refine h _ (AK q (zr tb AA AA ?_));obtain rfl:=Sh.AB h0;exact rt [(4,.bool true)]
 refine AT (Ax (σ:=Int) (λn v=>Fb N p0 p1 n v=some i) (λj=>⟨19,Aa [(0,ls eI p0),(1,ls eI p1),(5,i64 j)],[]⟩) N 0 a (AJ AA) (λ_ m=>by rw[Fb]at m;cases m) ?_);rintro n j a;rw[Fb]at a;refine AG λB k=>sr AA λC l=>zm tb 2 AA (zl tb AA AA (zq tb AA (dn l AA ?_)));refine ci a AA ?_ ?_<;>clear a<;>intro D a
 ·refine AL (k _ (AG λt b=>AT (sr AA λu c=>zm tb 3 AA (bs a λx d a=>zx BM d AA AA AA (zq tb AA (bs a λe f a=>zc (hb 38) (XU f) rfl AA AA (zq tb AA (dn c AA ?_))))))));refine ci a AA ?_ ?_<;>clear a<;>intro g a
  ·have y:e=false:=by simpa using g
   refine zr tb AA AA ?_;obtain rfl:=Sh.AB a;obtain rfl:=Sh.AB h0;exact rt [(4,.bool false)]
  ·have z:e=true:=by simpa using g
   exact AL (b _ (AH AA (zm tb 3 AA (AF (xi (Sh.w (j+1)) a (AJ AA))))))
 ·exact Az (p () (Sh.AB a).symm _ (AJ AA))
theorem Ob {N:Nat}{p0:(List Int)}{r:Bool}(h0:Hw N p0=some r):Ab Tryz.prog 5 [ls E8 p0] [] (λv st=>v=(.bool r)/\st=[]):=by
 unfold Hw at h0;refine ai Tryz.func5 AA AA AA AA (zr tb AA AA (AG λK2 W=>sr AA λK3 X=>zq tb AA (zl tb AA AA (zq tb AA (dn X AA ?_)))));refine ci h0 AA ?_ ?_<;>clear h0<;>intro b4 h0
 ·refine zr tb AA AA ?_;obtain rfl:=Sh.AB h0;exact rt [(2,.bool true)]
 ·refine AL (W _ (sr AA λK6 Y=>zq tb AA (bs h0 λh Z h0=>zc (v':=(Hs h)) (hb 13) (Sx Z) rfl AA AA (Av (m:=0) AI JV AA AA (Am AI EM AA AA AA AA AA AA pk rfl (dn Y AA (sr AA λK8 b0=>zq tb AA (bs h0 λe b1 h0=>zc (v':=(.Dd [.agg (Pp e.1.decls e.1.funcs),.bool e.2])) (hb 14) (XN b1) rfl AA AA (zm tb 3 AA (Av (m:=1) AI JV AA AA (Am AI EM AA AA AA AA AA AA pk rfl (zq tb AA (dn b0 AA (sr AA λb8 u=>zq tb AA (bs h0 λf x h0=>zc (v':=(.Dd [.agg (Pp f.1.decls f.1.funcs),.bool f.2])) (hb 15) (XZ x) rfl AA AA (zm tb 3 AA (Av (m:=2) AI JV AA AA (Am AI EM AA AA AA AA AA AA pk rfl (zq tb AA (dn u AA (AG λb9 y=>AG λb2 z=>bs h0 λA a h0=>?_)))))))))))))))))))));have l:∀(o:Bool),A=o->∀s,Wk 0 s ⟨74,Aa [(3,BI),(4,CT),(5,.bool e.2),(6,CY),(7,.bool f.2),(36,.bool o)],[Vd h.decls h.funcs,Vd e.1.decls e.1.funcs,Vd f.1.decls f.1.funcs]⟩->b2 s:=by
   intro o hq s p;subst A;refine z _ (AK p ?_);refine ci h0 AA ?_ ?_<;>clear h0<;>intro c0 h0
   ·refine AG λb3 B=>bs h0 λC a h0=>?_;have D:∀(j:Bool),C=j->∀s,Wk 0 s ⟨74,Aa [(2,.bool j)],[]⟩->b3 s:=by
     intro j hq s p;subst C;refine B _ (AK p ?_);obtain rfl:=Sh.AB h0;exact rt [(2,.bool j)]
    refine AH AA (zm tb 2 AA (bs a λc1 E a=>zc (hb 11) (Ku E) rfl AA AA (zq tb AA ?_)));rcases Sh.Aj a with ⟨c,a⟩|⟨c,a⟩
    ·exact zg tb c AA (zg tb c AA (zg tb c AA (zt c AA (zq tb AA (AF (D (e.2==f.2) (Sh.AB a).symm _ (Bt _ AA)))))))
    ·exact zs c AA (zs c AA (zs c AA (zf c AA (zq tb AA (AF (D false (Sh.AB a).symm _ (Bt _ AA)))))))
   ·refine AL (y _ (AG λb5 F=>zr tb AA AA ?_));obtain⟨q,a,h0⟩:=Sh.Bg h0;have b6:∀(_:Unit),q=Sum.inr ()->∀s,Wk 0 s ⟨74,Aa [(3,BI),(4,CT)],[Vd h.decls h.funcs,Vd e.1.decls e.1.funcs]⟩->b5 s:=by
     intro _ hq s p;subst q;refine F _ (AK p (sr AA λc2 G=>zm tb 2 AA (zl tb AA AA (zm tb 2 AA (zl tb AA AA (zm tb 2 AA (dn G AA ?_)))))));obtain rfl:=Sh.AB h0;exact rd [(2,.bool (decide ((Sh.len e.1.funcs)=(Sh.len h.funcs))))]
    refine AT (Ax (σ:=Int) (λn v=>DB N h e n v=some q) (λk=>⟨74,Aa [(3,.ptr 0 0 0 0),(4,.ptr 1 0 0 0),(8,i64 k)],[Vd h.decls h.funcs,Vd e.1.decls e.1.funcs]⟩) N 0 a (AS [0,1] AA (by decide) rfl AA (.raw AA AA (.raw AA AA .nil)) (.same AA)) (λ_ hv=>by rw[DB]at hv;cases hv) ?_);rintro n k a;rw[DB]at a;refine AG λc3 H=>sr AA λc4 I=>zm tb 3 AA (zl tb AA AA (zq tb AA (dn I AA ?_)));refine ci a AA ?_ ?_<;>clear a<;>intro c5 a
    ·refine AL (H _ (AG λc6 J=>AT (AG λb7 K=>bs a λM i a=>?_)));have O:∀(t:Bool),M=t->∀s,Wk 0 s ⟨74,Aa [(3,BI),(4,CT),(8,i64 k),(66,.bool t)],[Vd h.decls h.funcs,Vd e.1.decls e.1.funcs]⟩->b7 s:=by
      intro t hq s p;subst M;refine K _ (AK p ?_);refine ci a AA ?_ ?_<;>clear a<;>intro c7 a
      ·refine zr tb AA AA ?_;obtain rfl:=Sh.AB a;obtain rfl:=Sh.AB h0;exact rd [(2,.bool false)]
      ·exact AL (J _ (AH AA (zm tb 3 AA (AF (xi (Sh.w (k+1)) a (AJ AA))))))
     refine Br 14 (by kernel_rfl) (by kernel_rfl) (by rfl) ?_;iterate 3 refine yq tb rfl ?_
     refine yl tb AA AA ?_;iterate 2 refine yq tb rfl ?_
     rcases Sh.Aj i with ⟨b,i⟩|⟨b,i⟩
     ·refine ys b AA ?_;iterate 7 refine ys b rfl ?_
      exact Aw (zt b AA (AF (O true (Sh.AB i).symm _ (AJ AA))))
     ·refine yg tb b AA (yg tb b AA (bs i λP Q i=>?_));refine BV (v:=(ls eI P)) (CS AA AA b) (hb 17) (Ab.wk (Mu Q) (by refine Wk.trans (Wk.BL (L:=[(0,ls eI P)]) (st':=Rk) (id:=0) rfl pn (AD λ_=>AA) ⟨.BL AA,lU⟩ AA) ?_;exact AS [] AA (by decide) rfl AA .nil (.same AA))) rfl AA AA ?_;iterate 2 refine yg tb b rfl ?_
      refine bs i λR S i=>?_;refine BV (v:=(ls eI R)) (CS AA AA b) (hb 17) (Ab.wk (Mu S) (by refine Wk.trans (Wk.BL (L:=[(0,ls eI R)]) (st':=Rk) (id:=0) rfl pn (AD λ_=>AA) ⟨.BL AA,lU⟩ AA) ?_;exact AS [] AA (by decide) rfl AA .nil (.same AA))) rfl AA AA ?_;exact bs i λT U i=>BV (v:=(.bool T)) (CS AA AA b) (hb 16) (Uq U) rfl AA AA (yg tb b AA (Aw (zf b AA (AF (O (!T) (Sh.AB i).symm _ (AJ AA))))))
    ·exact Az (b6 () (Sh.AB a).symm _ (AJ AA))
  refine AH AA (zm tb 2 AA (bs a λc8 V a=>zc (hb 11) (Ku V) rfl AA AA (zm tb 2 AA ?_)));rcases Sh.Aj a with ⟨d,a⟩|⟨d,a⟩
  ·exact zs d AA (zs d AA (zs d AA (zt d AA (zq tb AA (zs AA AA (zs AA AA (zt AA AA (AF (l true (Sh.AB a).symm _ (AJ AA))))))))))
  ·refine zg tb d AA (zg tb d AA (zg tb d AA (zf d AA (zq tb AA ?_))));rcases Sh.Aj a with ⟨g,a⟩|⟨g,a⟩
   ·exact zs g AA (zs g AA (zt g AA (AF (l true (Sh.AB a).symm _ (AJ AA)))))
   ·exact zg tb g AA (zg tb g AA (zf g AA (AF (l (!e.2) (Sh.AB a).symm _ (AJ AA)))))
end Go.Proofs.YtihdgoiebmfapaaGreat
