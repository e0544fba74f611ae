import Derived.Test.YtpahalfiiahddaaGreatGPlainAToKNJ

namespace RC
open Go
theorem Xr {p:Ag}:LA (.mk p.decls (p.funcs.map kf))≤LA p:=by
 unfold LA
 simp only[List.length_map,List.map_map]
 have:(p.funcs.map (Ir ∘ kf)).sum≤0 * p.funcs.length+1 * (p.funcs.map Ir).sum:=Qj fun f _=>by
  have h1:=TN f.body
  have h2:=EU f.body
  have h3:=EU (kn f.body)
  show f.params.length+CN (kn f.body).kids≤_
  unfold Ir;omega
 omega
theorem Km {p:Ag} (H:KP p):E2 2000000 p=some true:=by
 have hN:(2000000:Nat)≤2000000:=Nat.le_refl _
 unfold E2
 rw[SS H (by omega) (by omega) hN]
 simp only[Option.bind_some]
 by_cases h:(1048576:Int) - (LA p:Int) < 0
 ·rw[Cg h];rfl
 ·rw[EG h]
  have hz:LA p≤1048576:=by omega
  have S:GM p:=⟨H,hz⟩
  have hz2:=hz
  unfold LA at hz2
  obtain⟨g,w1,w2,hg⟩:=Ph S hN (by omega) (fun d hd=>by have:=FK dz hd;omega) (Wj S hN)
  have gz:LA g.1≤1048576:=by
   rcases hg with rfl | ⟨rfl,_⟩
   ·simp[LA]
   ·exact Nat.le_trans Xr hz
  obtain⟨k,d,r,m1,_⟩:=Rr hz hN
  obtain⟨k2,d2,r2,m2,m3⟩:=Rr gz hN
  rw[if_neg (by simpa using h),R7 hz hN]
  simp only[Option.bind_some]
  rw[w1]
  simp only[Option.bind_some]
  rw[w2]
  simp only[Option.bind_some]
  rw[Nj gz hN,Nj hz hN,m1,m2]
  have hk:¬ (k:Int) < 0:=by omega
  have hh:¬ (k2:Int) < 0:=by omega
  simp only[hk,hh,decide_false,decide_true,Bool.not_true,Bool.false_eq_true,if_false,Option.bind_some,bne_self_eq_false,m3]
end RC

