import Derived.Test.YtcegihniiokijaaGPlainAToXNH

namespace RC
open Go
def plo (s : Step) : Bool := !ctg s.op && decide (s.into = 0)
mutual
def pls : Step → Bool | .mk o _ i _ k => (!ctg o && decide (i = 0)) && plk k
def plk : List (BlockOf Step) → Bool | [] => true | b :: k => plb b && plk k
def plb : BlockOf Step → Bool | ⟨ss, _⟩ => pll ss
def pll : List Step → Bool | [] => true | s :: l => pls s && pll l
end
theorem pls_eq (s : Step) : pls s = (plo s && plk s.kids) := by cases s; simp only [pls]; rfl
theorem plb_eq (b : Block) : plb b = pll b.steps := by cases b; simp [plb]
theorem plk_all : ∀ k : List Block, plk k = k.all plb
 | [] => rfl
 | b :: k => by rw [List.all_cons, ← plk_all k]; simp only [plk]
theorem pll_all : ∀ l : List Step, pll l = l.all pls
 | [] => rfl
 | s :: l => by rw [List.all_cons, ← pll_all l]; simp only [pll]
theorem plain_L2 {b : Block} {rec : Block → Option Bool} {i : Nat} {s : Step} (hs : b.steps[i]? = some s) (hk : s.kids.length ≤ 1048576) (hrec : ∀ c ∈ s.kids, rec c = some (plb c)) {N : Nat} (hN : 2000000 ≤ N) :
  spec_plainSteps_B_L2 i b rec N 0 = some (if plk s.kids = true then .inr () else .inl false) := by
 have L := all_loop (l := s.kids) (spec_plainSteps_B_L2 i b rec) (fun _ c => plb c) (fun q => by
  rw [spec_plainSteps_B_L2, get_lt hs]
  simp only [Option.bind_some]
  rw [if_neg (by simp [len_def])]) (fun q k c hc => by
  have hkl := (List.getElem?_eq_some_iff.1 hc).1
  rw [spec_plainSteps_B_L2, get_lt hs]
  simp only [Option.bind_some]
  rw [if_pos (by simp [len_def]; omega), get_lt hc]
  simp only [Option.bind_some]
  rw [hrec c (List.mem_of_getElem? hc), w_id (by omega) (by omega), show ((k : Int) + 1) = ((k + 1 : Nat) : Int) by omega]
  simp only [Option.bind_some]
  cases plb c <;> rfl) (by omega : s.kids.length < N)
 rw [L, allAt_all, plk_all]
theorem spec_plain_F {N : Nat} (hN : 2000000 ≤ N) : ∀ (m : Nat) (b : Block), Bs b → bsz b < m → spec_plainSteps_F N m b = some (plb b) := by
 intro m
 induction m with
 | zero => intro b _ h; omega
 | succ m ih =>
  intro b hb hm
  have hl := hb.len
  rw [spec_plainSteps_F]
  unfold spec_plainSteps_B
  have L := all_loop (l := b.steps) (spec_plainSteps_B_L1 N b (spec_plainSteps_F N m)) (fun _ s => pls s) (fun q => by rw [spec_plainSteps_B_L1, if_neg (by simp [len_def])]) (fun q i s hs => by
   have hil := (List.getElem?_eq_some_iff.1 hs).1
   have hsm := List.mem_of_getElem? hs
   rw [spec_plainSteps_B_L1, if_pos (by simp [len_def]; omega), get_lt hs]
   simp only [Option.bind_some]
   rw [ctg_spec, plain_L2 hs (kids_len hb hsm) (fun c hc => ih c (kid_bs hb hsm hc).1 (by have := (kid_bs hb hsm hc).2; omega)) hN, w_id (by omega) (by omega), show ((i : Int) + 1) = ((i + 1 : Nat) : Int) by omega, cont_all, pls_eq]
   simp only [Option.bind_some]
   unfold plo
   by_cases h0 : s.into = 0 <;> cases ctg s.op <;> cases plk s.kids <;> simp [h0]) (by omega : b.steps.length < N)
  rw [L, allAt_all, cont_all, plb_eq, pll_all]
  cases b.steps.all pls <;> rfl
theorem spec_plainSteps_eq {N : Nat} (hN : 2000000 ≤ N) {b : Block} (hb : Bs b) : spec_plainSteps N b = some (plb b) := by
 unfold spec_plainSteps
 exact spec_plain_F hN N b hb (by unfold Bs at hb; omega)
theorem impl_plo (f : Bool) (s : Step) : impl_isPlainBlock_1 f s = some (f && plo s) := by
 unfold impl_isPlainBlock_1 plo
 rw [ctg_impl]
 simp only [Option.bind_some]
 cases f <;> cases ctg s.op <;> rfl
theorem visit_L2 {s : Step} {rec : Bool → Block → Option Bool} (hk : s.kids.length ≤ 1048576) (hrec : ∀ c ∈ s.kids, ∀ f, rec f c = some (f && plb c)) {N i : Nat} (hi : i ≤ s.kids.length) (hN : s.kids.length - i < N) : ∀ f : Bool, impl_visitSteps_B_L2 s rec N i f = some (f && plk (s.kids.drop i)) := by
 refine loop_ind s.kids.length (fun N i => ∀ f : Bool, impl_visitSteps_B_L2 s rec N i f = some (f && plk (s.kids.drop i))) ?_ ?_ hi hN
 ·intro n f
  rw [impl_visitSteps_B_L2, if_neg (by simp [len_def])]; simp [plk]
 ·intro n i hi ih f
  obtain ⟨c, hc, hcm⟩ := at_lt hi
  rw [impl_visitSteps_B_L2, if_pos (by simp [len_def]; omega), get_lt hc]
  simp only [Option.bind_some]
  rw [hrec c hcm, w_id (by omega) (by omega), show ((i : Int) + 1) = ((i + 1 : Nat) : Int) by omega, drop_cons hc]
  simp only [Option.bind_some]
  rw [ih, plk, Bool.and_assoc]
theorem visit_L1 {b : Block} {rec : Bool → Block → Option Bool} {M : Nat} (hM : 2000000 ≤ M) (hb : Bs b) (hrec : ∀ s ∈ b.steps, ∀ c ∈ s.kids, ∀ f, rec f c = some (f && plb c)) {N i : Nat} (hi : i ≤ b.steps.length) (hN : b.steps.length - i < N) : ∀ f : Bool, impl_visitSteps_B_L1 M b rec N i f = some (f && pll (b.steps.drop i)) := by
 have hl := hb.len
 refine loop_ind b.steps.length (fun N i => ∀ f : Bool, impl_visitSteps_B_L1 M b rec N i f = some (f && pll (b.steps.drop i))) ?_ ?_ hi hN
 ·intro n f
  rw [impl_visitSteps_B_L1, if_neg (by simp [len_def])]; simp [pll]
 ·intro n i hi ih f
  obtain ⟨s, hs, hsm⟩ := at_lt hi
  rw [impl_visitSteps_B_L1, if_pos (by simp [len_def]; omega), get_lt hs]
  simp only [Option.bind_some]
  have l2 := visit_L2 (s := s) (kids_len hb hsm) (hrec s hsm) (Nat.zero_le _) (by have := kids_len hb hsm; omega : s.kids.length - 0 < M) (f && plo s)
  rw [show ((0 : Nat) : Int) = 0 from rfl, List.drop_zero] at l2
  rw [impl_plo]
  simp only [Option.bind_some]
  rw [l2, w_id (by omega) (by omega), show ((i : Int) + 1) = ((i + 1 : Nat) : Int) by omega, drop_cons hs]
  simp only [Option.bind_some]
  rw [ih, pll, pls_eq, Bool.and_assoc, Bool.and_assoc, Bool.and_assoc]
theorem impl_visit_F {N : Nat} (hN : 2000000 ≤ N) : ∀ (m : Nat) (b : Block), Bs b → bsz b < m → ∀ f, impl_visitSteps_F N m f b = some (f && plb b) := by
 intro m
 induction m with
 | zero => intro b _ h; omega
 | succ m ih =>
  intro b hb hm f
  have hl := hb.len
  rw [impl_visitSteps_F]
  unfold impl_visitSteps_B
  have L := visit_L1 hN hb (rec := impl_visitSteps_F N m) (fun s hs c hc => ih c (kid_bs hb hs hc).1 (by have := (kid_bs hb hs hc).2; omega)) (Nat.zero_le _) (by omega : b.steps.length - 0 < N) f
  rw [show ((0 : Nat) : Int) = 0 from rfl, List.drop_zero] at L
  rw [L, plb_eq]; rfl
theorem impl_isPlainBlock_eq {N : Nat} (hN : 2000000 ≤ N) {b : Block} (hb : Bs b) : impl_isPlainBlock N b = some (plb b) := by
 unfold impl_isPlainBlock impl_visitSteps
 rw [impl_visit_F hN N b hb (by unfold Bs at hb; omega)]
 simp
theorem IsPlain_both {n : RNormal} (S : NSmall n) {N : Nat} (hN : 2000000 ≤ N) : ∃ b, spec_IsPlain N n = some b ∧ impl_IsPlain N n = some b := by
 have hl := S.rlen
 obtain ⟨v, h1, h2⟩ := ValidNormal_both S hN
 unfold spec_IsPlain spec_isPlain impl_IsPlain
 rw [h1, h2]
 simp only [Option.bind_some]
 cases v with
 | false => exact ⟨false, rfl, rfl⟩
 | true =>
  have L1 := all_loop (l := n.routines) (spec_isPlain_L1 N n) (fun _ r => plb r.body) (fun q => by rw [spec_isPlain_L1, if_neg (by simp [len_def])]) (fun q i r hi => by
   have hil := (List.getElem?_eq_some_iff.1 hi).1
   have hr := List.mem_of_getElem? hi
   rw [spec_isPlain_L1, if_pos (by simp [len_def]; omega), get_lt hi]
   simp only [Option.bind_some]
   rw [spec_plainSteps_eq hN (S.rz hr).2.2, w_id (by omega) (by omega), show ((i : Int) + 1) = ((i + 1 : Nat) : Int) by omega]
   simp only [Option.bind_some]
   cases plb r.body <;> rfl) (by omega : n.routines.length < N)
  have L2 := all_loop (l := n.routines) (impl_IsPlain_L1 N n) (fun _ r => plb r.body) (fun q => by rw [impl_IsPlain_L1, if_neg (by simp [len_def])]) (fun q i r hi => by
   have hil := (List.getElem?_eq_some_iff.1 hi).1
   have hr := List.mem_of_getElem? hi
   rw [impl_IsPlain_L1, if_pos (by simp [len_def]; omega), get_lt hi]
   simp only [Option.bind_some]
   rw [impl_isPlainBlock_eq hN (S.rz hr).2.2, w_id (by omega) (by omega), show ((i : Int) + 1) = ((i + 1 : Nat) : Int) by omega]
   simp only [Option.bind_some]
   cases plb r.body <;> rfl) (by omega : n.routines.length < N)
  rw [allAt_all] at L1 L2
  refine ⟨n.routines.all fun r => plb r.body, ?_, ?_⟩
  ·simp only [Bool.not_true, Bool.false_eq_true, if_false]
   rw [L1, cont_all]
   cases (n.routines.all fun r => plb r.body) <;> rfl
  ·simp only [Bool.not_true, Bool.false_eq_true, if_false]
   rw [L2, cont_all]
   cases (n.routines.all fun r => plb r.body) <;> rfl
theorem FnExactIsPlain_plain {n : RNormal} (H : RNormalIn n) : laws_FnExactIsPlain 2000000 n = some true := by
 have hN : (2000000 : Nat) ≤ 2000000 := Nat.le_refl _
 unfold laws_FnExactIsPlain
 rw [szNormal_eq H (by omega) (by omega) hN]
 simp only [Option.bind_some]
 by_cases h : (1048576 : Int) - (nmz n : Int) < 0
 ·rw [lft_neg h]; rfl
 ·rw [lft_pos h]
  have hz : nmz n ≤ 1048576 := by omega
  have S : NSmall n := ⟨H, hz⟩
  obtain ⟨b, h1, h2⟩ := IsPlain_both S hN
  rw [if_neg (by simpa using h), toNormal_eq hz hN]
  simp only [Option.bind_some]
  rw [h1, h2]
  simp only [Option.bind_some]
  rw [eqNormal_eq hz hN]
  simp
end RC

