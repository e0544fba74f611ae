/- Drops one after the other: their order does not matter; what is freed was reached; a new cell's drop. -/
import Derived.Test.YtgpjhgoobijdjaaHNH
namespace RC
open Go

/-- One drop after the other is the drop of all. -/
theorem Dr.comp {h g x : List Cell} {W1 W2 : List Int} (P : Pre h W1) (V : RC.VH h) (D1 : Dr h W1 g) (P2 : Pre g W2) (D2 : Dr g W2 x) : Dr h (W1 ++ W2) x := by
  have V2 := D1.VH P V
  obtain ⟨fr1, cn1, A, hg, _, hgl⟩ := D1.cat V.zr
  obtain ⟨fr2, cn2, B, hx, hxl, _⟩ := D2.cat V2.zr
  have hct := ct_gg hg
  have hfl := fl_gg hg
  have hdis : ∀ i, fr2 i = true → fr1 i = false := fun i h2 => by
    have := ((B.frz i).1 h2).1
    rw [hct] at this
    cases hf : fr1 i with
    | false => rfl
    | true => rw [hf] at this; simp at this
  have hin : ∀ j, inF g fr2 j = inF h fr2 j := fun j => by
    have e1 : inF g fr2 j = inn g fr2 j h.length := by
      have := inn_more (h := g) (p := fr2) (j := j) (n := g.length) (m := h.length - g.length) (Nat.le_refl _)
      rw [show g.length + (h.length - g.length) = h.length by omega] at this
      exact this.symm
    rw [e1]
    refine inn_congr fun i _ => ?_
    cases h2 : fr2 i with
    | false => rfl
    | true => rw [hfl, hdis i h2]; simp
  have hsum : ∀ j, inF h (fun i => fr1 i || fr2 i) j = inF h fr1 j + inF h fr2 j := fun j => inn_add fun i _ h1 => by
    cases h2 : fr2 i with
    | false => rfl
    | true => rw [hdis i h2] at h1; cases h1
  have hzero : ∀ j, fr1 j = true → pc W2 j = 0 ∧ inF h fr2 j = 0 := fun j hf => by
    have h0 : ct g j = 0 := by rw [hct, hf]; rfl
    constructor
    · cases hp : pc W2 j with
      | zero => rfl
      | succ m =>
        have := P2.words _ (pc_pos.1 (by rw [hp]; omega)) (by omega)
        rw [show (1000 + (j : Int) - 1000).toNat = j by omega] at this
        omega
    · refine inn_zero fun i hi h2 => ?_
      cases hp : pc (fl h i) j with
      | zero => rfl
      | succ m =>
        have := (cn_pos P A hi (hdis i h2) (by rw [hp]; omega)).2.2
        rw [hf] at this; cases this
  have hpos : ∀ j, 0 < ct h j → fr1 j = false → 0 < cn1 j := fun j h1 h2 => by
    have h3 := cn_nn (g := g) P A h1
    have h4 : inF h fr1 j ≤ inA h j := inn_le fun _ _ _ => rfl
    have h5 : cn1 j ≠ 0 := fun h5 => by have := (A.frz j).2 ⟨h1, h5⟩; rw [h2] at this; cases this
    omega
  have hcnt : ∀ j, cn2 j = ct h j - (pc (W1 ++ W2) j : Int) - (inF h (fun i => fr1 i || fr2 i) j : Int) + (pc [] j : Int) := fun j => by
    have a := A.cnt j
    have b := B.cnt j
    rw [hin] at b
    rw [pc_nil] at a b ⊢
    rw [hsum, pc_append]
    cases hf : fr1 j with
    | false =>
      have c := hct j
      rw [hf] at c
      simp only [Bool.false_eq_true, if_false] at c
      omega
    | true =>
      obtain ⟨z1, z2⟩ := hzero j hf
      have c := hct j
      rw [hf] at c
      simp only [if_true] at c
      have d := ((A.frz j).1 hf).2
      omega
  have hdead : ∀ j, ¬ 0 < ct h j → cn2 j = ct h j := fun j hj => by
    have c := hct j
    rw [A.dead hj] at c
    simp only [Bool.false_eq_true, if_false] at c
    rw [B.ge j (by rw [c, A.ge j (by omega)]; omega), c, A.ge j (by omega)]
  refine ⟨fun i => fr1 i || fr2 i, cn2, ⟨hcnt, fun j => ?_, (fun w hw => absurd hw (List.not_mem_nil)), (fun w hw => absurd hw (List.not_mem_nil)), fun j => ?_, fun j hj => hdead j (by omega)⟩, ?_⟩
  · have c := hct j
    cases hf : fr1 j with
    | true =>
      rw [hf] at c
      simp only [if_true] at c
      have h1 := (A.frz j).1 hf
      have h2 := B.ge j (by omega)
      simp only [Bool.true_or, true_iff]
      exact ⟨h1.1, by omega⟩
    | false =>
      rw [hf] at c
      simp only [Bool.false_eq_true, if_false] at c
      simp only [Bool.false_or]
      rw [B.frz j, c]
      constructor
      · rintro ⟨g1, g2⟩
        refine ⟨?_, g2⟩
        have := A.le j; omega
      · rintro ⟨g1, g2⟩
        exact ⟨hpos j g1 hf, g2⟩
  · have a := A.le j
    have b := B.le j
    have c := hct j
    by_cases hj : 0 < ct h j
    · split at c <;> omega
    · rw [hdead j hj]; omega
  · have DD : DI h (W1 ++ W2) [] (fun i => fr1 i || fr2 i) cn2 := ⟨hcnt, fun j => by
      have c := hct j
      cases hf : fr1 j with
      | true =>
        rw [hf] at c
        simp only [if_true] at c
        have h1 := (A.frz j).1 hf
        have h2 := B.ge j (by omega)
        simp only [Bool.true_or, true_iff]
        exact ⟨h1.1, by omega⟩
      | false =>
        rw [hf] at c
        simp only [Bool.false_eq_true, if_false] at c
        simp only [Bool.false_or]
        rw [B.frz j, c]
        constructor
        · rintro ⟨g1, g2⟩
          refine ⟨?_, g2⟩
          have := A.le j; omega
        · rintro ⟨g1, g2⟩
          exact ⟨hpos j g1 hf, g2⟩, (fun w hw => absurd hw (List.not_mem_nil)), (fun w hw => absurd hw (List.not_mem_nil)), fun j => by
      have a := A.le j
      have b := B.le j
      have c := hct j
      by_cases hj : 0 < ct h j
      · split at c <;> omega
      · rw [hdead j hj]; omega, fun j hj => hdead j (by omega)⟩
    refine eq_of_cat hxl (trm_last _) fun j => ?_
    rw [cat_trm (zr_gg V.zr DD), cat_gg DD, hx]
    unfold gg
    by_cases hf : fr1 j = true
    · have h2 : fr2 j = false := by
        cases h2 : fr2 j with
        | false => rfl
        | true => have := hdis j h2; rw [hf] at this; cases this
      have c := hct j
      rw [if_pos hf] at c
      have h3 := B.ge j (by omega)
      have h4 : RC.cat g j = ⟨0, 0, []⟩ := by rw [hg]; unfold gg; rw [if_pos hf]
      rw [h4]
      simp [h2, hf, h3, c]
    · have hf' : fr1 j = false := by simpa using hf
      have h4 : RC.cat g j = ⟨cn1 j, (RC.cat h j).tag, (RC.cat h j).fields⟩ := by rw [hg]; unfold gg; rw [if_neg hf]
      rw [h4]; simp [hf']

/-- The words in another order. -/
theorem Dr.perm {h g : List Cell} {W W' : List Int} (e : ∀ j, pc W j = pc W' j) (D : Dr h W g) : Dr h W' g := by
  obtain ⟨fr, cn, A, hg⟩ := D
  exact ⟨fr, cn, ⟨fun j => by rw [← e]; exact A.cnt j, A.frz, A.tw, A.ti, A.le, A.ge⟩, hg⟩

theorem Order_L1_eq {q7 : List Cell × Int} {q9 : List Cell × Bool} (MD : mayDrop q7.1 q7.2) (hw : I64 q7.2) (hl : q7.1.length ≤ 1000) (DD : Dr q7.1 [q7.2] q9.1) {M : Nat} (hM : M = 2000000) {N i : Nat} (hi : i ≤ q7.1.length) (hN : q7.1.length - i < N) :
    laws_FnDropWordOrder_L1 M q7 q9 N i = some (Sum.inr ()) := by
  have V := MD.1
  have H := V.hp hl
  have P := MD.pre H
  have V2 := DD.VH P V
  have hgl := DD.len V.zr
  have H2 := V2.hp (by omega)
  refine loop_ind q7.1.length (fun N i => laws_FnDropWordOrder_L1 M q7 q9 N i = some (Sum.inr ())) ?_ ?_ hi hN
  · intro n
    rw [laws_FnDropWordOrder_L1, if_neg (by simp [len_def])]
  · intro n i hi ih
    have hv : I64 (1000 + (i : Int)) := ⟨by omega, by omega⟩
    obtain ⟨x, b1, _, x2, x3, x4, _⟩ := DropWord_both H2 hv (show 2000000 ≤ M by omega)
    obtain ⟨y, b2, _, y2, y3, y4, y5⟩ := DropWord_both H hv (show 2000000 ≤ M by omega)
    have Hy : Hp y ∧ (b2 = true → RC.VH y) := by
      cases b2 with
      | false => rw [y5 rfl]; exact ⟨Hp.nil, fun h => by cases h⟩
      | true =>
        have Vy := (y4 rfl).VH ((y3.1 rfl).pre H) V
        have hyl := (y4 rfl).len V.zr
        exact ⟨Vy.hp (by omega), fun _ => Vy⟩
    obtain ⟨z, b3, _, z2, z3, z4, _⟩ := DropWord_both Hy.1 hw (show 2000000 ≤ M by omega)
    rw [laws_FnDropWordOrder_L1, if_pos (by simp [len_def]; omega), w_id (n := 1000 + (i : Int)) (by omega) (by omega), x2, y2, w_id (n := (i : Int) + 1) (by omega) (by omega), show ((i : Int) + 1) = ((i + 1 : Nat) : Int) by omega, ih]
    simp only [Option.bind_some]
    rw [z2]
    simp only [Option.bind_some]
    cases b1 with
    | false => simp
    | true =>
      cases b2 with
      | false => simp
      | true =>
        cases b3 with
        | false => simp
        | true =>
          have Vy := Hy.2 rfl
          have e1 := Dr.comp P V DD ((x3.1 rfl).pre H2) (x4 rfl)
          have e2 := Dr.comp ((y3.1 rfl).pre H) V (y4 rfl) ((z3.1 rfl).pre Hy.1) (z4 rfl)
          have e3 : Dr q7.1 ([q7.2] ++ [1000 + (i : Int)]) z := e2.perm fun j => by rw [pc_append, pc_append]; omega
          obtain rfl := e1.same V e3
          have Vx := (x4 rfl).VH ((x3.1 rfl).pre H2) V2
          have hxl := (x4 rfl).len V2.zr
          subst hM
          rw [equalHeap_eq (Vx.hp (by omega)) (Nat.le_refl 2000000)]
          simp

theorem FnDropWordOrder_plain {code : List Int} (hc : CodeIn code) : laws_FnDropWordOrder 2000000 code = some true := by
  refine Tot.true ?_
  unfold laws_FnDropWordOrder
  refine Tot.iteD (fun _ => Tot.some rfl) fun hl => ?_
  rw [len_def] at hl
  refine Tot.bind (DrawDropWord_tot hc.1 (by omega) (Nat.le_refl _)) fun q ⟨D, hw⟩ => ?_
  have H := D.hp
  have hlen := D.len
  obtain ⟨g, b, e1, e2, e3, e4, e5⟩ := DropWord_both H hw.i64 (Nat.le_refl 2000000)
  rw [e1, e2]
  simp only [Option.bind_some]
  cases b with
  | false =>
    rw [e5 rfl]
    exact Tot.of (v := true) (by simp [equalHeap_nil]) rfl
  | true =>
    have MD := e3.1 rfl
    have DD := e4 rfl
    have V2 := DD.VH (MD.pre H) MD.1
    have hgl := DD.len MD.1.zr
    have L := Order_L1_eq (q7 := q) (q9 := (g, true)) MD hw.i64 (by omega) DD rfl (Nat.zero_le _) (by omega : q.1.length - 0 < 2000000)
    rw [show ((0 : Nat) : Int) = 0 from rfl] at L
    rw [equalHeap_eq (V2.hp (by omega)) (Nat.le_refl 2000000), L]
    exact Tot.of (v := true) (by simp) rfl

/-! ### What is freed was reached -/

theorem freed_reached {h g : List Cell} {w : Int} (MD : mayDrop h w) (H : Hp h) {fr : Nat → Bool} {cn : Nat → Int} (A : DI h [w] [] fr cn) {m : Nat → Bool} (R : RI h [w] [] m) : ∀ j, fr j = true → m j = true := by
  obtain ⟨rk, hrk⟩ := MD.1.rk
  obtain ⟨B, hB⟩ := bound_of rk h.length
  have key : ∀ d j, B - rk j = d → j < h.length → fr j = true → m j = true := by
    intro d
    induction d using Nat.strongRecOn with
    | _ d ih =>
      intro j hd hj hf
      obtain ⟨h1, h2⟩ := (A.frz j).1 hf
      have h3 := A.cnt j
      rw [pc_nil, pc_one] at h3
      by_cases hw : w = 1000 + (j : Int)
      · have := (R.words w (by simp) (by omega) (by rw [hw, show (1000 + (j : Int) - 1000).toNat = j by omega]; exact h1)).resolve_right (List.not_mem_nil)
        rwa [hw, show (1000 + (j : Int) - 1000).toNat = j by omega] at this
      · rw [if_neg hw] at h3
        by_cases hex : ∃ i, i < h.length ∧ fr i = true ∧ 0 < pc (fl h i) j
        · obtain ⟨i, i1, i2, i3⟩ := hex
          have i4 := hrk i j h1 i3
          have i5 := hB i i1
          have i6 := ih (B - rk i) (by omega) i rfl i1 i2
          have := (R.closed i i6 _ (pc_pos.1 i3) (by omega) (by rw [show (1000 + (j : Int) - 1000).toNat = j by omega]; exact h1)).resolve_right (List.not_mem_nil)
          rwa [show (1000 + (j : Int) - 1000).toNat = j by omega] at this
        · have h4 : inF h fr j = 0 := inn_zero fun i hi hfi => by
            cases hp : pc (fl h i) j with
            | zero => rfl
            | succ k => exact absurd ⟨i, hi, hfi, by rw [hp]; omega⟩ hex
          omega
  intro j hf
  exact key _ j rfl (ct_lt (by have := ((A.frz j).1 hf).1; omega)) hf

theorem within_L1_eq {a b : List Int} (hab : ∀ x ∈ a, x ∈ b) (ha : a.length ≤ 1000) (hb : b.length ≤ 1000) {M : Nat} (hM : 2000000 ≤ M) {N i : Nat} (hi : i ≤ a.length) (hN : a.length - i < N) : laws_within_L1 M a b N i = some (Sum.inr ()) := by
  refine loop_ind a.length (fun N i => laws_within_L1 M a b N i = some (Sum.inr ())) ?_ ?_ hi hN
  · intro n
    rw [laws_within_L1, if_neg (by simp [len_def])]
  · intro n i hi ih
    obtain ⟨x, hx, hxm⟩ := at_lt hi
    rw [laws_within_L1, if_pos (by simp [len_def]; omega), get_lt hx]
    simp only [Option.bind_some]
    rw [isIn_eq (by omega) hM, w_id (by omega) (by omega), show ((i : Int) + 1) = ((i + 1 : Nat) : Int) by omega, ih]
    simp [hab x hxm]
theorem within_eq {a b : List Int} (hab : ∀ x ∈ a, x ∈ b) (ha : a.length ≤ 1000) (hb : b.length ≤ 1000) {N : Nat} (hN : 2000000 ≤ N) : laws_within N a b = some true := by
  unfold laws_within
  have := within_L1_eq hab ha hb hN (Nat.zero_le _) (by omega : a.length - 0 < N)
  rw [show ((0 : Nat) : Int) = 0 from rfl] at this
  rw [this]; rfl

theorem gone_L1_eq {a b : List Int} (ha : a.length ≤ 1000) (hb : b.length ≤ 1000) {M : Nat} (hM : 2000000 ≤ M) {N i : Nat} (hi : i ≤ b.length) (hN : b.length - i < N) : ∀ acc : List Int, acc.length ≤ i →
    laws_FnDropWord_L1 M a b N i acc = some (acc ++ (b.drop i).filter fun x => !decide (x ∈ a)) := by
  refine loop_ind b.length (fun N i => ∀ acc : List Int, acc.length ≤ i → laws_FnDropWord_L1 M a b N i acc = some (acc ++ (b.drop i).filter fun x => !decide (x ∈ a))) ?_ ?_ hi hN
  · intro n acc _
    rw [laws_FnDropWord_L1, if_neg (by simp [len_def])]; simp
  · intro n i hi ih acc hacc
    obtain ⟨x, hx, hxm⟩ := at_lt hi
    rw [laws_FnDropWord_L1, if_pos (by simp [len_def]; omega), get_lt hx]
    simp only [Option.bind_some]
    rw [isIn_eq (by omega) hM, w_id (by omega) (by omega), show ((i : Int) + 1) = ((i + 1 : Nat) : Int) by omega, drop_cons hx, List.filter_cons]
    simp only [Option.bind_some]
    by_cases e : x ∈ a
    · simp only [e, decide_true, Bool.not_true, Bool.false_eq_true, if_false, Option.bind_some]
      exact ih acc (by omega)
    · simp only [e, decide_false, Bool.not_false, if_true]
      rw [app_ok _ _ 8 (by simp; omega) (by simp; omega)]
      simp only [Option.bind_some]
      rw [ih (acc ++ [x]) (by simp; omega)]
      simp

theorem FnDropWord_plain {code : List Int} (hc : CodeIn code) : laws_FnDropWord 2000000 code = some true := by
  refine Tot.true ?_
  unfold laws_FnDropWord
  refine Tot.iteD (fun _ => Tot.some rfl) fun hl => ?_
  rw [len_def] at hl
  refine Tot.bind (DrawDropWord_tot hc.1 (by omega) (Nat.le_refl _)) fun q ⟨D, hw⟩ => ?_
  have H := D.hp
  have hlen := D.len
  have hsz := D.size
  obtain ⟨g, b, e1, e2, e3, e4, e5⟩ := DropWord_both H hw.i64 (Nat.le_refl 2000000)
  rw [e1, e2]
  simp only [Option.bind_some]
  cases b with
  | false =>
    rw [e5 rfl]
    exact Tot.of (v := true) (by simp [equalHeap_nil]) rfl
  | true =>
    have MD := e3.1 rfl
    have DD := e4 rfl
    have P := MD.pre H
    have V2 := DD.VH P MD.1
    have hgl := DD.len MD.1.zr
    have H2 := V2.hp (by omega)
    obtain ⟨fr, cn, A, hg, _, _⟩ := DD.cat MD.1.zr
    have hct := ct_gg hg
    obtain ⟨out, _, r2, _, r4⟩ := ReachOf_both H (W := [q.2]) (fun w hw' => by rw [List.mem_singleton] at hw'; subst hw'; exact hw.i64) (by show 1 ≤ _; omega) (by simp) (Nat.le_refl 2000000)
    obtain ⟨m, R, ho⟩ := r4 MD.1
    obtain ⟨b1, _, _, _, _, v1, v2, _⟩ := valid_both H2 (Nat.le_refl 2000000)
    obtain rfl := v2.2 V2
    have ml1 := mk_len (fun j => decide (0 < ct g j)) g.length 0
    have ml2 := mk_len (fun j => decide (0 < ct q.1 j)) q.1.length 0
    have ml3 := mk_len m q.1.length 0
    have hlive : ∀ j, 0 < ct g j → 0 < ct q.1 j := fun j hj => by
      rw [hct] at hj
      split at hj
      · omega
      · have := A.le j; omega
    have w1 : ∀ x ∈ nats (mk (fun j => decide (0 < ct g j)) g.length 0), x ∈ nats (mk (fun j => decide (0 < ct q.1 j)) q.1.length 0) := fun x hx => by
      simp only [nats, List.mem_map] at hx
      obtain ⟨j, hj, rfl⟩ := hx
      obtain ⟨j1, j2⟩ := mk_mem.1 hj
      refine mem_nats.2 (mk_mem.2 ⟨by omega, decide_eq_true (hlive j (of_decide_eq_true j2))⟩)
    have w2 : ∀ x ∈ (nats (mk (fun j => decide (0 < ct q.1 j)) q.1.length 0)).filter fun x => !decide (x ∈ nats (mk (fun j => decide (0 < ct g j)) g.length 0)), x ∈ out := fun x hx => by
      obtain ⟨hx1, hx2⟩ := List.mem_filter.1 hx
      simp only [nats, List.mem_map] at hx1
      obtain ⟨j, hj, rfl⟩ := hx1
      obtain ⟨j1, j2⟩ := mk_mem.1 hj
      have j3 : 0 < ct q.1 j := of_decide_eq_true j2
      rw [ho]
      refine mem_nats.2 (mk_mem.2 ⟨j1, freed_reached (g := g) MD H A R j ?_⟩)
      cases hf : fr j with
      | true => rfl
      | false =>
        exfalso
        have h4 : cn j ≠ 0 := fun h4 => by have := (A.frz j).2 ⟨j3, h4⟩; rw [hf] at this; cases this
        have h5 := cn_nn (g := g) P A j3
        have h6 : inF q.1 fr j ≤ inA q.1 j := inn_le fun _ _ _ => rfl
        have h7 : 0 < ct g j := by rw [hct, hf]; simp; omega
        have h8 : ((j : Nat) : Int) ∈ nats (mk (fun j => decide (0 < ct g j)) g.length 0) := mem_nats.2 (mk_mem.2 ⟨ct_lt (by omega), decide_eq_true h7⟩)
        simp [h8] at hx2
    have G := gone_L1_eq (a := nats (mk (fun j => decide (0 < ct g j)) g.length 0)) (b := nats (mk (fun j => decide (0 < ct q.1 j)) q.1.length 0)) (by rw [nats_len]; omega) (by rw [nats_len]; omega) (Nat.le_refl 2000000) (Nat.zero_le _) (by rw [nats_len]; omega : (nats (mk (fun j => decide (0 < ct q.1 j)) q.1.length 0)).length - 0 < 2000000) [] (by simp)
    rw [show ((0 : Nat) : Int) = 0 from rfl, List.drop_zero, List.nil_append] at G
    have hfl := List.length_filter_le (fun x => !decide (x ∈ nats (mk (fun j => decide (0 < ct g j)) g.length 0))) (nats (mk (fun j => decide (0 < ct q.1 j)) q.1.length 0))
    have x1 := within_eq w1 (by rw [nats_len]; omega) (by rw [nats_len]; omega) (Nat.le_refl 2000000)
    have x2 := within_eq w2 (by rw [nats_len] at hfl; omega) (by rw [ho, nats_len]; omega) (Nat.le_refl 2000000)
    rw [equalHeap_eq H2 (Nat.le_refl 2000000), liveIn_eq (by omega) (Nat.le_refl 2000000), liveIn_eq (by omega) (Nat.le_refl 2000000), v1, r2]
    simp only [Option.bind_some]
    rw [G]
    simp only [Option.bind_some]
    rw [x1, x2]
    exact Tot.of (v := true) (by simp) rfl

/-! ### A new cell's drop drops its fields -/

theorem pc_take_le (l : List Int) (k j : Nat) : pc (l.take k) j ≤ pc l j := by
  have := pc_append (l.take k) (l.drop k) j
  rw [List.take_append_drop] at this; omega

/-- Nothing points to the new cell. -/
theorem new_free {h : List Cell} {t : Int} {fs : List Int} (V : VH h) (Va : VH (alc h ⟨1, t, fs⟩)) : (∀ i, pc (fl h i) (ff h) = 0) ∧ pc fs (ff h) = 0 := by
  have h0 := ff_free h
  constructor
  · intro i
    cases hp : pc (fl h i) (ff h) with
    | zero => rfl
    | succ k =>
      have := V.fields i _ (pc_pos.1 (by rw [hp]; omega)) (by omega)
      rw [show (1000 + (ff h : Int) - 1000).toNat = ff h by omega] at this
      omega
  · cases hp : pc fs (ff h) with
    | zero => rfl
    | succ k =>
      have h1 := alloc_words Va _ (pc_pos.1 (by rw [hp]; omega : 0 < pc fs (ff h)))
      rw [wordW_ptr (by omega), show (1000 + (ff h : Int) - 1000).toNat = ff h by omega] at h1
      have : 0 < ct h (ff h) := by simpa using h1
      omega

theorem ct_alc (h : List Cell) (c : Cell) (j : Nat) : ct (alc h c) j = if j = ff h then c.count else ct h j := by unfold ct; rw [cat_alc]; split <;> rfl
theorem fl_alc (h : List Cell) (c : Cell) (j : Nat) : fl (alc h c) j = if j = ff h then c.fields else fl h j := by rw [fl_cat, fl_cat, cat_alc]; split <;> rfl
theorem inn_ext (h : List Cell) (p : Nat → Bool) (j : Nat) {n : Nat} (hn : h.length ≤ n) : inn h p j n = inF h p j := by
  have := inn_more (h := h) (p := p) (j := j) (n := h.length) (m := n - h.length) (Nat.le_refl _)
  rwa [show h.length + (n - h.length) = n by omega] at this
/-- Who points where, with the new cell among those that are marked. -/
theorem inF_alc {h : List Cell} {c : Cell} {p : Nat → Bool} (V : VH h) (j : Nat) : inF (alc h c) (fun i => if i = ff h then true else p i) j = inF h p j + pc c.fields j := by
  have hff := ff_lt_alc h c
  have hla := len_alc h c
  have hle := ff_le h
  have hz : fl h (ff h) = [] := by rw [fl_cat, V.zr _ (ff_free h)]
  have e1 : inF (alc h c) (fun i => if i = ff h then true else p i) j = inF (alc h c) (fun i => if i = ff h then false else p i) j + pc (fl (alc h c) (ff h)) j := by
    have := inn_set (h := alc h c) (p := fun i => if i = ff h then false else p i) (j := j) hff (by simp)
    rw [← this]
    refine inn_congr fun i _ => ?_
    by_cases e : i = ff h <;> simp [e]
  have e2 : inF (alc h c) (fun i => if i = ff h then false else p i) j = inn h p j (alc h c).length := inn_congr fun i _ => by
    by_cases e : i = ff h
    · simp [e, hz, pc_nil]
    · rw [fl_alc, if_neg e, if_neg e]
  rw [e1, e2, inn_ext h p j (by rw [hla]; split <;> omega), fl_alc, if_pos rfl]

theorem alloc_pre {h : List Cell} {t : Int} {fs : List Int} (H : Hp h) (M : mayAlloc h t fs) (k : Nat) : Pre h (fs.take k) := by
  refine Pre.of H M.1 (fun w hw => alloc_words M.2 w (List.mem_of_mem_take hw)) fun j hj => ?_
  have h1 := pc_take_le fs k j
  have hne : j ≠ ff h := fun e => by have := ff_free h; rw [e] at hj; omega
  have hct := ct_alc h ⟨1, t, fs⟩ j
  rw [if_neg hne] at hct
  have h2 := M.2.cnt (j := j) (by rw [hct]; exact hj)
  have h3 : inA (alc h ⟨1, t, fs⟩) j = inA h j + pc fs j := by
    have := inF_alc (c := ⟨1, t, fs⟩) (p := fun _ => true) M.1 j
    refine Eq.trans (inn_congr fun i _ => ?_) this
    simp
  rw [h3, hct] at h2
  omega

theorem AllocDrop_L1_eq {q7 : List Cell × Int × List Int} (H : Hp q7.1) (M : mayAlloc q7.1 q7.2.1 q7.2.2) (hl : q7.1.length ≤ 900) (hf : q7.2.2.length ≤ 1000) (hF : ∀ x ∈ q7.2.2, I64 x) {N i : Nat} (hi : i ≤ q7.2.2.length) (hN : q7.2.2.length - i < N) : ∀ b : List Cell, Dr q7.1 (q7.2.2.take i) b →
    ∃ g, laws_FnAllocCellDrop_L1 2000000 q7 N b i = some (Sum.inr g) ∧ Dr q7.1 q7.2.2 g := by
  refine loop_ind q7.2.2.length (fun N i => ∀ b : List Cell, Dr q7.1 (q7.2.2.take i) b → ∃ g, laws_FnAllocCellDrop_L1 2000000 q7 N b i = some (Sum.inr g) ∧ Dr q7.1 q7.2.2 g) ?_ ?_ hi hN
  · intro n b D
    rw [List.take_length] at D
    exact ⟨b, by rw [laws_FnAllocCellDrop_L1, if_neg (by simp [len_def])], D⟩
  · intro n i hi ih b D
    obtain ⟨x, hx, hxm⟩ := at_lt hi
    have P := alloc_pre H M i
    have Vb := D.VH P M.1
    have hbl := D.len M.1.zr
    have Hb := Vb.hp (by omega)
    have MD : mayDrop b x := by
      obtain ⟨fr, cn, A, hg, _, hgl⟩ := D.cat M.1.zr
      have hct := ct_gg hg
      have hwx := alloc_words M.2 x hxm
      by_cases hp : 1000 ≤ x
      · have hwx' := hwx
        rw [wordW_ptr hp] at hwx'
        have hlv : 0 < ct q7.1 (x - 1000).toNat := by simpa using hwx'
        have P2 := (alloc_pre H M (i + 1)).cnt _ hlv
        rw [take_snoc hx, pc_append, pc_one, if_pos (by omega)] at P2
        have h1 := A.cnt (x - 1000).toNat
        rw [pc_nil] at h1
        have h2 := inA_gg hg hgl (x - 1000).toNat
        have h3 : 0 < cn (x - 1000).toNat := by omega
        have hf : fr (x - 1000).toNat = false := by
          cases hf : fr (x - 1000).toNat with
          | false => rfl
          | true => have := ((A.frz _).1 hf).2; omega
        have h4 := hct (x - 1000).toNat
        rw [hf] at h4
        simp only [Bool.false_eq_true, if_false] at h4
        exact ⟨Vb, by rw [wordW_ptr hp, h4]; simpa using h3, fun _ => by rw [h4]; omega⟩
      · rw [wordW_int hp] at hwx
        exact ⟨Vb, by rw [wordW_int hp]; exact hwx, fun h => absurd h hp⟩
    obtain ⟨g, ok, _, d1, d2, d3, _⟩ := DropWord_both Hb (hF x hxm) (Nat.le_refl 2000000)
    obtain rfl := d2.2 MD
    have D' := Dr.comp P M.1 D (MD.pre Hb) (d3 rfl)
    rw [← take_snoc hx] at D'
    obtain ⟨g', r1, r2⟩ := ih g D'
    refine ⟨g', ?_, r2⟩
    rw [laws_FnAllocCellDrop_L1, if_pos (by simp [len_def]; omega), get_lt hx]
    simp only [Option.bind_some]
    rw [d1, w_id (by omega) (by omega), show ((i : Int) + 1) = ((i + 1 : Nat) : Int) by omega]
    simp only [Option.bind_some, Bool.not_true, Bool.false_eq_true, if_false]
    exact r1

theorem alloc_drop {h b : List Cell} {t : Int} {fs : List Int} (H : Hp h) (M : mayAlloc h t fs) (D : Dr h fs b) : mayDrop (alc h ⟨1, t, fs⟩) (1000 + (ff h : Int)) ∧ Dr (alc h ⟨1, t, fs⟩) [1000 + (ff h : Int)] b := by
  obtain ⟨V, Va⟩ := M
  obtain ⟨z1, z2⟩ := new_free V Va
  have hidx : (1000 + (ff h : Int) - 1000).toNat = ff h := by omega
  have hct := ct_alc h ⟨1, t, fs⟩
  have hin : inA (alc h ⟨1, t, fs⟩) (ff h) = 0 := inn_zero fun i _ _ => by
    rw [fl_alc]; split
    · exact z2
    · exact z1 i
  refine ⟨⟨Va, by rw [wordW_ptr (by omega), hidx, hct, if_pos rfl]; simp, fun _ => by rw [hidx, hin, hct, if_pos rfl]; simp⟩, ?_⟩
  obtain ⟨fr, cn, A, hb, hbl, _⟩ := D.cat V.zr
  have hfr : fr (ff h) = false := A.dead (by rw [ff_free]; omega)
  have hcn : cn (ff h) = 0 := by rw [A.ge _ (by rw [ff_free]; exact Int.le_refl _), ff_free]
  have hinf := fun j => inF_alc (c := ⟨1, t, fs⟩) (p := fr) V j
  have B : DI (alc h ⟨1, t, fs⟩) [1000 + (ff h : Int)] [] (fun i => if i = ff h then true else fr i) cn := by
    refine ⟨fun j => ?_, fun j => ?_, (fun w hw => absurd hw (List.not_mem_nil)), (fun w hw => absurd hw (List.not_mem_nil)), fun j => ?_, fun j hj => ?_⟩
    · rw [hinf, hct, pc_one, pc_nil]
      by_cases e : j = ff h
      · subst e
        rw [if_pos rfl, if_pos rfl, hcn]
        have : inF h fr (ff h) = 0 := inn_zero fun i _ _ => z1 i
        rw [this]
        show (0 : Int) = 1 - ((1 : Nat) : Int) - ((0 + pc fs (ff h) : Nat) : Int) + ((0 : Nat) : Int)
        rw [z2]; rfl
      · rw [if_neg e, if_neg (by omega)]
        have a := A.cnt j
        rw [pc_nil] at a
        show cn j = ct h j - ((0 : Nat) : Int) - ((inF h fr j + pc fs j : Nat) : Int) + ((0 : Nat) : Int)
        omega
    · rw [hct]
      by_cases e : j = ff h
      · subst e; simp [hcn]
      · simp only [e, if_false]; exact A.frz j
    · rw [hct]
      by_cases e : j = ff h
      · subst e; rw [if_pos rfl, hcn]; show (0 : Int) ≤ 1; decide
      · rw [if_neg e]; exact A.le j
    · rw [hct] at hj ⊢
      by_cases e : j = ff h
      · subst e; rw [if_pos rfl] at hj; exact absurd (show (1 : Int) ≤ 0 from hj) (by decide)
      · rw [if_neg e] at hj ⊢; exact A.ge j hj
  refine ⟨_, cn, B, eq_of_cat hbl (trm_last _) fun j => ?_⟩
  rw [cat_trm (zr_gg Va.zr B), cat_gg B, hb]
  unfold gg
  by_cases e : j = ff h
  · subst e
    rw [hfr]
    simp only [Bool.false_eq_true, if_false, if_true]
    rw [hcn, V.zr _ (ff_free h)]
  · simp only [e, if_false]
    rw [cat_alc, if_neg e]

theorem FnAllocCellDrop_plain {code : List Int} (hc : CodeIn code) : laws_FnAllocCellDrop 2000000 code = some true := by
  refine Tot.true ?_
  unfold laws_FnAllocCellDrop
  refine Tot.iteD (fun _ => Tot.some rfl) fun hl => ?_
  rw [len_def] at hl
  refine Tot.bind (DrawAllocCell_tot hc.1 (by omega) (Nat.le_refl _)) fun q ⟨D, ht, hf, hF⟩ => ?_
  have H := D.hp
  have hlen := D.len
  have hsz := D.size
  obtain ⟨b, e1, e2, e3⟩ := AllocCell_both (t := q.2.1) (fs := q.2.2) H (by omega) ht.i64 (fun x hx => (hF x hx).i64) (Nat.le_refl 2000000)
  rw [e1, e2]
  simp only [Option.bind_some]
  cases b with
  | false => exact Tot.of (v := true) (by simp [equalHeap_nil]) rfl
  | true =>
    have M := e3.1 rfl
    have hla := len_alc q.1 ⟨1, q.2.1, q.2.2⟩
    have hff := ff_le q.1
    have Ha : Hp (alc q.1 ⟨1, q.2.1, q.2.2⟩) := M.2.hp (by rw [hla]; split <;> omega)
    obtain ⟨g, L, DL⟩ := AllocDrop_L1_eq H M (by omega) (by omega) (fun x hx => (hF x hx).i64) (Nat.zero_le _) (by omega : q.2.2.length - 0 < 2000000) q.1 (by rw [List.take_zero]; exact Dr.ints M.1 (fun w hw => absurd hw (List.not_mem_nil)))
    rw [show ((0 : Nat) : Int) = 0 from rfl] at L
    obtain ⟨MD, DD⟩ := alloc_drop H M DL
    obtain ⟨a, ok, _, d1, d2, d3, _⟩ := DropWord_both (w := 1000 + (ff q.1 : Int)) Ha ⟨by omega, by omega⟩ (Nat.le_refl 2000000)
    obtain rfl := d2.2 MD
    obtain rfl := (d3 rfl).same M.2 DD
    have Vg := DL.VH (by have := alloc_pre H M q.2.2.length; rwa [List.take_length] at this) M.1
    have hgl := DL.len M.1.zr
    have h0 : ¬ ((1000 : Int) + (ff q.1 : Int) = 0) := by omega
    simp only [if_true]
    rw [equalHeap_eq Ha (Nat.le_refl 2000000), d1, L]
    simp only [Option.bind_some, Bool.not_true, Bool.false_eq_true, if_false, decide_true, h0, decide_false, Sh.cont_inr, if_true]
    rw [equalHeap_eq (Vg.hp (by omega)) (Nat.le_refl 2000000)]
    exact Tot.of (v := true) (by simp) rfl
end RC
