/- What words reach: both ways. -/
import Derived.Test.YtcpedchmkhlpnaaHND
namespace RC
open Go

theorem get_rowG {α : Type} {n : Nat} {f : Nat → α} {w : Int} (hw : 1000 ≤ w) (hwi : I64 w) (hj : (w - 1000).toNat < n) : Sh.get (rowOf n f) (Sh.w (w - 1000)) = some (f (w - 1000).toNat) := by
  obtain ⟨w1, w2⟩ := hwi
  rw [w_id (by omega) (by omega), get_pos' (by omega), rowOf_get hj]
theorem put_rowG {α : Type} {n : Nat} {f : Nat → α} {w : Int} {c : α} (hw : 1000 ≤ w) (hwi : I64 w) : Sh.put (rowOf n f) (Sh.w (w - 1000)) c = rowOf n (fun k => if k = (w - 1000).toNat then c else f k) := by
  obtain ⟨w1, w2⟩ := hwi
  rw [w_id (by omega) (by omega)]
  unfold Sh.put; rw [rowOf_set]

/-- The marked cells are live, and what they point to is marked, or is still to be looked at. -/
structure RI (h : List Cell) (W t : List Int) (m : Nat → Bool) : Prop where
  live : ∀ i, m i = true → 0 < ct h i
  closed : ∀ i, m i = true → ∀ w ∈ fl h i, 1000 ≤ w → 0 < ct h (w - 1000).toNat → m (w - 1000).toNat = true ∨ w ∈ t
  words : ∀ w ∈ W, 1000 ≤ w → 0 < ct h (w - 1000).toNat → m (w - 1000).toNat = true ∨ w ∈ t
  ti : ∀ w ∈ t, I64 w

theorem RI.pop {h : List Cell} {W t : List Int} {w : Int} {m : Nat → Bool} (R : RI h W (t ++ [w]) m) (hw : 1000 ≤ w → 0 < ct h (w - 1000).toNat → m (w - 1000).toNat = true) : RI h W t m := by
  have key : ∀ v, 1000 ≤ v → 0 < ct h (v - 1000).toNat → (m (v - 1000).toNat = true ∨ v ∈ t ++ [w]) → m (v - 1000).toNat = true ∨ v ∈ t := fun v h1 h2 h3 => by
    rcases h3 with h3 | h3
    · exact .inl h3
    · rcases List.mem_append.1 h3 with h3 | h3
      · exact .inr h3
      · rw [List.mem_singleton] at h3; subst h3; exact .inl (hw h1 h2)
  exact ⟨R.live, fun i hi v hv h1 h2 => key v h1 h2 (R.closed i hi v hv h1 h2), fun v hv h1 h2 => key v h1 h2 (R.words v hv h1 h2), fun v hv => R.ti v (List.mem_append_left _ hv)⟩
theorem RI.mark {h : List Cell} {W t : List Int} {w : Int} {m : Nat → Bool} (H : Hp h) (R : RI h W (t ++ [w]) m) (hl : 0 < ct h (w - 1000).toNat) :
    RI h W (t ++ fl h (w - 1000).toNat) (fun k => if k = (w - 1000).toNat then true else m k) := by
  have key : ∀ v, (m (v - 1000).toNat = true ∨ v ∈ t ++ [w]) → (if (v - 1000).toNat = (w - 1000).toNat then true else m (v - 1000).toNat) = true ∨ v ∈ t ++ fl h (w - 1000).toNat := fun v h3 => by
    rcases h3 with h3 | h3
    · rw [h3]; simp
    · rcases List.mem_append.1 h3 with h3 | h3
      · exact .inr (List.mem_append_left _ h3)
      · rw [List.mem_singleton] at h3; subst h3; simp
  refine ⟨fun i hi => ?_, fun i hi v hv h1 h2 => ?_, fun v hv h1 h2 => key v (R.words v hv h1 h2), fun v hv => ?_⟩
  · by_cases e : i = (w - 1000).toNat
    · rw [e]; exact hl
    · simp only [e, if_false] at hi; exact R.live i hi
  · by_cases e : i = (w - 1000).toNat
    · subst e; exact .inr (List.mem_append_right _ hv)
    · simp only [e, if_false] at hi
      exact key v (R.closed i hi v hv h1 h2)
  · rcases List.mem_append.1 hv with hv | hv
    · exact R.ti v (List.mem_append_left _ hv)
    · exact H.fl_I64 _ v hv

theorem liveW_hit' {h : List Cell} {w : Int} (hw : 1000 ≤ w) : liveW h w = decide (0 < ct h (w - 1000).toNat) := by
  have := liveW_ct (h := h) (j := (w - 1000).toNat)
  rwa [← ptr_eq hw] at this

theorem reach_L1 {h : List Cell} {W : List Int} (H : Hp h) : ∀ (d N : Nat) (t : List Int) (m : Nat → Bool), RI h W t m → t.length + rst h m h.length ≤ d → d ≤ 3000000 → d < N →
    ∃ m', RI h W [] m' ∧ spec_reachOf_L1 h N (rowOf h.length m) t = some (rowOf h.length m') ∧ impl_ReachOf_L1 h N (rowOf h.length m) t = some (rowOf h.length m') := by
  have hlen := H.len
  intro d
  induction d with
  | zero =>
    intro N t m R hd _ hN
    obtain ⟨N', rfl⟩ : ∃ N', N = N' + 1 := ⟨N - 1, by omega⟩
    have : t = [] := List.eq_nil_of_length_eq_zero (by omega)
    subst this
    exact ⟨m, R, by rw [spec_reachOf_L1, if_neg (by simp [len_def])], by rw [impl_ReachOf_L1, if_neg (by simp [len_def])]⟩
  | succ d ih =>
    intro N t m R hd hd2 hN
    obtain ⟨N', rfl⟩ : ∃ N', N = N' + 1 := ⟨N - 1, by omega⟩
    rcases List.eq_nil_or_concat t with rfl | ⟨t', w, rfl⟩
    · exact ⟨m, R, by rw [spec_reachOf_L1, if_neg (by simp [len_def])], by rw [impl_ReachOf_L1, if_neg (by simp [len_def])]⟩
    · rw [List.concat_eq_append] at R hd ⊢
      have hl : t'.length ≤ 4000000 := by rw [List.length_append] at hd; omega
      have hwi := R.ti w (by simp)
      have hd' : t'.length + 1 + rst h m h.length ≤ d + 1 := by rw [List.length_append] at hd; simpa using hd
      rw [spec_reachOf_L1, impl_ReachOf_L1, if_pos pos_len, if_pos pos_len, pop_get hl, pop_hi hl]
      simp only [Option.bind_some]
      rw [isLive_eq hlen hwi, liveAt_eq hlen hwi]
      simp only [Option.bind_some]
      cases hlv : liveW h w with
      | false =>
        simp only [Bool.false_eq_true, if_false, Option.bind_some]
        refine ih N' _ _ (R.pop fun h1 h2 => ?_) (by omega) (by omega) (by omega)
        rw [liveW_hit' h1] at hlv
        simp at hlv; omega
      | true =>
        have hw : 1000 ≤ w := by
          by_cases h1 : 1000 ≤ w
          · exact h1
          · rw [liveW_low h1] at hlv; cases hlv
        have hct : 0 < ct h (w - 1000).toNat := by rw [liveW_hit' hw] at hlv; simpa using hlv
        have hj : (w - 1000).toNat < h.length := ct_lt (by omega)
        simp only [if_true]
        rw [get_rowG hw hwi hj, cat_get hw hwi hj]
        simp only [Option.bind_some]
        cases hm : m (w - 1000).toNat with
        | true =>
          simp only [Bool.not_true, Bool.false_eq_true, if_false]
          exact ih N' _ _ (R.pop fun _ _ => hm) (by omega) (by omega) (by omega)
        | false =>
          have hfl := H.flen (cat_mem hj)
          simp only [Bool.not_false, if_true]
          rw [app_ok _ _ 8 (by omega) (by omega)]
          simp only [Option.bind_some]
          rw [put_rowG hw hwi, ← fl_cat]
          refine ih N' _ _ (R.mark H hct) ?_ (by omega) (by omega)
          have := rst_set hj hm (h := h)
          rw [List.length_append]; omega

/-- The marked places, in order. -/
def mk (m : Nat → Bool) (n i : Nat) : List Nat := (List.range' i (n - i)).filter m
theorem mk_end (m : Nat → Bool) (n : Nat) : mk m n n = [] := by simp [mk]
theorem mk_step {m : Nat → Bool} {n i : Nat} (hi : i < n) : mk m n i = (if m i then [i] else []) ++ mk m n (i + 1) := by
  unfold mk
  obtain ⟨k, hk⟩ : ∃ k, n - i = k + 1 := ⟨n - i - 1, by omega⟩
  rw [hk, List.range'_succ, List.filter_cons, show n - (i + 1) = k by omega]
  cases m i <;> simp
theorem mk_mem {m : Nat → Bool} {n j : Nat} : j ∈ mk m n 0 ↔ j < n ∧ m j = true := by simp [mk]
theorem mk_len (m : Nat → Bool) (n i : Nat) : (mk m n i).length ≤ n - i := by
  have := List.length_filter_le m (List.range' i (n - i))
  simpa [mk] using this
theorem mk_count (m : Nat → Bool) (n : Nat) : (mk m n 0).length = (List.range n).countP m := by
  rw [List.countP_eq_length_filter]; unfold mk; rw [List.range_eq_range']; rfl

theorem nats_append (a b : List Nat) : nats (a ++ b) = nats a ++ nats b := by simp [nats]
theorem nats_len (a : List Nat) : (nats a).length = a.length := by simp [nats]

theorem spec_reach_L2 {h : List Cell} {m : Nat → Bool} (hl : h.length ≤ 1048576) {N i : Nat} (hi : i ≤ h.length) (hN : h.length - i < N) : ∀ acc : List Nat, acc.length ≤ i → spec_reachOf_L2 (rowOf h.length m) h N i (nats acc) = some (nats (acc ++ mk m h.length i)) := by
  refine loop_ind h.length (fun N i => ∀ acc : List Nat, acc.length ≤ i → spec_reachOf_L2 (rowOf h.length m) h N i (nats acc) = some (nats (acc ++ mk m h.length i))) ?_ ?_ hi hN
  · intro n acc _
    rw [spec_reachOf_L2, if_neg (by simp [len_def]), mk_end, List.append_nil]
  · intro n i hi ih acc ha
    rw [spec_reachOf_L2, if_pos (by simp [len_def]; omega), get_lt (rowOf_get hi)]
    simp only [Option.bind_some]
    rw [w_id (by omega) (by omega), show ((i : Int) + 1) = ((i + 1 : Nat) : Int) by omega, mk_step hi]
    cases m i with
    | false => simp only [Bool.false_eq_true, if_false, Option.bind_some, List.nil_append]; exact ih acc (by omega)
    | true =>
      simp only [if_true]
      rw [app_ok _ _ 8 (by rw [nats_len]; simp; omega) (by rw [nats_len]; simp; omega)]
      simp only [Option.bind_some]
      have := ih (acc ++ [i]) (by simp; omega)
      rw [nats_append, List.append_assoc] at this
      exact this
theorem impl_indices_L1 {m : Nat → Bool} {n0 : Nat} (hl : n0 ≤ 1048576) {N i : Nat} (hi : i ≤ n0) (hN : n0 - i < N) : ∀ acc : List Nat, acc.length ≤ i → impl_indicesOf_L1 (rowOf n0 m) N i (nats acc) = some (nats (acc ++ mk m n0 i)) := by
  refine loop_ind n0 (fun N i => ∀ acc : List Nat, acc.length ≤ i → impl_indicesOf_L1 (rowOf n0 m) N i (nats acc) = some (nats (acc ++ mk m n0 i))) ?_ ?_ hi hN
  · intro n acc _
    rw [impl_indicesOf_L1, if_neg (by simp [len_def, rowOf_len]), mk_end, List.append_nil]
  · intro n i hi ih acc ha
    rw [impl_indicesOf_L1, if_pos (by simp [len_def, rowOf_len]; omega), get_lt (rowOf_get hi)]
    simp only [Option.bind_some]
    rw [w_id (by omega) (by omega), show ((i : Int) + 1) = ((i + 1 : Nat) : Int) by omega, mk_step hi]
    cases m i with
    | false => simp only [Bool.false_eq_true, if_false, Option.bind_some, List.nil_append]; exact ih acc (by omega)
    | true =>
      simp only [if_true]
      rw [app_ok _ _ 8 (by rw [nats_len]; simp; omega) (by rw [nats_len]; simp; omega)]
      simp only [Option.bind_some]
      have := ih (acc ++ [i]) (by simp; omega)
      rw [nats_append, List.append_assoc] at this
      exact this

theorem ReachOf_bothN {h : List Cell} {W : List Int} (H : Hp h) (hW : ∀ w ∈ W, I64 w) (hWl2 : W.length ≤ 1048576) {N : Nat} (hN : 2000000 ≤ N) (hd : W.length + fsum h ≤ 3000000) (hdN : W.length + fsum h < N) :
    ∃ out, spec_ReachOf N h W = some out ∧ impl_ReachOf N h W = some out ∧ (¬ VH h → out = []) ∧ (VH h → ∃ m, RI h W [] m ∧ out = nats (mk m h.length 0)) := by
  have hl := H.len
  obtain ⟨b, r, h1, _, _, h2, h3, _⟩ := valid_both H hN
  unfold spec_ReachOf impl_ReachOf
  rw [h1, h2]
  simp only [Option.bind_some]
  cases b with
  | false => exact ⟨[], by simp, by simp, fun _ => rfl, fun hv => absurd (h3.2 hv) (by simp)⟩
  | true =>
    have V := h3.1 rfl
    simp only [Bool.not_true, Bool.false_eq_true, if_false]
    have R : RI h W W (fun _ => false) := ⟨fun _ h => absurd h (by simp), fun _ h => absurd h (by simp), fun w hw _ _ => .inr hw, hW⟩
    have hf := rst_le h (fun _ => false)
    have hs := H.size
    unfold hsize at hs
    obtain ⟨m, R', e1, e2⟩ := reach_L1 H (W.length + rst h (fun _ => false) h.length) N W _ R (Nat.le_refl _) (by omega) (by omega)
    have k1 := spec_reach_L2 (m := m) hl (Nat.zero_le _) (by omega : h.length - 0 < N) [] (by simp)
    have k2 := impl_indices_L1 (m := m) hl (Nat.zero_le _) (by omega : h.length - 0 < N) [] (by simp)
    rw [show ((0 : Nat) : Int) = 0 from rfl, show nats [] = [] from rfl, List.nil_append] at k1 k2
    refine ⟨nats (mk m h.length 0), ?_, ?_, fun hn => absurd V hn, fun _ => ⟨m, R', rfl⟩⟩
    · unfold spec_reachOf
      rw [len_def, mk_ok _ _ _ (by omega) (by omega), copyInts_eq hWl2, rowOf_const]
      simp only [Option.bind_some]
      rw [e1]
      simp only [Option.bind_some]
      rw [k1]; rfl
    · rw [len_def, mk_ok _ _ _ (by omega) (by omega), clone_eq _ hWl2, rowOf_const]
      simp only [Option.bind_some]
      rw [e2]
      simp only [Option.bind_some]
      unfold impl_indicesOf
      rw [k2]; rfl
theorem ReachOf_both {h : List Cell} {W : List Int} (H : Hp h) (hW : ∀ w ∈ W, I64 w) (hWl : W.length ≤ 1048576 - hsize h + 900000) (hWl2 : W.length ≤ 1048576) {N : Nat} (hN : 2000000 ≤ N) :
    ∃ out, spec_ReachOf N h W = some out ∧ impl_ReachOf N h W = some out ∧ (¬ VH h → out = []) ∧ (VH h → ∃ m, RI h W [] m ∧ out = nats (mk m h.length 0)) :=
  ReachOf_bothN H hW hWl2 hN (by have := H.size; unfold hsize at *; omega) (by have := H.size; unfold hsize at *; omega)
end RC
