/- Words are dropped: what is left, whatever the order. -/
import Derived.Test.YtcpedchmkhlpnaaHNA
namespace RC
open Go

/-- What is asked of a heap and of the words that are dropped. -/
structure Pre (h : List Cell) (W : List Int) : Prop where
  hp : Hp h
  fields : ∀ i, ∀ w ∈ fl h i, 1000 ≤ w → 0 < ct h (w - 1000).toNat
  words : ∀ w ∈ W, 1000 ≤ w → 0 < ct h (w - 1000).toNat
  wi : ∀ w ∈ W, I64 w
  cnt : ∀ j, 0 < ct h j → ((pc W j + inA h j : Nat) : Int) ≤ ct h j

theorem Hp.ct_I64 {h : List Cell} (H : Hp h) (j : Nat) : I64 (ct h j) := by
  unfold ct
  by_cases hj : j < h.length
  · exact (H.cells _ (cat_mem hj)).count
  · rw [cat_ge (by omega)]; exact ⟨by decide, by decide⟩
theorem Hp.fl_I64 {h : List Cell} (H : Hp h) (j : Nat) : ∀ w ∈ fl h j, I64 w := by
  rw [fl_cat]
  by_cases hj : j < h.length
  · exact (H.cells _ (cat_mem hj)).fields
  · rw [cat_ge (by omega)]; intro w hw; cases hw

/-- How things stand midway: t is still to be dropped, fr is freed, cn is counted. -/
structure DI (h : List Cell) (W t : List Int) (fr : Nat → Bool) (cn : Nat → Int) : Prop where
  cnt : ∀ j, cn j = ct h j - (pc W j : Int) - (inF h fr j : Int) + (pc t j : Int)
  frz : ∀ j, fr j = true ↔ (0 < ct h j ∧ cn j = 0)
  tw : ∀ w ∈ t, 1000 ≤ w → 0 < ct h (w - 1000).toNat
  ti : ∀ w ∈ t, I64 w
  le : ∀ j, cn j ≤ ct h j
  ge : ∀ j, ct h j ≤ 0 → cn j = ct h j

def gg (h : List Cell) (fr : Nat → Bool) (cn : Nat → Int) (j : Nat) : Cell := if fr j then ⟨0, 0, []⟩ else ⟨cn j, (cat h j).tag, (cat h j).fields⟩

theorem DI.start {h : List Cell} {W : List Int} (P : Pre h W) : DI h W W (fun _ => false) (ct h) := by
  refine ⟨fun j => ?_, fun j => ?_, P.words, P.wi, fun j => Int.le_refl _, fun _ _ => rfl⟩
  · rw [show inF h (fun _ => false) j = 0 from inn_zero fun i _ hi => by cases hi]; omega
  · simp; omega
theorem gg_start (h : List Cell) : rowOf h.length (gg h (fun _ => false) (ct h)) = h := by
  refine Eq.trans ?_ (rowOf_cat h)
  refine rowOf_congr fun j _ => ?_
  simp [gg, ct]

theorem DI.int {h : List Cell} {W t : List Int} {w : Int} {fr : Nat → Bool} {cn : Nat → Int} (D : DI h W (t ++ [w]) fr cn) (hw : ¬ 1000 ≤ w) : DI h W t fr cn := by
  refine ⟨fun j => ?_, D.frz, fun v hv => D.tw v (List.mem_append_left _ hv), fun v hv => D.ti v (List.mem_append_left _ hv), D.le, D.ge⟩
  rw [D.cnt j, pc_append, pc_one, if_neg (by omega)]; omega

theorem DI.hit {h : List Cell} {W t : List Int} {w : Int} {fr : Nat → Bool} {cn : Nat → Int} (P : Pre h W) (D : DI h W (t ++ [w]) fr cn) (hw : 1000 ≤ w) :
    0 < ct h (w - 1000).toNat ∧ (w - 1000).toNat < h.length ∧ 1 ≤ cn (w - 1000).toNat ∧ fr (w - 1000).toNat = false := by
  have h1 := D.tw w (by simp) hw
  have h2 := D.cnt (w - 1000).toNat
  have h3 := P.cnt _ h1
  have h4 : inF h fr (w - 1000).toNat ≤ inA h (w - 1000).toNat := inn_le fun _ _ _ => rfl
  have h5 : pc (t ++ [w]) (w - 1000).toNat = pc t (w - 1000).toNat + 1 := by rw [pc_append, pc_one, if_pos (by omega)]
  have h6 : 1 ≤ cn (w - 1000).toNat := by rw [h5] at h2; omega
  refine ⟨h1, ct_lt (by omega), h6, ?_⟩
  cases hf : fr (w - 1000).toNat with
  | false => rfl
  | true => have := ((D.frz _).1 hf).2; omega

theorem DI.dec {h : List Cell} {W t : List Int} {w : Int} {fr : Nat → Bool} {cn : Nat → Int} (P : Pre h W) (D : DI h W (t ++ [w]) fr cn) (hw : 1000 ≤ w) (hc : cn (w - 1000).toNat - 1 ≠ 0) :
    DI h W t fr (fun k => if k = (w - 1000).toNat then cn k - 1 else cn k) := by
  obtain ⟨h1, h2, h3, h4⟩ := D.hit P hw
  refine ⟨fun j => ?_, fun j => ?_, fun v hv => D.tw v (List.mem_append_left _ hv), fun v hv => D.ti v (List.mem_append_left _ hv), fun j => ?_, fun j hj => ?_⟩
  · have := D.cnt j
    rw [pc_append, pc_one] at this
    by_cases e : j = (w - 1000).toNat
    · rw [if_pos (by omega)] at this
      simp only [e, if_true]
      rw [← e]; omega
    · rw [if_neg (by omega)] at this
      simp only [e, if_false]; omega
  · rw [D.frz j]
    by_cases e : j = (w - 1000).toNat
    · simp only [e, if_true]; omega
    · simp only [e, if_false]
  · have := D.le j
    show (if j = (w - 1000).toNat then cn j - 1 else cn j) ≤ _
    split <;> omega
  · have := D.ge j hj
    by_cases e : j = (w - 1000).toNat
    · subst e; omega
    · simp only [e, if_false]; exact this

theorem DI.fre {h : List Cell} {W t : List Int} {w : Int} {fr : Nat → Bool} {cn : Nat → Int} (P : Pre h W) (D : DI h W (t ++ [w]) fr cn) (hw : 1000 ≤ w) (hc : cn (w - 1000).toNat - 1 = 0) :
    DI h W (t ++ fl h (w - 1000).toNat) (fun k => if k = (w - 1000).toNat then true else fr k) (fun k => if k = (w - 1000).toNat then cn k - 1 else cn k) := by
  obtain ⟨h1, h2, h3, h4⟩ := D.hit P hw
  refine ⟨fun j => ?_, fun j => ?_, fun v hv => ?_, fun v hv => ?_, fun j => ?_, fun j hj => ?_⟩
  · have := D.cnt j
    have e1 : inF h (fun k => if k = (w - 1000).toNat then true else fr k) j = inF h fr j + pc (fl h (w - 1000).toNat) j := inn_set h2 h4
    rw [pc_append, pc_one] at this
    rw [e1, pc_append]
    by_cases e : j = (w - 1000).toNat
    · rw [if_pos (by omega)] at this
      simp only [e, if_true]
      rw [← e]; omega
    · rw [if_neg (by omega)] at this
      simp only [e, if_false]; omega
  · by_cases e : j = (w - 1000).toNat
    · subst e; simp only [if_true]; simp; omega
    · simp only [e, if_false]; exact D.frz j
  · rcases List.mem_append.1 hv with hv | hv
    · exact D.tw v (List.mem_append_left _ hv)
    · exact P.fields _ v hv
  · rcases List.mem_append.1 hv with hv | hv
    · exact D.ti v (List.mem_append_left _ hv)
    · exact P.hp.fl_I64 _ v hv
  · have := D.le j
    show (if j = (w - 1000).toNat then cn j - 1 else cn j) ≤ _
    split <;> omega
  · have := D.ge j hj
    by_cases e : j = (w - 1000).toNat
    · subst e; omega
    · simp only [e, if_false]; exact this

/-- How many words the cells hold that are not freed. -/
def rst (h : List Cell) (fr : Nat → Bool) : Nat → Nat
  | 0 => 0
  | n + 1 => rst h fr n + if fr n then 0 else (fl h n).length
theorem rst_congr {h : List Cell} {p q : Nat → Bool} {n : Nat} (e : ∀ i, i < n → p i = q i) : rst h p n = rst h q n := by
  induction n with
  | zero => rfl
  | succ n ih => unfold rst; rw [ih fun i hi => e i (by omega), e n (by omega)]
theorem rst_set {h : List Cell} {p : Nat → Bool} {n x : Nat} (hx : x < n) (hp : p x = false) : rst h p n = rst h (fun k => if k = x then true else p k) n + (fl h x).length := by
  induction n with
  | zero => omega
  | succ n ih =>
    unfold rst
    by_cases e : x = n
    · subst e
      rw [rst_congr (p := fun k => if k = x then true else p k) (q := p) (n := x) (fun i hi => by
        have : ¬ i = x := by omega
        simp [this])]
      simp [hp]
    · have e' : ¬ n = x := fun h => e h.symm
      rw [ih (by omega)]
      simp only [e', if_false]
      omega
theorem rst_le (h : List Cell) (p : Nat → Bool) : rst h p h.length ≤ fsum h := by
  have key : ∀ n, n ≤ h.length → rst h p n ≤ fsum (h.take n) := by
    intro n
    induction n with
    | zero => intro _; simp [rst]
    | succ n ih =>
      intro hn
      have h1 := ih (by omega)
      have hc := cat_lt (h := h) (j := n) (by omega)
      unfold rst
      rw [take_snoc hc, fsum_append, fl_cat]
      have : fsum [cat h n] = (cat h n).fields.length := by simp [fsum]
      split <;> omega
  have := key h.length (Nat.le_refl _)
  rwa [List.take_length] at this

theorem pop_get {t : List Int} {w : Int} (hl : t.length ≤ 4000000) : Sh.get (t ++ [w]) (Sh.w (Sh.len (t ++ [w]) - 1)) = some w := by
  rw [len_def, List.length_append]
  have e : (((t.length + [w].length : Nat) : Int) - 1) = (t.length : Int) := by simp
  rw [e, w_id (by omega) (by omega), get_nat]; simp
theorem pop_hi {t : List Int} {w : Int} (hl : t.length ≤ 4000000) : Sh.hi (t ++ [w]) (Sh.w (Sh.len (t ++ [w]) - 1)) = some t := by
  rw [len_def, List.length_append]
  have e : (((t.length + [w].length : Nat) : Int) - 1) = (t.length : Int) := by simp
  rw [e, w_id (by omega) (by omega), hi_ok (by simp)]; simp
theorem pos_len {t : List Int} {w : Int} : decide (0 < Sh.len (t ++ [w])) = true := by rw [len_def, List.length_append]; simp

theorem gg_at {h : List Cell} {fr : Nat → Bool} {cn : Nat → Int} {w : Int} (hw : 1000 ≤ w) (hwi : I64 w) (hj : (w - 1000).toNat < h.length) (hf : fr (w - 1000).toNat = false) :
    Sh.get (rowOf h.length (gg h fr cn)) (Sh.w (w - 1000)) = some ⟨cn (w - 1000).toNat, (cat h (w - 1000).toNat).tag, (cat h (w - 1000).toNat).fields⟩ := by
  obtain ⟨w1, w2⟩ := hwi
  rw [w_id (by omega) (by omega), get_pos' (by omega), rowOf_get hj]
  simp [gg, hf]
theorem put_row {n : Nat} {f : Nat → Cell} {w : Int} {c : Cell} (hw : 1000 ≤ w) (hwi : I64 w) : Sh.put (rowOf n f) (Sh.w (w - 1000)) c = rowOf n (fun k => if k = (w - 1000).toNat then c else f k) := by
  obtain ⟨w1, w2⟩ := hwi
  rw [w_id (by omega) (by omega)]
  unfold Sh.put; rw [rowOf_set]
theorem get_row {n : Nat} {f : Nat → Cell} {w : Int} (hw : 1000 ≤ w) (hwi : I64 w) (hj : (w - 1000).toNat < n) : Sh.get (rowOf n f) (Sh.w (w - 1000)) = some (f (w - 1000).toNat) := by
  obtain ⟨w1, w2⟩ := hwi
  rw [w_id (by omega) (by omega), get_pos' (by omega), rowOf_get hj]

theorem gg_dec {h : List Cell} {fr : Nat → Bool} {cn : Nat → Int} {x n : Nat} (hf : fr x = false) :
    rowOf n (fun k => if k = x then (⟨cn x - 1, (cat h x).tag, (cat h x).fields⟩ : Cell) else gg h fr cn k) = rowOf n (gg h fr (fun k => if k = x then cn k - 1 else cn k)) :=
  rowOf_congr fun j _ => by
    by_cases e : j = x
    · subst e; simp [gg, hf]
    · simp [gg, e]
theorem gg_fre {h : List Cell} {fr : Nat → Bool} {cn : Nat → Int} {x n : Nat} {c : Cell} :
    rowOf n (fun k => if k = x then (⟨0, 0, []⟩ : Cell) else if k = x then c else gg h fr cn k) = rowOf n (gg h (fun k => if k = x then true else fr k) (fun k => if k = x then cn k - 1 else cn k)) :=
  rowOf_congr fun j _ => by
    by_cases e : j = x
    · subst e; simp [gg]
    · simp [gg, e]

theorem spec_drop_L1 {h : List Cell} {W : List Int} (P : Pre h W) : ∀ (d N : Nat) (t : List Int) (fr : Nat → Bool) (cn : Nat → Int), DI h W t fr cn → t.length + rst h fr h.length ≤ d → d ≤ 2000000 → d < N →
    ∃ fr' cn', DI h W [] fr' cn' ∧ spec_dropWords_L1 N (rowOf h.length (gg h fr cn)) t = some (rowOf h.length (gg h fr' cn')) := by
  intro d
  induction d with
  | zero =>
    intro N t fr cn D hd _ hN
    obtain ⟨N', rfl⟩ : ∃ N', N = N' + 1 := ⟨N - 1, by omega⟩
    have : t = [] := List.eq_nil_of_length_eq_zero (by omega)
    subst this
    exact ⟨fr, cn, D, by rw [spec_dropWords_L1, if_neg (by simp [len_def])]⟩
  | succ d ih =>
    intro N t fr cn D hd hd2 hN
    obtain ⟨N', rfl⟩ : ∃ N', N = N' + 1 := ⟨N - 1, by omega⟩
    rcases List.eq_nil_or_concat t with rfl | ⟨t', w, rfl⟩
    · exact ⟨fr, cn, D, by rw [spec_dropWords_L1, if_neg (by simp [len_def])]⟩
    · rw [List.concat_eq_append] at D hd ⊢
      have hl : t'.length ≤ 4000000 := by rw [List.length_append] at hd; omega
      have hwi := D.ti w (by simp)
      rw [spec_dropWords_L1, if_pos pos_len, pop_get hl, pop_hi hl]
      simp only [Option.bind_some, spec_isPointer]
      by_cases hw : 1000 ≤ w
      · obtain ⟨h1, h2, h3, h4⟩ := D.hit P hw
        have hci := P.hp.ct_I64 (w - 1000).toNat
        have hle := D.le (w - 1000).toNat
        obtain ⟨c1, c2⟩ := hci
        rw [if_pos (by simpa using hw), gg_at hw hwi h2 h4]
        simp only [Option.bind_some]
        rw [put_row hw hwi, w_id (n := cn (w - 1000).toNat - 1) (by omega) (by omega), get_row hw hwi h2]
        simp only [Option.bind_some, if_true]
        by_cases hc : cn (w - 1000).toNat - 1 = 0
        · rw [if_pos (by simpa using hc), app_ok _ _ 8 (by
              have := P.hp.flen (cat_mem h2); omega) (by have := P.hp.flen (cat_mem h2); omega)]
          simp only [Option.bind_some]
          rw [put_row hw hwi, gg_fre, ← fl_cat]
          refine ih N' _ _ _ (D.fre P hw hc) ?_ (by omega) (by omega)
          have := rst_set h2 h4 (h := h)
          rw [List.length_append] at hd ⊢
          simp only [List.length_cons, List.length_nil] at hd
          omega
        · rw [if_neg (by simpa using hc), gg_dec h4]
          refine ih N' _ _ _ (D.dec P hw hc) ?_ (by omega) (by omega)
          rw [List.length_append] at hd
          simp only [List.length_cons, List.length_nil] at hd
          omega
      · rw [if_neg (by simpa using hw)]
        refine ih N' _ _ _ (D.int hw) ?_ (by omega) (by omega)
        rw [List.length_append] at hd
        simp only [List.length_cons, List.length_nil] at hd
        omega

theorem gg_live {h : List Cell} {fr : Nat → Bool} {cn : Nat → Int} {j : Nat} (hj : j < h.length) (hf : fr j = false) : liveW (rowOf h.length (gg h fr cn)) (1000 + (j : Int)) = decide (0 < cn j) := by
  rw [liveW_ct]
  unfold ct
  rw [cat_rowOf hj]; simp [gg, hf]

theorem impl_drop_L1 {h : List Cell} {W : List Int} (P : Pre h W) : ∀ (d N : Nat) (t : List Int) (fr : Nat → Bool) (cn : Nat → Int), DI h W t fr cn → t.length + rst h fr h.length ≤ d → d ≤ 2000000 → d < N →
    ∃ fr' cn', DI h W [] fr' cn' ∧ impl_heap_drop_L1 N (rowOf h.length (gg h fr cn)) t = some (rowOf h.length (gg h fr' cn')) := by
  intro d
  induction d with
  | zero =>
    intro N t fr cn D hd _ hN
    obtain ⟨N', rfl⟩ : ∃ N', N = N' + 1 := ⟨N - 1, by omega⟩
    have : t = [] := List.eq_nil_of_length_eq_zero (by omega)
    subst this
    exact ⟨fr, cn, D, by rw [impl_heap_drop_L1, if_neg (by simp [len_def])]⟩
  | succ d ih =>
    intro N t fr cn D hd hd2 hN
    obtain ⟨N', rfl⟩ : ∃ N', N = N' + 1 := ⟨N - 1, by omega⟩
    rcases List.eq_nil_or_concat t with rfl | ⟨t', w, rfl⟩
    · exact ⟨fr, cn, D, by rw [impl_heap_drop_L1, if_neg (by simp [len_def])]⟩
    · rw [List.concat_eq_append] at D hd ⊢
      have hl : t'.length ≤ 4000000 := by rw [List.length_append] at hd; omega
      have hwi := D.ti w (by simp)
      have hlen := P.hp.len
      rw [impl_heap_drop_L1, if_pos pos_len, pop_get hl, pop_hi hl]
      simp only [Option.bind_some]
      rw [liveAt_eq (by rw [rowOf_len]; exact hlen) hwi]
      simp only [Option.bind_some]
      by_cases hw : 1000 ≤ w
      · obtain ⟨h1, h2, h3, h4⟩ := D.hit P hw
        have hci := P.hp.ct_I64 (w - 1000).toNat
        have hle := D.le (w - 1000).toNat
        obtain ⟨c1, c2⟩ := hci
        have hlv : liveW (rowOf h.length (gg h fr cn)) w = true := by rw [ptr_eq hw, gg_live h2 h4]; simp; omega
        rw [hlv, if_neg (by simp), gg_at hw hwi h2 h4]
        simp only [Option.bind_some]
        rw [put_row hw hwi, w_id (n := cn (w - 1000).toNat - 1) (by omega) (by omega), get_row hw hwi h2]
        simp only [Option.bind_some, if_true]
        by_cases hc : cn (w - 1000).toNat - 1 = 0
        · rw [if_pos (by simpa using hc), app_ok _ _ 8 (by
              have := P.hp.flen (cat_mem h2); omega) (by have := P.hp.flen (cat_mem h2); omega)]
          simp only [Option.bind_some]
          rw [put_row hw hwi, gg_fre, ← fl_cat]
          refine ih N' _ _ _ (D.fre P hw hc) ?_ (by omega) (by omega)
          have := rst_set h2 h4 (h := h)
          rw [List.length_append] at hd ⊢
          simp only [List.length_cons, List.length_nil] at hd
          omega
        · rw [if_neg (by simpa using hc), gg_dec h4]
          refine ih N' _ _ _ (D.dec P hw hc) ?_ (by omega) (by omega)
          rw [List.length_append] at hd
          simp only [List.length_cons, List.length_nil] at hd
          omega
      · rw [liveW_low hw, if_pos (by simp)]
        refine ih N' _ _ _ (D.int hw) ?_ (by omega) (by omega)
        rw [List.length_append] at hd
        simp only [List.length_cons, List.length_nil] at hd
        omega

/-- What is left of a heap when the words are dropped. -/
def Dr (h : List Cell) (W : List Int) (g : List Cell) : Prop := ∃ fr cn, DI h W [] fr cn ∧ g = trm (rowOf h.length (gg h fr cn))

theorem DI.dead {h : List Cell} {W t : List Int} {fr : Nat → Bool} {cn : Nat → Int} (D : DI h W t fr cn) {j : Nat} (hj : ¬ 0 < ct h j) : fr j = false := by
  cases hf : fr j with
  | false => rfl
  | true => exact absurd ((D.frz j).1 hf).1 hj

/-- It is one. -/
theorem DI.unique {h : List Cell} {W : List Int} {fr fr' : Nat → Bool} {cn cn' : Nat → Int} (rk : Nat → Nat) (hrk : ∀ i j, 0 < ct h j → 0 < pc (fl h i) j → rk j < rk i) (D : DI h W [] fr cn) (D' : DI h W [] fr' cn') : ∀ j, fr j = fr' j ∧ cn j = cn' j := by
  obtain ⟨B, hB⟩ := bound_of rk h.length
  have key : ∀ d j, B - rk j = d → j < h.length → fr j = fr' j ∧ cn j = cn' j := by
    intro d
    induction d using Nat.strongRecOn with
    | _ d ih =>
      intro j hd hj
      by_cases hl : 0 < ct h j
      · have e : inF h fr j = inF h fr' j := inn_congr fun i hi => by
          by_cases hp : 0 < pc (fl h i) j
          · have h1 := hrk i j hl hp
            have h2 := hB i hi
            rw [(ih (B - rk i) (by omega) i rfl hi).1]
          · have : pc (fl h i) j = 0 := by omega
            simp [this]
        have hc : cn j = cn' j := by rw [D.cnt, D'.cnt, e]
        refine ⟨?_, hc⟩
        have h1 := D.frz j
        have h2 := D'.frz j
        rw [hc] at h1
        cases hf : fr j <;> cases hf' : fr' j <;> simp_all
      · exact ⟨by rw [D.dead hl, D'.dead hl], by rw [D.ge j (by omega), D'.ge j (by omega)]⟩
  intro j
  by_cases hj : j < h.length
  · exact key _ j rfl hj
  · have h0 : ct h j = 0 := by unfold ct; rw [cat_ge (by omega)]
    exact ⟨by rw [D.dead (by omega), D'.dead (by omega)], by rw [D.ge j (by omega), D'.ge j (by omega)]⟩

theorem Dr.unique {h : List Cell} {W : List Int} {g g' : List Cell} (rk : Nat → Nat) (hrk : ∀ i j, 0 < ct h j → 0 < pc (fl h i) j → rk j < rk i) (D : Dr h W g) (D' : Dr h W g') : g = g' := by
  obtain ⟨fr, cn, h1, rfl⟩ := D
  obtain ⟨fr', cn', h2, rfl⟩ := D'
  have e := h1.unique rk hrk h2
  have e1 : fr = fr' := funext fun j => (e j).1
  have e2 : cn = cn' := funext fun j => (e j).2
  rw [e1, e2]

theorem spec_dropWords_eq {h : List Cell} {W : List Int} (P : Pre h W) (hW : W.length ≤ 900000) {N : Nat} (hN : 2000000 ≤ N) : ∃ g, spec_dropWords N h W = some g ∧ Dr h W g := by
  have hf := rst_le h (fun _ => false)
  have hs := P.hp.size
  unfold hsize at hs
  obtain ⟨fr, cn, D, e⟩ := spec_drop_L1 P (W.length + rst h (fun _ => false) h.length) N W _ _ (DI.start P) (Nat.le_refl _) (by omega) (by omega)
  rw [gg_start] at e
  refine ⟨_, ?_, fr, cn, D, rfl⟩
  unfold spec_dropWords
  rw [copyInts_eq (by omega)]
  simp only [Option.bind_some]
  rw [e]
  simp only [Option.bind_some]
  rw [spec_trim_eq (by rw [rowOf_len]; omega) hN]; rfl

theorem impl_drop_eq {h : List Cell} {w : Int} (P : Pre h [w]) {N : Nat} (hN : 2000000 ≤ N) : ∃ g, impl_heap_drop N h w = some g ∧ Dr h [w] g := by
  have hf := rst_le h (fun _ => false)
  have hs := P.hp.size
  unfold hsize at hs
  obtain ⟨fr, cn, D, e⟩ := impl_drop_L1 P ([w].length + rst h (fun _ => false) h.length) N [w] _ _ (DI.start P) (Nat.le_refl _) (by simp; omega) (by simp; omega)
  rw [gg_start] at e
  refine ⟨_, ?_, fr, cn, D, rfl⟩
  unfold impl_heap_drop
  rw [e]
  simp only [Option.bind_some]
  rw [impl_trim_eq (by rw [rowOf_len]; omega) hN]; rfl
end RC
