/- The heaps that the laws draw: they are drawn, and are small. -/
import Derived.Test.YtgpjhgoobijdjaaPlainC
namespace RC
open Go

theorem i40 {n : Int} (h1 : -1000000000000 ≤ n) (h2 : n ≤ 1000000000000) : I40 n := ⟨by omega, by omega⟩
theorem i40w {n : Int} (h1 : -1000000000000 ≤ n) (h2 : n ≤ 1000000000000) : I40 (Sh.w n) := by rw [w_id (by omega) (by omega)]; exact i40 h1 h2
theorem I40.i64 {n : Int} (h : I40 n) : I64 n := ⟨by have := h.1; omega, by have := h.2; omega⟩

theorem goodHeap_L2_tot {b : List Int} (Bb : Bk b) {M : Nat} (hM : 2000000 ≤ M) : ∀ (K N : Nat) (f F B : Int) (n : Nat) (h : List Cell) (fs : List Int), K < N → At f F → F + 5 * K ≤ 1000000 → 0 ≤ B → B + K ≤ 1000000 → n ≤ 1000 → Sm n B h → fs.length + K ≤ 10 → (∀ x ∈ fs, I40 x) →
    Tot (spec_goodHeap_L2 M b N (K : Int) f h fs) fun q => At q.1 (F + 5 * K) ∧ Sm n (B + K) q.2.1 ∧ q.2.2.length ≤ fs.length + K ∧ ∀ x ∈ q.2.2, I40 x := by
  intro K
  induction K with
  | zero =>
    intro N f F B n h fs hN hf hF _ _ _ S hl hI
    obtain ⟨N', rfl⟩ : ∃ N', N = N' + 1 := ⟨N - 1, by omega⟩
    rw [spec_goodHeap_L2, if_neg (by simp)]
    exact Tot.some ⟨⟨hf.1, by have := hf.2; omega⟩, S.up (Nat.le_refl _) (by omega), Nat.le_refl _, hI⟩
  | succ K ih =>
    intro N f F B n h fs hN hf hF hB0 hB hn S hl hI
    obtain ⟨N', rfl⟩ : ∃ N', N = N' + 1 := ⟨N - 1, by omega⟩
    obtain ⟨f0, f1⟩ := hf
    have H := S.hp (by omega) (by omega)
    have hlen := S.len
    rw [spec_goodHeap_L2, if_pos (by simp)]
    refine Tot.bind (pick_tot Bb ⟨f0, by omega⟩) fun q73 ⟨a1, a2, a3, _⟩ => ?_
    refine Tot.bind (R := fun q => I40 q.1 ∧ At q.2.1 (F + 5) ∧ Sm n (B + 1) q.2.2) ?_ ?_
    · refine Tot.bind (R := fun q => At q.2 (F + 2) ∧ (q.1 = true → 0 < h.length)) (Tot.iteD (fun h0 => ?_) fun h0 => Tot.some ⟨⟨by show 0 ≤ q73.2; omega, by show q73.2 ≤ _; omega⟩, fun h => absurd h (by simp)⟩) ?_
      · refine Tot.bind (pick_tot Bb ⟨by omega, by omega⟩) fun q101 ⟨b1, _, _, _⟩ => Tot.some ⟨⟨by show 0 ≤ q101.2; omega, by show q101.2 ≤ _; omega⟩, fun _ => by rw [len_def] at h0; omega⟩
      · rintro ⟨t, f'⟩ ⟨⟨g0, g1⟩, g2⟩
        dsimp only at g0 g1 g2 ⊢
        refine Tot.ite (fun ht => ?_) fun ht => Tot.some ⟨i40w (by omega) (by have := a3 (by decide); omega), ⟨g0, by show f' ≤ _; omega⟩, S.up (Nat.le_refl _) (by omega)⟩
        have hpos := g2 ht
        refine Tot.bind (pick_tot Bb ⟨g0, by omega⟩) fun q86 ⟨b1, b2, b3, _⟩ => ?_
        rw [len_def] at b3
        have b4 := b3 (by omega)
        refine Tot.get b2 b4 fun c88 hc hcm => ?_
        have C := S.cells c88 hcm
        refine Tot.iteD (fun hct => ?_) fun hct => Tot.some ⟨i40w (by omega) (by have := a3 (by decide); omega), ⟨by show 0 ≤ q86.2; omega, by show q86.2 ≤ _; omega⟩, S.up (Nat.le_refl _) (by omega)⟩
        refine Tot.bind (R := fun q => At q.2 (F + 4)) ?_ ?_
        · refine Tot.bindE (refsOf_eq H hM) (Tot.get b2 (by unfold refs; rw [rowOf_len]; exact b4) fun c97 _ _ => ?_)
          refine Tot.iteD (fun _ => Tot.some ⟨by show 0 ≤ q86.2; omega, by show q86.2 ≤ _; omega⟩) fun _ => ?_
          exact Tot.bind (pick_tot Bb ⟨by omega, by omega⟩) fun q99 ⟨d1, _, _, _⟩ => Tot.some ⟨by show 0 ≤ q99.2; omega, by show q99.2 ≤ _; omega⟩
        · rintro ⟨t2, f2⟩ ⟨e0, e1⟩
          dsimp only at e0 e1 ⊢
          refine Tot.ite (fun _ => Tot.some ⟨i40w (by omega) (by omega), ⟨e0, by show f2 ≤ _; omega⟩, ?_⟩) fun _ => Tot.some ⟨i40w (by omega) (by omega), ⟨e0, by show f2 ≤ _; omega⟩, S.up (Nat.le_refl _) (by omega)⟩
          have l := C.lo
          have u := C.hi
          refine (S.up (Nat.le_refl _) (by omega)).set ⟨C.fl, C.fi, ?_, ?_, C.tag⟩
          · show _ ≤ Sh.w (c88.count + 1); rw [w_id (by omega) (by omega)]; omega
          · show Sh.w (c88.count + 1) ≤ _; rw [w_id (by omega) (by omega)]; omega
    · rintro ⟨w75, f76, l77⟩ ⟨c1, ⟨c2, c3⟩, c4⟩
      dsimp only at c1 c2 c3 c4 ⊢
      refine Tot.app (by simp; omega) (by simp; omega) ?_
      rw [w_id (by omega) (by omega), show (((K + 1 : Nat) : Int) - 1) = (K : Int) by omega]
      refine (ih N' f76 (F + 5) (B + 1) n l77 (fs ++ [w75]) (by omega) ⟨c2, c3⟩ (by omega) (by omega) (by omega) hn c4 (by simp; omega) (fun x hx => ?_)).mono fun q ⟨r1, r2, r3, r4⟩ => ⟨⟨r1.1, by have := r1.2; omega⟩, r2.up (Nat.le_refl _) (by omega), by simp at r3; omega, r4⟩
      rcases List.mem_append.1 hx with h1 | h1
      · exact hI x h1
      · rw [List.mem_singleton] at h1; rw [h1]; exact c1

theorem on_mem4 {a b c d p : Int} {q : Int × Int} (h : On [a, b, c, d] p q) {l u : Int} (ha : l ≤ a ∧ a ≤ u) (hb : l ≤ b ∧ b ≤ u) (hc : l ≤ c ∧ c ≤ u) (hd : l ≤ d ∧ d ≤ u) : l ≤ q.1 ∧ q.1 ≤ u := by
  have := h.mem
  simp only [List.mem_cons, List.not_mem_nil, or_false] at this
  rcases this with h | h | h | h <;> omega

theorem goodHeap_L1_tot {b : List Int} (Bb : Bk b) {M : Nat} (hM : 2000000 ≤ M) : ∀ (K N : Nat) (f F : Int) (n : Nat) (h : List Cell), K < N → At f F → F + 30 * K ≤ 900000 → n + K ≤ 500 → Sm n (10 * n) h →
    Tot (spec_goodHeap_L1 M b N (K : Int) f h) fun q => At q.1 (F + 30 * K) ∧ Sm (n + K) (10 * (n + K : Nat)) q.2 := by
  intro K
  induction K with
  | zero =>
    intro N f F n h hN hf hF hn S
    obtain ⟨N', rfl⟩ : ∃ N', N = N' + 1 := ⟨N - 1, by omega⟩
    rw [spec_goodHeap_L1, if_neg (by simp)]
    exact Tot.some ⟨⟨hf.1, by have := hf.2; omega⟩, S.up (by omega) (by omega)⟩
  | succ K ih =>
    intro N f F n h hN hf hF hn S
    obtain ⟨N', rfl⟩ : ∃ N', N = N' + 1 := ⟨N - 1, by omega⟩
    obtain ⟨f0, f1⟩ := hf
    rw [spec_goodHeap_L1, if_pos (by simp)]
    refine Tot.bind (R := fun q => At q.1 (F + 30) ∧ Sm (n + 1) (10 * (n + 1 : Nat)) q.2) ?_ ?_
    · refine Tot.bind (pick_tot Bb ⟨f0, by omega⟩) fun q37 ⟨a1, a2, a3, _⟩ => ?_
      have a4 := a3 (by decide)
      obtain ⟨k, hk⟩ := Int.eq_ofNat_of_zero_le a2
      rw [hk]
      refine Tot.bind (goodHeap_L2_tot Bb hM k M q37.2 (F + 1) (10 * n) n h [] (by omega) ⟨by omega, by omega⟩ (by omega) (by omega) (by omega) (by omega) S (by simp; omega) (fun x hx => absurd hx (List.not_mem_nil))) ?_
      rintro ⟨f42, l43, l44⟩ ⟨⟨c1, c2⟩, c3, c4, c5⟩
      dsimp only at c1 c2 c3 c4 c5 ⊢
      refine Tot.bind (pick_tot Bb ⟨c1, by omega⟩) fun q47 ⟨d1, d2, d3, _⟩ => ?_
      have d4 := d3 (by decide)
      refine Tot.bind (pick_tot Bb ⟨by omega, by omega⟩) fun q48 ⟨e1, e2, e3, _⟩ => ?_
      have e4 := e3 (by decide)
      refine Tot.bind (one_tot Bb ⟨by omega, by omega⟩ (by simp) (by simp)) fun q49 O => ?_
      have g1 := O.pos
      have g2 := on_mem4 O (l := 0) (u := 99) ⟨by omega, by omega⟩ ⟨by omega, by omega⟩ ⟨by omega, by omega⟩ ⟨by omega, by omega⟩
      have S1 : Sm n (10 * (n : Int) + 3) l43 := c3.up (Nat.le_refl _) (by omega)
      have H1 := S1.hp (by omega) (by omega)
      have hz := S1.size
      obtain ⟨bb, r1, _, r3⟩ := AllocCell_both (t := q49.1) (fs := l44) H1 (by simp at c4; omega) ⟨by omega, by omega⟩ (fun x hx => (c5 x hx).i64) hM
      refine Tot.bindE r1 ?_
      refine Tot.bind (R := fun l => Sm (n + 1) (10 * (n + 1 : Nat)) l) ?_ fun l52 S2 => ?_
      · cases bb with
        | false => exact Tot.iteD (fun h => absurd h (by simp)) fun _ => Tot.some (S1.up (by omega) (by omega))
        | true =>
          have V := (r3.1 rfl).2
          refine Tot.iteD (fun _ => Tot.some ?_) fun h => absurd h (by simp; omega)
          have hln : (alc l43 ⟨1, q49.1, l44⟩).length ≤ n + 1 := by rw [len_alc]; have := S1.len; split <;> omega
          exact (V.sm hln (by omega)).up (Nat.le_refl _) (by omega)
      · have H2 := S2.hp (by omega) (by omega)
        have hl2 := S2.len
        refine Tot.bind (R := fun q => At q.2 (F + 27) ∧ (q.1 = true → 0 < l52.length)) (Tot.iteD (fun h0 => ?_) fun h0 => Tot.some ⟨⟨by show 0 ≤ q49.2; omega, by show q49.2 ≤ _; omega⟩, fun h => absurd h (by simp)⟩) ?_
        · exact Tot.bind (pick_tot Bb ⟨by omega, by omega⟩) fun q65 ⟨b1, _, _, _⟩ => Tot.some ⟨⟨by show 0 ≤ q65.2; omega, by show q65.2 ≤ _; omega⟩, fun _ => by rw [len_def] at h0; omega⟩
        · rintro ⟨t55, f56⟩ ⟨⟨i0, i1⟩, i2⟩
          dsimp only at i0 i1 i2 ⊢
          refine Tot.ite (fun ht => ?_) fun _ => Tot.some ⟨⟨i0, by show f56 ≤ _; omega⟩, S2⟩
          have hpos := i2 ht
          refine Tot.bind (pick_tot Bb ⟨i0, by omega⟩) fun q60 ⟨j1, j2, j3, _⟩ => ?_
          rw [len_def] at j3
          have j4 := j3 (by omega)
          have ew : Sh.w (1000 + q60.1) = 1000 + q60.1 := w_id (by omega) (by omega)
          rw [ew]
          obtain ⟨g, b2, s1, _, s3, s4, _⟩ := DropWord_both (w := 1000 + q60.1) H2 ⟨by omega, by omega⟩ hM
          refine Tot.bindE s1 ?_
          refine Tot.ite (fun hb => Tot.some ⟨⟨by show 0 ≤ q60.2; omega, by show q60.2 ≤ _; omega⟩, ?_⟩) fun _ => Tot.some ⟨⟨by show 0 ≤ q60.2; omega, by show q60.2 ≤ _; omega⟩, S2⟩
          have hb' : b2 = true := hb
          have MD := s3.1 hb'
          have D := s4 hb'
          have V2 := D.VH (MD.pre H2) MD.1
          have hle := D.len MD.1.zr
          exact (V2.sm (n := n + 1) (by omega) (by omega)).up (Nat.le_refl _) (by omega)
    · rintro ⟨f31, l32⟩ ⟨⟨c1, c2⟩, c3⟩
      dsimp only at c1 c2 c3 ⊢
      rw [w_id (by omega) (by omega), show (((K + 1 : Nat) : Int) - 1) = (K : Int) by omega]
      exact (ih N' f31 (F + 30) (n + 1) l32 (by omega) ⟨c1, c2⟩ (by omega) (by omega) c3).mono fun q ⟨r1, r2⟩ => ⟨⟨r1.1, by have := r1.2; omega⟩, r2.up (by omega) (by omega)⟩

theorem goodHeap_tot {b : List Int} (Bb : Bk b) {M : Nat} (hM : 2000000 ≤ M) {p : Int} (hp : At p 1000) (kept : Bool) : Tot (spec_goodHeap M b p kept) fun q => Sm 18 1000 q.1 ∧ At q.2 3000 := by
  obtain ⟨p0, p1⟩ := hp
  unfold spec_goodHeap
  refine Tot.bind (pick_tot Bb ⟨p0, by omega⟩) fun q5 ⟨a1, a2, a3, _⟩ => ?_
  have a4 := a3 (by decide)
  obtain ⟨k, hk⟩ := Int.eq_ofNat_of_zero_le (by omega : 0 ≤ 3 + q5.1)
  rw [w_id (by omega) (by omega), hk]
  refine Tot.bind (goodHeap_L1_tot Bb hM k M q5.2 (p + 1) 0 [] (by omega) ⟨by omega, by omega⟩ (by omega) (by omega) ⟨by simp, by simp⟩) ?_
  rintro ⟨f9, l10⟩ ⟨⟨c1, c2⟩, c3⟩
  dsimp only at c1 c2 c3 ⊢
  have S : Sm 17 1000 l10 := c3.up (by omega) (by omega)
  have hl := S.len
  refine Tot.bind (R := fun q => At q.1 3000 ∧ Sm 18 1000 q.2) ?_ ?_
  · refine Tot.bind (R := fun q => At q.2 2000) (Tot.ite (fun _ => ?_) fun _ => Tot.some ⟨c1, by show f9 ≤ _; omega⟩) ?_
    · exact Tot.bind (pick_tot Bb ⟨by omega, by omega⟩) fun q26 ⟨b1, _, _, _⟩ => Tot.some ⟨by show 0 ≤ q26.2; omega, by show q26.2 ≤ _; omega⟩
    · rintro ⟨t18, f19⟩ ⟨d0, d1⟩
      dsimp only at d0 d1 ⊢
      refine Tot.ite (fun _ => ?_) fun _ => Tot.some ⟨⟨d0, by show f19 ≤ _; omega⟩, S.up (by omega) (by omega)⟩
      refine Tot.bind (pick_tot Bb ⟨d0, by omega⟩) fun q22 ⟨e1, e2, e3, _⟩ => ?_
      have e4 := e3 (by decide)
      obtain ⟨z, hz⟩ := Int.eq_ofNat_of_zero_le e2
      refine Tot.bind (R := fun q => q = List.replicate z 0) ?_ fun q23 hq => ?_
      · unfold spec_zeros
        rw [hz]
        exact Tot.bindE (mk_ok 0 z 8 (by omega) (by omega)) (Tot.some rfl)
      · subst hq
        refine Tot.app (by simp; omega) (by simp; omega) (Tot.some ⟨⟨by show 0 ≤ q22.2; omega, by show q22.2 ≤ _; omega⟩, ?_⟩)
        exact S.app ⟨by simp; omega, fun x hx => by rw [List.eq_of_mem_replicate hx]; exact i40 (by decide) (by decide), by show _ ≤ (-1 : Int); omega, by show (-1 : Int) ≤ _; omega, i40 (n := 0) (by decide) (by decide)⟩
  · rintro ⟨f13, l14⟩ ⟨d1, d2⟩
    exact Tot.some ⟨d2, d1⟩

theorem spoilInts_tot {b : List Int} (Bb : Bk b) {p : Int} (hp : At p 100000) {l : List Int} (hl : l.length ≤ 3) (hI : ∀ x ∈ l, I40 x) : Tot (spec_reader_spoilInts b p l) fun q => q.1.length ≤ 4 ∧ (∀ x ∈ q.1, I40 x) ∧ At q.2 (p + 4) := by
  obtain ⟨p0, p1⟩ := hp
  unfold spec_reader_spoilInts
  refine Tot.bindE (copyInts_eq (by omega)) ?_
  refine Tot.bind (R := fun q => At q.2 (p + 1) ∧ (q.1 = true → 0 < l.length)) (Tot.iteD (fun h0 => ?_) fun _ => Tot.some ⟨⟨p0, by show p ≤ _; omega⟩, fun h => absurd h (by simp)⟩) ?_
  · exact Tot.bind (pick_tot Bb ⟨p0, by omega⟩) fun q ⟨b1, _, _, _⟩ => Tot.some ⟨⟨by show 0 ≤ q.2; omega, by show q.2 ≤ _; omega⟩, fun _ => by rw [len_def] at h0; omega⟩
  · rintro ⟨t, f⟩ ⟨⟨g0, g1⟩, g2⟩
    dsimp only at g0 g1 g2 ⊢
    refine Tot.ite (fun ht => ?_) fun _ => ?_
    · have hpos := g2 ht
      refine Tot.bind (pick_tot Bb ⟨g0, by omega⟩) fun q11 ⟨a1, a2, a3, _⟩ => ?_
      rw [len_def] at a3
      have a4 := a3 (by omega)
      refine Tot.bind (one_tot Bb ⟨by omega, by omega⟩ (by simp) (by simp)) fun q12 O => ?_
      have o1 := O.pos
      have o2 := O.mem
      refine Tot.get a2 a4 fun c _ _ => Tot.some ⟨?_, fun x hx => ?_, ⟨by show 0 ≤ q12.2; omega, by show q12.2 ≤ _; omega⟩⟩
      · show (Sh.put l q11.1 q12.1).length ≤ 4
        rw [Sh.put_len]; omega
      · rcases List.mem_or_eq_of_mem_set hx with h1 | h1
        · exact hI x h1
        · rw [h1]
          simp only [List.mem_cons, List.not_mem_nil, or_false] at o2
          rcases o2 with h | h | h | h | h | h <;> exact i40 (by omega) (by omega)
    · refine Tot.bind (one_tot Bb ⟨g0, by omega⟩ (by simp) (by simp)) fun q16 O => ?_
      have o1 := O.pos
      have o2 := O.mem
      refine Tot.app (by simp; omega) (by simp; omega) (Tot.some ⟨by simp; omega, fun x hx => ?_, ⟨by show 0 ≤ q16.2; omega, by show q16.2 ≤ _; omega⟩⟩)
      rcases List.mem_append.1 hx with h1 | h1
      · exact hI x h1
      · rw [List.mem_singleton] at h1
        rw [h1]
        simp only [List.mem_cons, List.not_mem_nil, or_false] at o2
        rcases o2 with h | h | h | h | h <;> exact i40 (by omega) (by omega)

/-- A heap that is drawn. -/
structure Dn (h : List Cell) : Prop where
  len : h.length ≤ 19
  cells : ∀ c ∈ h, CellIn c ∧ c.fields.length ≤ 4
theorem Dn.fsum {h : List Cell} (S : Dn h) : fsum h ≤ 4 * h.length := by
  have hc := S.cells
  clear S
  induction h with
  | nil => simp [RC.fsum]
  | cons c h ih =>
    have h1 := ih fun d hd => hc d (List.mem_cons_of_mem _ hd)
    have h2 := (hc c (List.mem_cons_self ..)).2
    simp only [RC.fsum, List.map_cons, List.sum_cons, List.length_cons] at h1 ⊢
    omega
theorem Dn.size {h : List Cell} (S : Dn h) : hsize h ≤ 95 := by have := S.fsum; have := S.len; unfold hsize; omega
theorem Dn.hp {h : List Cell} (S : Dn h) : Hp h := ⟨by have := S.size; omega, fun c hc => (S.cells c hc).1⟩
theorem Dn.set {h : List Cell} (S : Dn h) {j : Nat} {c : Cell} (hc : CellIn c ∧ c.fields.length ≤ 4) : Dn (h.set j c) :=
  ⟨by rw [List.length_set]; exact S.len, fun d hd => by
    rcases List.mem_or_eq_of_mem_set hd with h1 | h1
    · exact S.cells d h1
    · rw [h1]; exact hc⟩
theorem Sm.dn {h : List Cell} (S : Sm 18 1000 h) : Dn h :=
  ⟨by have := S.len; omega, fun c hc => ⟨(S.hp (by omega) (by omega)).cells c hc, by have := (S.cells c hc).fl; omega⟩⟩

theorem anyHeap_tot {b : List Int} (Bb : Bk b) {M : Nat} (hM : 2000000 ≤ M) {p : Int} (hp : At p 1000) : Tot (spec_anyHeap M b p) fun q => Dn q.1 ∧ At q.2 4000 := by
  unfold spec_anyHeap
  refine Tot.bind (goodHeap_tot Bb hM hp true) fun q3 ⟨S, f0, f1⟩ => ?_
  refine Tot.iteD (fun _ => Tot.some ⟨S.dn, f0, by omega⟩) fun h0 => ?_
  have hpos : 0 < q3.1.length := by rw [len_def] at h0; omega
  have D := S.dn
  refine Tot.bind (pick_tot Bb ⟨f0, by omega⟩) fun q9 ⟨a1, a2, a3, _⟩ => ?_
  rw [len_def] at a3
  have a4 := a3 (by omega)
  refine Tot.bind (R := fun q => At q.1 4000 ∧ Dn q.2) ?_ fun ⟨f11, l12⟩ ⟨h1, h2⟩ => Tot.some ⟨h2, h1⟩
  refine Tot.bind (pick_tot Bb ⟨by omega, by omega⟩) fun q16 ⟨b1, b2, b3, _⟩ => ?_
  have b4 := b3 (by decide)
  have mem : ∀ {c : Cell}, q3.1[q9.1.toNat]? = some c → CellIn c ∧ c.fields.length ≤ 3 ∧ ∀ x ∈ c.fields, I40 x := fun {c} hc => by
    have hm := List.mem_of_getElem? hc
    exact ⟨(D.cells c hm).1, (S.cells c hm).fl, (S.cells c hm).fi⟩
  refine Tot.iteD (fun _ => ?_) fun _ => Tot.iteD (fun _ => ?_) fun _ => Tot.iteD (fun _ => ?_) fun _ => Tot.iteD (fun _ => ?_) fun _ => Tot.iteD (fun _ => ?_) fun _ => ?_
  · refine Tot.bind (one_tot Bb ⟨by omega, by omega⟩ (by simp) (by simp)) fun q19 O => ?_
    have o1 := O.pos
    have o2 := O.mem
    refine Tot.get a2 a4 fun c hc _ => Tot.some ⟨⟨by show 0 ≤ q19.2; omega, by show q19.2 ≤ _; omega⟩, D.set ?_⟩
    obtain ⟨C, c1, _⟩ := mem hc
    refine ⟨⟨?_, C.tag, C.flds⟩, by show c.fields.length ≤ 4; omega⟩
    simp only [List.mem_cons, List.not_mem_nil, or_false] at o2
    rcases o2 with h | h | h | h | h | h <;> exact ⟨by show _ ≤ q19.1; omega, by show q19.1 ≤ _; omega⟩
  · refine Tot.bind (one_tot Bb ⟨by omega, by omega⟩ (by simp) (by simp)) fun q23 O => ?_
    have o1 := O.pos
    have o2 := O.mem
    refine Tot.get a2 a4 fun c hc _ => Tot.some ⟨⟨by show 0 ≤ q23.2; omega, by show q23.2 ≤ _; omega⟩, D.set ?_⟩
    obtain ⟨C, c1, _⟩ := mem hc
    refine ⟨⟨C.count, ?_, C.flds⟩, by show c.fields.length ≤ 4; omega⟩
    simp only [List.mem_cons, List.not_mem_nil, or_false] at o2
    rcases o2 with h | h | h | h <;> exact ⟨by show _ ≤ q23.1; omega, by show q23.1 ≤ _; omega⟩
  · refine Tot.get a2 a4 fun c hc _ => ?_
    obtain ⟨C, c1, c2⟩ := mem hc
    refine Tot.bind (spoilInts_tot Bb ⟨by omega, by omega⟩ (by omega) c2) fun q28 ⟨d1, d2, d3, d4⟩ => Tot.some ⟨⟨d3, by show q28.2 ≤ _; omega⟩, D.set ?_⟩
    exact ⟨⟨C.count, C.tag, ⟨fun x hx => (d2 x hx).i64, by show q28.1.length ≤ _; omega⟩⟩, by show q28.1.length ≤ 4; omega⟩
  · refine Tot.bind (pick_tot Bb ⟨by omega, by omega⟩) fun q31 ⟨d1, d2, d3, _⟩ => ?_
    rw [len_def] at d3
    have d4 := d3 (by omega)
    have hln := S.len
    refine Tot.get a2 a4 fun c hc _ => Tot.some ⟨⟨by show 0 ≤ q31.2; omega, by show q31.2 ≤ _; omega⟩, D.set ?_⟩
    obtain ⟨C, c1, c2⟩ := mem hc
    exact ⟨⟨C.count, C.tag, ⟨fun x hx => by rw [List.mem_singleton] at hx; rw [hx]; exact (i40w (by omega) (by omega)).i64, by show 1 ≤ _; omega⟩⟩, by show 1 ≤ 4; omega⟩
  · have hln := S.len
    refine Tot.app (by simp; omega) (by simp; omega) (Tot.some ⟨⟨by show 0 ≤ q16.2; omega, by show q16.2 ≤ _; omega⟩, ⟨by show (q3.1 ++ [_]).length ≤ 19; simp; omega, fun c hc => ?_⟩⟩)
    rcases List.mem_append.1 hc with h1 | h1
    · exact D.cells c h1
    · rw [List.mem_singleton] at h1
      rw [h1]
      exact ⟨⟨⟨by show (_ : Int) ≤ 0; decide, by show (0 : Int) ≤ _; decide⟩, ⟨by show (_ : Int) ≤ 0; decide, by show (0 : Int) ≤ _; decide⟩, ⟨fun x hx => absurd hx (List.not_mem_nil), by show 0 ≤ _; omega⟩⟩, by show 0 ≤ 4; omega⟩
  · exact Tot.some ⟨⟨by show 0 ≤ q16.2; omega, by show q16.2 ≤ _; omega⟩, D⟩

/-! ### What the laws are given -/

theorem max1 (n : Nat) : (if ((n : Int) > 1) then (n : Int) else 1) = ((max n 1 : Nat) : Int) := by
  split <;> omega

theorem DrawValidHeap_tot {code : List Int} (h8 : ∀ x ∈ code, U8 x) (hl : code.length ≤ 1048576) {M : Nat} (hM : 2000000 ≤ M) : Tot (spec_DrawValidHeap M code) Dn := by
  unfold spec_DrawValidHeap
  refine Tot.bind (newReader_tot h8 hl) fun q3 ⟨Bb, hq⟩ => ?_
  exact Tot.bind (anyHeap_tot Bb hM (by rw [hq]; exact ⟨by decide, by decide⟩)) fun q4 ⟨D, _⟩ => Tot.some D
theorem DrawLiveCells_tot {code : List Int} (h8 : ∀ x ∈ code, U8 x) (hl : code.length ≤ 1048576) {M : Nat} (hM : 2000000 ≤ M) : Tot (spec_DrawLiveCells M code) Dn := by
  unfold spec_DrawLiveCells
  refine Tot.bind (newReader_tot h8 hl) fun q3 ⟨Bb, hq⟩ => ?_
  exact Tot.bind (anyHeap_tot Bb hM (by rw [hq]; exact ⟨by decide, by decide⟩)) fun q4 ⟨D, _⟩ => Tot.some D
theorem DrawRefsOf_tot {code : List Int} (h8 : ∀ x ∈ code, U8 x) (hl : code.length ≤ 1048576) {M : Nat} (hM : 2000000 ≤ M) : Tot (spec_DrawRefsOf M code) fun q => Dn q.1 ∧ I40 q.2 := by
  unfold spec_DrawRefsOf
  refine Tot.bind (newReader_tot h8 hl) fun q3 ⟨Bb, hq⟩ => ?_
  refine Tot.bind (anyHeap_tot Bb hM (by rw [hq]; exact ⟨by decide, by decide⟩)) fun q5 ⟨D, f0, f1⟩ => ?_
  have hln := D.len
  rw [len_def, max1]
  refine Tot.bind (pick_tot Bb ⟨f0, by omega⟩) fun q7 ⟨a1, a2, a3, _⟩ => ?_
  have a4 := a3 (by omega)
  refine Tot.bind (pick_tot Bb ⟨by omega, by omega⟩) fun q8 ⟨b1, b2, b3, _⟩ => ?_
  have b4 := b3 (by omega)
  refine Tot.bind (one_tot Bb ⟨by omega, by omega⟩ (by simp) (by simp)) fun q9 O => Tot.some ⟨D, ?_⟩
  have o2 := O.mem
  simp only [List.mem_cons, List.not_mem_nil, or_false] at o2
  show I40 q9.1
  rcases o2 with h | h | h | h | h <;> exact i40 (by omega) (by omega)
theorem wordFor_tot {b : List Int} (Bb : Bk b) {p : Int} (hp : At p 100000) {n : Nat} (hn : n ≤ 1000) : Tot (spec_wordFor b p (n : Int)) fun q => I40 q.1 ∧ At q.2 (p + 5) := by
  obtain ⟨p0, p1⟩ := hp
  unfold spec_wordFor
  rw [max1]
  refine Tot.bind (pick_tot Bb ⟨p0, by omega⟩) fun q3 ⟨a1, a2, a3, _⟩ => ?_
  have a4 := a3 (by omega)
  refine Tot.bind (pick_tot Bb ⟨by omega, by omega⟩) fun q4 ⟨b1, b2, b3, _⟩ => ?_
  have b4 := b3 (by omega)
  refine Tot.bind (pick_tot Bb ⟨by omega, by omega⟩) fun q5 ⟨c1, c2, c3, _⟩ => ?_
  have c4 := c3 (by omega)
  refine Tot.bind (pick_tot Bb ⟨by omega, by omega⟩) fun q6 ⟨d1, d2, d3, _⟩ => ?_
  have d4 := d3 (by omega)
  rw [w_id (n := 1000 + q3.1) (by omega) (by omega), w_id (n := 1000 + q4.1) (by omega) (by omega), w_id (n := 1000 + q5.1) (by omega) (by omega), w_id (n := q6.1 - 10) (by omega) (by omega), w_id (n := 1000 + (n : Int)) (by omega) (by omega)]
  refine Tot.bind (one_tot Bb ⟨by omega, by omega⟩ (by simp) (by simp)) fun q7 O => ?_
  have o1 := O.pos
  have o2 := O.mem
  refine Tot.some ⟨?_, by show 0 ≤ q7.2; omega, by show q7.2 ≤ _; omega⟩
  simp only [List.mem_cons, List.not_mem_nil, or_false] at o2
  show I40 q7.1
  rcases o2 with h | h | h | h | h | h | h | h <;> exact i40 (by omega) (by omega)
theorem DrawDupWord_tot {code : List Int} (h8 : ∀ x ∈ code, U8 x) (hl : code.length ≤ 1048576) {M : Nat} (hM : 2000000 ≤ M) : Tot (spec_DrawDupWord M code) fun q => Dn q.1 ∧ I40 q.2 := by
  unfold spec_DrawDupWord
  refine Tot.bind (newReader_tot h8 hl) fun q3 ⟨Bb, hq⟩ => ?_
  refine Tot.bind (anyHeap_tot Bb hM (by rw [hq]; exact ⟨by decide, by decide⟩)) fun q5 ⟨D, f0, f1⟩ => ?_
  have hln := D.len
  rw [len_def]
  exact Tot.bind (wordFor_tot Bb ⟨f0, by omega⟩ (by omega)) fun q7 ⟨h, _⟩ => Tot.some ⟨D, h⟩
theorem DrawDropWord_tot {code : List Int} (h8 : ∀ x ∈ code, U8 x) (hl : code.length ≤ 1048576) {M : Nat} (hM : 2000000 ≤ M) : Tot (spec_DrawDropWord M code) fun q => Dn q.1 ∧ I40 q.2 := by
  unfold spec_DrawDropWord
  exact Tot.bind (DrawDupWord_tot h8 hl hM) fun q h => Tot.some h

theorem DrawReachOf_L1_tot {q3 : List Int × Int} {q5 : List Cell × Int} (Bb : Bk q3.1) (D : Dn q5.1) : ∀ (K N : Nat) (f F : Int) (ws : List Int), K < N → At f F → F + 5 * K ≤ 100000 → ws.length + K ≤ 10 → (∀ x ∈ ws, I40 x) →
    Tot (spec_DrawReachOf_L1 q3 q5 N (K : Int) f ws) fun l => l.length ≤ ws.length + K ∧ ∀ x ∈ l, I40 x := by
  intro K
  induction K with
  | zero =>
    intro N f F ws hN _ _ _ hI
    obtain ⟨N', rfl⟩ : ∃ N', N = N' + 1 := ⟨N - 1, by omega⟩
    rw [spec_DrawReachOf_L1, if_neg (by simp)]
    exact Tot.some ⟨Nat.le_refl _, hI⟩
  | succ K ih =>
    intro N f F ws hN hf hF hl hI
    obtain ⟨N', rfl⟩ : ∃ N', N = N' + 1 := ⟨N - 1, by omega⟩
    have hln := D.len
    rw [spec_DrawReachOf_L1, if_pos (by simp), len_def]
    refine Tot.bind (wordFor_tot Bb ⟨hf.1, by have := hf.2; omega⟩ (by omega)) fun q ⟨a1, a2, a3⟩ => ?_
    refine Tot.app (by simp; omega) (by simp; omega) ?_
    rw [w_id (by omega) (by omega), show (((K + 1 : Nat) : Int) - 1) = (K : Int) by omega]
    refine (ih N' q.2 (F + 5) (ws ++ [q.1]) (by omega) ⟨a2, by have := hf.2; omega⟩ (by omega) (by simp; omega) (fun x hx => ?_)).mono fun l ⟨b1, b2⟩ => ⟨by simp at b1; omega, b2⟩
    rcases List.mem_append.1 hx with h1 | h1
    · exact hI x h1
    · rw [List.mem_singleton] at h1; rw [h1]; exact a1
theorem DrawReachOf_tot {code : List Int} (h8 : ∀ x ∈ code, U8 x) (hl : code.length ≤ 1048576) {M : Nat} (hM : 2000000 ≤ M) : Tot (spec_DrawReachOf M code) fun q => Dn q.1 ∧ q.2.length ≤ 10 ∧ ∀ x ∈ q.2, I40 x := by
  unfold spec_DrawReachOf
  refine Tot.bind (newReader_tot h8 hl) fun q3 ⟨Bb, hq⟩ => ?_
  refine Tot.bind (anyHeap_tot Bb hM (by rw [hq]; exact ⟨by decide, by decide⟩)) fun q5 ⟨D, f0, f1⟩ => ?_
  refine Tot.bind (pick_tot Bb ⟨f0, by omega⟩) fun q9 ⟨a1, a2, a3, _⟩ => ?_
  have a4 := a3 (by decide)
  obtain ⟨k, hk⟩ := Int.eq_ofNat_of_zero_le a2
  rw [hk]
  exact Tot.bind (DrawReachOf_L1_tot Bb D k M q9.2 5000 [] (by omega) ⟨by omega, by omega⟩ (by omega) (by simp; omega) (fun x hx => absurd hx (List.not_mem_nil))) fun l ⟨h1, h2⟩ => Tot.some ⟨D, by show l.length ≤ 10; simp at h1; omega, h2⟩

theorem DrawAllocCell_L1_tot {q3 : List Int × Int} {q5 : List Cell × Int} (Bb : Bk q3.1) (D : Dn q5.1) : ∀ (K N : Nat) (f F : Int) (ws : List Int), K < N → At f F → F + 5 * K ≤ 100000 → ws.length + K ≤ 10 → (∀ x ∈ ws, I40 x) →
    Tot (spec_DrawAllocCell_L1 q3 q5 N (K : Int) f ws) fun q => At q.1 (F + 5 * K) ∧ q.2.length ≤ ws.length + K ∧ ∀ x ∈ q.2, I40 x := by
  intro K
  induction K with
  | zero =>
    intro N f F ws hN hf _ _ hI
    obtain ⟨N', rfl⟩ : ∃ N', N = N' + 1 := ⟨N - 1, by omega⟩
    rw [spec_DrawAllocCell_L1, if_neg (by simp)]
    exact Tot.some ⟨⟨hf.1, by have := hf.2; show f ≤ _; omega⟩, Nat.le_refl _, hI⟩
  | succ K ih =>
    intro N f F ws hN hf hF hl hI
    obtain ⟨N', rfl⟩ : ∃ N', N = N' + 1 := ⟨N - 1, by omega⟩
    have hln := D.len
    rw [spec_DrawAllocCell_L1, if_pos (by simp), len_def]
    refine Tot.bind (wordFor_tot Bb ⟨hf.1, by have := hf.2; omega⟩ (by omega)) fun q ⟨a1, a2, a3⟩ => ?_
    refine Tot.app (by simp; omega) (by simp; omega) ?_
    rw [w_id (by omega) (by omega), show (((K + 1 : Nat) : Int) - 1) = (K : Int) by omega]
    refine (ih N' q.2 (F + 5) (ws ++ [q.1]) (by omega) ⟨a2, by have := hf.2; omega⟩ (by omega) (by simp; omega) (fun x hx => ?_)).mono fun l ⟨b0, b1, b2⟩ => ⟨⟨b0.1, by have := b0.2; omega⟩, by simp at b1; omega, b2⟩
    rcases List.mem_append.1 hx with h1 | h1
    · exact hI x h1
    · rw [List.mem_singleton] at h1; rw [h1]; exact a1
theorem DrawAllocCell_tot {code : List Int} (h8 : ∀ x ∈ code, U8 x) (hl : code.length ≤ 1048576) {M : Nat} (hM : 2000000 ≤ M) : Tot (spec_DrawAllocCell M code) fun q => Dn q.1 ∧ I40 q.2.1 ∧ q.2.2.length ≤ 10 ∧ ∀ x ∈ q.2.2, I40 x := by
  unfold spec_DrawAllocCell
  refine Tot.bind (newReader_tot h8 hl) fun q3 ⟨Bb, hq⟩ => ?_
  refine Tot.bind (anyHeap_tot Bb hM (by rw [hq]; exact ⟨by decide, by decide⟩)) fun q5 ⟨D, f0, f1⟩ => ?_
  refine Tot.bind (one_tot Bb ⟨f0, by omega⟩ (by simp) (by simp)) fun q9 O => ?_
  have o1 := O.pos
  have o2 := O.mem
  have o3 : 0 ≤ q9.1 ∧ q9.1 ≤ 4 := by
    simp only [List.mem_cons, List.not_mem_nil, or_false] at o2
    rcases o2 with h | h | h | h | h | h <;> omega
  obtain ⟨k, hk⟩ := Int.eq_ofNat_of_zero_le o3.1
  rw [hk]
  refine Tot.bind (DrawAllocCell_L1_tot Bb D k M q9.2 5000 [] (by omega) ⟨by omega, by omega⟩ (by omega) (by simp; omega) (fun x hx => absurd hx (List.not_mem_nil))) ?_
  rintro ⟨f13, l14⟩ ⟨⟨c0, c1⟩, c2, c3⟩
  dsimp only at c0 c1 c2 c3 ⊢
  refine Tot.bind (one_tot Bb ⟨c0, by omega⟩ (by simp) (by simp)) fun q17 O' => Tot.some ⟨D, ?_, by show l14.length ≤ 10; simp at c2; omega, c3⟩
  have o2 := O'.mem
  simp only [List.mem_cons, List.not_mem_nil, or_false] at o2
  show I40 q17.1
  rcases o2 with h | h | h | h | h | h | h <;> exact i40 (by omega) (by omega)
end RC
