import Derived.Test.YtcpedchmkhlpnaaHMC
namespace RC
open Go

/-! ### Who points to whom -/

def WF (h : List Cell) : Prop := ∀ c ∈ h, ∀ w ∈ c.fields, wordW h w = true
def ch (h : List Cell) (i j : Nat) : Prop := ∃ c w, h[i]? = some c ∧ w ∈ c.fields ∧ liveW h w = true ∧ (w - 1000).toNat = j
def Ranked (h : List Cell) : Prop := ∃ rk : Nat → Nat, ∀ i j, ch h i j → rk j < rk i

theorem ch_lt {h : List Cell} {i j : Nat} (hc : ch h i j) : i < h.length ∧ j < h.length := by
  obtain ⟨c, w, h1, _, h3, h4⟩ := hc
  obtain ⟨q, _, _, h5, h6, _⟩ := liveW_spec h3
  exact ⟨(List.getElem?_eq_some_iff.1 h1).1, by omega⟩
theorem cnt_pos {h : List Cell} {i j : Nat} {c : Cell} (hc : h[i]? = some c) : 0 < cnt h c.fields j ↔ ch h i j := by
  unfold cnt
  rw [List.countP_pos_iff]
  constructor
  · rintro ⟨w, h1, h2⟩
    obtain ⟨h3, h4⟩ := hits_live h2
    exact ⟨c, w, hc, h1, h3, h4⟩
  · rintro ⟨c', w, h1, h2, h3, h4⟩
    rw [hc] at h1; cases h1
    exact ⟨w, h2, by simp [hits, h3, h4]⟩

/-! ### Counting the marked ones -/

def cntB (m : Nat → Bool) (n : Nat) : Nat := (List.range n).countP m
theorem cntB_le (m : Nat → Bool) (n : Nat) : cntB m n ≤ n := by have := List.countP_le_length (p := m) (l := List.range n); simpa [cntB] using this
theorem cntB_succ (m : Nat → Bool) (n : Nat) : cntB m (n + 1) = cntB m n + if m n then 1 else 0 := by
  unfold cntB; rw [List.range_succ, List.countP_append]; simp [List.countP_cons]
theorem cntB_congr {m m' : Nat → Bool} {n : Nat} (h : ∀ j, j < n → m j = m' j) : cntB m n = cntB m' n := by
  induction n with
  | zero => rfl
  | succ n ih => rw [cntB_succ, cntB_succ, ih (fun j hj => h j (by omega)), h n (by omega)]
theorem cntB_set {m : Nat → Bool} {n i : Nat} (hi : i < n) (hm : m i = false) : cntB (fun k => if k = i then true else m k) n = cntB m n + 1 := by
  induction n with
  | zero => omega
  | succ n ih =>
    rw [cntB_succ, cntB_succ]
    by_cases e : i = n
    · subst e
      rw [cntB_congr (m' := m) (fun j hj => by simp; omega)]
      simp [hm]
    · rw [ih (by omega)]
      have : ¬ n = i := fun h => e h.symm
      simp [this]; omega
theorem cntB_full {m : Nat → Bool} {n : Nat} : cntB m n = n ↔ ∀ j, j < n → m j = true := by
  constructor
  · intro h
    induction n with
    | zero => intro j hj; omega
    | succ n ih =>
      rw [cntB_succ] at h
      have hle := cntB_le m n
      have h1 : m n = true := by cases hm : m n <;> simp [hm] at h ⊢; omega
      simp [h1] at h
      intro j hj
      rcases Nat.lt_succ_iff_lt_or_eq.1 hj with h2 | rfl
      · exact ih h j h2
      · exact h1
  · intro h
    induction n with
    | zero => rfl
    | succ n ih => rw [cntB_succ, ih (fun j hj => h j (by omega)), h n (by omega)]; rfl

/-! ### The reference's way: marking what leads to marked ones alone -/

def okM (m : Nat → Bool) (w : Int) : Bool := !(decide (1000 ≤ w)) || m (w - 1000).toNat
theorem allMarked_L1_eq {n : Nat} {m : Nat → Bool} {l : List Int} (hn : n ≤ 1048576) (hl : l.length ≤ 1048576) (hw : ∀ w ∈ l, 1000 ≤ w → w - 1000 < n) {N i : Nat} (hi : i ≤ l.length) (hN : l.length - i < N) :
    spec_allMarked_L1 (rowOf n m) l N i = some (if (l.drop i).all (okM m) then Sum.inr () else Sum.inl false) := by
  refine loop_ind l.length (fun N i => spec_allMarked_L1 (rowOf n m) l N i = some (if (l.drop i).all (okM m) then Sum.inr () else Sum.inl false)) ?_ ?_ hi hN
  · intro n'
    rw [spec_allMarked_L1, if_neg (by simp [len_def])]; simp
  · intro n' i hi ih
    obtain ⟨x, hx, hxm⟩ := at_lt hi
    rw [spec_allMarked_L1, if_pos (by simp [len_def]; omega), get_lt hx]
    simp only [Option.bind_some]
    rw [w_id (n := (i : Int) + 1) (by omega) (by omega), show ((i : Int) + 1) = ((i + 1 : Nat) : Int) from rfl, ih, all_drop hx]
    unfold spec_isPointer okM
    simp only [Option.bind_some]
    by_cases h1 : 1000 ≤ x
    · have h2 := hw x hxm h1
      have e1 : x - 1000 = (((x - 1000).toNat : Nat) : Int) := by omega
      rw [w_id (n := x - 1000) (by omega) (by omega)]
      have e2 : Sh.get (rowOf n m) (x - 1000) = some (m (x - 1000).toNat) := by rw [get_pos' (by omega), rowOf_get (by omega)]
      rw [e2]
      cases m (x - 1000).toNat <;> simp [h1]
    · simp [h1]
theorem allMarked_eq {n : Nat} {m : Nat → Bool} {l : List Int} (hn : n ≤ 1048576) (hl : l.length ≤ 1048576) (hw : ∀ w ∈ l, 1000 ≤ w → w - 1000 < n) {N : Nat} (hN : 2000000 ≤ N) : spec_allMarked N (rowOf n m) l = some (l.all (okM m)) := by
  unfold spec_allMarked
  have := allMarked_L1_eq (m := m) hn hl hw (Nat.zero_le _) (by omega : l.length - 0 < N)
  rw [show ((0 : Nat) : Int) = 0 from rfl, List.drop_zero] at this
  rw [this]
  cases l.all (okM m) <;> rfl

/-- What is known of what is marked: each after those to which it leads. -/
def J (h : List Cell) (m : Nat → Bool) (many : Nat) : Prop :=
  (∃ rk : Nat → Nat, (∀ j, j < h.length → m j = true → rk j < many) ∧ ∀ i j, m i = true → ch h i j → m j = true ∧ rk j < rk i) ∧ cntB m h.length = many

theorem J.mark {h : List Cell} {m : Nat → Bool} {many i : Nat} (hJ : J h m many) (hi : i < h.length) (hm : m i = false) (hall : ∀ j, ch h i j → m j = true) : J h (fun k => if k = i then true else m k) (many + 1) := by
  obtain ⟨⟨rk, h1, h2⟩, h3⟩ := hJ
  refine ⟨⟨fun k => if k = i then many else rk k, fun j hj hmj => ?_, fun a b hma hab => ?_⟩, by rw [cntB_set hi hm, h3]⟩
  · by_cases e : j = i
    · simp [e]
    · simp only [e, if_false] at hmj ⊢
      have := h1 j hj hmj; omega
  · have hb := (ch_lt hab).2
    by_cases ea : a = i
    · subst ea
      have hmb := hall b hab
      have eb : ¬ b = a := fun e => by rw [e, hm] at hmb; cases hmb
      simp only [eb, if_false, if_true]
      exact ⟨hmb, h1 b hb hmb⟩
    · simp only [ea, if_false] at hma
      obtain ⟨h4, h5⟩ := h2 a b hma hab
      have eb : ¬ b = i := fun e => by rw [e, hm] at h4; cases h4
      simp only [ea, eb, if_false]
      exact ⟨h4, h5⟩

def allm (h : List Cell) (m : Nat → Bool) (i : Nat) : Prop := ∀ j, ch h i j → m j = true
theorem allm_iff {h : List Cell} (hw : WF h) {m : Nat → Bool} {i : Nat} {c : Cell} (hc : h[i]? = some c) : c.fields.all (okM m) = true ↔ allm h m i := by
  rw [List.all_eq_true]
  constructor
  · rintro h1 j ⟨c', w, h2, h3, h4, h5⟩
    rw [hc] at h2; cases h2
    have := h1 w h3
    obtain ⟨q, _, h6, _⟩ := liveW_spec h4
    have h7 : 1000 ≤ w := by omega
    simp only [okM, h7, decide_true, Bool.not_true, Bool.false_or] at this
    rw [← h5]; exact this
  · intro h1 w h2
    unfold okM
    by_cases h3 : 1000 ≤ w
    · have h4 := hw c (List.mem_of_getElem? hc) w h2
      have h5 : intW w = false := by unfold intW; simp; omega
      unfold wordW at h4
      rw [h5, Bool.or_false] at h4
      have := h1 _ ⟨c, w, hc, h2, h4, rfl⟩
      simp [this]
    · simp [h3]
theorem wf_lt {h : List Cell} (hw : WF h) {c : Cell} (hc : c ∈ h) : ∀ w ∈ c.fields, 1000 ≤ w → w - 1000 < (h.length : Int) := fun w h2 h3 => by
  have h4 := hw c hc w h2
  have h5 : intW w = false := by unfold intW; simp; omega
  unfold wordW at h4
  rw [h5, Bool.or_false] at h4
  obtain ⟨q, _, h6, _, h7, _⟩ := liveW_spec h4
  omega

theorem acyc_L2 {h : List Cell} (H : Hp h) (hw : WF h) {M : Nat} (hM : 2000000 ≤ M) {N i : Nat} (hi : i ≤ h.length) (hN : h.length - i < N) : ∀ (m : Nat → Bool) (many : Nat) (more : Bool), J h m many →
    ∃ m' many' more', spec_isAcyclic_L2 M h N (many : Int) more i (rowOf h.length m) = some (((many' : Nat) : Int), more', rowOf h.length m') ∧ J h m' many' ∧ many ≤ many' ∧
      (more' = false → more = false ∧ (∀ j, j < h.length → m' j = m j) ∧ ∀ j, i ≤ j → j < h.length → m j = true ∨ ¬ allm h m j) ∧ (more' = true → more = true ∨ many < many') := by
  have hl := H.len
  refine loop_ind h.length (fun N i => ∀ (m : Nat → Bool) (many : Nat) (more : Bool), J h m many →
    ∃ m' many' more', spec_isAcyclic_L2 M h N (many : Int) more i (rowOf h.length m) = some (((many' : Nat) : Int), more', rowOf h.length m') ∧ J h m' many' ∧ many ≤ many' ∧
      (more' = false → more = false ∧ (∀ j, j < h.length → m' j = m j) ∧ ∀ j, i ≤ j → j < h.length → m j = true ∨ ¬ allm h m j) ∧ (more' = true → more = true ∨ many < many')) ?_ ?_ hi hN
  · intro n m many more hJ
    refine ⟨m, many, more, ?_, hJ, Nat.le_refl _, fun e => ⟨e, fun _ _ => rfl, fun j h1 h2 => by omega⟩, fun e => .inl e⟩
    rw [spec_isAcyclic_L2, if_neg (by simp [len_def])]
  · intro n i hi ih m many more hJ
    obtain ⟨c, hc, hcm⟩ := at_lt hi
    have hmany : many ≤ h.length := by rw [← hJ.2]; exact cntB_le _ _
    rw [spec_isAcyclic_L2, if_pos (by simp [len_def]; omega), get_lt (rowOf_get hi)]
    simp only [Option.bind_some]
    rw [get_lt hc]
    simp only [Option.bind_some]
    rw [allMarked_eq hl (H.flen hcm) (wf_lt hw hcm) hM]
    simp only [Option.bind_some]
    rw [w_id (n := (i : Int) + 1) (by omega) (by omega), show ((i : Int) + 1) = ((i + 1 : Nat) : Int) from rfl]
    cases hmi : m i with
    | true =>
      obtain ⟨m', many', more', e1, e2, e3, e4, e5⟩ := ih m many more hJ
      refine ⟨m', many', more', by simpa using e1, e2, e3, fun e => ?_, e5⟩
      obtain ⟨f1, f2, f3⟩ := e4 e
      refine ⟨f1, f2, fun j h1 h2 => ?_⟩
      rcases Nat.eq_or_lt_of_le h1 with rfl | h3
      · exact .inl hmi
      · exact f3 j h3 h2
    | false =>
      cases ha : c.fields.all (okM m) with
      | false =>
        obtain ⟨m', many', more', e1, e2, e3, e4, e5⟩ := ih m many more hJ
        refine ⟨m', many', more', by simpa using e1, e2, e3, fun e => ?_, e5⟩
        obtain ⟨f1, f2, f3⟩ := e4 e
        refine ⟨f1, f2, fun j h1 h2 => ?_⟩
        rcases Nat.eq_or_lt_of_le h1 with rfl | h3
        · refine .inr fun h4 => ?_
          rw [(allm_iff hw hc).2 h4] at ha; cases ha
        · exact f3 j h3 h2
      | true =>
        have hJ' := hJ.mark hi hmi ((allm_iff hw hc).1 ha)
        obtain ⟨m', many', more', e1, e2, e3, e4, e5⟩ := ih _ (many + 1) true hJ'
        refine ⟨m', many', more', ?_, e2, by omega, fun e => ?_, fun e => .inr (by omega)⟩
        · have ew : Sh.w ((many : Int) + 1) = ((many + 1 : Nat) : Int) := by rw [w_id (by omega) (by omega)]; rfl
          simp only [Bool.not_false, if_true, Option.bind_some, ew, put_nat, rowOf_set]
          exact e1
        · have := (e4 e).1; cases this

theorem acyc_L1 {h : List Cell} (H : Hp h) (hw : WF h) {M : Nat} (hM : 2000000 ≤ M) : ∀ (d N : Nat) (m : Nat → Bool) (many : Nat), J h m many → h.length - many = d → d + 1 < N →
    ∃ m' many', spec_isAcyclic_L1 M h N (many : Int) true (rowOf h.length m) = some ((many' : Nat) : Int) ∧ J h m' many' ∧ ∀ j, j < h.length → m' j = true ∨ ¬ allm h m' j := by
  have hl := H.len
  intro d
  induction d using Nat.strongRecOn with
  | _ d ih =>
    intro N m many hJ hd hN
    obtain ⟨n, rfl⟩ : ∃ n, N = n + 1 := ⟨N - 1, by omega⟩
    have hmany : many ≤ h.length := by rw [← hJ.2]; exact cntB_le _ _
    obtain ⟨m', many', more', e1, e2, e3, e4, e5⟩ := acyc_L2 H hw hM (Nat.zero_le _) (by omega : h.length - 0 < M) m many false hJ
    rw [show ((0 : Nat) : Int) = 0 from rfl] at e1
    have hmany' : many' ≤ h.length := by rw [← e2.2]; exact cntB_le _ _
    rw [spec_isAcyclic_L1, if_pos rfl, e1]
    simp only [Option.bind_some]
    cases more' with
    | true =>
      have h1 : many < many' := by rcases e5 rfl with h | h; cases h; exact h
      exact ih (h.length - many') (by omega) n m' many' e2 rfl (by omega)
    | false =>
      obtain ⟨_, f2, f3⟩ := e4 rfl
      obtain ⟨n', rfl⟩ : ∃ n', n = n' + 1 := ⟨n - 1, by omega⟩
      refine ⟨m', many', ?_, e2, fun j hj => ?_⟩
      · rw [spec_isAcyclic_L1, if_neg (by simp)]
      · rcases f3 j (Nat.zero_le _) hj with h1 | h1
        · left; rw [f2 j hj]; exact h1
        · right
          intro h2
          exact h1 fun q hq => by rw [← f2 q (ch_lt hq).2]; exact h2 q hq

theorem ranked_of_marks {h : List Cell} {m : Nat → Bool} {many : Nat} (hJ : J h m many) (hc : ∀ j, j < h.length → m j = true ∨ ¬ allm h m j) : many = h.length ↔ Ranked h := by
  obtain ⟨⟨rk, h1, h2⟩, h3⟩ := hJ
  constructor
  · intro e
    have hall := cntB_full.1 (h3.trans e)
    exact ⟨rk, fun i j hij => (h2 i j (hall i (ch_lt hij).1) hij).2⟩
  · rintro ⟨rk0, hr⟩
    rw [← h3]
    refine cntB_full.2 fun j hj => ?_
    have key : ∀ d j, j < h.length → rk0 j < d → m j = true := by
      intro d
      induction d with
      | zero => intro j _ h4; omega
      | succ d ih =>
        intro j hj hlt
        rcases hc j hj with h4 | h4
        · exact h4
        · exact absurd (fun q hq => ih q (ch_lt hq).2 (by have := hr j q hq; omega)) h4
    exact key (rk0 j + 1) j hj (by omega)

theorem isAcyclic_eq {h : List Cell} (H : Hp h) (hw : WF h) {N : Nat} (hN : 2000000 ≤ N) : ∃ b, spec_isAcyclic N h = some b ∧ (b = true ↔ Ranked h) := by
  have hl := H.len
  unfold spec_isAcyclic
  rw [len_def, mk_ok _ h.length 1 (by omega) (by omega), rowOf_const]
  simp only [Option.bind_some]
  have hJ0 : J h (fun _ => false) 0 := ⟨⟨fun _ => 0, fun _ _ h => (by cases h), fun _ _ h => (by cases h)⟩, by
    have : ∀ n, cntB (fun _ => false) n = 0 := fun n => by induction n with
      | zero => rfl
      | succ n ih => rw [cntB_succ, ih]; rfl
    exact this _⟩
  obtain ⟨m', many', e1, e2, e3⟩ := acyc_L1 H hw hN _ N _ 0 hJ0 rfl (by omega)
  rw [show ((0 : Nat) : Int) = 0 from rfl] at e1
  rw [e1]
  simp only [Option.bind_some]
  refine ⟨_, rfl, ?_⟩
  rw [decide_eq_true_eq, ← ranked_of_marks e2 e3]
  omega
end RC
