/- Laws of heaps: validity, references, live cells, reach. -/
import Derived.Test.YtgpjhgoobijdjaaHNF
namespace RC
open Go

abbrev CodeIn : List Int → Prop := ListIn U8
theorem Tot.true {x : Option Bool} (h : Tot x (· = Bool.true)) : x = Option.some Bool.true := by obtain ⟨v, e, rfl⟩ := h; exact e

theorem FnValidHeap_L1_eq {h : List Cell} (D : Dn h) (V : VH h) {M : Nat} (hM : 2000000 ≤ M) {N i : Nat} (hi : i ≤ h.length) (hN : h.length - i < N) : laws_FnValidHeap_L1 M h N i = some (Sum.inr ()) := by
  have hl := D.len
  have H := D.hp
  refine loop_ind h.length (fun N i => laws_FnValidHeap_L1 M h N i = some (Sum.inr ())) ?_ ?_ hi hN
  · intro n
    rw [laws_FnValidHeap_L1, if_neg (by simp [len_def])]
  · intro n i hi ih
    rw [laws_FnValidHeap_L1, if_pos (by simp [len_def]; omega), get_lt (cat_lt hi), app_ok [] h 40 (by simp; omega) (by simp; omega)]
    simp only [Option.bind_some, List.nil_append]
    rw [get_lt (cat_lt hi), put_nat]
    simp only [Option.bind_some]
    rw [w_id (n := (i : Int) + 1) (by omega) (by omega), show ((i : Int) + 1) = ((i + 1 : Nat) : Int) by omega, ih]
    by_cases h1 : 0 < (cat h i).count
    · by_cases h2 : (cat h i).count < 999999
      · rw [w_id (n := (cat h i).count + 1) (by omega) (by omega)]
        have V2 : VH (h.set i ⟨(cat h i).count + 1, (cat h i).tag, (cat h i).fields⟩) := V.more (by simp) (x := i) h1 h2 fun k => by
          rw [cat_pt hi]
          by_cases e : k = i
          · subst e; rfl
          · simp [e]
        have C := (D.cells _ (cat_mem hi))
        have H2 : Hp (h.set i ⟨(cat h i).count + 1, (cat h i).tag, (cat h i).fields⟩) := (D.set (j := i) (c := ⟨(cat h i).count + 1, (cat h i).tag, (cat h i).fields⟩) ⟨⟨⟨by show _ ≤ (cat h i).count + 1; omega, by show (cat h i).count + 1 ≤ _; omega⟩, C.1.tag, C.1.flds⟩, C.2⟩).hp
        obtain ⟨b, r, _, _, _, e2, e3, _⟩ := valid_both H2 hM
        obtain rfl := e3.2 V2
        simp [h1, h2, e2]
      · simp [h1, h2]
    · simp [h1]

theorem FnValidHeap_plain {code : List Int} (hc : CodeIn code) : laws_FnValidHeap 2000000 code = some true := by
  refine Tot.true ?_
  unfold laws_FnValidHeap
  refine Tot.iteD (fun _ => Tot.some rfl) fun hl => ?_
  rw [len_def] at hl
  refine Tot.bind (DrawValidHeap_tot hc.1 (by omega) (Nat.le_refl _)) fun h D => ?_
  have H := D.hp
  have hlen := D.len
  obtain ⟨b, r, _, e1, _, e2, e3, _⟩ := valid_both H (Nat.le_refl 2000000)
  rw [e1, e2]
  simp only [Option.bind_some]
  cases b with
  | false => exact Tot.of (v := true) (by simp) rfl
  | true =>
    have V := e3.1 rfl
    have L := FnValidHeap_L1_eq D V (Nat.le_refl 2000000) (Nat.zero_le _) (by omega : h.length - 0 < 2000000)
    rw [show ((0 : Nat) : Int) = 0 from rfl] at L
    rw [L]
    simp only [bne_self_eq_false, Bool.false_eq_true, if_false, Bool.not_true, Option.bind_some, Sh.cont_inr]
    have hlast := V.last
    rw [lastFree_ct] at hlast
    by_cases h0 : h.length = 0
    · exact Tot.of (v := true) (by simp [len_def, h0]) rfl
    · have h1 : ct h (h.length - 1) ≠ 0 := hlast.resolve_left h0
      rw [if_neg (by rw [len_def]; simp; exact fun h => h0 (by rw [h]; rfl)), len_def, w_id (by omega) (by omega), show ((h.length : Int) - 1) = ((h.length - 1 : Nat) : Int) by omega, get_lt (cat_lt (by omega))]
      refine Tot.of (v := true) ?_ rfl
      unfold ct at h1
      simp [h1]

theorem FnRefsOf_plain {code : List Int} (hc : CodeIn code) : laws_FnRefsOf 2000000 code = some true := by
  refine Tot.true ?_
  unfold laws_FnRefsOf
  refine Tot.iteD (fun _ => Tot.some rfl) fun hl => ?_
  rw [len_def] at hl
  refine Tot.bind (DrawRefsOf_tot hc.1 (by omega) (Nat.le_refl _)) fun q ⟨D, _⟩ => ?_
  obtain ⟨h, k⟩ := q
  dsimp only at D ⊢
  have H := D.hp
  obtain ⟨v, e1, e2, e3, e4⟩ := RefsOf_both H k (Nat.le_refl 2000000)
  rw [e1, e2]
  simp only [Option.bind_some]
  by_cases hv : v < 0
  · exact Tot.of (v := true) (by simp [hv]) rfl
  · have V : VH h := by
      by_cases V : VH h
      · exact V
      · have := e4 V; omega
    have hr := e3 V
    unfold refAt at hr
    cases hk : h[k.toNat]? with
    | none => rw [hk] at hr; simp only at hr; omega
    | some c =>
      rw [hk] at hr
      simp only at hr
      have hp : 0 ≤ k ∧ 1 ≤ c.count := by
        by_cases hp : 0 ≤ k ∧ 1 ≤ c.count
        · exact hp
        · rw [if_neg hp] at hr; omega
      rw [if_pos hp, tot_inA] at hr
      have hct : ct h k.toNat = c.count := by unfold ct; rw [cat_of hk]
      rw [if_pos (by omega)] at hr
      have hle := V.cnt (j := k.toNat) (by omega)
      have hg : Sh.get h k = some c := by rw [get_pos' hp.1, hk]
      refine Tot.of (v := true) ?_ rfl
      have h1 : v ≤ c.count := by omega
      have h2 : 0 < c.count := by omega
      simp [hv, hg, h1, h2]

/-! ### Each pointer refers to one cell -/

def np (ws : List Int) : Nat := ws.countP fun w => decide (1000 ≤ w)
theorem np_nil : np [] = 0 := rfl
theorem np_cons (w : Int) (ws : List Int) : np (w :: ws) = (if 1000 ≤ w then 1 else 0) + np ws := by simp [np, List.countP_cons]; omega
theorem np_le (ws : List Int) : np ws ≤ ws.length := List.countP_le_length
def sm (f : Nat → Nat) : Nat → Nat
  | 0 => 0
  | n + 1 => sm f n + f n
theorem sm_congr {f g : Nat → Nat} {n : Nat} (e : ∀ i, i < n → f i = g i) : sm f n = sm g n := by
  induction n with
  | zero => rfl
  | succ n ih => unfold sm; rw [ih fun i hi => e i (by omega), e n (by omega)]
theorem sm_add (f g : Nat → Nat) (n : Nat) : sm (fun i => f i + g i) n = sm f n + sm g n := by
  induction n with
  | zero => rfl
  | succ n ih => unfold sm; rw [ih]; omega
theorem sm_one {n k : Nat} (hk : k < n) : sm (fun i => if i = k then 1 else 0) n = 1 := by
  have hz : ∀ m, m ≤ k → sm (fun i => if i = k then 1 else 0) m = 0 := by
    intro m
    induction m with
    | zero => intro _; rfl
    | succ m ih => intro hm; unfold sm; rw [ih (by omega)]; simp; omega
  induction n with
  | zero => omega
  | succ n ih =>
    unfold sm
    by_cases e : k = n
    · subst e; rw [hz k (Nat.le_refl _)]; simp
    · rw [ih (by omega)]; simp; omega
theorem sm_zero {f : Nat → Nat} {n : Nat} (e : ∀ i, i < n → f i = 0) : sm f n = 0 := by
  induction n with
  | zero => rfl
  | succ n ih => unfold sm; rw [ih fun i hi => e i (by omega), e n (by omega)]
theorem sm_pc {n : Nat} : ∀ ws : List Int, (∀ w ∈ ws, 1000 ≤ w → (w - 1000).toNat < n) → sm (fun j => pc ws j) n = np ws
  | [], _ => sm_zero fun _ _ => rfl
  | w :: ws, h => by
    have e : (fun j : Nat => pc (w :: ws) j) = fun j : Nat => (if w = 1000 + (j : Int) then 1 else 0) + pc ws j := funext fun j => pc_cons w ws j
    rw [e, sm_add, sm_pc ws fun v hv => h v (List.mem_cons_of_mem _ hv), np_cons]
    congr 1
    by_cases hw : 1000 ≤ w
    · rw [if_pos hw]
      refine Eq.trans (sm_congr fun j _ => ?_) (sm_one (h w (List.mem_cons_self ..) hw))
      by_cases e : j = (w - 1000).toNat
      · rw [if_pos (by omega), if_pos e]
      · rw [if_neg (by omega), if_neg e]
    · rw [if_neg hw]
      exact sm_zero fun j _ => if_neg (by omega)
theorem sm_inn {h : List Cell} {n : Nat} (hb : ∀ i, ∀ w ∈ fl h i, 1000 ≤ w → (w - 1000).toNat < n) : ∀ a, sm (fun j => inn h (fun _ => true) j a) n = sm (fun i => np (fl h i)) a := by
  intro a
  induction a with
  | zero => exact sm_zero fun _ _ => rfl
  | succ a ih =>
    have e : (fun j : Nat => inn h (fun _ => true) j (a + 1)) = fun j : Nat => inn h (fun _ => true) j a + pc (fl h a) j := funext fun j => by simp [inn]
    rw [e, sm_add, ih, sm_pc _ (hb a)]; rfl

/-- What is added up cell by cell. -/
def rf (h : List Cell) (j : Nat) : Nat := if 0 < ct h j then inA h j else 0
theorem all_refs {h : List Cell} (V : VH h) : sm (rf h) h.length = sm (fun i => np (fl h i)) h.length := by
  rw [← sm_inn (n := h.length) (fun i w hw h1 => ct_lt (by have := V.fields i w hw h1; omega)) h.length]
  refine sm_congr fun j _ => ?_
  unfold rf
  split
  · rfl
  · rename_i hj
    exact (inn_zero fun i _ _ => by
      cases hp : pc (fl h i) j with
      | zero => rfl
      | succ m =>
        have := V.fields i _ (pc_pos.1 (by rw [hp]; omega)) (by omega)
        rw [show (1000 + (j : Int) - 1000).toNat = j by omega] at this
        exact absurd this hj).symm

theorem RefsAll_L2_eq {q : List Cell × Int} (D : Dn q.1) {i : Nat} (hi : i < q.1.length) {N k : Nat} (hk : k ≤ (fl q.1 i).length) (hN : (fl q.1 i).length - k < N) : ∀ p : Nat, p ≤ 1000 + k →
    laws_FnRefsOfAll_L2 i q N (p : Int) k = some ((p + np ((fl q.1 i).drop k) : Nat) : Int) := by
  have hf : (fl q.1 i).length ≤ 4 := by rw [fl_cat]; exact (D.cells _ (cat_mem hi)).2
  refine loop_ind (fl q.1 i).length (fun N k => ∀ p : Nat, p ≤ 1000 + k → laws_FnRefsOfAll_L2 i q N (p : Int) k = some ((p + np ((fl q.1 i).drop k) : Nat) : Int)) ?_ ?_ hk hN
  · intro n p _
    rw [laws_FnRefsOfAll_L2, get_lt (cat_lt hi)]
    simp only [Option.bind_some]
    rw [if_neg (by simp [len_def, fl_cat])]
    simp [np_nil]
  · intro n k hk ih p hp
    obtain ⟨x, hx, _⟩ := at_lt hk
    rw [laws_FnRefsOfAll_L2, get_lt (cat_lt hi)]
    simp only [Option.bind_some]
    rw [if_pos (by simp [len_def]; rw [← fl_cat]; omega), ← fl_cat, get_lt hx, drop_cons hx, np_cons]
    simp only [Option.bind_some]
    rw [w_id (n := (k : Int) + 1) (by omega) (by omega), show ((k : Int) + 1) = ((k + 1 : Nat) : Int) by omega]
    by_cases h1 : 1000 ≤ x
    · rw [if_pos (by simpa using h1), w_id (by omega) (by omega), show ((p : Int) + 1) = ((p + 1 : Nat) : Int) by omega]
      simp only [Option.bind_some]
      rw [ih (p + 1) (by omega), if_pos h1, show p + 1 + np ((fl q.1 i).drop (k + 1)) = p + (1 + np ((fl q.1 i).drop (k + 1))) by omega]
    · rw [if_neg (by simpa using h1)]
      simp only [Option.bind_some]
      rw [ih p (by omega), if_neg h1, Nat.zero_add]

theorem RefsAll_L1_eq {q : List Cell × Int} (D : Dn q.1) (V : VH q.1) {M : Nat} (hM : 2000000 ≤ M) {N i : Nat} (hi : i ≤ q.1.length) (hN : q.1.length - i < N) :
    laws_FnRefsOfAll_L1 M q N (sm (rf q.1) i : Nat) (sm (fun i => np (fl q.1 i)) i : Nat) i = some (((sm (rf q.1) q.1.length : Nat) : Int), ((sm (fun i => np (fl q.1 i)) q.1.length : Nat) : Int)) := by
  have hl := D.len
  have H := D.hp
  have hfs := D.fsum
  refine loop_ind q.1.length (fun N i => laws_FnRefsOfAll_L1 M q N (sm (rf q.1) i : Nat) (sm (fun i => np (fl q.1 i)) i : Nat) i = some (((sm (rf q.1) q.1.length : Nat) : Int), ((sm (fun i => np (fl q.1 i)) q.1.length : Nat) : Int))) ?_ ?_ hi hN
  · intro n
    rw [laws_FnRefsOfAll_L1, if_neg (by simp [len_def])]
  · intro n i hi ih
    have hbound : ∀ a, a ≤ q.1.length → sm (rf q.1) a ≤ 80 * a := by
      intro a
      induction a with
      | zero => intro _; exact Nat.le_refl _
      | succ a iha =>
        intro ha
        have h1 := iha (by omega)
        have h2 : rf q.1 a ≤ 76 := by
          unfold rf
          split
          · rename_i hp
            have h3 := tot_le q.1 q.1 a
            rw [tot_inA, if_pos hp] at h3; omega
          · omega
        unfold sm; omega
    have hbound2 : ∀ a, a ≤ q.1.length → sm (fun i => np (fl q.1 i)) a ≤ 4 * a := by
      intro a
      induction a with
      | zero => intro _; exact Nat.le_refl _
      | succ a iha =>
        intro ha
        have h1 := iha (by omega)
        have h2 := np_le (fl q.1 a)
        have h3 : (fl q.1 a).length ≤ 4 := by rw [fl_cat]; exact (D.cells _ (cat_mem (by omega))).2
        unfold sm
        omega
    have b1 := hbound i (by omega)
    have b2 := hbound2 i (by omega)
    have b3 := hbound (i + 1) (by omega)
    rw [laws_FnRefsOfAll_L1, if_pos (by simp [len_def]; omega), get_lt (cat_lt hi)]
    simp only [Option.bind_some]
    obtain ⟨v, _, e2, e3, _⟩ := RefsOf_both H (i : Int) hM
    have hv := e3 V
    have L2 := RefsAll_L2_eq D hi (Nat.zero_le _) (by have h3 : (fl q.1 i).length ≤ 4 := (by rw [fl_cat]; exact (D.cells _ (cat_mem hi)).2); omega : (fl q.1 i).length - 0 < M) (sm (fun i => np (fl q.1 i)) i) (by omega)
    rw [show ((0 : Nat) : Int) = 0 from rfl, List.drop_zero] at L2
    rw [L2, e2, w_id (n := (i : Int) + 1) (by omega) (by omega), show ((i : Int) + 1) = ((i + 1 : Nat) : Int) by omega]
    simp only [Option.bind_some]
    have hs2 : sm (fun i => np (fl q.1 i)) (i + 1) = sm (fun i => np (fl q.1 i)) i + np (fl q.1 i) := rfl
    rw [← hs2]
    by_cases hp : 0 < (cat q.1 i).count
    · have hv2 : v = (rf q.1 i : Int) := by
        rw [hv]
        unfold refAt rf
        have hct : 0 < ct q.1 i := hp
        simp only [Int.toNat_natCast]
        rw [cat_lt hi, if_pos hct]
        simp only
        rw [if_pos ⟨by omega, by omega⟩, tot_inA, if_pos hct]
      rw [if_pos (by simpa using hp), hv2]
      have hs1 : sm (rf q.1) (i + 1) = sm (rf q.1) i + rf q.1 i := rfl
      rw [w_id (by omega) (by omega), show (((sm (rf q.1) i : Nat) : Int) + (rf q.1 i : Int)) = ((sm (rf q.1) (i + 1) : Nat) : Int) by rw [hs1]; omega]
      simp only [Option.bind_some]
      exact ih
    · rw [if_neg (by simpa using hp)]
      have hs1 : sm (rf q.1) (i + 1) = sm (rf q.1) i := by
        show sm (rf q.1) i + rf q.1 i = _
        have : rf q.1 i = 0 := if_neg hp
        omega
      simp only [Option.bind_some]
      rw [← hs1]
      exact ih

theorem FnRefsOfAll_plain {code : List Int} (hc : CodeIn code) : laws_FnRefsOfAll 2000000 code = some true := by
  refine Tot.true ?_
  unfold laws_FnRefsOfAll
  refine Tot.iteD (fun _ => Tot.some rfl) fun hl => ?_
  rw [len_def] at hl
  refine Tot.bind (DrawRefsOf_tot hc.1 (by omega) (Nat.le_refl _)) fun q ⟨D, _⟩ => ?_
  have H := D.hp
  have hlen := D.len
  obtain ⟨v, e1, e2, e3, e4⟩ := RefsOf_both H q.2 (Nat.le_refl 2000000)
  rw [e1, e2]
  simp only [Option.bind_some]
  by_cases hv : v < 0
  · exact Tot.of (v := true) (by simp [hv]) rfl
  · have V : VH q.1 := by
      by_cases V : VH q.1
      · exact V
      · have := e4 V; omega
    have L := RefsAll_L1_eq D V (Nat.le_refl 2000000) (Nat.zero_le _) (by omega : q.1.length - 0 < 2000000)
    rw [show ((0 : Nat) : Int) = 0 from rfl] at L
    have L' : laws_FnRefsOfAll_L1 2000000 q 2000000 0 0 0 = some (((sm (rf q.1) q.1.length : Nat) : Int), ((sm (fun i => np (fl q.1 i)) q.1.length : Nat) : Int)) := L
    rw [L']
    refine Tot.of (v := true) ?_ rfl
    simp [hv, all_refs V]

/-! ### Live cells -/

theorem live_count (h : List Cell) : live h = (List.range h.length).countP fun j => decide (0 < ct h j) := by
  have e : live h = (rowOf h.length (cat h)).countP fun c => decide (0 < c.count) := by rw [rowOf_cat]; rfl
  rw [e]
  unfold rowOf
  rw [List.countP_map]; rfl
theorem liveIn_L1_eq {h : List Cell} (hl : h.length ≤ 1048576) {N i : Nat} (hi : i ≤ h.length) (hN : h.length - i < N) : ∀ acc : List Nat, acc.length ≤ i → laws_liveIn_L1 h N i (nats acc) = some (nats (acc ++ mk (fun j => decide (0 < ct h j)) h.length i)) := by
  refine loop_ind h.length (fun N i => ∀ acc : List Nat, acc.length ≤ i → laws_liveIn_L1 h N i (nats acc) = some (nats (acc ++ mk (fun j => decide (0 < ct h j)) h.length i))) ?_ ?_ hi hN
  · intro n acc _
    rw [laws_liveIn_L1, if_neg (by simp [len_def]), mk_end, List.append_nil]
  · intro n i hi ih acc ha
    rw [laws_liveIn_L1, if_pos (by simp [len_def]; omega), get_lt (cat_lt hi)]
    simp only [Option.bind_some]
    rw [w_id (by omega) (by omega), show ((i : Int) + 1) = ((i + 1 : Nat) : Int) by omega, mk_step hi]
    by_cases h1 : 0 < ct h i
    · rw [if_pos (show decide (0 < (cat h i).count) = true from decide_eq_true h1), if_pos (decide_eq_true h1), app_ok _ _ 8 (by rw [nats_len]; simp; omega) (by rw [nats_len]; simp; omega)]
      simp only [Option.bind_some]
      have := ih (acc ++ [i]) (by simp; omega)
      rw [nats_append, List.append_assoc] at this
      exact this
    · rw [if_neg (show ¬ decide (0 < (cat h i).count) = true by simpa [ct] using h1), if_neg (by simpa using h1)]
      simp only [Option.bind_some, List.nil_append]
      exact ih acc (by omega)
theorem liveIn_eq {h : List Cell} (hl : h.length ≤ 1048576) {N : Nat} (hN : 2000000 ≤ N) : laws_liveIn N h = some (nats (mk (fun j => decide (0 < ct h j)) h.length 0)) := by
  unfold laws_liveIn
  have := liveIn_L1_eq hl (Nat.zero_le _) (by omega : h.length - 0 < N) [] (by simp)
  rw [show ((0 : Nat) : Int) = 0 from rfl, show nats [] = [] from rfl, List.nil_append] at this
  rw [this]; rfl

def ptrs (n : Nat) : List Int := (List.range n).map fun i : Nat => 1000 + (i : Int)
theorem ptrs_succ (n : Nat) : ptrs (n + 1) = ptrs n ++ [1000 + (n : Int)] := by simp [ptrs, List.range_succ]
theorem LiveCells_L1_eq {h : List Cell} (hl : h.length ≤ 1000) {N i : Nat} (hi : i ≤ h.length) (hN : h.length - i < N) : laws_FnLiveCells_L1 h N i (ptrs i) = some (ptrs h.length) := by
  refine loop_ind h.length (fun N i => laws_FnLiveCells_L1 h N i (ptrs i) = some (ptrs h.length)) ?_ ?_ hi hN
  · intro n
    rw [laws_FnLiveCells_L1, if_neg (by simp [len_def])]
  · intro n i hi ih
    rw [laws_FnLiveCells_L1, if_pos (by simp [len_def]; omega), w_id (n := 1000 + (i : Int)) (by omega) (by omega), app_ok _ _ 8 (by simp [ptrs]; omega) (by simp [ptrs]; omega)]
    simp only [Option.bind_some]
    rw [w_id (by omega) (by omega), show ((i : Int) + 1) = ((i + 1 : Nat) : Int) by omega, ← ptrs_succ]
    exact ih

theorem FnLiveCells_plain {code : List Int} (hc : CodeIn code) : laws_FnLiveCells 2000000 code = some true := by
  refine Tot.true ?_
  unfold laws_FnLiveCells
  refine Tot.iteD (fun _ => Tot.some rfl) fun hl => ?_
  rw [len_def] at hl
  refine Tot.bind (DrawLiveCells_tot hc.1 (by omega) (Nat.le_refl _)) fun h D => ?_
  have H := D.hp
  have hlen := D.len
  have hsz := D.size
  obtain ⟨v, e1, e2, e3, e4⟩ := LiveCells_both H (Nat.le_refl 2000000)
  rw [e1, e2]
  simp only [Option.bind_some]
  by_cases hv : v < 0
  · exact Tot.of (v := true) (by simp [hv]) rfl
  · have V : VH h := by
      by_cases V : VH h
      · exact V
      · have := e4 V; omega
    have L := LiveCells_L1_eq (h := h) (by omega) (Nat.zero_le _) (by omega : h.length - 0 < 2000000)
    rw [show ((0 : Nat) : Int) = 0 from rfl, show ptrs 0 = [] from rfl] at L
    obtain ⟨out, _, r2, _, r4⟩ := ReachOf_both H (W := ptrs h.length) (fun w hw => by
      simp only [ptrs, List.mem_map, List.mem_range] at hw
      obtain ⟨i, hi, rfl⟩ := hw
      exact ⟨by omega, by omega⟩) (by simp [ptrs]; omega) (by simp [ptrs]; omega) (Nat.le_refl 2000000)
    obtain ⟨m, R, ho⟩ := r4 V
    have hm : mk m h.length 0 = mk (fun j => decide (0 < ct h j)) h.length 0 := by
      unfold mk
      refine List.filter_congr fun j hj => ?_
      have hjl : j < h.length := by simpa using hj
      cases hmj : m j with
      | true => exact (decide_eq_true (R.live j hmj)).symm
      | false =>
        refine (decide_eq_false fun hp => ?_).symm
        have hw : (1000 + (j : Int)) ∈ ptrs h.length := by simp only [ptrs, List.mem_map, List.mem_range]; exact ⟨j, hjl, rfl⟩
        rcases R.words _ hw (by omega) (by rw [show (1000 + (j : Int) - 1000).toNat = j by omega]; exact hp) with h1 | h1
        · rw [show (1000 + (j : Int) - 1000).toNat = j by omega, hmj] at h1; cases h1
        · cases h1
    rw [L]
    simp only [Option.bind_some]
    rw [r2, liveIn_eq (by omega) (Nat.le_refl 2000000), ho, hm]
    have hcnt : (nats (mk (fun j => decide (0 < ct h j)) h.length 0)).length = live h := by rw [nats_len, mk_count, live_count]
    have hv3 := e3 V
    refine Tot.of (v := true) ?_ rfl
    simp [hv, len_def, hcnt, hv3]

/-! ### Reached cells are closed -/

theorem isIn_L1_mem {l : List Int} {x : Int} (hl : l.length ≤ 1048576) {N i : Nat} (hi : i ≤ l.length) (hN : l.length - i < N) : laws_isIn_L1 l x N i = some (if x ∈ l.drop i then Sum.inl true else Sum.inr ()) := by
  refine loop_ind l.length (fun N i => laws_isIn_L1 l x N i = some (if x ∈ l.drop i then Sum.inl true else Sum.inr ())) ?_ ?_ hi hN
  · intro n
    rw [laws_isIn_L1, if_neg (by simp [len_def])]; simp
  · intro n i hi ih
    obtain ⟨y, hy, _⟩ := at_lt hi
    rw [laws_isIn_L1, if_pos (by simp [len_def]; omega), get_lt hy]
    simp only [Option.bind_some]
    rw [w_id (by omega) (by omega), show ((i : Int) + 1) = ((i + 1 : Nat) : Int) by omega, ih, drop_cons hy]
    by_cases e : y = x
    · subst e; simp
    · have e' : ¬ x = y := fun h => e h.symm
      simp [e, e']
theorem isIn_eq {l : List Int} {x : Int} (hl : l.length ≤ 1048576) {N : Nat} (hN : 2000000 ≤ N) : laws_isIn N l x = some (decide (x ∈ l)) := by
  unfold laws_isIn
  have := isIn_L1_mem (x := x) hl (Nat.zero_le _) (by omega : l.length - 0 < N)
  rw [show ((0 : Nat) : Int) = 0 from rfl, List.drop_zero] at this
  rw [this]
  by_cases h : x ∈ l <;> simp [h]
theorem mem_nats {a : List Nat} {j : Nat} : ((j : Nat) : Int) ∈ nats a ↔ j ∈ a := by
  unfold nats
  rw [List.mem_map]
  constructor
  · rintro ⟨x, h1, h2⟩
    have : x = j := Int.ofNat_inj.1 h2
    subst this; exact h1
  · intro h; exact ⟨j, h, rfl⟩
theorem nats_get {a : List Nat} {i : Nat} {x : Nat} (h : a[i]? = some x) : (nats a)[i]? = some (x : Int) := by simp [nats, h]

theorem ascends_L1_eq {a : List Nat} (ha : a.Pairwise (· < ·)) (hl : a.length ≤ 1048576) {N i : Nat} (h1 : 1 ≤ i) (hi : i ≤ a.length) (hN : a.length - i < N) : laws_ascends_L1 (nats a) N i = some (Sum.inr ()) := by
  refine loop_ind a.length (fun N i => 1 ≤ i → laws_ascends_L1 (nats a) N i = some (Sum.inr ())) ?_ ?_ hi hN h1
  · intro n _
    rw [laws_ascends_L1, if_neg (by simp [len_def, nats_len])]
  · intro n i hi ih h1
    obtain ⟨x, hx, _⟩ := at_lt hi
    obtain ⟨y, hy, _⟩ := at_lt (l := a) (i := i - 1) (by omega)
    rw [laws_ascends_L1, if_pos (by simp [len_def, nats_len]; omega), get_lt (nats_get hx)]
    simp only [Option.bind_some]
    rw [w_id (n := (i : Int) - 1) (by omega) (by omega), show ((i : Int) - 1) = ((i - 1 : Nat) : Int) by omega, get_lt (nats_get hy)]
    simp only [Option.bind_some]
    obtain ⟨q1, rfl⟩ := List.getElem?_eq_some_iff.1 hx
    obtain ⟨q2, rfl⟩ := List.getElem?_eq_some_iff.1 hy
    have := List.pairwise_iff_getElem.1 ha (i - 1) i q2 q1 (by omega)
    rw [if_neg (by simp; omega), w_id (by omega) (by omega), show ((i : Int) + 1) = ((i + 1 : Nat) : Int) by omega]
    exact ih (by omega)
theorem ascends_eq {a : List Nat} (ha : a.Pairwise (· < ·)) (hl : a.length ≤ 1048576) {N : Nat} (hN : 2000000 ≤ N) : laws_ascends N (nats a) = some true := by
  unfold laws_ascends
  by_cases h0 : a.length = 0
  · have : a = [] := List.eq_nil_of_length_eq_zero h0
    subst this
    obtain ⟨N', rfl⟩ : ∃ N', N = N' + 1 := ⟨N - 1, by omega⟩
    rw [laws_ascends_L1]; simp [len_def, nats]
  · have := ascends_L1_eq ha hl (Nat.le_refl 1) (by omega) (by omega : a.length - 1 < N)
    rw [show ((1 : Nat) : Int) = 1 from rfl] at this
    rw [this]; rfl
theorem mk_pair (m : Nat → Bool) (n : Nat) : (mk m n 0).Pairwise (· < ·) := by
  unfold mk
  exact List.Pairwise.filter _ List.pairwise_lt_range'

theorem ReachOf_L2_eq {h : List Cell} {W : List Int} {m : Nat → Bool} (V : VH h) (hl : h.length ≤ 1000) (R : RI h W [] m) {x : Nat} (hx : m x = true) {M : Nat} (hM : 2000000 ≤ M) {N k : Nat} (hk : k ≤ (cat h x).fields.length) (hN : (cat h x).fields.length - k < N) :
    laws_FnReachOf_L2 M (cat h x) (nats (mk m h.length 0)) N k = some (Sum.inr ()) := by
  have hf : (cat h x).fields.length ≤ 3 := ((cellS_iff _ _).1 (V.cell x)).1
  refine loop_ind (cat h x).fields.length (fun N k => laws_FnReachOf_L2 M (cat h x) (nats (mk m h.length 0)) N k = some (Sum.inr ())) ?_ ?_ hk hN
  · intro n
    rw [laws_FnReachOf_L2, if_neg (by simp [len_def])]
  · intro n k hk ih
    obtain ⟨w, hw, hwm⟩ := at_lt hk
    rw [laws_FnReachOf_L2, if_pos (by simp [len_def]; omega), get_lt hw]
    simp only [Option.bind_some]
    rw [w_id (n := (k : Int) + 1) (by omega) (by omega), show ((k : Int) + 1) = ((k + 1 : Nat) : Int) by omega, ih]
    by_cases h1 : 1000 ≤ w
    · have hfl : w ∈ fl h x := by rw [fl_cat]; exact hwm
      have h2 := V.fields x w hfl h1
      have h3 := ct_lt (h := h) (j := (w - 1000).toNat) (by omega)
      have h4 : m (w - 1000).toNat = true := (R.closed x hx w hfl h1 h2).resolve_right (List.not_mem_nil)
      have hml := mk_len m h.length 0
      rw [if_pos (by simpa using h1), w_id (n := w - 1000) (by omega) (by omega), isIn_eq (by rw [nats_len]; omega) hM]
      have h5 : (w - 1000) ∈ nats (mk m h.length 0) := by
        rw [show w - 1000 = (((w - 1000).toNat : Nat) : Int) by omega, mem_nats, mk_mem]; exact ⟨h3, h4⟩
      simp [h5]
    · rw [if_neg (by simpa using h1)]; simp

theorem ReachOf_L1_eq {q : List Cell × List Int} {m : Nat → Bool} (V : VH q.1) (hl : q.1.length ≤ 1000) (R : RI q.1 q.2 [] m) {M : Nat} (hM : 2000000 ≤ M) {N i : Nat} (hi : i ≤ (mk m q.1.length 0).length) (hN : (mk m q.1.length 0).length - i < N) :
    laws_FnReachOf_L1 M q (nats (mk m q.1.length 0)) N i = some (Sum.inr ()) := by
  have hml := mk_len m q.1.length 0
  refine loop_ind (mk m q.1.length 0).length (fun N i => laws_FnReachOf_L1 M q (nats (mk m q.1.length 0)) N i = some (Sum.inr ())) ?_ ?_ hi hN
  · intro n
    rw [laws_FnReachOf_L1, if_neg (by simp [len_def, nats_len])]
  · intro n i hi ih
    obtain ⟨x, hx, hxm⟩ := at_lt hi
    obtain ⟨x1, x2⟩ := mk_mem.1 hxm
    have hct := R.live x x2
    have hf : (cat q.1 x).fields.length ≤ 3 := ((cellS_iff _ _).1 (V.cell x)).1
    rw [laws_FnReachOf_L1, if_pos (by simp [len_def, nats_len]; omega), get_lt (nats_get hx)]
    simp only [Option.bind_some]
    rw [get_lt (cat_lt x1)]
    simp only [Option.bind_some]
    have L := ReachOf_L2_eq V hl R x2 hM (Nat.zero_le _) (by omega : (cat q.1 x).fields.length - 0 < M)
    rw [show ((0 : Nat) : Int) = 0 from rfl] at L
    rw [if_neg (by simp; unfold ct at hct; omega), L]
    simp only [Sh.cont_inr]
    rw [w_id (by omega) (by omega), show ((i : Int) + 1) = ((i + 1 : Nat) : Int) by omega]
    exact ih

theorem FnReachOf_plain {code : List Int} (hc : CodeIn code) : laws_FnReachOf 2000000 code = some true := by
  refine Tot.true ?_
  unfold laws_FnReachOf
  refine Tot.iteD (fun _ => Tot.some rfl) fun hl => ?_
  rw [len_def] at hl
  refine Tot.bind (DrawReachOf_tot hc.1 (by omega) (Nat.le_refl _)) fun q ⟨D, hq1, hq2⟩ => ?_
  have H := D.hp
  have hlen := D.len
  have hsz := D.size
  obtain ⟨out, r1, r2, r3, r4⟩ := ReachOf_both H (W := q.2) (fun w hw => (hq2 w hw).i64) (by omega) (by omega) (Nat.le_refl 2000000)
  rw [r1, r2]
  simp only [Option.bind_some]
  have hol : out.length ≤ 1000 := by
    by_cases V : VH q.1
    · obtain ⟨m, _, ho⟩ := r4 V
      have := mk_len m q.1.length 0
      rw [ho, nats_len]; omega
    · rw [r3 V]; simp
  rw [equalInts_eq (l := out) (by omega) (Nat.le_refl 2000000)]
  simp only [Option.bind_some, Bool.not_true, Bool.false_eq_true, if_false, len_def]
  by_cases h0 : out.length = 0
  · exact Tot.of (v := true) (by simp [h0]) rfl
  · have V : VH q.1 := by
      by_cases V : VH q.1
      · exact V
      · exact absurd (by rw [r3 V]; rfl) h0
    obtain ⟨m, R, ho⟩ := r4 V
    have hml := mk_len m q.1.length 0
    have L := ReachOf_L1_eq V (by omega) R (Nat.le_refl 2000000) (Nat.zero_le _) (by omega : (mk m q.1.length 0).length - 0 < 2000000)
    rw [show ((0 : Nat) : Int) = 0 from rfl, ← ho] at L
    have ha := ascends_eq (mk_pair m q.1.length) (by omega) (Nat.le_refl 2000000)
    rw [← ho] at ha
    rw [L, ha]
    refine Tot.of (v := true) ?_ rfl
    rw [if_neg (by simp; exact fun h => h0 (by rw [h]; rfl))]
    rfl
end RC
