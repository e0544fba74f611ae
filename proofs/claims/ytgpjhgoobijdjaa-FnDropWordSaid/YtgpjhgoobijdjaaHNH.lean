/- Laws of heaps: new cells, references more and less. -/
import Derived.Test.YtgpjhgoobijdjaaHNG
namespace RC
open Go

theorem VH.hp {h : List Cell} (V : VH h) (hl : h.length ≤ 1000) : Hp h := (V.sm hl (by omega)).hp (by omega) (by omega)
theorem equalHeap_nil : laws_equalHeap 2000000 [] [] = some true := equalHeap_eq Hp.nil (Nat.le_refl _)

/-! ### New cells -/

theorem ff_lt_iff (h : List Cell) {i : Nat} (hi : i < h.length) : ff h < i + 1 ↔ ff h < i ∨ ct h i = 0 := by
  constructor
  · intro h1
    by_cases e : ff h = i
    · exact .inr (by rw [← e]; exact ff_free h)
    · exact .inl (by omega)
  · rintro (h1 | h1)
    · omega
    · by_cases e : i < ff h
      · exact absurd h1 (ff_before h e)
      · omega

theorem AllocFirst_L1_eq {q7 : List Cell × Int × List Int} {q9 : List Cell × Int} (hl : q7.1.length ≤ 1000) (hw : q9.2 = 1000 + (ff q7.1 : Int)) {N i : Nat} (hi : i ≤ q7.1.length) (hN : q7.1.length - i < N) :
    laws_FnAllocCellFirst_L1 q7 q9 N (decide (ff q7.1 < i)) i = some (Sum.inr (decide (ff q7.1 < q7.1.length))) := by
  have hff := ff_le q7.1
  refine loop_ind q7.1.length (fun N i => laws_FnAllocCellFirst_L1 q7 q9 N (decide (ff q7.1 < i)) i = some (Sum.inr (decide (ff q7.1 < q7.1.length)))) ?_ ?_ hi hN
  · intro n
    rw [laws_FnAllocCellFirst_L1, if_neg (by simp [len_def])]
  · intro n i hi ih
    rw [laws_FnAllocCellFirst_L1, if_pos (by simp [len_def]; omega), get_lt (cat_lt hi)]
    simp only [Option.bind_some]
    rw [hw, w_id (n := 1000 + (ff q7.1 : Int) - 1000) (by omega) (by omega), w_id (n := (i : Int) + 1) (by omega) (by omega), show ((i : Int) + 1) = ((i + 1 : Nat) : Int) by omega]
    have key : (if (decide ((cat q7.1 i).count = 0)) = true then some (decide ((i : Int) < 1000 + (ff q7.1 : Int) - 1000)) else some false) = some false := by
      by_cases h1 : (cat q7.1 i).count = 0
      · rw [if_pos (by simpa using h1)]
        have h2 : ¬ i < ff q7.1 := fun h2 => ff_before q7.1 h2 h1
        congr 1
        simp; omega
      · rw [if_neg (by simpa using h1)]
    rw [key]
    simp only [Option.bind_some, Bool.false_eq_true, if_false]
    have h3 := ff_lt_iff q7.1 hi
    by_cases h4 : ff q7.1 < i
    · have h5 : ff q7.1 < i + 1 := by omega
      simp only [h4, decide_true, if_true, Sh.cont_inr]
      have := ih
      simp only [h5, decide_true] at this
      exact this
    · simp only [h4, decide_false, Bool.false_eq_true, if_false, Sh.cont_inr]
      have e : decide ((cat q7.1 i).count = 0) = decide (ff q7.1 < i + 1) := decide_eq_decide.2 ⟨fun h => h3.2 (.inr h), fun h => (h3.1 h).resolve_left h4⟩
      rw [e]; exact ih

theorem FnAllocCellFirst_plain {code : List Int} (hc : CodeIn code) : laws_FnAllocCellFirst 2000000 code = some true := by
  refine Tot.true ?_
  unfold laws_FnAllocCellFirst
  refine Tot.iteD (fun _ => Tot.some rfl) fun hl => ?_
  rw [len_def] at hl
  refine Tot.bind (DrawAllocCell_tot hc.1 (by omega) (Nat.le_refl _)) fun q ⟨D, ht, hf, hF⟩ => ?_
  have H := D.hp
  have hlen := D.len
  have hsz := D.size
  obtain ⟨b, e1, e2, e3⟩ := AllocCell_both (t := q.2.1) (fs := q.2.2) H (by omega) ht.i64 (fun x hx => (hF x hx).i64) (Nat.le_refl 2000000)
  rw [e1, e2]
  simp only [Option.bind_some]
  cases b with
  | false => exact Tot.of (v := true) (by simp [equalHeap_nil]) rfl
  | true =>
    have M := e3.1 rfl
    have hla := len_alc q.1 ⟨1, q.2.1, q.2.2⟩
    have hff := ff_le q.1
    have Ha : Hp (alc q.1 ⟨1, q.2.1, q.2.2⟩) := M.2.hp (by rw [hla]; split <;> omega)
    simp only [if_true]
    rw [equalHeap_eq Ha (Nat.le_refl 2000000)]
    have L := AllocFirst_L1_eq (q7 := q) (q9 := (alc q.1 ⟨1, q.2.1, q.2.2⟩, 1000 + (ff q.1 : Int))) (by omega) rfl (Nat.zero_le _) (by omega : q.1.length - 0 < 2000000)
    rw [show ((0 : Nat) : Int) = 0 from rfl, show decide (ff q.1 < 0) = false by simp] at L
    have h0 : ¬ ((1000 : Int) + (ff q.1 : Int) = 0) := by omega
    rw [L]
    simp only [Option.bind_some, Bool.not_true, Bool.false_eq_true, if_false, decide_true, h0, decide_false, Sh.cont_inr, len_def, hla]
    refine Tot.of (v := true) ?_ rfl
    by_cases h1 : ff q.1 < q.1.length
    · simp [h1]
    · simp only [h1, decide_false, if_false]
      rw [w_id (by omega) (by omega)]
      have h2 : ¬ ((q.1.length : Int) + 1 = (q.1.length : Int)) := by omega
      simp [h2]

theorem Alloc_L1_eq {q7 : List Cell × Int × List Int} {q9 : List Cell × Int} {c : Cell} (hl : q7.1.length ≤ 1000) (H : Hp q7.1) (h9 : q9 = (alc q7.1 c, 1000 + (ff q7.1 : Int))) {M : Nat} (hM : 2000000 ≤ M) {N i : Nat} (hi : i ≤ q7.1.length) (hN : q7.1.length - i < N) :
    laws_FnAllocCell_L1 M q7 q9 N i = some (Sum.inr ()) := by
  have hff := ff_le q7.1
  have hla := len_alc q7.1 c
  refine loop_ind q7.1.length (fun N i => laws_FnAllocCell_L1 M q7 q9 N i = some (Sum.inr ())) ?_ ?_ hi hN
  · intro n
    rw [laws_FnAllocCell_L1, if_neg (by simp [len_def])]
  · intro n i hi ih
    subst h9
    rw [laws_FnAllocCell_L1, if_pos (by simp [len_def]; omega)]
    simp only
    rw [w_id (n := 1000 + (ff q7.1 : Int) - 1000) (by omega) (by omega), w_id (n := (i : Int) + 1) (by omega) (by omega), show ((i : Int) + 1) = ((i + 1 : Nat) : Int) by omega, ih]
    by_cases e : i = ff q7.1
    · rw [if_neg (by simp; omega)]; simp
    · rw [if_pos (by simp; omega), get_lt (cat_lt (h := alc q7.1 c) (by rw [hla]; split <;> omega)), get_lt (cat_lt hi), cat_alc, if_neg e]
      simp only [Option.bind_some]
      rw [equalCell_eq (H.flen (cat_mem hi)) hM]; simp

theorem live_cntB (h : List Cell) : live h = cntB (fun j => decide (0 < ct h j)) h.length := live_count h
theorem live_alc (h : List Cell) {t : Int} {fs : List Int} : live (alc h ⟨1, t, fs⟩) = live h + 1 := by
  have hff := ff_le h
  have hla := len_alc h ⟨1, t, fs⟩
  have hm : ∀ j, decide (0 < ct (alc h ⟨1, t, fs⟩) j) = if j = ff h then true else decide (0 < ct h j) := fun j => by
    unfold ct
    rw [cat_alc]
    split
    · simp
    · rfl
  have hf0 : decide (0 < ct h (ff h)) = false := by rw [ff_free]; simp
  rw [live_cntB, live_cntB]
  have e1 : cntB (fun j => decide (0 < ct (alc h ⟨1, t, fs⟩) j)) (alc h ⟨1, t, fs⟩).length = cntB (fun j => if j = ff h then true else decide (0 < ct h j)) (alc h ⟨1, t, fs⟩).length := cntB_congr fun j _ => hm j
  rw [e1, cntB_set (ff_lt_alc h _) hf0, hla]
  split
  · rfl
  · rename_i h1
    have e2 : ff h = h.length := by omega
    rw [cntB_succ]
    have : decide (0 < ct h h.length) = false := by rw [← e2]; exact hf0
    rw [this]; simp

theorem FnAllocCell_plain {code : List Int} (hc : CodeIn code) : laws_FnAllocCell 2000000 code = some true := by
  refine Tot.true ?_
  unfold laws_FnAllocCell
  refine Tot.iteD (fun _ => Tot.some rfl) fun hl => ?_
  rw [len_def] at hl
  refine Tot.bind (DrawAllocCell_tot hc.1 (by omega) (Nat.le_refl _)) fun q ⟨D, ht, hf, hF⟩ => ?_
  have H := D.hp
  have hlen := D.len
  have hsz := D.size
  obtain ⟨b, e1, e2, e3⟩ := AllocCell_both (t := q.2.1) (fs := q.2.2) H (by omega) ht.i64 (fun x hx => (hF x hx).i64) (Nat.le_refl 2000000)
  rw [e1, e2]
  simp only [Option.bind_some]
  cases b with
  | false => exact Tot.of (v := true) (by simp [equalHeap_nil]) rfl
  | true =>
    have M := e3.1 rfl
    have hla := len_alc q.1 ⟨1, q.2.1, q.2.2⟩
    have hff := ff_le q.1
    have Ha : Hp (alc q.1 ⟨1, q.2.1, q.2.2⟩) := M.2.hp (by rw [hla]; split <;> omega)
    simp only [if_true]
    rw [equalHeap_eq Ha (Nat.le_refl 2000000)]
    have L := Alloc_L1_eq (q7 := q) (q9 := (alc q.1 ⟨1, q.2.1, q.2.2⟩, 1000 + (ff q.1 : Int))) (by omega) H rfl (Nat.le_refl 2000000) (Nat.zero_le _) (by omega : q.1.length - 0 < 2000000)
    rw [show ((0 : Nat) : Int) = 0 from rfl] at L
    have h0 : ¬ ((1000 : Int) + (ff q.1 : Int) = 0) := by omega
    obtain ⟨b1, _, _, _, _, v1, v2, _⟩ := valid_both Ha (Nat.le_refl 2000000)
    obtain rfl := v2.2 M.2
    obtain ⟨n1, _, l1, l2, _⟩ := LiveCells_both Ha (Nat.le_refl 2000000)
    obtain ⟨n2, _, k1, k2, _⟩ := LiveCells_both H (Nat.le_refl 2000000)
    have hn1 := l2 M.2
    have hn2 := k2 M.1
    have hlv := live_alc q.1 (t := q.2.1) (fs := q.2.2)
    have hle := live_le q.1
    rw [L]
    simp only [Option.bind_some, Bool.not_true, Bool.false_eq_true, if_false, decide_true, h0, decide_false, Sh.cont_inr]
    rw [v1, w_id (n := 1000 + (ff q.1 : Int) - 1000) (by omega) (by omega), show (1000 + (ff q.1 : Int) - 1000) = ((ff q.1 : Nat) : Int) by omega, get_lt (cat_lt (ff_lt_alc q.1 _)), cat_alc, if_pos rfl]
    simp only [Option.bind_some, if_true]
    rw [equalCell_eq (by show q.2.2.length ≤ _; omega) (Nat.le_refl 2000000), l1, k1, hn1, hn2, hlv]
    refine Tot.of (v := true) ?_ rfl
    simp only [Option.bind_some, if_true]
    rw [w_id (by omega) (by omega)]
    simp

/-! ### A reference more, and less again -/

theorem wi_of {w : Int} (h : I40 w) : I64 w := h.i64

theorem mayDup.VH {h : List Cell} {w : Int} (M : mayDup h w) : RC.VH (dup h w) := by
  obtain ⟨V, h1, h2⟩ := M
  by_cases hp : 1000 ≤ w
  · rw [wordW_ptr hp] at h1
    have hlv : 0 < ct h (w - 1000).toNat := by simpa using h1
    have h3 := h2 hp
    have h4 : ct h (w - 1000).toNat ≤ 999999 := ((cellS_iff _ _).1 (V.cell (w - 1000).toNat)).2.2.1
    exact V.more (len_dup h w) hlv (by omega) (cat_dup hp (ct_lt (by omega)))
  · unfold dup; rw [if_neg hp]; exact V

theorem dup_back {h : List Cell} {w : Int} (M : mayDup h w) : mayDrop (dup h w) w ∧ Dr (dup h w) [w] h := by
  have V2 := M.VH
  obtain ⟨V, h1, h2⟩ := M
  by_cases hp : 1000 ≤ w
  · have h1' := h1
    rw [wordW_ptr hp] at h1'
    have hlv : 0 < ct h (w - 1000).toNat := by simpa using h1'
    have hj : (w - 1000).toNat < h.length := ct_lt (by omega)
    have hcat := cat_dup hp hj
    have hct : ∀ j, ct (dup h w) j = if j = (w - 1000).toNat then ct h j + 1 else ct h j := fun j => by unfold ct; rw [hcat]; split <;> rfl
    have hfl : ∀ j, fl (dup h w) j = fl h j := fun j => by rw [fl_cat, fl_cat, hcat]; split <;> rfl
    have hin : inA (dup h w) (w - 1000).toNat = inA h (w - 1000).toNat := by
      show inn (dup h w) _ _ (dup h w).length = inn h _ _ h.length
      rw [len_dup]
      exact inn_congr fun i _ => by rw [hfl]
    refine ⟨⟨V2, ?_, fun _ => ?_⟩, fun _ => false, ct h, ⟨fun j => ?_, fun j => ?_, (fun w hw => absurd hw (List.not_mem_nil)), (fun w hw => absurd hw (List.not_mem_nil)), fun j => ?_, fun j hj0 => ?_⟩, ?_⟩
    · rw [wordW_ptr hp, hct, if_pos rfl]; simp; omega
    · rw [hin, hct, if_pos rfl]
      have := V.cnt hlv; omega
    · have e0 : inF (dup h w) (fun _ => false) j = 0 := inn_zero fun i _ hi => absurd hi (by simp)
      have e1 := pc_nil j
      rw [hct, pc_one]
      by_cases e : j = (w - 1000).toNat
      · rw [if_pos e, if_pos (by omega)]; omega
      · rw [if_neg e, if_neg (by omega)]; omega
    · rw [hct]
      simp only [Bool.false_eq_true, false_iff]
      rintro ⟨g1, g2⟩
      split at g1
      · rename_i e; rw [e] at g2; omega
      · omega
    · rw [hct]; split <;> omega
    · rw [hct] at hj0 ⊢
      split
      · rename_i e; rw [if_pos e, e] at hj0; omega
      · rfl
    · have e : rowOf (dup h w).length (gg (dup h w) (fun _ => false) (ct h)) = h := by
        rw [len_dup]
        refine Eq.trans ?_ (rowOf_cat h)
        refine rowOf_congr fun j _ => ?_
        unfold gg
        rw [hcat]
        by_cases e : j = (w - 1000).toNat
        · subst e; simp [ct]
        · simp [e, ct]
      rw [e, trm_id V.last]
  · have e : dup h w = h := by unfold dup; rw [if_neg hp]
    rw [e]
    exact ⟨⟨V, h1, fun h => absurd h hp⟩, Dr.ints V fun v hv => by rw [List.mem_singleton] at hv; subst hv; exact hp⟩

theorem Dup_L1_eq {q7 : List Cell × Int} {q9 : List Cell × Bool} (M : mayDup q7.1 q7.2) (hl : q7.1.length ≤ 1000) (hw : I40 q7.2) (h9 : q9.1 = dup q7.1 q7.2) {N i : Nat} (hi : i ≤ q7.1.length) (hN : q7.1.length - i < N) :
    laws_FnDupWord_L1 q7 q9 N i = some (Sum.inr ()) := by
  refine loop_ind q7.1.length (fun N i => laws_FnDupWord_L1 q7 q9 N i = some (Sum.inr ())) ?_ ?_ hi hN
  · intro n
    rw [laws_FnDupWord_L1, if_neg (by simp [len_def])]
  · intro n i hi ih
    obtain ⟨w1, w2⟩ := hw
    have hc := (cellS_iff _ _).1 (M.1.cell i)
    rw [laws_FnDupWord_L1, if_pos (by simp [len_def]; omega), h9, get_lt (cat_lt (h := dup q7.1 q7.2) (by rw [len_dup]; exact hi)), get_lt (cat_lt hi), w_id (n := 1000 + (i : Int)) (by omega) (by omega), w_id (n := (i : Int) + 1) (by omega) (by omega), show ((i : Int) + 1) = ((i + 1 : Nat) : Int) by omega, ih]
    by_cases e : q7.2 = 1000 + (i : Int)
    · have hp : 1000 ≤ q7.2 := by omega
      have hi' : (q7.2 - 1000).toNat = i := by omega
      rw [if_pos (by simpa using e), cat_dup hp (by omega), if_pos hi'.symm]
      simp only [Option.bind_some]
      rw [w_id (by omega) (by omega)]
      simp [ct]
    · rw [if_neg (by simpa using e)]
      have e2 : cat (dup q7.1 q7.2) i = cat q7.1 i := by
        by_cases hp : 1000 ≤ q7.2
        · have h1 := M.2.1
          rw [wordW_ptr hp] at h1
          have hlv : 0 < ct q7.1 (q7.2 - 1000).toNat := by simpa using h1
          rw [cat_dup hp (ct_lt (by omega)), if_neg (by omega)]
        · unfold dup; rw [if_neg hp]
      simp only [Option.bind_some]
      rw [e2, w_id (by omega) (by omega)]
      simp

theorem FnDupWord_plain {code : List Int} (hc : CodeIn code) : laws_FnDupWord 2000000 code = some true := by
  refine Tot.true ?_
  unfold laws_FnDupWord
  refine Tot.iteD (fun _ => Tot.some rfl) fun hl => ?_
  rw [len_def] at hl
  refine Tot.bind (DrawDupWord_tot hc.1 (by omega) (Nat.le_refl _)) fun q ⟨D, hw⟩ => ?_
  have H := D.hp
  have hlen := D.len
  obtain ⟨b, e1, e2, e3⟩ := DupWord_both H hw.i64 (Nat.le_refl 2000000)
  rw [e1, e2]
  simp only [Option.bind_some]
  cases b with
  | false => exact Tot.of (v := true) (by simp [equalHeap_nil]) rfl
  | true =>
    have M := e3.1 rfl
    have V2 := M.VH
    have H2 : Hp (dup q.1 q.2) := V2.hp (by rw [len_dup]; omega)
    obtain ⟨MD, DD⟩ := dup_back M
    obtain ⟨g, b2, _, d1, d2, d3, _⟩ := DropWord_both H2 hw.i64 (Nat.le_refl 2000000)
    obtain rfl := d2.2 MD
    obtain rfl := (d3 rfl).same V2 DD
    obtain ⟨b1, _, _, _, _, v1, v2, _⟩ := valid_both H2 (Nat.le_refl 2000000)
    obtain rfl := v2.2 V2
    have L := Dup_L1_eq (q7 := q) (q9 := (dup q.1 q.2, true)) M (by omega) hw rfl (Nat.zero_le _) (by omega : q.1.length - 0 < 2000000)
    rw [show ((0 : Nat) : Int) = 0 from rfl] at L
    simp only [if_true]
    rw [equalHeap_eq H2 (Nat.le_refl 2000000), d1, L, v1]
    simp only [Option.bind_some]
    rw [equalHeap_eq H (Nat.le_refl 2000000)]
    refine Tot.of (v := true) ?_ rfl
    simp [len_def, len_dup]

/-! ### One outer reference less -/

theorem outer_eq {h : List Cell} (V : VH h) (hl : h.length ≤ 1000) {i : Nat} (hi : 0 < ct h i) {N : Nat} (hN : 2000000 ≤ N) : laws_outer N h (i : Int) = some (ct h i - inA h i) := by
  have H := V.hp hl
  have hil : i < h.length := ct_lt (by omega)
  obtain ⟨v, _, e2, e3, _⟩ := RefsOf_both H (i : Int) hN
  have hv : v = (inA h i : Int) := by
    rw [e3 V]
    unfold refAt
    simp only [Int.toNat_natCast]
    rw [cat_lt hil]
    simp only
    rw [if_pos ⟨by omega, by unfold ct at hi; omega⟩, tot_inA, if_pos hi]
  have hc := (cellS_iff _ _).1 (V.cell i)
  have hle := V.cnt hi
  unfold laws_outer
  rw [get_lt (cat_lt hil), e2, hv]
  simp only [Option.bind_some]
  rw [w_id (by unfold ct at hle hi; omega) (by unfold ct at hle hi; omega)]; rfl

theorem Outer_L1_eq {q7 : List Cell × Int} {q9 : List Cell × Bool} (MD : mayDrop q7.1 q7.2) (hl : q7.1.length ≤ 1000) (DD : Dr q7.1 [q7.2] q9.1) {M : Nat} (hM : 2000000 ≤ M) {N i : Nat} (hi : i ≤ q7.1.length) (hN : q7.1.length - i < N) :
    laws_FnDropWordOuter_L1 M q7 q9 N i = some (Sum.inr ()) := by
  have V := MD.1
  have P := MD.pre (V.hp hl)
  have V2 := DD.VH P V
  obtain ⟨fr, cn, Di, hg, hlast, hgl⟩ := DD.cat V.zr
  refine loop_ind q7.1.length (fun N i => laws_FnDropWordOuter_L1 M q7 q9 N i = some (Sum.inr ())) ?_ ?_ hi hN
  · intro n
    rw [laws_FnDropWordOuter_L1, if_neg (by simp [len_def])]
  · intro n i hi ih
    rw [laws_FnDropWordOuter_L1, if_pos (by simp [len_def]; omega), get_lt (cat_lt hi), w_id (n := 1000 + (i : Int)) (by omega) (by omega), w_id (n := (i : Int) + 1) (by omega) (by omega), show ((i : Int) + 1) = ((i + 1 : Nat) : Int) by omega, ih]
    simp only [Option.bind_some]
    by_cases hp : 0 < (cat q7.1 i).count
    · have hct : 0 < ct q7.1 i := hp
      have hcn := Di.cnt i
      rw [pc_nil, pc_one] at hcn
      have hle := V.cnt hct
      have hpre := P.cnt i hct
      rw [pc_one] at hpre
      have hinle : inF q7.1 fr i ≤ inA q7.1 i := inn_le fun _ _ _ => rfl
      have hcs := (cellS_iff _ _).1 (V.cell i)
      have hb : ct q7.1 i ≤ 999999 := hcs.2.2.1
      have hnow : (Option.bind (
            Option.bind (
              if (decide ((i : Int) < (Sh.len q9.1))) = true then
                Option.bind (Sh.get q9.1 (i : Int)) fun c55 =>
                some (decide (0 < c55.count))
              else
                some false
            ) fun t50 =>
            if t50 = true then
              Option.bind (laws_outer M q9.1 (i : Int)) fun q53 =>
              some q53
            else
              some 0
          ) fun x => some x) = some (ct q7.1 i - inA q7.1 i - (if q7.2 = 1000 + (i : Int) then 1 else 0)) := by
        have hctg := ct_gg hg i
        have hin := inA_gg hg hgl i
        cases hf : fr i with
        | true =>
          rw [hf] at hctg
          simp only [if_true] at hctg
          have h0 := ((Di.frz i).1 hf).2
          have e : (if (decide ((i : Int) < (Sh.len q9.1))) = true then
                Option.bind (Sh.get q9.1 (i : Int)) fun c55 =>
                some (decide (0 < c55.count))
              else
                some false) = some false := by
            by_cases hil : i < q9.1.length
            · rw [if_pos (by simp [len_def]; omega), get_lt (cat_lt hil)]
              simp only [Option.bind_some]
              congr 1
              unfold ct at hctg
              simp [hctg]
            · rw [if_neg (by simp [len_def]; omega)]
          rw [e]
          simp only [Option.bind_some, Bool.false_eq_true, if_false]
          congr 1
          split at hcn <;> split at hpre <;> simp_all <;> omega
        | false =>
          rw [hf] at hctg
          simp only [Bool.false_eq_true, if_false] at hctg
          have h4 : cn i ≠ 0 := fun h4 => by have := (Di.frz i).2 ⟨hct, h4⟩; rw [hf] at this; cases this
          have h5 : 0 < ct q9.1 i := by
            rw [hctg]
            split at hcn <;> split at hpre <;> first | omega | contradiction
          have hil : i < q9.1.length := ct_lt (by omega)
          rw [if_pos (by simp [len_def]; omega), get_lt (cat_lt hil)]
          simp only [Option.bind_some]
          rw [if_pos (by unfold ct at h5; simpa using h5), outer_eq V2 (by omega) h5 hM]
          simp only [Option.bind_some]
          congr 1
          split at hcn <;> split <;> first | omega | contradiction
      rw [if_pos (by simpa using hp), outer_eq V hl hct hM]
      simp only [Option.bind_some]
      have hwant : (if (decide (q7.2 = 1000 + (i : Int))) = true then some (Sh.w (ct q7.1 i - (inA q7.1 i : Int) - 1)) else some (ct q7.1 i - (inA q7.1 i : Int))) = some (ct q7.1 i - inA q7.1 i - (if q7.2 = 1000 + (i : Int) then 1 else 0)) := by
        by_cases e : q7.2 = 1000 + (i : Int)
        · rw [if_pos (by simpa using e), if_pos e, w_id (by omega) (by omega)]
        · rw [if_neg (by simpa using e), if_neg e]; congr 1; omega
      rw [hwant]
      simp only [Option.bind_some]
      obtain ⟨x, hx, hx2⟩ := Sh.bind_some hnow
      cases Sh.some_eq hx2
      rw [hx]
      simp
    · rw [if_neg (by simpa using hp)]
      simp

theorem FnDropWordOuter_plain {code : List Int} (hc : CodeIn code) : laws_FnDropWordOuter 2000000 code = some true := by
  refine Tot.true ?_
  unfold laws_FnDropWordOuter
  refine Tot.iteD (fun _ => Tot.some rfl) fun hl => ?_
  rw [len_def] at hl
  refine Tot.bind (DrawDropWord_tot hc.1 (by omega) (Nat.le_refl _)) fun q ⟨D, hw⟩ => ?_
  have H := D.hp
  have hlen := D.len
  obtain ⟨g, b, e1, e2, e3, e4, e5⟩ := DropWord_both H hw.i64 (Nat.le_refl 2000000)
  rw [e1, e2]
  simp only [Option.bind_some]
  cases b with
  | false =>
    rw [e5 rfl]
    exact Tot.of (v := true) (by simp [equalHeap_nil]) rfl
  | true =>
    have MD := e3.1 rfl
    have DD := e4 rfl
    have V2 := DD.VH (MD.pre H) MD.1
    have hgl := DD.len MD.1.zr
    have L := Outer_L1_eq (q7 := q) (q9 := (g, true)) MD (by omega) DD (Nat.le_refl 2000000) (Nat.zero_le _) (by omega : q.1.length - 0 < 2000000)
    rw [show ((0 : Nat) : Int) = 0 from rfl] at L
    rw [equalHeap_eq (V2.hp (by omega)) (Nat.le_refl 2000000), L]
    exact Tot.of (v := true) (by simp) rfl
end RC
