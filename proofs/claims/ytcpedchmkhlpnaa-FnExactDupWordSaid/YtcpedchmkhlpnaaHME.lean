import Derived.Test.YtcpedchmkhlpnaaHMD
namespace RC
open Go

/-! ### The program's way: a cell to which no other one points any more is taken away -/

def fl (h : List Cell) (i : Nat) : List Int := match h[i]? with | some c => c.fields | none => []
theorem fl_eq {h : List Cell} {i : Nat} {c : Cell} (hc : h[i]? = some c) : fl h i = c.fields := by simp [fl, hc]
/-- How often the cells that are left point to one. -/
def unTo (h : List Cell) (p : Nat → Bool) (j : Nat) : Nat → Nat
  | 0 => 0
  | n + 1 => unTo h p j n + if p n then 0 else cnt h (fl h n) j
def un (h : List Cell) (p : Nat → Bool) (j : Nat) : Nat := unTo h p j h.length

theorem unTo_zero {h : List Cell} {p : Nat → Bool} {j n : Nat} : unTo h p j n = 0 ↔ ∀ i, i < n → p i = false → cnt h (fl h i) j = 0 := by
  induction n with
  | zero => simp [unTo]
  | succ n ih =>
    unfold unTo
    constructor
    · intro e i hi hp
      rcases Nat.lt_succ_iff_lt_or_eq.1 hi with h1 | rfl
      · exact ih.1 (by omega) i h1 hp
      · simp [hp] at e; omega
    · intro e
      rw [ih.2 fun i hi => e i (by omega)]
      cases hp : p n with
      | true => simp
      | false => simp [e n (by omega) hp]
theorem unTo_congr {h : List Cell} {p p' : Nat → Bool} {j n : Nat} (e : ∀ i, i < n → p i = p' i) : unTo h p j n = unTo h p' j n := by
  induction n with
  | zero => rfl
  | succ n ih => unfold unTo; rw [ih fun i hi => e i (by omega), e n (by omega)]
theorem unTo_set {h : List Cell} {p : Nat → Bool} {j n x : Nat} (hx : x < n) (hp : p x = false) : unTo h p j n = unTo h (fun k => if k = x then true else p k) j n + cnt h (fl h x) j := by
  induction n with
  | zero => omega
  | succ n ih =>
    unfold unTo
    by_cases e : x = n
    · subst e
      rw [unTo_congr (p' := fun k => if k = x then true else p k) (n := x) (fun i hi => by
        have : ¬ i = x := by omega
        simp [this])]
      simp [hp]
    · have e' : ¬ n = x := fun h => e h.symm
      rw [ih (by omega)]
      simp only [e', if_false]
      omega
theorem unTo_none (h : List Cell) (j : Nat) : ∀ n, n ≤ h.length → unTo h (fun _ => false) j n = tot h (h.take n) j := by
  intro n
  induction n with
  | zero => intro _; simp [unTo, tot]
  | succ n ih =>
    intro hn
    obtain ⟨c, hc, _⟩ := at_lt (l := h) (i := n) (by omega)
    unfold unTo
    rw [ih (by omega), take_snoc hc, fl_eq hc]
    simp [tot]
theorem un_none (h : List Cell) (j : Nat) : un h (fun _ => false) j = tot h h j := by
  unfold un; rw [unTo_none h j _ (Nat.le_refl _), List.take_length]
theorem unTo_le (h : List Cell) (p : Nat → Bool) (j : Nat) : ∀ n, n ≤ h.length → unTo h p j n ≤ fsum (h.take n) := by
  intro n
  induction n with
  | zero => intro _; simp [unTo]
  | succ n ih =>
    intro hn
    obtain ⟨c, hc, _⟩ := at_lt (l := h) (i := n) (by omega)
    have h1 := ih (by omega)
    have h2 := cnt_le h c.fields j
    unfold unTo
    rw [take_snoc hc, fsum_append, fl_eq hc]
    have : fsum [c] = c.fields.length := by simp [fsum]
    split <;> omega
theorem un_le (h : List Cell) (p : Nat → Bool) (j : Nat) : un h p j ≤ fsum h := by
  have := unTo_le h p j h.length (Nat.le_refl _)
  rwa [List.take_length] at this

theorem chk_L4_eq {h : List Cell} {c : Cell} (hl : h.length ≤ 1048576) (hf : c.fields.length ≤ 1048576) (hF : ∀ x ∈ c.fields, I64 x) {N k : Nat} (hk : k ≤ c.fields.length) (hN : c.fields.length - k < N) :
    ∀ (g : Nat → Nat) (ws : List Nat), (∀ j, g j ≤ 1048576) → ws.length ≤ 2097152 + k → ∃ ps : List Nat, impl_checkedHeap_L4 c h N k (rowOf h.length fun j => ((g j + cnt h (c.fields.drop k) j : Nat) : Int)) (nats ws) = some (rowOf h.length fun j => ((g j : Nat) : Int), nats (ws ++ ps)) ∧
      ps.Nodup ∧ ps.length ≤ c.fields.length - k ∧ ∀ j, j ∈ ps ↔ g j = 0 ∧ 0 < cnt h (c.fields.drop k) j := by
  refine loop_ind c.fields.length (fun N k => ∀ (g : Nat → Nat) (ws : List Nat), (∀ j, g j ≤ 1048576) → ws.length ≤ 2097152 + k → ∃ ps : List Nat, impl_checkedHeap_L4 c h N k (rowOf h.length fun j => ((g j + cnt h (c.fields.drop k) j : Nat) : Int)) (nats ws) = some (rowOf h.length fun j => ((g j : Nat) : Int), nats (ws ++ ps)) ∧
      ps.Nodup ∧ ps.length ≤ c.fields.length - k ∧ ∀ j, j ∈ ps ↔ g j = 0 ∧ 0 < cnt h (c.fields.drop k) j) ?_ ?_ hk hN
  · intro n g ws _ _
    refine ⟨[], ?_, List.nodup_nil, by simp, fun j => by simp [cnt_nil]⟩
    rw [impl_checkedHeap_L4, if_neg (by simp [len_def])]
    simp [cnt_nil]
  · intro n k hk ih g ws hg hws
    obtain ⟨x, hx, hxm⟩ := at_lt hk
    rw [impl_checkedHeap_L4, if_pos (by simp [len_def]; omega), get_lt hx]
    simp only [Option.bind_some]
    rw [liveAt_eq hl (hF x hxm)]
    simp only [Option.bind_some]
    rw [w_id (n := (k : Int) + 1) (by omega) (by omega), show ((k : Int) + 1) = ((k + 1 : Nat) : Int) from rfl]
    cases hlv : liveW h x
    · simp only [Bool.false_eq_true, if_false, Option.bind_some]
      have e : (rowOf h.length fun j => ((g j + cnt h (c.fields.drop k) j : Nat) : Int)) = rowOf h.length fun j => ((g j + cnt h (c.fields.drop (k + 1)) j : Nat) : Int) := rowOf_congr fun j _ => by
        rw [cnt_drop hx, hits_not hlv]; simp
      rw [e]
      obtain ⟨ps, h1, h2, h3, h4⟩ := ih g ws hg (by omega)
      refine ⟨ps, h1, h2, by omega, fun j => ?_⟩
      rw [h4 j, cnt_drop hx, hits_not hlv]; simp
    · obtain ⟨q, c', h1, h2, h3, _⟩ := liveW_spec hlv
      have e1 : x - 1000 = (q : Int) := by omega
      have hq : cnt h (c.fields.drop k) q = 1 + cnt h (c.fields.drop (k + 1)) q := by rw [cnt_drop hx, hits_at hlv, h2]; simp
      have hne : ∀ j, ¬ j = q → cnt h (c.fields.drop k) j = cnt h (c.fields.drop (k + 1)) j := fun j e => by
        have e' : ¬ q = j := fun h => e h.symm
        rw [cnt_drop hx, hits_at hlv, h2]; simp [e']
      have hcb := cnt_le h (c.fields.drop (k + 1)) q
      have hcl : (c.fields.drop (k + 1)).length ≤ c.fields.length := by simp
      have hgq := hg q
      simp only [if_true]
      rw [w_id (n := x - 1000) (by omega) (by omega), e1, get_lt (rowOf_get h3)]
      simp only [Option.bind_some]
      rw [w_id (n := ((g q + cnt h (c.fields.drop k) q : Nat) : Int) - 1) (by omega) (by omega), put_nat, rowOf_set]
      have er : (rowOf h.length fun j => if j = q then ((g q + cnt h (c.fields.drop k) q : Nat) : Int) - 1 else ((g j + cnt h (c.fields.drop k) j : Nat) : Int)) = rowOf h.length fun j => ((g j + cnt h (c.fields.drop (k + 1)) j : Nat) : Int) := rowOf_congr fun j _ => by
        by_cases e : j = q
        · subst e; simp only [if_true]; omega
        · simp only [e, if_false]; rw [hne j e]
      rw [er, get_lt (rowOf_get h3)]
      simp only [Option.bind_some]
      by_cases hz : g q + cnt h (c.fields.drop (k + 1)) q = 0
      · have ez : decide (((g q + cnt h (c.fields.drop (k + 1)) q : Nat) : Int) = 0) = true := by simp; omega
        rw [if_pos ez, app_ok _ _ _ (by simp [nats]; omega) (by simp [nats]; omega)]
        simp only [Option.bind_some]
        have en : nats ws ++ [(q : Int)] = nats (ws ++ [q]) := by simp [nats]
        rw [en]
        obtain ⟨ps, f1, f2, f3, f4⟩ := ih g (ws ++ [q]) hg (by simp; omega)
        refine ⟨q :: ps, by rw [f1]; simp, List.nodup_cons.2 ⟨fun hm => ?_, f2⟩, by simp; omega, fun j => ?_⟩
        · have := (f4 q).1 hm; omega
        · rw [List.mem_cons, f4 j]
          by_cases e : j = q
          · subst e; rw [hq]; constructor
            · intro _; omega
            · intro _; exact .inl rfl
          · rw [hne j e]; simp [e]
      · have ez : decide (((g q + cnt h (c.fields.drop (k + 1)) q : Nat) : Int) = 0) = false := by simp; omega
        rw [if_neg (by rw [ez]; simp)]
        simp only [Option.bind_some]
        obtain ⟨ps, f1, f2, f3, f4⟩ := ih g ws hg (by omega)
        refine ⟨ps, f1, f2, by omega, fun j => ?_⟩
        rw [f4 j]
        by_cases e : j = q
        · subst e; rw [hq]; constructor
          · rintro ⟨a, b⟩; exact ⟨a, by omega⟩
          · rintro ⟨a, b⟩; exact ⟨a, by omega⟩
        · rw [hne j e]

/-- What is known of what was taken away, and of the list of what may be. -/
structure KI (h : List Cell) (p : Nat → Bool) (ws : List Nat) (many : Nat) : Prop where
  nd : ws.Nodup
  mem : ∀ x ∈ ws, x < h.length ∧ p x = false ∧ un h p x = 0
  all : ∀ j, j < h.length → un h p j = 0 → p j = true ∨ j ∈ ws
  num : cntB p h.length = many
  tm : ∃ tm : Nat → Nat, (∀ j, j < h.length → p j = true → tm j < many) ∧ ∀ i j, ch h i j → p j = true → p i = true ∧ tm i < tm j

theorem nodup_len {ws : List Nat} {n : Nat} (hnd : ws.Nodup) (hm : ∀ x ∈ ws, x < n) : ws.length ≤ n := by
  induction n generalizing ws with
  | zero =>
    cases ws with
    | nil => simp
    | cons x r => have := hm x (by simp); omega
  | succ n ih =>
    by_cases h : n ∈ ws
    · have h1 := ih (hnd.erase n) fun x hx => by
        obtain ⟨h2, h3⟩ := hnd.mem_erase_iff.1 hx
        have := hm x h3; omega
      rw [List.length_erase_of_mem h] at h1; omega
    · have := ih hnd fun x hx => by
        have h1 := hm x hx
        have h2 : ¬ x = n := fun e => h (e ▸ hx)
        omega
      omega

theorem un_ch {h : List Cell} {p : Nat → Bool} {j i : Nat} (hu : un h p j = 0) (hc : ch h i j) : p i = true := by
  obtain ⟨c, w, h1, h2, h3, h4⟩ := hc
  cases hp : p i with
  | true => rfl
  | false =>
    have := unTo_zero.1 hu i (List.getElem?_eq_some_iff.1 h1).1 hp
    rw [fl_eq h1] at this
    have := (cnt_pos (j := j) h1).2 ⟨c, w, h1, h2, h3, h4⟩
    omega

theorem KI.step {h : List Cell} {p : Nat → Bool} {ws ps : List Nat} {many x : Nat} {c : Cell} (hK : KI h p (ws ++ [x]) many) (hc : h[x]? = some c) (hps : ps.Nodup)
    (hmem : ∀ j, j ∈ ps ↔ un h (fun k => if k = x then true else p k) j = 0 ∧ 0 < cnt h c.fields j) : KI h (fun k => if k = x then true else p k) (ws ++ ps) (many + 1) := by
  obtain ⟨hx1, hx2, hx3⟩ := hK.mem x (by simp)
  obtain ⟨tm, t1, t2⟩ := hK.tm
  have hset : ∀ j, un h p j = un h (fun k => if k = x then true else p k) j + cnt h c.fields j := fun j => by
    have := unTo_set (h := h) (j := j) hx1 hx2
    rwa [fl_eq hc] at this
  have hnd := hK.nd
  rw [List.nodup_append] at hnd
  obtain ⟨hnd1, _, hnd3⟩ := hnd
  have hfresh : ∀ j ∈ ps, j < h.length ∧ ¬ j = x ∧ p j = false ∧ 0 < un h p j := fun j hj => by
    obtain ⟨h1, h2⟩ := (hmem j).1 hj
    have hch := (cnt_pos hc).1 h2
    have hpos : 0 < un h p j := by have := hset j; omega
    have hjx : ¬ j = x := fun e => by subst e; omega
    refine ⟨(ch_lt hch).2, hjx, ?_, hpos⟩
    cases hp : p j with
    | false => rfl
    | true => have := (t2 x j hch hp).1; rw [hx2] at this; cases this
  refine ⟨?_, fun y hy => ?_, fun j hj hu => ?_, by rw [cntB_set hx1 hx2, hK.num], ⟨fun k => if k = x then many else tm k, fun j hj hp => ?_, fun i j hij hp => ?_⟩⟩
  · rw [List.nodup_append]
    refine ⟨hnd1, hps, fun a ha b hb e => ?_⟩
    subst e
    have h1 := (hK.mem a (by simp [ha])).2.2
    have h2 := (hfresh a hb).2.2.2
    omega
  · rcases List.mem_append.1 hy with hy | hy
    · obtain ⟨h1, h2, h3⟩ := hK.mem y (by simp [hy])
      have hyx : ¬ y = x := fun e => hnd3 y hy x (by simp) e
      have := hset y
      exact ⟨h1, by simp [hyx, h2], by omega⟩
    · obtain ⟨h1, h2, h3, _⟩ := hfresh y hy
      exact ⟨h1, by simp [h2, h3], ((hmem y).1 hy).1⟩
  · by_cases hjx : j = x
    · left; simp [hjx]
    · have hs := hset j
      rcases Nat.eq_zero_or_pos (cnt h c.fields j) with h0 | h0
      · rcases hK.all j hj (by omega) with h1 | h1
        · left; simp [hjx, h1]
        · right
          rcases List.mem_append.1 h1 with h2 | h2
          · exact List.mem_append.2 (.inl h2)
          · simp at h2; exact absurd h2 hjx
      · right; exact List.mem_append.2 (.inr ((hmem j).2 ⟨hu, h0⟩))
  · by_cases hjx : j = x
    · simp [hjx]
    · simp only [hjx, if_false] at hp ⊢
      have := t1 j hj hp; omega
  · by_cases hjx : j = x
    · subst hjx
      have hpi := un_ch hx3 hij
      have hix : ¬ i = j := fun e => by subst e; rw [hx2] at hpi; cases hpi
      simp only [hix, if_false, if_true]
      exact ⟨hpi, t1 i (ch_lt hij).1 hpi⟩
    · simp only [hjx, if_false] at hp
      obtain ⟨h1, h2⟩ := t2 i j hij hp
      have hix : ¬ i = x := fun e => by subst e; rw [hx2] at h1; cases h1
      simp only [hix, hjx, if_false]
      exact ⟨h1, h2⟩

theorem chk_L3_eq {h : List Cell} (H : Hp h) {M : Nat} (hM : 2000000 ≤ M) : ∀ (d N : Nat) (p : Nat → Bool) (ws : List Nat) (many : Nat), KI h p ws many → h.length - many = d → d < N →
    ∃ p' many', impl_checkedHeap_L3 M h N (many : Int) (rowOf h.length fun j => ((un h p j : Nat) : Int)) (nats ws) = some ((many' : Nat) : Int) ∧ KI h p' [] many' := by
  have hl := H.len
  intro d
  induction d with
  | zero =>
    intro N p ws many hK hd hN
    obtain ⟨n, rfl⟩ : ∃ n, N = n + 1 := ⟨N - 1, by omega⟩
    have hmany : many = h.length := by have := cntB_le p h.length; have := hK.num; omega
    have hws : ws = [] := by
      cases ws with
      | nil => rfl
      | cons x r =>
        obtain ⟨h1, h2, _⟩ := hK.mem x (by simp)
        have := cntB_full.1 (hK.num.trans hmany) x h1
        rw [h2] at this; cases this
    subst hws
    exact ⟨p, many, by rw [impl_checkedHeap_L3, if_neg (by simp [len_def, nats])], hK⟩
  | succ d ih =>
    intro N p ws many hK hd hN
    obtain ⟨n, rfl⟩ : ∃ n, N = n + 1 := ⟨N - 1, by omega⟩
    have hmany : many ≤ h.length := by have := cntB_le p h.length; have := hK.num; omega
    rcases List.eq_nil_or_concat ws with rfl | ⟨ws, x, rfl⟩
    · exact ⟨p, many, by rw [impl_checkedHeap_L3, if_neg (by simp [len_def, nats])], hK⟩
    · rw [List.concat_eq_append] at hK ⊢
      obtain ⟨hx1, hx2, hx3⟩ := hK.mem x (by simp)
      obtain ⟨c, hc, hcm⟩ := at_lt hx1
      have hwl := nodup_len hK.nd (fun y hy => (hK.mem y hy).1)
      rw [List.length_append, List.length_singleton] at hwl
      have elen : Sh.w (Sh.len (nats (ws ++ [x])) - 1) = (ws.length : Int) := by
        rw [len_def]
        have : (nats (ws ++ [x])).length = ws.length + 1 := by simp [nats]
        rw [this, w_id (by omega) (by omega)]; omega
      have eget : Sh.get (nats (ws ++ [x])) (ws.length : Int) = some (x : Int) := by
        rw [get_nat]; simp [nats]
      have ehi : Sh.hi (nats (ws ++ [x])) (ws.length : Int) = some (nats ws) := by
        rw [hi_ok (by simp [nats])]
        congr 1
        simp [nats]
      rw [impl_checkedHeap_L3, if_pos (by simp [len_def, nats]), elen, eget]
      simp only [Option.bind_some]
      rw [get_lt hc, ehi]
      simp only [Option.bind_some]
      have hun : ∀ j, un h p j = un h (fun k => if k = x then true else p k) j + cnt h c.fields j := fun j => by
        have := unTo_set (h := h) (j := j) hx1 hx2
        rwa [fl_eq hc] at this
      have hfs := H.size
      obtain ⟨ps, f1, f2, f3, f4⟩ := chk_L4_eq hl (H.flen hcm) (H.cells c hcm).fields (Nat.zero_le _) (by have := H.flen hcm; omega : c.fields.length - 0 < M) (fun j => un h (fun k => if k = x then true else p k) j) ws
        (fun j => by have := un_le h (fun k => if k = x then true else p k) j; unfold hsize at hfs; omega) (by omega)
      rw [show ((0 : Nat) : Int) = 0 from rfl, List.drop_zero] at f1
      have er : (rowOf h.length fun j => ((un h p j : Nat) : Int)) = rowOf h.length fun j => ((un h (fun k => if k = x then true else p k) j + cnt h c.fields j : Nat) : Int) := rowOf_congr fun j _ => by rw [hun j]
      rw [er, f1]
      simp only [Option.bind_some]
      have ew : Sh.w ((many : Int) + 1) = ((many + 1 : Nat) : Int) := by rw [w_id (by omega) (by omega)]; rfl
      rw [ew]
      have hK' := hK.step hc f2 (by rw [List.drop_zero] at f4; exact f4)
      exact ih n _ _ (many + 1) hK' (by omega) (by omega)

theorem bound_of (rk : Nat → Nat) (n : Nat) : ∃ B, ∀ j, j < n → rk j ≤ B := by
  induction n with
  | zero => exact ⟨0, fun j hj => by omega⟩
  | succ n ih =>
    obtain ⟨B, hB⟩ := ih
    refine ⟨max B (rk n), fun j hj => ?_⟩
    rcases Nat.lt_succ_iff_lt_or_eq.1 hj with h1 | rfl
    · have := hB j h1; omega
    · omega

theorem ranked_of_taken {h : List Cell} {p : Nat → Bool} {many : Nat} (hK : KI h p [] many) : many = h.length ↔ Ranked h := by
  obtain ⟨tm, t1, t2⟩ := hK.tm
  constructor
  · intro e
    have hall := cntB_full.1 (hK.num.trans e)
    refine ⟨fun k => h.length - tm k, fun i j hij => ?_⟩
    obtain ⟨hi, hj⟩ := ch_lt hij
    obtain ⟨_, h2⟩ := t2 i j hij (hall j hj)
    have := t1 j hj (hall j hj)
    show h.length - tm j < h.length - tm i
    omega
  · rintro ⟨rk, hr⟩
    rw [← hK.num]
    obtain ⟨B, hB⟩ := bound_of rk h.length
    refine cntB_full.2 fun j hj => ?_
    have key : ∀ d j, j < h.length → B - rk j < d → p j = true := by
      intro d
      induction d with
      | zero => intro j _ h4; omega
      | succ d ih =>
        intro j hj hlt
        cases hp : p j with
        | true => rfl
        | false =>
          have hu : ¬ un h p j = 0 := fun e => by
            rcases hK.all j hj e with h1 | h1
            · rw [hp] at h1; cases h1
            · simp at h1
          have : ∃ i, i < h.length ∧ p i = false ∧ ¬ cnt h (fl h i) j = 0 := by
            refine Classical.byContradiction fun hno => hu (unTo_zero.2 fun i hi hpi => ?_)
            refine Classical.byContradiction fun hne => hno ⟨i, hi, hpi, hne⟩
          obtain ⟨i, hi, hpi, hne⟩ := this
          obtain ⟨c, hc, _⟩ := at_lt hi
          rw [fl_eq hc] at hne
          have hch := (cnt_pos (j := j) hc).1 (by omega)
          have h5 := hr i j hch
          have h6 := hB i hi
          have := ih i hi (by omega)
          rw [hpi] at this; cases this
    exact key (B - rk j + 1) j hj (by omega)
end RC
