import Derived.Test.YtobjlimoekffaaaIWC

namespace RC
open Go
theorem sum_le {α : Type} {f g : α → Nat} {a b : Nat} : ∀ {l : List α}, (∀ x ∈ l, f x ≤ a + b * g x) → (l.map f).sum ≤ a * l.length + b * (l.map g).sum
 | [], _ => by simp
 | x :: r, h => by
  have h1 := h x (by simp)
  have h2 := sum_le (l := r) fun y hy => h y (by simp [hy])
  simp only [List.map_cons, List.sum_cons, List.length_cons, Nat.mul_add]
  omega
theorem w_succ {n : Nat} (h : n ≤ 100000000) : Sh.w ((n : Int) + 1) = ((n + 1 : Nat) : Int) := by
 rw [w_id (by omega) (by omega)]; rfl
theorem mark_loop {α : Type} (L : Nat → Int → Int → List α → Option (Int × List α)) (wt : α → Nat) (ok : α → Prop)
  (h0 : ∀ n k l, L (n + 1) k ((l.length : Nat) : Int) l = some (k, l))
  (hs : ∀ n (k : Nat) (A : List α) (x : α) (C : List α), A.length + C.length ≤ 1048576 → ok x → k + wt x ≤ 20000000 → ∃ (k' : Nat) (y : α), k' ≤ k + wt x ∧ L (n + 1) k ((A.length : Nat) : Int) (A ++ x :: C) = L n k' ((A.length + 1 : Nat) : Int) (A ++ y :: C)) :
  ∀ (C A : List α) (k n : Nat), C.length < n → A.length + C.length ≤ 1048576 → (∀ x ∈ C, ok x) → k + (C.map wt).sum ≤ 20000000 → ∃ (k' : Nat) (l' : List α), k' ≤ k + (C.map wt).sum ∧ L n k ((A.length : Nat) : Int) (A ++ C) = some ((k' : Int), l')
 | [], A, k, n, hn, _, _, _ => by
  obtain ⟨n, rfl⟩ : ∃ m, n = m + 1 := ⟨n - 1, by simp at hn; omega⟩
  refine ⟨k, A, by simp, ?_⟩
  rw [List.append_nil, h0]
 | x :: C, A, k, n, hn, hl, hok, hk => by
  simp only [List.length_cons, List.map_cons, List.sum_cons] at hn hl hk ⊢
  obtain ⟨n, rfl⟩ : ∃ m, n = m + 1 := ⟨n - 1, by omega⟩
  obtain ⟨k1, y, h1, h2⟩ := hs n k A x C (by omega) (hok x (by simp)) (by omega)
  obtain ⟨k2, l', h3, h4⟩ := mark_loop L wt ok h0 hs C (A ++ [y]) k1 n (by omega) (by simp; omega) (fun z hz => hok z (by simp [hz])) (by omega)
  refine ⟨k2, l', by omega, ?_⟩
  rw [h2, ← h4]
  simp
theorem mark_of {α : Type} {L : Nat → Int → Int → List α → Option (Int × List α)} {wt : α → Nat} {ok : α → Prop}
  (h0 : ∀ n k l, L (n + 1) k ((l.length : Nat) : Int) l = some (k, l))
  (hs : ∀ n (k : Nat) (A : List α) (x : α) (C : List α), A.length + C.length ≤ 1048576 → ok x → k + wt x ≤ 20000000 → ∃ (k' : Nat) (y : α), k' ≤ k + wt x ∧ L (n + 1) k ((A.length : Nat) : Int) (A ++ x :: C) = L n k' ((A.length + 1 : Nat) : Int) (A ++ y :: C))
  {l : List α} {k N : Nat} (hN : 2000000 ≤ N) (hl : l.length ≤ 1048576) (hok : ∀ x ∈ l, ok x) (hk : k + (l.map wt).sum ≤ 20000000) : ∃ (k' : Nat) (l' : List α), k' ≤ k + (l.map wt).sum ∧ L N k 0 l = some ((k' : Int), l') :=
 mark_loop L wt ok h0 hs l [] k N (by omega) (by simp; omega) hok hk
theorem markConS_eq {l : List RCon} {k N : Nat} (hN : 2000000 ≤ N) (hl : l.length ≤ 1048576) (hok : ∀ c ∈ l, cz c ≤ 1048576) (hk : k + (l.map cz).sum ≤ 20000000) : ∃ (k' : Nat) (l' : List RCon), k' ≤ k + (l.map cz).sum ∧ laws_markConS N l k = some ((k' : Int), l') := by
 obtain ⟨k', l', h1, h2⟩ := mark_of (L := laws_markConS_L1 N) (wt := cz) (ok := fun c => cz c ≤ 1048576) (fun n k l => by rw [laws_markConS_L1, if_neg (by simp [len_def])]) (fun n k A x C hA hx hk => by
  rw [laws_markConS_L1, if_pos (by simp [len_def]; omega), get_mid]
  simp only [Option.bind_some]
  rw [markIntS_eq hx (by omega) hN]
  simp only [Option.bind_some, put_mid]
  rw [w_succ (by omega)]
  exact ⟨_, _, Nat.le_refl _, rfl⟩) hN hl hok hk
 refine ⟨k', l', h1, ?_⟩
 unfold laws_markConS
 rw [h2]; rfl
def dzM (d : RDecl) : Nat := 2 + (d.cons.map cz).sum
theorem markDeclS_eq {l : List RDecl} {k N : Nat} (hN : 2000000 ≤ N) (hl : l.length ≤ 1048576) (hok : ∀ d ∈ l, dz d ≤ 1048576) (hk : k + (l.map dzM).sum ≤ 20000000) : ∃ (k' : Nat) (l' : List RDecl), k' ≤ k + (l.map dzM).sum ∧ laws_markDeclS N l k = some ((k' : Int), l') := by
 obtain ⟨k', l', h1, h2⟩ := mark_of (L := laws_markDeclS_L1 N) (wt := dzM) (ok := fun d => dz d ≤ 1048576) (fun n k l => by rw [laws_markDeclS_L1, if_neg (by simp [len_def])]) (fun n k A x C hA hx hk => by
  unfold dz at hx
  unfold dzM at hk ⊢
  obtain ⟨k1, l1, g1, g2⟩ := markConS_eq (l := x.cons) (k := k + 1 + 1) hN (by omega) (fun c hc => by have := mem_sum cz hc; omega) (by omega)
  rw [laws_markDeclS_L1, if_pos (by simp [len_def]; omega), w_succ (n := k) (by omega), w_succ (n := k + 1) (by omega), w_succ (n := A.length) (by omega)]
  simp only [get_mid, put_mid, Option.bind_some]
  rw [g2]
  simp only [Option.bind_some]
  exact ⟨k1, _, by omega, rfl⟩) hN hl hok hk
 refine ⟨k', l', h1, ?_⟩
 unfold laws_markDeclS
 rw [h2]; rfl
def izM (i : RInstr) : Nat := 4 + iz i
theorem markInstrS_eq {l : List RInstr} {k N : Nat} (hN : 2000000 ≤ N) (hl : l.length ≤ 1048576) (hok : ∀ d ∈ l, iz d ≤ 1048576) (hk : k + (l.map izM).sum ≤ 20000000) : ∃ (k' : Nat) (l' : List RInstr), k' ≤ k + (l.map izM).sum ∧ laws_markInstrS N l k = some ((k' : Int), l') := by
 obtain ⟨k', l', h1, h2⟩ := mark_of (L := laws_markInstrS_L1 N) (wt := izM) (ok := fun d => iz d ≤ 1048576) (fun n k l => by rw [laws_markInstrS_L1, if_neg (by simp [len_def])]) (fun n k A x C hA hx hk => by
  unfold iz at hx
  unfold izM iz at hk ⊢
  rw [laws_markInstrS_L1, if_pos (by simp [len_def]; omega), w_succ (n := k) (by omega), w_succ (n := k + 1) (by omega), w_succ (n := k + 1 + 1) (by omega), w_succ (n := k + 1 + 1 + 1) (by omega), w_succ (n := A.length) (by omega)]
  simp only [get_mid, put_mid, Option.bind_some]
  rw [markIntS_eq (by omega) (by omega) hN]
  simp only [get_mid, put_mid, Option.bind_some]
  rw [markIntS_eq (by omega) (by omega) hN]
  simp only [put_mid, Option.bind_some]
  exact ⟨_, _, by omega, rfl⟩) hN hl hok hk
 refine ⟨k', l', h1, ?_⟩
 unfold laws_markInstrS
 rw [h2]; rfl
def pzM (p : RProc) : Nat := 2 + (p.params.length + p.lent.length + (p.code.map izM).sum)
theorem codeM (p : RProc) : (p.code.map izM).sum ≤ 4 * p.code.length + (p.code.map iz).sum := by
 have := sum_le (f := izM) (g := iz) (a := 4) (b := 1) (l := p.code) fun x _ => by unfold izM; omega
 omega
theorem markProcS_eq {l : List RProc} {k N : Nat} (hN : 2000000 ≤ N) (hl : l.length ≤ 1048576) (hok : ∀ d ∈ l, pz d ≤ 1048576) (hk : k + (l.map pzM).sum ≤ 20000000) : ∃ (k' : Nat) (l' : List RProc), k' ≤ k + (l.map pzM).sum ∧ laws_markProcS N l k = some ((k' : Int), l') := by
 obtain ⟨k', l', h1, h2⟩ := mark_of (L := laws_markProcS_L1 N) (wt := pzM) (ok := fun d => pz d ≤ 1048576) (fun n k l => by rw [laws_markProcS_L1, if_neg (by simp [len_def])]) (fun n k A x C hA hx hk => by
  unfold pz at hx
  unfold pzM at hk ⊢
  obtain ⟨k1, l1, g1, g2⟩ := markInstrS_eq (l := x.code) (k := k + x.params.length + x.lent.length + 1 + 1) hN (by omega) (fun c hc => by have := mem_sum iz hc; omega) (by omega)
  rw [laws_markProcS_L1, if_pos (by simp [len_def]; omega), w_succ (n := A.length) (by omega)]
  simp only [get_mid, put_mid, Option.bind_some]
  rw [markIntS_eq (by omega) (by omega) hN]
  simp only [get_mid, put_mid, Option.bind_some]
  rw [markIntS_eq (by omega) (by omega) hN]
  simp only [get_mid, put_mid, Option.bind_some]
  rw [w_succ (by omega), w_succ (by omega), g2]
  simp only [put_mid, Option.bind_some]
  exact ⟨k1, _, by omega, rfl⟩) hN hl hok hk
 refine ⟨k', l', h1, ?_⟩
 unfold laws_markProcS
 rw [h2]; rfl
theorem markImage_eq {x : RImage} (h : imz x ≤ 1048576) {N : Nat} (hN : 2000000 ≤ N) : ∃ (k : Nat) (r : List RDecl × List RProc), laws_markImage N x.decls x.procs 1 = some ((k : Int), r.1, r.2) := by
 have hd : ∀ d ∈ x.decls, dz d ≤ 1048576 := fun d hd => by have := mem_sum dz hd; unfold imz at h; omega
 have hp : ∀ p ∈ x.procs, pz p ≤ 1048576 := fun p hp => by have := mem_sum pz hp; unfold imz at h; omega
 have b1 := sum_le (f := dzM) (g := dz) (a := 2) (b := 1) (l := x.decls) fun d _ => by unfold dzM dz; omega
 have b2 := sum_le (f := pzM) (g := pz) (a := 2) (b := 4) (l := x.procs) fun p _ => by have := codeM p; unfold pzM pz; omega
 unfold imz at h
 obtain ⟨k1, l1, g1, g2⟩ := markDeclS_eq (l := x.decls) (k := 1) hN (by omega) hd (by omega)
 obtain ⟨k2, l2, g3, g4⟩ := markProcS_eq (l := x.procs) (k := k1) hN (by omega) hp (by omega)
 refine ⟨k2, (l1, l2), ?_⟩
 unfold laws_markImage
 rw [show ((1 : Nat) : Int) = 1 from rfl] at g2
 rw [g2]
 simp only [Option.bind_some]
 rw [g4]; rfl
end RC

