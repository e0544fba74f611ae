import Derived.Test.YtpahalfiiahddaaGPlainAToXMF

namespace RC
open Go
structure PSmall (p : RProgram) : Prop where
 inn : RProgramIn p
 size : pgz p ≤ 1048576
theorem PSmall.decls {p : RProgram} (S : PSmall p) : DSmall p.decls := by
 have h := S.size
 unfold pgz at h
 have hd : ∀ d ∈ p.decls, dz d ≤ 1048576 := fun d hd => by have := mem_sum dz hd; omega
 refine ⟨by omega, fun d hm => ?_, fun d hm c hc => ?_⟩
 ·have := hd d hm; unfold dz at this; omega
 ·have := hd d hm; unfold dz at this
  have := mem_sum cz hc
  show cz c ≤ _
  omega
theorem PSmall.flen {p : RProgram} (S : PSmall p) : p.funcs.length ≤ 1048576 := by have h := S.size; unfold pgz at h; omega
theorem PSmall.fz {p : RProgram} (S : PSmall p) {f : RFunc} (hf : f ∈ p.funcs) : f.params.length ≤ 1048576 ∧ enl f.body.kids ≤ 1048576 := by
 have h := S.size
 unfold pgz at h
 have h2 := mem_sum fnz hf
 have h3 : fnz f = f.params.length + enl f.body.kids := rfl
 omega
theorem PSmall.fin {p : RProgram} (S : PSmall p) {f : RFunc} (hf : f ∈ p.funcs) : RFuncIn f := S.inn.funcs.1 f hf
def sigsP (p : RProgram) : Bool := sigsB p.decls (p.funcs.map fun f => (f.params, f.result))
theorem spec_sigs {p : RProgram} (S : PSmall p) {N : Nat} (hN : 2000000 ≤ N) : spec_validSigs N p = some (sigsP p) := spec_validSigs_eq S.decls S.flen (fun f hf => (S.fz hf).1) hN
theorem sigs_list {p : RProgram} (hl : p.funcs.length ≤ 1048576) {N : Nat} (hN : 2000000 ≤ N) : impl_ValidSigs_L1 p N 0 [] = some (sgP p).funcs := by
 have key : ∀ {N i : Nat}, i ≤ p.funcs.length → p.funcs.length - i < N → impl_ValidSigs_L1 p N i ((sgP p).funcs.take i) = some (sgP p).funcs := by
  intro N i hi hN
  refine loop_ind p.funcs.length (fun N i => impl_ValidSigs_L1 p N i ((sgP p).funcs.take i) = some (sgP p).funcs) ?_ ?_ hi hN
  ·intro n; rw [impl_ValidSigs_L1, if_neg (by simp [len_def]), List.take_of_length_le (by rw [sg_len]; omega)]
  ·intro n i hi ih
   obtain ⟨f, hf, _⟩ := at_lt hi
   have hf2 : (sgP p).funcs[i]? = some ⟨f.params, [], f.result⟩ := by
    show (p.funcs.map _)[i]? = _
    rw [List.getElem?_map, hf]; rfl
   rw [impl_ValidSigs_L1, if_pos (by simp [len_def]; omega), get_lt hf]
   simp only [Option.bind_some]
   rw [app_ok _ _ _ (by simp; omega) (by simp; omega), w_id (by omega) (by omega), show ((i : Int) + 1) = ((i + 1 : Nat) : Int) by omega]
   simp only [Option.bind_some]
   rw [← ih, take_snoc hf2]
 have := key (Nat.zero_le _) (by omega : p.funcs.length - 0 < N)
 simpa using this
theorem sigsOf_eq {p : RProgram} (hl : p.funcs.length ≤ 1048576) {N : Nat} (hN : 2000000 ≤ N) : impl_sigsOf N p = some (sgP p) := by
 have key : ∀ {N i : Nat}, i ≤ p.funcs.length → p.funcs.length - i < N → impl_sigsOf_L1 p N i ((sgP p).funcs.take i) = some (sgP p).funcs := by
  intro N i hi hN
  refine loop_ind p.funcs.length (fun N i => impl_sigsOf_L1 p N i ((sgP p).funcs.take i) = some (sgP p).funcs) ?_ ?_ hi hN
  ·intro n; rw [impl_sigsOf_L1, if_neg (by simp [len_def]), List.take_of_length_le (by rw [sg_len]; omega)]
  ·intro n i hi ih
   obtain ⟨f, hf, _⟩ := at_lt hi
   have hf2 : (sgP p).funcs[i]? = some ⟨f.params, [], f.result⟩ := by
    show (p.funcs.map _)[i]? = _
    rw [List.getElem?_map, hf]; rfl
   rw [impl_sigsOf_L1, if_pos (by simp [len_def]; omega), get_lt hf]
   simp only [Option.bind_some]
   rw [app_ok _ _ _ (by simp; omega) (by simp; omega), w_id (by omega) (by omega), show ((i : Int) + 1) = ((i + 1 : Nat) : Int) by omega]
   simp only [Option.bind_some]
   rw [← ih, take_snoc hf2]
 have := key (Nat.zero_le _) (by omega : p.funcs.length - 0 < N)
 rw [List.take_zero, show ((0 : Nat) : Int) = 0 from rfl] at this
 unfold impl_sigsOf
 rw [this]; rfl
theorem impl_sigs {p : RProgram} (S : PSmall p) {N : Nat} (hN : 2000000 ≤ N) : impl_ValidSigs N p = some (sigsP p) := by
 have hl := S.flen
 unfold impl_ValidSigs sigsP
 by_cases h4 : p.funcs.length ≤ 4
 ·rw [if_neg (by rw [decide_eq_true_eq, len_def]; omega), sigs_list hl hN]
  simp only [Option.bind_some]
  rw [impl_validSigs_eq S.decls (by rw [sg_len]; exact hl) (fun f hf => by obtain ⟨q, hq, rfl⟩ := List.mem_map.1 (show f ∈ p.funcs.map _ from hf); exact ⟨(S.fz hq).1, by simp⟩) hN]
  have e1 : ((sgP p).funcs.map fun f => (f.params, f.result)) = p.funcs.map fun f => (f.params, f.result) := by
   show (p.funcs.map _).map _ = _
   rw [List.map_map]; rfl
  have e2 : ((sgP p).funcs.all fun f => allAt (lentB f.params f.lent) 0 f.lent) = true := by
   rw [List.all_eq_true]
   intro f hf
   obtain ⟨q, hq, rfl⟩ := List.mem_map.1 (show f ∈ p.funcs.map _ from hf)
   rfl
  rw [e1, e2]; simp
 ·rw [if_pos (by rw [decide_eq_true_eq, len_def]; omega)]
  have : sigsB p.decls (p.funcs.map fun f => (f.params, f.result)) = false := by
   unfold sigsB
   simp [h4]
  rw [this]
def bodyB (p : RProgram) (T : List Int → RExpr → Int) (f : RFunc) : Bool := decide (en f.body ≤ 30) && decide (T f.params f.body = f.result)
theorem ValidProgram_both {p : RProgram} (S : PSmall p) {N : Nat} (hN : 2000000 ≤ N) : ∃ b, spec_validProgram N p = some b ∧ impl_ValidProgram N p = some b ∧ (b = true → SigOK p.decls p.funcs ∧ ∀ f ∈ p.funcs, en f.body ≤ 30) := by
 unfold spec_validProgram impl_ValidProgram
 rw [spec_sigs S hN, impl_sigs S hN]
 simp only [Option.bind_some]
 cases hs : sigsP p with
 | false => exact ⟨false, rfl, rfl, fun h => nomatch h⟩
 | true =>
  have SO := SigOK.of hs
  have hl := S.flen
  obtain ⟨T, hT⟩ := typeOf_F SO hN 31
  have hty : ∀ f ∈ p.funcs, en f.body ≤ 30 → spec_typeOf N p f.params f.body = some (T f.params f.body) ∧ impl_signatures_typeOf N f.params (sgP p) f.body = some (T f.params f.body) ∧ (T f.params f.body = -1 ∨ tyB p.decls (T f.params f.body) = true) := fun f hf he => by
   obtain ⟨q1, q2, q3⟩ := SO.funs f hf
   exact hT f.params f.body (S.fin hf).body (by omega) (by omega) q2 N N (by omega) (by omega)
  have hcl : ∀ f ∈ p.funcs, slices_Clone_int_int f.params = some f.params := fun f hf => by
   obtain ⟨q1, q2, q3⟩ := SO.funs f hf
   unfold slices_Clone_int_int
   rw [app_ok [] f.params 8 (by simp; omega) (by simp; omega)]; rfl
  have L1 := all_loop (l := p.funcs) (spec_validProgram_L1 N p) (fun _ f => bodyB p T f) (fun n => by rw [spec_validProgram_L1, if_neg (by simp [len_def])]) (fun n i f hi => by
   have hil := (List.getElem?_eq_some_iff.1 hi).1
   have hf := List.mem_of_getElem? hi
   rw [spec_validProgram_L1, if_pos (by simp [len_def]; omega), get_lt hi]
   simp only [Option.bind_some]
   rw [spec_nodesOf_eq (S.fz hf).2 hN, w_id (by omega) (by omega), show ((i : Int) + 1) = ((i + 1 : Nat) : Int) by omega]
   simp only [Option.bind_some]
   unfold bodyB
   by_cases he : en f.body ≤ 30
   ·rw [if_pos he, if_neg (by simp), (hty f hf he).1]
    by_cases hr : T f.params f.body = f.result <;> simp [he, hr]
   ·rw [if_neg he]
    simp [he]) (by omega : p.funcs.length < N)
  have L2 := all_loop (l := p.funcs) (impl_ValidProgram_L1 N p) (fun _ f => bodyB p T f) (fun n => by rw [impl_ValidProgram_L1, if_neg (by simp [len_def])]) (fun n i f hi => by
   have hil := (List.getElem?_eq_some_iff.1 hi).1
   have hf := List.mem_of_getElem? hi
   obtain ⟨q1, q2, q3⟩ := SO.funs f hf
   have q4 : f.params.all (tyB p.decls) = true := List.all_eq_true.2 q2
   rw [impl_ValidProgram_L1, if_pos (by simp [len_def]; omega), get_lt hi]
   simp only [Option.bind_some]
   unfold impl_TypeOf
   rw [impl_sigs S hN, hs, impl_NodesOf_eq (S.fz hf).2 hN, impl_allTypes_eq (by omega) (by omega), q4, sigsOf_eq hl hN, hcl f hf, w_id (by omega) (by omega), show ((i : Int) + 1) = ((i + 1 : Nat) : Int) by omega]
   simp only [Option.bind_some]
   unfold bodyB
   by_cases he : en f.body ≤ 30
   ·rw [if_pos he, (hty f hf he).2.1]
    have he0 : ¬ ((en f.body : Int) < 0) := by omega
    by_cases hr : T f.params f.body = f.result <;> simp [he, hr, he0]
   ·rw [if_neg he]
    have hr : ¬ ((-1 : Int) = f.result) := fun q => by have := (tyB_nn q3).1; omega
    simp [he, hr]) (by omega : p.funcs.length < N)
  rw [allAt_all] at L1 L2
  refine ⟨p.funcs.all (bodyB p T), ?_, ?_, fun h => ⟨SO, fun f hf => ?_⟩⟩
  ·simp only [Bool.not_true, Bool.false_eq_true, if_false]
   rw [L1, cont_all]
   cases p.funcs.all (bodyB p T) <;> rfl
  ·simp only [Bool.not_true, Bool.false_eq_true, if_false]
   rw [L2, cont_all]
   cases p.funcs.all (bodyB p T) <;> rfl
  ·have := List.all_eq_true.1 h f hf
   unfold bodyB at this
   simp only [Bool.and_eq_true, decide_eq_true_eq] at this
   exact this.1
def cs1 (f : Int) (e : RExpr) : Nat := if e.op = 9 ∧ e.num = f then 1 else 0
mutual
def cse (f : Int) : RExpr → Nat | .mk o n k => (if o = 9 ∧ n = f then 1 else 0) + csl f k
def csl (f : Int) : List RExpr → Nat | [] => 0 | e :: l => cse f e + csl f l
end
theorem cse_eq (f : Int) (e : RExpr) : cse f e = cs1 f e + csl f e.kids := by
 cases e
 simp only [cse, cs1, RExpr.op, RExpr.num, RExpr.kids]
 congr 1
theorem csl_drop {f : Int} {k : List RExpr} {i : Nat} {e : RExpr} (h : k[i]? = some e) : csl f (k.drop i) = cse f e + csl f (k.drop (i + 1)) := by rw [drop_cons h]; simp [csl]
theorem cs1_le (f : Int) (e : RExpr) : cs1 f e ≤ 1 := by unfold cs1; split <;> omega
mutual
theorem cse_le (f : Int) : ∀ e : RExpr, cse f e ≤ en e
 | .mk o n k => by
  have := csl_le f k
  simp only [cse, en]
  split <;> omega
theorem csl_le (f : Int) : ∀ l : List RExpr, csl f l ≤ enl l
 | [] => by simp [csl, enl]
 | e :: l => by
  have := cse_le f e
  have := csl_le f l
  simp only [csl, enl]; omega
end
theorem cs_cond {e : RExpr} {f : Int} : (if decide (e.op = 9) = true then some (decide (e.num = f)) else some false) = some (decide (e.op = 9 ∧ e.num = f)) := by
 by_cases h1 : e.op = 9 <;> by_cases h2 : e.num = f <;> simp [h1, h2]
theorem callsIn_F {N : Nat} (hN : 2000000 ≤ N) {f : Int} : ∀ (n : Nat) (e : RExpr), en e ≤ 1000 → en e ≤ n → spec_callsIn_F N n e f = some (cse f e : Int) := by
 intro n
 induction n with
 | zero => intro e _ h; have := en_pos e; omega
 | succ n ih =>
  intro e hz hn
  have hk : e.kids.length ≤ 1000 := by have := enl_len e.kids; have := en_eq e; omega
  have hp := en_eq e
  have hcl := csl_le f e.kids
  have h1 := cs1_le f e
  rw [spec_callsIn_F]
  unfold spec_callsIn_B
  have key : ∀ {M i : Nat}, i ≤ e.kids.length → e.kids.length - i < M → ∀ c : Nat, c + csl f (e.kids.drop i) ≤ 2000 → spec_callsIn_B_L1 e f (spec_callsIn_F N n) M c i = some ((c + csl f (e.kids.drop i) : Nat) : Int) := by
   intro M i hi hM
   refine loop_ind e.kids.length (fun M i => ∀ c : Nat, c + csl f (e.kids.drop i) ≤ 2000 → spec_callsIn_B_L1 e f (spec_callsIn_F N n) M c i = some ((c + csl f (e.kids.drop i) : Nat) : Int)) ?_ ?_ hi hM
   ·intro m c _; rw [spec_callsIn_B_L1, if_neg (by simp [len_def]), List.drop_length]; simp [csl]
   ·intro m i hi ih2 c hc
    obtain ⟨x, hx, hxm⟩ := at_lt hi
    have hxe := en_kid hxm
    rw [csl_drop hx] at hc ⊢
    rw [spec_callsIn_B_L1, if_pos (by simp [len_def]; omega), get_lt hx]
    simp only [Option.bind_some]
    rw [ih x (by omega) (by omega)]
    simp only [Option.bind_some]
    rw [w_id (n := (i : Int) + 1) (by omega) (by omega), w_id (by omega) (by omega), show ((i : Int) + 1) = ((i + 1 : Nat) : Int) by omega, show ((c : Int) + (cse f x : Int)) = ((c + cse f x : Nat) : Int) by omega, ih2 (c + cse f x) (by omega), Nat.add_assoc]
  have := key (Nat.zero_le _) (by omega : e.kids.length - 0 < N) (cs1 f e) (by rw [List.drop_zero]; omega)
  rw [List.drop_zero, show ((0 : Nat) : Int) = 0 from rfl, ← cse_eq] at this
  rw [cs_cond]
  simp only [Option.bind_some]
  have e1 : (if decide (e.op = 9 ∧ e.num = f) = true then some (1 : Int) else some 0) = some ((cs1 f e : Nat) : Int) := by
   unfold cs1
   by_cases h : e.op = 9 ∧ e.num = f <;> simp [h]
  rw [e1]
  simp only [Option.bind_some]
  rw [this]; rfl
theorem walk_F {N : Nat} (hN : 2000000 ≤ N) {f : Int} : ∀ (n : Nat) (e : RExpr) (c : Nat), en e ≤ 1000 → c + cse f e ≤ 102000 → en e ≤ n → impl_walk_F N n f c e = some (f, ((c + cse f e : Nat) : Int)) := by
 intro n
 induction n with
 | zero => intro e _ _ _ h; have := en_pos e; omega
 | succ n ih =>
  intro e c hz hc hn
  have hk : e.kids.length ≤ 1000 := by have := enl_len e.kids; have := en_eq e; omega
  have hp := en_eq e
  have hcl := csl_le f e.kids
  have h1 := cs1_le f e
  have hce := cse_eq f e
  rw [impl_walk_F]
  unfold impl_walk_B impl_CallSites_1
  have key : ∀ {M i : Nat}, i ≤ e.kids.length → e.kids.length - i < M → ∀ c : Nat, c ≤ 102000 → c + csl f (e.kids.drop i) ≤ 102000 → impl_walk_B_L1 e (impl_walk_F N n) M i f c = some (f, ((c + csl f (e.kids.drop i) : Nat) : Int)) := by
   intro M i hi hM
   refine loop_ind e.kids.length (fun M i => ∀ c : Nat, c ≤ 102000 → c + csl f (e.kids.drop i) ≤ 102000 → impl_walk_B_L1 e (impl_walk_F N n) M i f c = some (f, ((c + csl f (e.kids.drop i) : Nat) : Int))) ?_ ?_ hi hM
   ·intro m c _ _; rw [impl_walk_B_L1, if_neg (by simp [len_def]), List.drop_length]; simp [csl]
   ·intro m i hi ih2 c hc0 hc
    obtain ⟨x, hx, hxm⟩ := at_lt hi
    have hxe := en_kid hxm
    rw [csl_drop hx] at hc ⊢
    rw [impl_walk_B_L1, if_pos (by simp [len_def]; omega), get_lt hx]
    simp only [Option.bind_some]
    rw [ih x c (by omega) (by omega) (by omega)]
    simp only [Option.bind_some]
    rw [w_id (n := (i : Int) + 1) (by omega) (by omega), show ((i : Int) + 1) = ((i + 1 : Nat) : Int) by omega, ih2 (c + cse f x) (by omega) (by omega), Nat.add_assoc]
  have := key (Nat.zero_le _) (by omega : e.kids.length - 0 < N) (c + cs1 f e) (by omega) (by rw [List.drop_zero]; omega)
  rw [List.drop_zero, show ((0 : Nat) : Int) = 0 from rfl, Nat.add_assoc, ← cse_eq] at this
  rw [cs_cond]
  simp only [Option.bind_some]
  have e1 : (if decide (e.op = 9 ∧ e.num = f) = true then some (Sh.w ((c : Int) + 1)) else some (c : Int)) = some ((c + cs1 f e : Nat) : Int) := by
   unfold cs1
   rw [w_id (by omega) (by omega)]
   by_cases h : e.op = 9 ∧ e.num = f <;> simp [h]
  rw [e1]
  simp only [Option.bind_some]
  rw [this]; rfl
def csf (f : Int) (l : List RFunc) : Nat := (l.map fun g => cse f g.body).sum
theorem csf_drop {f : Int} {k : List RFunc} {i : Nat} {e : RFunc} (h : k[i]? = some e) : csf f (k.drop i) = cse f e.body + csf f (k.drop (i + 1)) := by rw [drop_cons h]; simp [csf]
theorem csf_le {f : Int} {l : List RFunc} (h : ∀ g ∈ l, en g.body ≤ 30) : csf f l ≤ 30 * l.length := by
 induction l with
 | nil => simp [csf]
 | cons g r ih =>
  have h1 := h g (by simp)
  have h2 := ih fun k hk => h k (by simp [hk])
  have h3 := cse_le f g.body
  simp only [csf, List.map_cons, List.sum_cons, List.length_cons] at h2 ⊢
  omega
theorem CallSites_both {p : RProgram} (S : PSmall p) {f : Int} {N : Nat} (hN : 2000000 ≤ N) : ∃ n, spec_CallSites N p f = some n ∧ impl_CallSites N p f = some n := by
 obtain ⟨b, h1, h2, h3⟩ := ValidProgram_both S hN
 unfold spec_CallSites impl_CallSites
 rw [h1, h2]
 simp only [Option.bind_some]
 cases b with
 | false => exact ⟨-1, by simp, by simp⟩
 | true =>
  obtain ⟨SO, hen⟩ := h3 rfl
  have hF := SO.flen
  have hle : csf f p.funcs ≤ 120 := by have := csf_le (f := f) hen; omega
  rw [inRange_eq, len_def, w_id (by omega) (by omega)]
  by_cases hr : 0 ≤ f ∧ f < (p.funcs.length : Int)
  ·have r1 : ¬ f < 0 := by omega
   have r2 : ¬ (p.funcs.length : Int) ≤ f := by omega
   have r3 : f ≤ (p.funcs.length : Int) - 1 := by omega
   have K1 : ∀ {M i : Nat}, i ≤ p.funcs.length → p.funcs.length - i < M → ∀ c : Nat, c + csf f (p.funcs.drop i) ≤ 200 → spec_CallSites_L1 N p f M c i = some ((c + csf f (p.funcs.drop i) : Nat) : Int) := by
    intro M i hi hM
    refine loop_ind p.funcs.length (fun M i => ∀ c : Nat, c + csf f (p.funcs.drop i) ≤ 200 → spec_CallSites_L1 N p f M c i = some ((c + csf f (p.funcs.drop i) : Nat) : Int)) ?_ ?_ hi hM
    ·intro m c _; rw [spec_CallSites_L1, if_neg (by simp [len_def]), List.drop_length]; simp [csf]
    ·intro m i hi ih c hc
     obtain ⟨x, hx, hxm⟩ := at_lt hi
     rw [csf_drop hx] at hc ⊢
     have hx30 := hen x hxm
     rw [spec_CallSites_L1, if_pos (by simp [len_def]; omega), get_lt hx]
     simp only [Option.bind_some]
     unfold spec_callsIn
     rw [callsIn_F hN N x.body (by omega) (by omega)]
     simp only [Option.bind_some]
     rw [w_id (n := (i : Int) + 1) (by omega) (by omega), w_id (by omega) (by omega), show ((i : Int) + 1) = ((i + 1 : Nat) : Int) by omega, show ((c : Int) + (cse f x.body : Int)) = ((c + cse f x.body : Nat) : Int) by omega, ih (c + cse f x.body) (by omega), Nat.add_assoc]
   have K2 : ∀ {M i : Nat}, i ≤ p.funcs.length → p.funcs.length - i < M → ∀ c : Nat, c + csf f (p.funcs.drop i) ≤ 200 → impl_CallSites_L1 N p M i f c = some ((c + csf f (p.funcs.drop i) : Nat) : Int) := by
    intro M i hi hM
    refine loop_ind p.funcs.length (fun M i => ∀ c : Nat, c + csf f (p.funcs.drop i) ≤ 200 → impl_CallSites_L1 N p M i f c = some ((c + csf f (p.funcs.drop i) : Nat) : Int)) ?_ ?_ hi hM
    ·intro m c _; rw [impl_CallSites_L1, if_neg (by simp [len_def]), List.drop_length]; simp [csf]
    ·intro m i hi ih c hc
     obtain ⟨x, hx, hxm⟩ := at_lt hi
     rw [csf_drop hx] at hc ⊢
     have hx30 := hen x hxm
     rw [impl_CallSites_L1, if_pos (by simp [len_def]; omega), get_lt hx]
     simp only [Option.bind_some]
     unfold impl_walk
     rw [walk_F hN N x.body c (by omega) (by omega) (by omega)]
     simp only [Option.bind_some]
     rw [w_id (n := (i : Int) + 1) (by omega) (by omega), show ((i : Int) + 1) = ((i + 1 : Nat) : Int) by omega, ih (c + cse f x.body) (by omega), Nat.add_assoc]
   have k1 := K1 (Nat.zero_le _) (by omega : p.funcs.length - 0 < N) 0 (by rw [List.drop_zero]; omega)
   have k2 := K2 (Nat.zero_le _) (by omega : p.funcs.length - 0 < N) 0 (by rw [List.drop_zero]; omega)
   rw [show ((0 : Nat) : Int) = 0 from rfl] at k1 k2
   refine ⟨((0 + csf f (p.funcs.drop 0) : Nat) : Int), ?_, ?_⟩
   ·simp only [hr.1, r3, decide_true, Bool.and_self, Bool.not_true, Bool.false_eq_true, if_false, Option.bind_some]
    rw [k1]; rfl
   ·simp only [r1, r2, decide_false, Bool.not_true, Bool.false_eq_true, if_false, Option.bind_some]
    rw [k2]; rfl
  ·refine ⟨-1, ?_, ?_⟩
   ·have : (decide (0 ≤ f) && decide (f ≤ (p.funcs.length : Int) - 1)) = false := by
     rw [Bool.and_eq_false_iff, decide_eq_false_iff_not, decide_eq_false_iff_not]; omega
    rw [this]; simp
   ·by_cases r1 : f < 0
    ·simp [r1]
    ·have r2 : (p.funcs.length : Int) ≤ f := by omega
     simp [r1, r2]
theorem FnExactCallSites_plain {p : RProgram} (H : RProgramIn p) {f : Int} (hf : I64 f) : laws_FnExactCallSites 2000000 p f = some true := by
 have hN : (2000000 : Nat) ≤ 2000000 := Nat.le_refl _
 unfold laws_FnExactCallSites
 rw [szProgram_eq H (by omega) (by omega) hN]
 simp only [Option.bind_some]
 by_cases h : (1048576 : Int) - (pgz p : Int) < 0
 ·rw [lft_neg h]; rfl
 ·rw [lft_pos h]
  have hz : pgz p ≤ 1048576 := by omega
  have S : PSmall p := ⟨H, hz⟩
  obtain ⟨n, h1, h2⟩ := CallSites_both S (f := f) hN
  rw [if_neg (by simpa using h), toProgram_eq hz hN]
  simp only [Option.bind_some]
  rw [h1, h2]
  simp only [Option.bind_some]
  rw [eqProgram_eq hz hN]
  simp
end RC

