import Derived.Test.YtcegihniiokijaaGreatGEncCToAbsZB
import Derived.Test.YtcegihniiokijaaGreatAbsZE
import Derived.Test.YtcegihniiokijaaGreatAbsZC

namespace RC
open Go Go.Abs
structure RRoutine where
 params : List Int
 lent : List Int
 result : Int
 body : Block
noncomputable def eRRoutine (r : RRoutine) : List AV := [.sl (r.params.map eI), .sl (r.lent.map eI), .int .i64 r.result, .sl (r.body.steps.map eStep), .int .i64 r.body.result]
structure RNormal where
 decls : List RDecl
 routines : List RRoutine
noncomputable def eRNormal (p : RNormal) : List AV := [.sl (p.decls.map eRDecl), .sl (p.routines.map eRRoutine)]
end RC



namespace RC
open Go Go.Abs
theorem und_map {α : Type} {l : List α} {enc enc' : α → List AV} (h : ∀ x, undC (enc x) = enc' x) : undR (l.map enc) = l.map enc' := by
 rw [undR_eq, List.map_map]
 exact List.map_congr_left fun x _ => h x
theorem eI_und (n : Int) : undC (eI n) = eI n := rfl
end RC



namespace RC
open Go Go.Abs
end RC



namespace RC
open Go Go.Abs
def eRConD (a : Nat) (c : RCon) : List AV := [.dv a 1 (c.fields.map eI)]
theorem eRConD_und {a : Nat} (c : RCon) : undC (eRConD a c) = eRCon c := by
 simp only [eRConD, undC, und, und_map eI_und, eRCon]
def eRDeclD (a b : Nat) (d : RDecl) : List AV := [.int .i64 d.from_, .int .i64 d.to, .dv a 1 (d.cons.map (eRConD b))]
theorem eRDeclD_und {a b : Nat} (d : RDecl) : undC (eRDeclD a b d) = eRDecl d := by
 simp only [eRDeclD, undC, und, und_map eRConD_und, eRDecl]
end RC



namespace RC
open Go Go.Abs
noncomputable def eStepD (x y z : Nat) (s : Step) : List AV :=
 Step.rec (motive_1 := fun _ => List AV) (motive_2 := fun _ => List (List AV)) (motive_3 := fun _ => List AV) (motive_4 := fun _ => List (List AV))
  (fun o n i a _ ks => [.int .i64 o, .int .i64 n, .int .i64 i, .dv x 1 (a.map eI), .dv y 2 ks])
  [] (fun _ _ b bs => b :: bs) (fun _ r ss => [.dv z 5 ss, .int .i64 r]) [] (fun _ _ s ss => s :: ss) s
noncomputable def eBlockD (x y z : Nat) (b : Block) : List AV := [.dv z 5 (b.steps.map (eStepD x y z)), .int .i64 b.result]
theorem eStepD_kids (x y z : Nat) (ks : List Block) :
  Step.rec_1 (motive_1 := fun _ => List AV) (motive_2 := fun _ => List (List AV)) (motive_3 := fun _ => List AV) (motive_4 := fun _ => List (List AV))
  (fun o n i a _ ks => [.int .i64 o, .int .i64 n, .int .i64 i, .dv x 1 (a.map eI), .dv y 2 ks])
  [] (fun _ _ b bs => b :: bs) (fun _ r ss => [.dv z 5 ss, .int .i64 r]) [] (fun _ _ s ss => s :: ss) ks = ks.map (eBlockD x y z) := by
 have key : ∀ ss : List Step, Step.rec_3 (motive_1 := fun _ => List AV) (motive_2 := fun _ => List (List AV)) (motive_3 := fun _ => List AV) (motive_4 := fun _ => List (List AV))
  (fun o n i a _ ks => [.int .i64 o, .int .i64 n, .int .i64 i, .dv x 1 (a.map eI), .dv y 2 ks])
  [] (fun _ _ b bs => b :: bs) (fun _ r ss => [.dv z 5 ss, .int .i64 r]) [] (fun _ _ s ss => s :: ss) ss = ss.map (eStepD x y z) := by
  intro ss
  induction ss with
  | nil => rfl
  | cons s ss ih => exact congrArg (eStepD x y z s :: ·) ih
 induction ks with
 | nil => rfl
 | cons b ks ih =>
  obtain ⟨ss, r⟩ := b
  exact (congrArg (· :: _) (congrArg (fun x => [AV.dv z 5 x, AV.int .i64 r]) (key ss))).trans (congrArg (eBlockD x y z ⟨ss, r⟩ :: ·) ih)
theorem eStepD_eq {x y z : Nat} (s : Step) : eStepD x y z s = [.int .i64 s.op, .int .i64 s.num, .int .i64 s.into, .dv x 1 (s.args.map eI), .dv y 2 (s.kids.map (eBlockD x y z))] := by
 obtain ⟨o, n, i, a, k⟩ := s
 exact congrArg (fun q => [AV.int .i64 o, .int .i64 n, .int .i64 i, .dv x 1 (a.map eI), .dv y 2 q]) (eStepD_kids x y z k)
theorem eStepD_pure {x y z : Nat} (s : Step) : (eStepD x y z s).all simple' = true := by rw [eStepD_eq]; rfl
theorem eStepD_deep {x y z : Nat} (s : Step) : (eStepD x y z s).all deepC = true := by rw [eStepD_eq]; rfl
theorem eStepD_len {x y z : Nat} (s : Step) : (eStepD x y z s).length = 5 := by rw [eStepD_eq]; rfl
mutual
theorem eStepD_und {x y z : Nat} : ∀ s : Step, undC (eStepD x y z s) = eStep s
 | .mk o n i a k => by
  rw [eStepD_eq, eStep_eq]
  simp only [undC, und, Step.op, Step.num, Step.into, Step.args, Step.kids, und_map eI_und, eBlockD_unds k]
theorem eBlockD_unds {x y z : Nat} : ∀ l : List (BlockOf Step), undR (l.map (eBlockD x y z)) = l.map eBlock
 | [] => rfl
 | b :: l => by simp only [List.map_cons, undR, eBlockD_und b, eBlockD_unds l]
theorem eBlockD_und {x y z : Nat} : ∀ b : BlockOf Step, undC (eBlockD x y z b) = eBlock b
 | ⟨ss, r⟩ => by
  show undC [.dv z 5 (ss.map (eStepD x y z)), .int .i64 r] = [.sl (ss.map eStep), .int .i64 r]
  simp only [undC, und, eStepD_unds ss]
theorem eStepD_unds {x y z : Nat} : ∀ l : List Step, undR (l.map (eStepD x y z)) = l.map eStep
 | [] => rfl
 | s :: l => by simp only [List.map_cons, undR, eStepD_und s, eStepD_unds l]
end
noncomputable def eRRoutineD (a b x y z : Nat) (r : RRoutine) : List AV := [.dv a 1 (r.params.map eI), .dv b 1 (r.lent.map eI), .int .i64 r.result, .dv z 5 (r.body.steps.map (eStepD x y z)), .int .i64 r.body.result]
theorem eRRoutineD_und {a b x y z : Nat} (r : RRoutine) : undC (eRRoutineD a b x y z r) = eRRoutine r := by
 simp only [eRRoutineD, undC, und, und_map eI_und, und_map eStepD_und, eRRoutine]
end RC

