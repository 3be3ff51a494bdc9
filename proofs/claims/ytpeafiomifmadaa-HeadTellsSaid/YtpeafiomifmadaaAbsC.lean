/- What single operations of the abstract machine hang on, and what they leave. -/
import Derived.Test.YtpeafiomifmadaaAbsB
namespace Go.Ab
open Go
set_option linter.unusedVariables false
set_option linter.unusedSimpArgs false
theorem some_pair {α β : Type} {a c : α} {b d : β} (h : some (a, b) = some (c, d)) : a = c ∧ b = d := by cases h; exact ⟨rfl, rfl⟩
theorem ex_still {i : IOp} (hs : Still i) {env : Env} {st st' : St} {v : V} (he : i.ex env st = some (v, st')) : st' = st := by
  cases i <;> simp only [Still, IOp.kind, reduceCtorEq, or_self, or_false, or_true, true_or, false_or] at hs <;> simp only [IOp.ex, Option.map_eq_some_iff] at he <;>
    (repeat' split at he) <;> first
      | (cases he; done)
      | (obtain ⟨_, _, he⟩ := he; exact (some_pair (congrArg some he)).2.symm)
      | exact (some_pair he).2.symm
      | (rw [Option.map_eq_some_iff] at he; obtain ⟨_, _, he⟩ := he; exact (some_pair (congrArg some he)).2.symm)
theorem ex_pure {i : IOp} (hs : i.kind = .pure) {env : Env} {st st' : St} {v : V} (he : i.ex env st = some (v, st')) (s2 : St) : i.ex env s2 = some (v, s2) := by
  cases i <;> simp only [IOp.kind, reduceCtorEq] at hs <;> simp only [IOp.ex, Option.map_eq_some_iff] at he ⊢ <;>
    (repeat' split at he) <;> first
      | (cases he; done)
      | (obtain ⟨x, hx, he⟩ := he; obtain ⟨rfl, rfl⟩ := some_pair (congrArg some he); exact ⟨x, hx, rfl⟩)
      | (obtain ⟨x, hx, he⟩ := he; obtain ⟨rfl, rfl⟩ := some_pair (congrArg some he); exact ⟨x, hx, by simp_all⟩)
      | (obtain ⟨rfl, rfl⟩ := some_pair he; simp_all; done)
      | (rw [Option.map_eq_some_iff] at he; obtain ⟨x, hx, he⟩ := he; obtain ⟨rfl, rfl⟩ := some_pair (congrArg some he); simp_all; done)
theorem ex_read {i : IOp} (hs : i.kind = .read) {env : Env} {s1 s2 : St} {v : V} (he : i.ex env s1 = some (v, s1)) (h : ∀ o x, i.seen env = some o → s1.get o = some x → s2.get o = some x) : i.ex env s2 = some (v, s2) := by
  cases i <;> simp only [IOp.kind, reduceCtorEq] at hs
  case load n g a =>
    simp only [IOp.ex, Option.map_eq_some_iff] at he ⊢
    obtain ⟨x, hx, he⟩ := he
    obtain ⟨rfl, _⟩ := some_pair (congrArg some he)
    refine ⟨x, ?_, rfl⟩
    rw [← hx]
    unfold St.load at hx ⊢
    simp only [IOp.seen] at h
    cases hv : a.ev env <;> simp only [hv, objOf, reduceCtorEq] at h hx ⊢
    rename_i o g i s
    cases hg : s1.get o with
    | none => rw [hg] at hx; cases hx
    | some y => rw [h _ _ rfl hg]
  case toStr x =>
    simp only [IOp.ex] at he ⊢
    simp only [IOp.seen] at h
    cases hv : x.ev env <;> simp only [hv, objOf, reduceCtorEq, St.elems] at h he ⊢
    · simpa using he
    · rename_i o g off ln e cap
      cases hg : s1.get o with
      | none => rw [hg] at he; cases he
      | some y =>
        rw [h _ _ rfl hg]
        rw [hg] at he
        split at he
        · rename_i es hes
          rw [Option.map_eq_some_iff] at he; obtain ⟨s, hs2, he⟩ := he
          obtain ⟨rfl, _⟩ := some_pair (congrArg some he)
          (try rw [hes]); simp [hs2]
        · cases he
    all_goals simp at he
  case cvs x =>
    simp only [IOp.ex] at he ⊢
    simp only [IOp.seen] at h
    cases hv : x.ev env <;> simp only [hv, objOf, reduceCtorEq] at h he ⊢
    rename_i o g off ln e cap
    cases hg : s1.get o with
    | none => rw [hg] at he; cases he
    | some y =>
      rw [h _ _ rfl hg]
      rw [hg] at he
      cases y with
      | row es gen live ro =>
        simp only at he ⊢
        split at he
        · rename_i hc
          obtain ⟨rfl, _⟩ := some_pair he
          rw [if_pos hc]
        · cases he
      | _ => cases he
  case lookup kd z m k ok =>
    simp only [IOp.ex] at he ⊢
    simp only [IOp.seen] at h
    cases hv : m.ev env <;> simp only [hv, objOf, reduceCtorEq] at h he ⊢
    · split at he
      · rename_i hk; obtain ⟨rfl, _⟩ := some_pair he; rw [if_pos hk]
      · cases he
    · rename_i o
      cases hg : s1.get o with
      | none => rw [hg] at he; cases he
      | some y =>
        rw [h _ _ rfl hg]
        rw [hg] at he
        split at he
        · rename_i es hes
          rw [Option.map_eq_some_iff] at he; obtain ⟨s, hs2, he⟩ := he
          obtain ⟨rfl, _⟩ := some_pair (congrArg some he)
          cases hes
          simp [hs2]
        · cases he
  case len kd x =>
    simp only [IOp.ex] at he ⊢
    simp only [IOp.seen] at h
    cases kd <;> cases hv : x.ev env <;> simp only [hv, reduceCtorEq] at h he ⊢ <;> first
      | (obtain ⟨rfl, _⟩ := some_pair he; rfl)
      | (rename_i o
         cases hg : s1.get o with
         | none => rw [hg] at he; cases he
         | some y =>
           rw [h _ _ rfl hg]
           rw [hg] at he
           split at he
           · rename_i es hes
             split at he
             · rename_i hle
               obtain ⟨rfl, _⟩ := some_pair he
               cases hes
               simp [hle]
             · cases he
           · cases he)
theorem load_ro {st : St} {a : V} {n : Nat} {x : V} {st' : St} (h : st.store a n x = some st') : ∃ o es gen live es', st.get o = some (.row es gen live false) ∧ st' = st.set o (.row es' gen gen false) := by
  unfold St.store at h
  split at h
  · split at h
    · rename_i hg
      split at h
      · rename_i hro
        obtain ⟨rfl, rfl⟩ := hro
        split at h
        · split at h
          · cases h; exact ⟨_, _, _, _, _, hg, rfl⟩
          · cases h
        · cases h
      · cases h
    · cases h
  · cases h
theorem append_step {st : St} (l : st.Low) {esz bytes : Nat} {s : V} {x : List (List V)} {v : V} {st' : St} (h : st.append esz bytes s x = some (v, st')) : St.Step st st' := by
  unfold St.append at h
  split at h
  · split at h
    · cases h; exact .refl _
    · split at h
      · cases h; exact .push l _
      · cases h
  · split at h
    · cases h
    · split at h
      · cases h; exact .refl _
      · split at h
        · split at h
          · split at h
            · cases h; exact .push l _
            · cases h
          · cases h
        · split at h
          · rename_i hg
            split at h
            · rename_i hc
              cases h
              exact .set hg rfl
            · cases h
          · cases h
  · cases h
theorem ex_step {i : IOp} {env : Env} {st st' : St} (l : st.Low) {v : V} (he : i.ex env st = some (v, st')) : St.Step st st' := by
  by_cases hs : Still i
  · rw [ex_still hs he]; exact .refl _
  · cases i <;> simp only [Still, IOp.kind, reduceCtorEq, or_self, or_false, or_true, true_or, false_or, not_true_eq_false, not_false_eq_true] at hs
    case box x =>
      simp only [IOp.ex] at he
      split at he
      · split at he
        · cases he; exact .push l _
        · cases he
      · cases he
    case mkrow =>
      simp only [IOp.ex] at he
      split at he
      · rw [Option.map_eq_some_iff] at he; obtain ⟨_, _, he⟩ := he; cases he; exact .push l _
      · cases he
    case store n a x =>
      simp only [IOp.ex, Option.map_eq_some_iff] at he
      obtain ⟨s2, h2, he⟩ := he
      cases he
      obtain ⟨o, es, gen, live, es', hg, rfl⟩ := load_ro h2
      exact .set hg rfl
    case toBytes x =>
      simp only [IOp.ex] at he
      split at he
      · split at he
        · cases he; exact .push l _
        · cases he
      · cases he
    case mkmap => simp only [IOp.ex] at he; cases he; exact .push l _
    case mkslice =>
      simp only [IOp.ex] at he
      split at he
      · split at he
        · cases he; exact .push l _
        · cases he
      · cases he
    case mapset =>
      simp only [IOp.ex] at he
      split at he
      · split at he
        · rename_i hg
          rw [Option.map_eq_some_iff] at he; obtain ⟨_, _, he⟩ := he; cases he; exact .set hg rfl
        · cases he
      · cases he
    case append =>
      simp only [IOp.ex] at he
      split at he
      · exact append_step l he
      · cases he
    case appendz =>
      simp only [IOp.ex] at he
      split at he
      · split at he
        · exact append_step l he
        · cases he
      · cases he
    case copy =>
      simp only [IOp.ex] at he
      split at he
      · cases he
      · split at he
        · unfold St.copy at he
          split at he
          · cases he; exact .refl _
          · split at he
            · cases he
            · split at he
              · cases he; exact .refl _
              · split at he
                · rename_i hg
                  split at he
                  · cases he; exact .set hg rfl
                  · cases he
                · cases he
          · cases he
        · cases he
    case call => cases he
    case callv => cases he
theorem ex_fresh {i : IOp} (hs : i.kind = .fresh) {env : Env} {st st' : St} {v : V} (he : i.ex env st = some (v, st')) : ∃ x : Obj, st' = st.push x ∧ x.ro = false ∧ ∀ s2 : St, s2.next = st.next → i.ex env s2 = some (v, s2.push x) := by
  cases i <;> simp only [IOp.kind, reduceCtorEq] at hs
  case box x =>
    simp only [IOp.ex] at he ⊢
    split at he
    · split at he
      · rename_i h1 h2; cases he; exact ⟨_, rfl, rfl, fun s2 h => by rw [if_pos h2, h]⟩
      · cases he
    · cases he
  case mkrow =>
    simp only [IOp.ex] at he ⊢
    split at he
    · rename_i h1
      rw [Option.map_eq_some_iff] at he; obtain ⟨es, h2, he⟩ := he; cases he
      exact ⟨_, rfl, rfl, fun s2 h => by rw [if_pos h1, h2, Option.map_some, h]⟩
    · cases he
  case toBytes x =>
    simp only [IOp.ex] at he ⊢
    split at he
    · split at he
      · rename_i h1 h2; cases he; exact ⟨_, rfl, rfl, fun s2 h => by rw [if_pos h2, h]⟩
      · cases he
    · cases he
  case mkmap => simp only [IOp.ex] at he ⊢; cases he; exact ⟨_, rfl, rfl, fun s2 h => by rw [h]⟩
  case mkslice =>
    simp only [IOp.ex] at he ⊢
    split at he
    · split at he
      · rename_i h1 h2; cases he; exact ⟨_, rfl, rfl, fun s2 h => by rw [if_pos h2, h]⟩
      · cases he
    · cases he
def Agree (e1 e2 : Env) (l : List Nat) : Prop := ∀ n, n ∈ l → Env.get e1 n = Env.get e2 n
theorem Agree.left {e1 e2 : Env} {a b : List Nat} (h : Agree e1 e2 (a ++ b)) : Agree e1 e2 a := fun n hn => h n (List.mem_append_left _ hn)
theorem Agree.right {e1 e2 : Env} {a b : List Nat} (h : Agree e1 e2 (a ++ b)) : Agree e1 e2 b := fun n hn => h n (List.mem_append_right _ hn)
theorem ev_agree {e1 e2 : Env} {x : Opd} (h : Agree e1 e2 x.uses) : x.ev e1 = x.ev e2 := by
  cases x with
  | t n => exact h n (by simp [Opd.uses])
  | c v => rfl
theorem evs_agree {e1 e2 : Env} : ∀ {xs : List Opd}, Agree e1 e2 (usesL xs) → evs e1 xs = evs e2 xs
  | [], _ => rfl
  | x :: xs, h => by simp only [usesL] at h; simp only [evs, ev_agree h.left, evs_agree h.right]
theorem evo_agree {e1 e2 : Env} {x : Option Opd} (h : Agree e1 e2 (usesO x)) : x.map (·.ev e1) = x.map (·.ev e2) := by
  cases x with
  | none => rfl
  | some x => simp only [Option.map_some, ev_agree h]
theorem fillCells_agree {e1 e2 : Env} : ∀ {ps : List (Nat × Nat × Opd)} {z : List V}, Agree e1 e2 (usesL (ps.map (·.2.2))) → fillCells z e1 ps = fillCells z e2 ps
  | [], _, _ => rfl
  | (o, n, x) :: r, z, h => by
    simp only [List.map_cons, usesL] at h
    simp only [fillCells, ev_agree h.left]
    split
    · split
      · exact fillCells_agree h.right
      · rfl
    · rfl
theorem fillRow_agree {e1 e2 : Env} {esz : Nat} : ∀ {ps : List (Nat × Opd)} {z : List (List V)}, Agree e1 e2 (usesL (ps.map (·.2))) → fillRow z esz e1 ps = fillRow z esz e2 ps
  | [], _, _ => rfl
  | (i, x) :: r, z, h => by
    simp only [List.map_cons, usesL] at h
    simp only [fillRow, ev_agree h.left]
    split
    · split
      · exact fillRow_agree h.right
      · rfl
    · rfl
theorem run_agree {call : CallF} {e1 e2 : Env} {i : IOp} {st : St} (h : Agree e1 e2 i.uses) : i.run call e1 st = i.run call e2 st := by
  cases i <;> simp only [IOp.uses] at h <;> simp only [IOp.run, IOp.ex]
  case mov => rw [ev_agree h]
  case box => rw [ev_agree h]
  case load => rw [ev_agree h]
  case nilck => rw [ev_agree h]
  case un => rw [ev_agree h]
  case conv => rw [ev_agree h]
  case toBytes => rw [ev_agree h]
  case toStr => rw [ev_agree h]
  case cvs => rw [ev_agree h]
  case faddr => rw [ev_agree h]
  case field => rw [ev_agree h]
  case extract => rw [ev_agree h]
  case len => rw [ev_agree h]
  case pick => rw [ev_agree h.left.left, ev_agree h.left.right, ev_agree h.right]
  case build => rw [fillCells_agree h]
  case mkrow => rw [fillRow_agree h]
  case store => rw [ev_agree h.left, ev_agree h.right]
  case bin => rw [ev_agree h.left, ev_agree h.right]
  case eq => rw [ev_agree h.left, ev_agree h.right]
  case iaddr => rw [ev_agree h.left, ev_agree h.right]
  case iaddrA => rw [ev_agree h.left, ev_agree h.right]
  case index => rw [ev_agree h.left, ev_agree h.right]
  case indexA => rw [ev_agree h.left, ev_agree h.right]
  case mkslice => rw [ev_agree h.left, ev_agree h.right]
  case append => rw [ev_agree h.left, ev_agree h.right]
  case appendz => rw [ev_agree h.left, ev_agree h.right]
  case copy => rw [ev_agree h.left, ev_agree h.right]
  case mkfn => rw [evs_agree h.left, evs_agree h.right]
  case slice => rw [ev_agree h.left.left.left, evo_agree h.left.left.right, evo_agree h.left.right, evo_agree h.right]
  case lookup => rw [ev_agree h.left, ev_agree h.right]
  case mapset => rw [ev_agree h.left.left, ev_agree h.left.right, ev_agree h.right]
  case minmax => rw [evs_agree h]
  case call => rw [evs_agree h]
  case callv => rw [ev_agree h.left, evs_agree h.right]
theorem run_ex {call : CallF} {i : IOp} (h : i.isCall = false) (env : Env) (st : St) : i.run call env st = i.ex env st := by
  cases i <;> first | rfl | cases h
theorem kind_isCall {i : IOp} (h : i.kind ≠ .act) : i.isCall = false := by
  cases i <;> first | rfl | (simp [IOp.kind] at h)
theorem V.beq_eq : ∀ (a b : V), V.beq a b = true → a = b := by
  intro a
  induction a using V.rec (motive_2 := fun l => ∀ r, V.beqL l r = true → l = r) with
  | undef => intro b h; cases b <;> simp_all [V.beq]
  | bool x => intro b h; cases b <;> simp_all [V.beq]
  | int k n => intro b h; cases b <;> simp_all [V.beq]
  | str s => intro b h; cases b <;> simp_all [V.beq]
  | nilp => intro b h; cases b <;> simp_all [V.beq]
  | ptr o g i s => intro b h; cases b <;> simp_all [V.beq]
  | nils => intro b h; cases b <;> simp_all [V.beq]
  | sl o g off len esz cap => intro b h; cases b <;> simp_all [V.beq]
  | nilm => intro b h; cases b <;> simp_all [V.beq]
  | map o => intro b h; cases b <;> simp_all [V.beq]
  | nilf => intro b h; cases b <;> simp_all [V.beq]
  | fn f a c iha ihc =>
    intro b h; cases b <;> simp only [V.beq, Bool.false_eq_true, Bool.and_eq_true, decide_eq_true_eq] at h
    rw [h.1, iha _ h.2.1, ihc _ h.2.2]
  | agg cs ih =>
    intro b h; cases b <;> simp only [V.beq, Bool.false_eq_true] at h
    rw [ih _ h]
  | tup cs ih =>
    intro b h; cases b <;> simp only [V.beq, Bool.false_eq_true] at h
    rw [ih _ h]
  | nil => rename_i r h; cases r with
    | nil => rfl
    | cons y r => simp [V.beqL] at h
  | cons x xs ih1 ih2 =>
    rename_i r h
    cases r with
    | nil => simp [V.beqL] at h
    | cons y r =>
      simp only [V.beqL, Bool.and_eq_true] at h
      rw [ih1 _ h.1, ih2 _ h.2]
theorem V.beq_self : ∀ (a : V), V.beq a a = true := by
  intro a
  induction a using V.rec (motive_2 := fun l => V.beqL l l = true) with
  | fn f a c iha ihc => simp [V.beq, iha, ihc]
  | agg cs ih => simp [V.beq, ih]
  | tup cs ih => simp [V.beq, ih]
  | nil => rfl
  | cons x xs ih1 ih2 => simp [V.beqL, ih1, ih2]
  | _ => simp [V.beq]
end Go.Ab
