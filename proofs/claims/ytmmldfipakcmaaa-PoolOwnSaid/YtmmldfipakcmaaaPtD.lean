/- Operations that ask nothing of the world, and those that read it: sound against the model. No condition. -/
import Derived.Test.YtmmldfipakcmaaaPtC
set_option linter.unusedVariables false
namespace Go.Pt
open Go

variable {P : Program} {n : Nat} {e : Env} {a : Act} {o : Oper} {w : World}

theorem run_lift {s : Sem Value} {w w' : World} {v : Value} (h : s.run P w = .ok v w') : (do pure (Next.value (← s)) : Sem Next).run P w = .ok (.value v) w' := by
  simp [h]

theorem evParts_map (hr : Rel n e a) : ∀ {ps : List (Nat × Operand)} {vs : List (Nat × Value)}, evParts e ps = some vs → ps.map (fun (i, x) => (i, a.eval x)) = vs
  | [], vs, h => by simp [evParts] at h; subst h; rfl
  | (i, x) :: ps, vs, h => by
    simp only [evParts] at h
    split at h
    · rename_i v us h1 h2
      cases h
      simp [hr.ev h1, evParts_map hr h2]
    · cases h

theorem evParts_arr (hr : Rel n e a) {ps : Array (Nat × Operand)} {vs : List (Nat × Value)} (h : evParts e ps.toList = some vs) :
    (ps.map fun (i, x) => (i, a.eval x)) = vs.toArray := by
  apply Array.ext'
  simpa using evParts_map hr h


/-- A bound of a slice expression, and what it comes to. -/
def Bd (x : Option Value) (r : Option Int) : Prop := (x = none ∧ r = none) ∨ ∃ k i, x = some (.int k i) ∧ r = some i

theorem Bd.of (hr : Rel n e a) {x : Option Operand} {r : Option Int} (h : oneInt e x = some r) : Bd (x.map a.eval) r := by
  rcases oneInt_ev hr h with ⟨rfl, rfl⟩ | ⟨y, k, i, rfl, rfl, hy⟩
  · exact .inl ⟨rfl, rfl⟩
  · exact .inr ⟨k, i, by simp [hy], rfl⟩

theorem run_sliceBounds {nn cc : Nat} {l h m : Option Int} {lo hi mx : Option Value} (s : Bool) (hl : Bd lo l) (hh : Bd hi h) (hm : Bd mx m) (hmh : (mx.isSome && hi.isNone) = false)
    (hb : 0 ≤ l.getD 0 ∧ l.getD 0 ≤ h.getD nn ∧ h.getD nn ≤ m.getD cc ∧ m.getD cc ≤ cc) (w : World) :
    (Instr.sliceBounds s nn cc lo hi mx).run P w = .ok ((l.getD 0).toNat, (h.getD nn).toNat, (m.getD cc).toNat) w := by
  obtain ⟨b0, b1, b2, b3⟩ := hb
  rcases hm with ⟨rfl, rfl⟩ | ⟨km, im, rfl, rfl⟩
  · rcases hh with ⟨rfl, rfl⟩ | ⟨kh, ih, rfl, rfl⟩
    · rcases hl with ⟨rfl, rfl⟩ | ⟨kl, il, rfl, rfl⟩
      · simp [Instr.sliceBounds]
      · simp at b0 b1 b2 b3
        simp [Instr.sliceBounds, Instr.sliceBound, asIntOf, b0, b1]
    · rcases hl with ⟨rfl, rfl⟩ | ⟨kl, il, rfl, rfl⟩
      · simp at b0 b1 b2 b3
        simp [Instr.sliceBounds, Instr.sliceBound, asIntOf, b1, b2]
      · simp at b0 b1 b2 b3
        have : 0 ≤ ih := by omega
        have : (ih.toNat : Int) = ih := by omega
        simp [Instr.sliceBounds, Instr.sliceBound, asIntOf, *]
  · rcases hh with ⟨rfl, rfl⟩ | ⟨kh, ih, rfl, rfl⟩
    · simp at hmh
    · rcases hl with ⟨rfl, rfl⟩ | ⟨kl, il, rfl, rfl⟩
      · simp at b0 b1 b2 b3
        have : 0 ≤ im := by omega
        have : (im.toNat : Int) = im := by omega
        simp [Instr.sliceBounds, Instr.sliceBound, asIntOf, *]
      · simp at b0 b1 b2 b3
        have : 0 ≤ ih := by omega
        have : 0 ≤ im := by omega
        have : (ih.toNat : Int) = ih := by omega
        have : (im.toNat : Int) = im := by omega
        simp [Instr.sliceBounds, Instr.sliceBound, asIntOf, *]

theorem elem_info_slice {t el : TypeId} : True := trivial

/-- What an element's size is known by. -/
theorem run_sizeOf'' {t : TypeId} (h : (P.info? t).isSome = true) (w : World) : (sizeOf t).run P w = .ok (sizeT P t) w := run_sizeOf' h w

theorem intBin_run {op : BinOp} {k : IntKind} {x y : Int} {t : TypeId} {u v : Operand} {r : Value} (h : intBin op k x y = some r) (w : World) :
    (do eqGuard op t u v (.int k x) (.int k y); binOp op t (.int k x) (.int k y) : Sem Value).run P w = .ok r w := by
  cases op <;> simp [intBin] at h <;> subst h <;> simp [eqGuard_at_int, binOp_add, binOp_sub, binOp_mul, binOp_and, binOp_or, binOp_xor, binOp_andNot, binOp_eql, binOp_neq, binOp_lss, binOp_leq, binOp_gtr, binOp_geq, Op.intArith, intBits_and, intBits_or, intBits_xor, intBits_andNot]

theorem strBin_run {op : BinOp} {x y : ByteArray} {t : TypeId} {u v : Operand} {r : Value} (h : strBin op x y = some r) (w : World) :
    (do eqGuard op t u v (.string x) (.string y); binOp op t (.string x) (.string y) : Sem Value).run P w = .ok r w := by
  cases op <;> simp [strBin] at h <;> subst h <;> simp [eqGuard_at_string, binOp, Op.stringOp]

theorem constNZ_ev {y : Operand} (h : constNZ y = true) {k : IntKind} {b : Int} (hy : e.ev y = some (.int k b)) : b ≠ 0 := by
  unfold constNZ at h
  split at h
  · simp [Env.ev] at hy
    obtain ⟨rfl, rfl⟩ := hy
    simpa using h
  · cases h

theorem constNN_ev {y : Operand} (h : constNN y = true) {k : IntKind} {b : Int} (hy : e.ev y = some (.int k b)) : 0 ≤ b := by
  unfold constNN at h
  split at h
  · simp [Env.ev] at hy
    obtain ⟨rfl, rfl⟩ := hy
    simpa using h
  · cases h

theorem okT_info {t : TypeId} (h : (!okT P t) = false) : (P.info? t).isSome = true ∧ (P.underlying t).isSome = true := by
  simpa [okT] using h

theorem run_part {t : TypeId} (h : (!okT P t) = false) (cs : Array Value) (off : Nat) (w : World) :
    (part t cs off).run P w = if isAggT P t then .ok (.agg (cs.extract off (off + sizeT P t))) w else match cs[off]? with | some v => .ok v w | none => .halt (.stuck "part: no such cell") w := by
  obtain ⟨h1, h2⟩ := okT_info h
  unfold part
  simp only [Sem.run_bind, run_isAgg h2, Result.andThen_ok]
  cases isAggT P t with
  | true => simp [run_sizeOf' h1]
  | false => cases cs[off]? <;> simp

set_option maxHeartbeats 1000000 in
theorem pure_sound {K : Value → Prop} (h : pureOp (std P) P o e w K) (hr : Rel n e a) :
    ∃ v, (∀ w', (execOp a.eval o).run P w' = .ok (.value v) w') ∧ K v := by
  obtain ⟨dst, op, type, pos, after, guard⟩ := o
  cases op
  case move x =>
    simp only [pureOp] at h
    split at h
    · rename_i v hv; exact ⟨v, fun w' => by simp [execOp, hr.ev hv], h⟩
    · exact h.elim
  case assign x =>
    simp only [pureOp] at h
    split at h
    · rename_i v hv; exact ⟨v, fun w' => by simp [execOp, hr.ev hv], h⟩
    · exact h.elim
  case pick c x y =>
    simp only [pureOp] at h
    split at h
    · rename_i t vx vy hc hx hy
      cases t with
      | true => exact ⟨_, fun w' => by simp [execOp, hr.ev hc, hr.ev hx, asBool], h⟩
      | false => exact ⟨_, fun w' => by simp [execOp, hr.ev hc, hr.ev hy, asBool], h⟩
    · exact h.elim
  case nilCheck x =>
    simp only [pureOp] at h
    split at h
    · rename_i p hp
      split at h
      · rename_i ad
        exact ⟨_, fun w' => by simp [execOp, hr.ev hp], h⟩
      · exact h.elim
    · exact h.elim
  case binOp op t x y yt =>
    cases op
    case eql =>
      obtain ⟨r, hk, hrun⟩ := eqOp_run h hr
      exact ⟨_, fun w' => run_lift (by have := hrun w' false; simpa [eqb] using this), hk⟩
    case neq =>
      obtain ⟨r, hk, hrun⟩ := eqOp_run h hr
      exact ⟨_, fun w' => run_lift (by have := hrun w' true; simpa [eqb] using this), hk⟩
    case quo =>
      simp only [pureOp] at h
      split at h
      · rename_i k p j q hx hy
        cases hkj : k == j with
        | true =>
          obtain rfl := beq_kind hkj
          simp only [hkj, cond_true] at h
          have hq : q ≠ 0 ∧ K (.int k (k.wrap (p.tdiv q))) := by
            cases hc : constNZ y with
            | true => simp only [hc, cond_true] at h; exact ⟨constNZ_ev hc hy, h⟩
            | false => simp only [hc, cond_false] at h; exact h
          exact ⟨_, fun w' => run_lift (by rw [hr.ev hx, hr.ev hy]; simp [eqGuard_at_int, binOp_quo, Op.intDiv, hq.1]), hq.2⟩
        | false => simp only [hkj, cond_false] at h
      · exact h.elim
    case rem =>
      simp only [pureOp] at h
      split at h
      · rename_i k p j q hx hy
        cases hkj : k == j with
        | true =>
          obtain rfl := beq_kind hkj
          simp only [hkj, cond_true] at h
          have hq : q ≠ 0 ∧ K (.int k (p.tmod q)) := by
            cases hc : constNZ y with
            | true => simp only [hc, cond_true] at h; exact ⟨constNZ_ev hc hy, h⟩
            | false => simp only [hc, cond_false] at h; exact h
          exact ⟨_, fun w' => run_lift (by rw [hr.ev hx, hr.ev hy]; simp [eqGuard_at_int, binOp_rem, Op.intDiv, hq.1]), hq.2⟩
        | false => simp only [hkj, cond_false] at h
      · exact h.elim
    case shl =>
      simp only [pureOp] at h
      split at h
      · rename_i k p j q hx hy
        have hq : 0 ≤ q ∧ K (.int k (k.wrap (p * 2 ^ min q.toNat k.bits))) := by
          cases hc : constNN y with
          | true => simp only [hc, cond_true] at h; exact ⟨constNN_ev hc hy, h⟩
          | false => simp only [hc, cond_false] at h; exact h
        exact ⟨_, fun w' => run_lift (by rw [hr.ev hx, hr.ev hy]; simp [eqGuard_at_int, binOp_shl, Op.shift, Int.not_lt.2 hq.1]), hq.2⟩
      · exact h.elim
    case shr =>
      simp only [pureOp] at h
      split at h
      · rename_i k p j q hx hy
        have hq : 0 ≤ q ∧ K (.int k (p.fdiv (2 ^ min q.toNat k.bits))) := by
          cases hc : constNN y with
          | true => simp only [hc, cond_true] at h; exact ⟨constNN_ev hc hy, h⟩
          | false => simp only [hc, cond_false] at h; exact h
        exact ⟨_, fun w' => run_lift (by rw [hr.ev hx, hr.ev hy]; simp [eqGuard_at_int, binOp_shr, Op.shift, Int.not_lt.2 hq.1]), hq.2⟩
      · exact h.elim
    all_goals
      simp only [pureOp] at h
      split at h
      · rename_i k p j q hx hy
        cases hkj : k == j with
        | true =>
          obtain rfl := beq_kind hkj
          simp only [hkj, cond_true] at h
          split at h
          · rename_i v hv
            exact ⟨v, fun w' => run_lift (by rw [hr.ev hx, hr.ev hy]; exact intBin_run hv w'), h⟩
          · exact h.elim
        | false => simp only [hkj, cond_false] at h
      · rename_i p q hx hy
        first
          | (split at h
             · rename_i v hv
               exact ⟨v, fun w' => run_lift (by rw [hr.ev hx, hr.ev hy]; exact strBin_run hv w'), h⟩
             · exact h.elim)
          | (obtain ⟨hc, hk⟩ := h
             exact ⟨_, fun w' => run_lift (by rw [hr.ev hx, hr.ev hy]; simp only [eqGuard_at_string, binOp, Op.stringOp]; rw [if_neg (by omega)]; rfl), hk⟩)
      · exact h.elim
  case unOp op t x =>
    simp only [pureOp] at h
    split at h
    · rename_i k i hx
      split at h
      · exact ⟨_, fun w' => run_lift (by rw [hr.ev hx]; simp [Op.unary, Op.intArith]), h⟩
      · exact ⟨_, fun w' => run_lift (by rw [hr.ev hx]; simp [Op.unary, intBits_xor]), h⟩
      · exact h.elim
    · rename_i b hx
      split at h
      · exact ⟨_, fun w' => run_lift (by rw [hr.ev hx]; simp [Op.unary]), h⟩
      · exact h.elim
    · exact h.elim
  case convert s d x =>
    simp only [pureOp] at h
    split at h
    · rename_i ds k i hs hx
      split at h
      · rename_i kd hd
        exact ⟨_, fun w' => run_lift (by rw [hr.ev hx]; simp [convert, run_underlying hs, run_underlying hd, Conv.intToInt]), h⟩
      · exact h.elim
    · exact h.elim
  case extract x i =>
    simp only [pureOp] at h
    split at h
    · rename_i vs hx
      split at h
      · rename_i v hv
        exact ⟨v, fun w' => run_lift (by rw [hr.ev hx]; simp [Instr.extract, show vs[i]? = some v by simpa using hv]), h⟩
      · exact h.elim
    · exact h.elim
  case field t x f =>
    simp only [pureOp] at h
    split at h
    · rename_i fs cs ht hx
      split at h
      · rename_i fd hf
        cases hok : !okT P fd.type with
        | true => simp only [hok, cond_true] at h
        | false =>
          simp only [hok, cond_false] at h
          cases hag : isAggT P fd.type with
          | true =>
            simp only [hag, cond_true] at h
            refine ⟨_, fun w' => run_lift ?_, h⟩
            rw [hr.ev hx]
            simp [Instr.field, run_underlying ht, hf, asAgg, run_part hok, hag]
            apply Array.ext'
            simp
          | false =>
            simp only [hag, cond_false] at h
            split at h
            · rename_i v hv
              refine ⟨_, fun w' => run_lift ?_, h⟩
              rw [hr.ev hx]
              simp [Instr.field, run_underlying ht, hf, asAgg, run_part hok, hag, show cs[fd.offset]? = some v by simpa using hv]
            · exact h.elim
      · exact h.elim
    · exact h.elim
  case fieldAddr t x f =>
    simp only [pureOp] at h
    split at h
    · rename_i fs ad ht hx
      split at h
      · rename_i fd hf
        cases hz : Nat.beq (sizeT P fd.type) 0 with
        | true => simp only [hz, cond_true] at h
        | false =>
          simp only [hz, cond_false] at h
          have hs : (P.info? fd.type).isSome = true := by
            cases hi : P.info? fd.type with
            | none => simp [sizeT, hi] at hz
            | some i => rfl
          have hn : sizeT P fd.type ≠ 0 := fun h0 => by simp [h0] at hz
          refine ⟨_, fun w' => run_lift ?_, h⟩
          rw [hr.ev hx]
          simp [Instr.fieldAt, run_underlying ht, hf, Instr.sureAddr, fieldPlace, run_sizeOf' hs, hn]
      · exact h.elim
    · exact h.elim
  case makeInterface t x =>
    simp only [pureOp] at h
    split at h
    · exact h.elim
    · rename_i d v hni hd hx
      refine ⟨_, fun w' => run_lift ?_, h⟩
      rw [hr.ev hx]
      simp only [Instr.makeInterface, Sem.run_bind, run_underlying hd, Result.andThen_ok]
      first
        | rfl
        | (split
           · rename_i ms; exact (hni ms rfl).elim
           · rfl)
    · exact h.elim
  case makeFunc fn first cap =>
    simp only [pureOp] at h
    split at h
    · rename_i f c hf hc
      exact ⟨_, fun w' => run_lift (by rw [hr.evArr hf, hr.evArr hc]; simp [Instr.makeFunc]), h⟩
    · exact h.elim
  case build t parts =>
    simp only [pureOp] at h
    split at h
    · rename_i vs hv
      split at h
      · rename_i v w1 hrun
        exact ⟨v, fun w' => run_lift (by rw [evParts_arr hr hv]; exact ((Quiet.build t _).run w w' w1 v hrun).2), h⟩
      · exact h.elim
    · exact h.elim
  case indexAddr t x ix =>
    simp only [pureOp] at h
    split at h
    · rename_i el ht
      cases hok : !okT P el with
      | true => simp only [hok, cond_true] at h
      | false =>
        simp only [hok, cond_false] at h
        obtain ⟨hi1, hi2⟩ := okT_info hok
        split at h
        · rename_i sa l c k i hx hi
          obtain ⟨ad, hsa, hb, hk⟩ := h
          simp only at hsa hb
          subst hsa
          refine ⟨_, fun w' => run_lift ?_, hk⟩
          rw [hr.ev hx, hr.ev hi]
          simp [Instr.indexAt, asIntOf, run_underlying ht, hb, run_sizeOf' hi1]
        · exact h.elim
    · rename_i len el ht
      cases hok : !okT P el with
      | true => simp only [hok, cond_true] at h
      | false =>
        simp only [hok, cond_false] at h
        obtain ⟨hi1, hi2⟩ := okT_info hok
        split at h
        · rename_i ad hx
          split at h
          · rename_i i hc
            refine ⟨_, fun w' => run_lift ?_, h⟩
            unfold constIn at hc
            split at hc
            · rename_i k j
              split at hc
              · rename_i hb
                cases hc
                rw [hr.ev hx]
                simp [Act.eval, Instr.indexAt, asIntOf, run_underlying ht, Instr.sureAddr, hb, run_sizeOf' hi1]
              · cases hc
            · cases hc
          · split at h
            · rename_i k j hi
              obtain ⟨hb, hk⟩ := h
              refine ⟨_, fun w' => run_lift ?_, hk⟩
              rw [hr.ev hx, hr.ev hi]
              simp [Instr.indexAt, asIntOf, run_underlying ht, Instr.sureAddr, hb, run_sizeOf' hi1]
            · exact h.elim
        · exact h.elim
    · exact h.elim
  case index t x ix =>
    simp only [pureOp] at h
    split at h
    · rename_i ht
      split at h
      · rename_i s k i hx hi
        obtain ⟨b, ⟨h0, hb⟩, hk⟩ := h
        refine ⟨_, fun w' => run_lift ?_, hk⟩
        rw [hr.ev hx, hr.ev hi]
        simp [Instr.index, asIntOf, run_underlying ht, h0, hb]
      · exact h.elim
    · rename_i len el ht
      split at h
      · rename_i cs k i hx hi
        split at h
        · rename_i c hc
          cases hg : isAggT P el || !(Nat.beq (sizeT P el) 1) || !okT P el with
          | true => simp only [hg, cond_true] at h
          | false =>
            simp only [hg, cond_false] at h
            simp only [Bool.or_eq_false_iff] at hg
            obtain ⟨⟨g1, g2⟩, g3⟩ := hg
            have g2' : sizeT P el = 1 := Nat.eq_of_beq_eq_true (by simpa using g2)
            obtain ⟨y, ⟨h0, h1, hy⟩, hk⟩ := h
            obtain ⟨hi1, hi2⟩ := okT_info g3
            refine ⟨_, fun w' => run_lift ?_, hk⟩
            rw [hr.ev hx, hr.ev hi]
            have hy' : cs[i.toNat]? = some (c.mk y) := by simpa using hy
            simp [Instr.index, asIntOf, run_underlying ht, h0, h1, run_sizeOf' hi1, g2', run_part g3, g1, hy']
        · exact h.elim
      · exact h.elim
    · exact h.elim
  case slice t x lo hi mx =>
    simp only [pureOp] at h
    cases hmh : mx.isSome && hi.isNone with
    | true => simp only [hmh, cond_true] at h
    | false =>
      simp only [hmh, cond_false] at h
      split at h
      · rename_i l hh m hl hhi hm
        have bl := Bd.of hr hl
        have bh := Bd.of hr hhi
        have bm := Bd.of hr hm
        have hmh' : ((mx.map a.eval).isSome && (hi.map a.eval).isNone) = false := by simpa using hmh
        split at h
        · rename_i el ht
          cases hok : !okT P el with
          | true => simp only [hok, cond_true] at h
          | false =>
            simp only [hok, cond_false] at h
            obtain ⟨hi1, hi2⟩ := okT_info hok
            split at h
            · rename_i sa nn cc hx
              obtain ⟨hb, hk⟩ := h
              refine ⟨_, fun w' => run_lift ?_, hk⟩
              rw [hr.ev hx]
              simp only [Instr.sliceAt, Sem.run_bind, run_underlying ht, Result.andThen_ok, Instr.slice, run_sliceBounds true bl bh bm hmh' hb, run_sizeOf' hi1]
              rfl
            · exact h.elim
        · rename_i ht
          split at h
          · rename_i s hx
            obtain ⟨hb, hk⟩ := h
            have hmn : mx = none := by
              rcases oneInt_ev hr hm with ⟨e1, _⟩ | ⟨_, _, _, _, e2, _⟩
              · exact e1
              · cases e2
            subst hmn
            refine ⟨_, fun w' => run_lift ?_, hk⟩
            rw [hr.ev hx]
            have hb' : 0 ≤ l.getD 0 ∧ l.getD 0 ≤ hh.getD s.size ∧ hh.getD s.size ≤ (none : Option Int).getD (s.size : Int) ∧ (none : Option Int).getD (s.size : Int) ≤ (s.size : Int) := ⟨hb.1, hb.2.1, hb.2.2, Int.le_refl _⟩
            have := run_sliceBounds (P := P) (nn := s.size) (cc := s.size) false bl bh (m := none) (mx := none) (.inl ⟨rfl, rfl⟩) (by simp) hb' w'
            simp only [Option.map_none, Instr.sliceAt, Sem.run_bind, run_underlying ht, Result.andThen_ok, Instr.slice, Option.isSome_none, Bool.false_eq_true, if_false, this]
            rfl
          · exact h.elim
        · rename_i len el ht
          cases hok : !okT P el with
          | true => simp only [hok, cond_true] at h
          | false =>
            simp only [hok, cond_false] at h
            obtain ⟨hi1, hi2⟩ := okT_info hok
            split at h
            · rename_i ad hx
              obtain ⟨hb, hk⟩ := h
              refine ⟨_, fun w' => run_lift ?_, hk⟩
              rw [hr.ev hx]
              simp only [Instr.sliceAt, Sem.run_bind, run_underlying ht, Result.andThen_ok, Instr.sureAddr, Sem.run_pure, run_sliceBounds false bl bh bm hmh' hb, run_sizeOf' hi1]
            · exact h.elim
        · exact h.elim
      · exact h.elim
  case call c =>
    obtain ⟨callee, args, argTypes⟩ := c
    cases callee with
    | builtin b =>
      cases b <;> simp only [pureOp] at h <;> try exact h.elim
      case cap =>
        split at h
        · rename_i el _ _ c ht hv
          obtain ⟨t0, h0, h1⟩ := Option.bind_eq_some_iff.1 ht
          exact ⟨_, fun w' => by simp [execOp, resolve, hr.evArr hv, invoke, builtin, Builtin.cap_, h0, run_underlying h1, goInt], h⟩
        · exact h.elim
      case len =>
        split at h
        · rename_i el _ k _ ht hv
          obtain ⟨t0, h0, h1⟩ := Option.bind_eq_some_iff.1 ht
          exact ⟨_, fun w' => by simp [execOp, resolve, hr.evArr hv, invoke, builtin, Builtin.len_, h0, run_underlying h1, goInt], h⟩
        · rename_i s ht hv
          obtain ⟨t0, h0, h1⟩ := Option.bind_eq_some_iff.1 ht
          exact ⟨_, fun w' => by simp [execOp, resolve, hr.evArr hv, invoke, builtin, Builtin.len_, h0, run_underlying h1, goInt], h⟩
        · rename_i k el u ht hv
          obtain ⟨t0, h0, h1⟩ := Option.bind_eq_some_iff.1 ht
          exact ⟨_, fun w' => by simp [execOp, resolve, hr.evArr hv, invoke, builtin, Builtin.len_, h0, run_underlying h1, goInt], h⟩
        · exact h.elim
      case max =>
        split at h
        · rename_i k x j y hv
          exact ⟨_, fun w' => by simp [execOp, resolve, hr.evArr hv, invoke, builtin, run_max_int2], h⟩
        · exact h.elim
      case min =>
        split at h
        · rename_i k x j y hv
          exact ⟨_, fun w' => by simp [execOp, resolve, hr.evArr hv, invoke, builtin, run_min_int2], h⟩
        · exact h.elim
    | value f => exact h.elim
    | invoke r m => exact h.elim
  all_goals exact h.elim

/-! ### Operations that read -/
theorem run_loadCells_at {ad : Addr} : ∀ (vs : List Value) (i : Nat) (acc : Array Value) (w : World), cellsAt w ad i vs →
    (loadCellsFrom ad i vs.length acc).run P w = .ok (acc ++ vs.toArray) w
  | [], i, acc, w, _ => by simp [loadCellsFrom]
  | [v], i, acc, w, h => by
    have h' : w.cell? (ad.add i) = some v := h
    simp [loadCellsFrom, h']
  | v :: u :: vs, i, acc, w, h => by
    obtain ⟨h1, h2⟩ := h
    have := run_loadCells_at (u :: vs) (i + 1) (acc.push v) w h2
    simp only [List.length_cons] at this ⊢
    rw [loadCellsFrom]
    simp only [Sem.run_bind, run_load, h1, Result.andThen_ok, this]
    simp

theorem cell_not_agg : True := trivial

theorem read_sound {K : Value → (World → Prop) → Prop} (h : readOp (std P) P o e w K) (hc : cls P o.op = .read) (hr : Rel n e a) :
    ∃ v hold, (execOp a.eval o).run P w = .ok (.value v) w ∧ (∀ w', hold w' → (execOp a.eval o).run P w' = .ok (.value v) w') ∧ K v hold := by
  obtain ⟨dst, op, type, pos, after, guard⟩ := o
  cases op
  case load t x =>
    simp only [readOp] at h
    split at h
    · rename_i ad hx
      split at h
      · rename_i c hcell
        cases hok : !okT P t with
        | true => simp only [hok, cond_true] at h
        | false =>
          simp only [hok, cond_false] at h
          obtain ⟨hi1, hi2⟩ := okT_info hok
          cases hag : isAggT P t with
          | true => simp only [hag, cond_true] at h
          | false =>
            simp only [hag, cond_false] at h
            obtain ⟨y, hy, hk⟩ := h
            have key : ∀ w', w'.cell? ad = some (c.mk y) → (execOp a.eval ⟨dst, .load t x, type, pos, after, guard⟩).run P w' = .ok (.value (c.mk y)) w' := fun w' hw' =>
              run_lift (by rw [hr.ev hx]; simp [Instr.loadAt, Instr.sureAddr, loadVar, run_isAgg hi2, hag, hw'])
            exact ⟨_, _, key w hy, fun w' hw' => key w' hw', hk⟩
      · rename_i cs hcells
        cases hg : isAggT P t && Nat.beq (sizeT P t) cs.length with
        | false => simp only [hg, cond_false] at h
        | true =>
          simp only [hg, cond_true] at h
          simp only [Bool.and_eq_true] at hg
          obtain ⟨hag, hsz⟩ := hg
          have hsz' := Nat.eq_of_beq_eq_true hsz
          obtain ⟨y, hy, hk⟩ := h
          have hlen : (HL.mk cs y).length = cs.length := HL.mk_length cs y
          have hsome : (P.info? t).isSome = true := by
            cases hi : P.info? t with
            | none =>
              have : (P.underlying t).isSome = true := isAggT_some hag
              simp [Program.underlying, hi] at this
            | some i => rfl
          have key : ∀ w', cellsAt w' ad 0 (HL.mk cs y) → (execOp a.eval ⟨dst, .load t x, type, pos, after, guard⟩).run P w' = .ok (.value (.agg (HL.mk cs y).toArray)) w' := fun w' hw' =>
            run_lift (by
              rw [hr.ev hx]
              have := run_loadCells_at (P := P) (HL.mk cs y) 0 #[] w' hw'
              rw [hlen, ← hsz'] at this
              simp [Instr.loadAt, Instr.sureAddr, loadVar, run_isAgg (isAggT_some hag), hag, run_sizeOf' hsome, loadCells, this])
          exact ⟨_, _, key w hy, fun w' hw' => key w' hw', hk⟩
    · exact h.elim
  case lookup t m k ok =>
    simp only [readOp] at h
    split at h
    · rename_i vm vk hm hk
      obtain ⟨y, hy, hK⟩ := h
      exact ⟨_, _, run_lift (by rw [hr.ev hm, hr.ev hk]; exact hy), fun w' hw' => run_lift (by rw [hr.ev hm, hr.ev hk]; exact hw'), hK⟩
    · exact h.elim
  case typeAssert x xt as_ ok =>
    simp only [readOp] at h
    split at h
    · rename_i v hx
      obtain ⟨y, hy, hK⟩ := h
      exact ⟨_, _, run_lift (by rw [hr.ev hx]; exact hy), fun w' hw' => run_lift (by rw [hr.ev hx]; exact hw'), hK⟩
    · exact h.elim
  case binOp op t x y yt =>
    have h' : (match e.ev x, e.ev y with
      | some p, some q => (std P).runQ [.one .bool] (fun w' => (do eqGuard op t x y p q; binOp op t p q : Sem Value).run P w') w (fun r => K (.bool r) (fun w' => (do eqGuard op t x y p q; binOp op t p q : Sem Value).run P w' = .ok (.bool r) w'))
      | _, _ => False) := by cases op <;> exact h
    split at h'
    · rename_i p q hx hy
      obtain ⟨r, hr1, hK⟩ := h'
      exact ⟨_, _, run_lift (by rw [hr.ev hx, hr.ev hy]; exact hr1), fun w' hw' => run_lift (by rw [hr.ev hx, hr.ev hy]; exact hw'), hK⟩
    · exact h'.elim
  case convert s d x =>
    simp only [readOp] at h
    split at h
    · rename_i v hx
      obtain ⟨r, hr1, hK⟩ := h
      exact ⟨_, _, run_lift (by rw [hr.ev hx]; exact hr1), fun w' hw' => run_lift (by rw [hr.ev hx]; exact hw'), hK⟩
    · exact h.elim
  case call c =>
    obtain ⟨callee, args, argTypes⟩ := c
    cases callee with
    | builtin b =>
      cases b <;> simp only [readOp] at h <;> try exact h.elim
      split at h
      · rename_i vs hv
        obtain ⟨r, hr1, hK⟩ := h
        have key : ∀ w', (Builtin.len_ argTypes type vs.toArray).run P w' = .ok (.int .i64 r) w' → (execOp a.eval ⟨dst, .call ⟨.builtin .len, args, argTypes⟩, type, pos, after, guard⟩).run P w' = .ok (.value (.int .i64 r)) w' := fun w' hw' => by
          simp [execOp, resolve, hr.evArr hv, invoke, builtin, hw']
        exact ⟨_, _, key w hr1, fun w' hw' => key w' hw', hK⟩
      · exact h.elim
    | value f => exact h.elim
    | invoke r m => exact h.elim
  all_goals exact h.elim

end Go.Pt
