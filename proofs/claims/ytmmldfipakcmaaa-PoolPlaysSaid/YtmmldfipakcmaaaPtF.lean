/- Regions: the text's order, and whatever order is drawn: sound against the model. No condition. -/
import Derived.Test.YtmmldfipakcmaaaPtE
set_option linter.unusedVariables false
namespace Go.Pt
open Go

variable {P : Program} {n : Nat} {e : Env} {a : Act} {w : World}

def Keeps (wr : Nat → Bool) (a a' : Act) : Prop := ∀ t, wr t = false → a'.tmps.getD t undef = a.tmps.getD t undef

theorem Keeps.refl (wr : Nat → Bool) (a : Act) : Keeps wr a a := fun _ _ => rfl
theorem Keeps.trans {wr1 wr2 wr : Nat → Bool} {a b c : Act} (h1 : Keeps wr1 a b) (h2 : Keeps wr2 b c) (h : ∀ t, wr t = false → wr1 t = false ∧ wr2 t = false) : Keeps wr a c :=
  fun t ht => (h2 t (h t ht).2).trans (h1 t (h t ht).1)
theorem Keeps.mono {wr1 wr : Nat → Bool} {a b : Act} (h1 : Keeps wr1 a b) (h : ∀ t, wr t = false → wr1 t = false) : Keeps wr a b := fun t ht => h1 t (h t ht)

theorem Keeps.put (a : Act) (dst : Option Tmp) (v : Value) {wr : Nat → Bool} (h : ∀ d, dst = some d → wr d = true) : Keeps wr a (a.put dst v) := by
  intro t ht
  cases dst with
  | none => rfl
  | some d =>
    have hne : d ≠ t := fun hd => by subst hd; rw [h d rfl] at ht; cases ht
    simp [Act.put, Array.getElem?_setIfInBounds_ne hne]

theorem opsWr_mem {ops : List Oper} {o : Oper} {d : Nat} (ho : o ∈ ops) (hd : o.dst = some d) : opsWr ops d = true := by
  unfold opsWr
  rw [List.any_eq_true]
  exact ⟨o, ho, by simp [hd]⟩

/-- All temporaries that a list of operations writes lie in the frame. -/
def dstsLt (n : Nat) (ops : List Oper) : Bool := ops.all fun o => match o.dst with | some d => Nat.blt d n | none => true

theorem dstsLt_mem {ops : List Oper} (h : dstsLt n ops = true) {o : Oper} (ho : o ∈ ops) : ∀ d, o.dst = some d → d < n := by
  intro d hd
  have := List.all_eq_true.1 h o ho
  simp only [hd] at this
  exact Nat.le_of_ble_eq_true this

theorem Rel.refine (h : Rel n e a) {d : Nat} {v : Value} (hv : e.get d = some v) : Rel n ((d, v) :: e) a := by
  refine ⟨h.size, h.defers, fun t u hu => ?_⟩
  rw [Env.get_put] at hu
  by_cases hdt : d = t
  · subst hdt
    simp at hu; subst hu
    exact h.get _ _ hv
  · simp [hdt] at hu
    exact h.get _ _ hu

theorem guarded_sound {ops : List Oper} {o : Oper} {yes no : Env → Prop} (h : guarded ops o e yes no) (hr : Rel n e a) :
    (∃ e', Rel n e' a ∧ Region.wanted o (yielded ops.toArray a.tmps) = true ∧ yes e') ∨
    (∃ e', Rel n e' a ∧ Region.wanted o (yielded ops.toArray a.tmps) = false ∧ no e') := by
  unfold guarded at h
  split at h
  · rename_i hg
    exact .inl ⟨e, hr, by simp [Region.wanted, hg], h⟩
  · rename_i j want hg
    split at h
    · exact h.elim
    · rename_i d hd
      have hy : ∀ v, e.get d = some v → yielded ops.toArray a.tmps j = match v with | .bool b => some b | _ => none := by
        intro v hv
        have h1 := hr.get d v hv
        unfold yielded
        have hd' : ((ops.toArray[j]?).bind (·.dst)) = some d := by simpa using hd
        rw [hd']
        simp only [Option.bind_some]
        cases ht : a.tmps[d]? with
        | none =>
          have : v = undef := by simpa [ht] using h1.symm
          subst this
          rfl
        | some u =>
          have : u = v := by simpa [ht] using h1
          subst this
          cases u <;> rfl
      split at h
      · rename_i b hb
        have hyb := hy _ hb
        simp only at hyb
        have hre := hr.refine hb
        cases b <;> cases want <;> simp only at h
        · exact .inl ⟨_, hre, by simp [Region.wanted, hg, hyb], h⟩
        · exact .inr ⟨_, hre, by simp [Region.wanted, hg, hyb], h⟩
        · exact .inr ⟨_, hre, by simp [Region.wanted, hg, hyb], h⟩
        · exact .inl ⟨_, hre, by simp [Region.wanted, hg, hyb], h⟩
      · rename_i ts hb
        have hyb := hy _ hb
        simp only at hyb
        exact .inr ⟨e, hr, by simp [Region.wanted, hg, hyb], h⟩
      · exact h.elim

theorem wp_of_run {o : Oper} {Q : Exit → Act → World → Prop} {next : Act → World → Prop} {v : Value} {w' : World} (hr : (execOp a.eval o).run P w = .ok (.value v) w') (hn : next (a.put o.dst v) w') : o.wp P a w next Q := by
  unfold Oper.wp; rw [hr]; exact hn

theorem op_sound {o : Oper} {K : Value → World → Prop} (Q : Exit → Act → World → Prop) (h : opPt (std P) P o e w K) (hr : Rel n e a) :
    o.wp P a w (fun a' w' => ∃ v, a' = a.put o.dst v ∧ K v w') Q := by
  unfold opPt at h
  split at h
  · obtain ⟨v, hv, hk⟩ := pure_sound h hr
    exact wp_of_run (hv w) ⟨v, rfl, hk⟩
  · rename_i hc
    obtain ⟨v, hold, hv, _, hk⟩ := read_sound h hc hr
    exact wp_of_run hv ⟨v, rfl, hk⟩
  · exact eff_sound Q h hr

theorem ops_sound {ops : List Oper} {K : Env → World → Prop} {Q : Exit → Act → World → Prop} {a0 : Act} {wr : Nat → Bool} :
    ∀ (l : List Oper) (e : Env) (a : Act) (w : World), runOps (std P) P ops K l e w → Rel n e a → dstsLt n l = true → (∀ o ∈ l, ∀ d, o.dst = some d → wr d = true) → Keeps wr a0 a →
      (∀ e' a' w', K e' w' → Rel n e' a' → Keeps wr a0 a' → Q .normal a' w') → wpList P ops.toArray Q l a w
  | [], e, a, w, h, hr, _, _, hk, hQ => hQ e a w h hr hk
  | o :: rest, e, a, w, h, hr, hd, hw, hk, hQ => by
    have hd1 := dstsLt_mem hd (o := o) (by simp)
    have hd2 : dstsLt n rest = true := by simp only [dstsLt, List.all_cons, Bool.and_eq_true] at hd ⊢; exact hd.2
    have hw1 := hw o (by simp)
    have hw2 : ∀ o ∈ rest, ∀ d, o.dst = some d → wr d = true := fun p hp => hw p (by simp [hp])
    unfold wpList
    rcases guarded_sound h hr with ⟨e', hr', hwant, hy⟩ | ⟨e', hr', hwant, hno⟩
    · rw [if_pos hwant]
      refine .inl (Oper.wp_mono ?_ (op_sound Q hy hr'))
      rintro a' w' ⟨v, rfl, hv⟩
      exact ops_sound rest _ _ _ hv (hr'.put hd1 v) hd2 hw2 (hk.trans (Keeps.put a o.dst v hw1) (fun t ht => ⟨ht, ht⟩)) hQ
    · rw [if_neg (by simp [hwant])]
      exact ops_sound rest _ _ _ hno (hr'.put hd1 undef) hd2 hw2 (hk.trans (Keeps.put a o.dst undef hw1) (fun t ht => ⟨ht, ht⟩)) hQ

/-! ### Orders that are drawn -/
def isEff (P : Program) (ops : List Oper) (i : Nat) : Bool := match ops[i]? with | some o => (match cls P o.op with | .eff => true | _ => false) | none => false

def apartB (ops : List Oper) (y x : Nat) : Bool :=
  match ops[y]?, ops[x]? with
  | some oy, some ox => oy.apart ops.toArray ox
  | _, _ => false

def isBefore (b : Array Nat) (y x : Nat) : Bool := (b.getD x 0).testBit y

def pairOk (P : Program) (ops : List Oper) (b : Array Nat) (y x : Nat) : Bool := isBefore b y x || (apartB ops y x && (!isEff P ops y || isEff P ops x))

def orderOk (P : Program) (ops : List Oper) (b : Array Nat) : List Nat → Bool
  | [] => true
  | y :: r => r.all (pairOk P ops b y) && orderOk P ops b r

def tailsOf (x : Nat) (seqs : List (List Nat)) : List (List Nat) := seqs.filterMap fun s => match s with | y :: t => bif Nat.beq y x then some t else none | [] => none

def cover (b : Array Nat) : Nat → List Nat → List (List Nat) → Bool
  | 0, rem, seqs => rem.isEmpty && seqs.contains []
  | k + 1, rem, seqs => (rem.isEmpty && seqs.contains []) || (!rem.isEmpty && rem.all fun x => rem.any (fun y => !(Nat.beq y x) && isBefore b y x) || cover b k (rem.filter fun y => !(Nat.beq y x)) (tailsOf x seqs))

def nodupB : List Nat → Bool
  | [] => true
  | x :: r => !(r.any fun y => Nat.beq x y) && nodupB r

def backward (ops : List Oper) : Bool := ops.zipIdx.all fun (o, i) => o.after.all fun e => !Region.binds .any e || Nat.blt e.on i

def effsOf (P : Program) (ops : List Oper) (l : List Nat) : List Nat := l.filter (isEff P ops)

def predsOk (ops : List Oper) (b : Array Nat) : Bool :=
  ops.zipIdx.all fun (o, x) => (List.range ops.length).all fun y => !(isBefore b y x) || o.after.any fun e => Region.binds .any e && (Nat.beq e.on y || isBefore b y e.on)

def drawOk (P : Program) (ops : List Oper) (orders : List (List Nat)) : Bool :=
  backward ops && predsOk ops (preds ops) && Region.noSelect ops.toArray &&
  (orders.all fun C => (List.range ops.length).all (fun i => C.any (Nat.beq i)) && C.all (Nat.blt · ops.length) && nodupB C && orderOk P ops (preds ops) C) &&
  cover (preds ops) ops.length (effsOf P ops (List.range ops.length)) (orders.map (effsOf P ops))

theorem nodupB_spec : ∀ {l : List Nat}, nodupB l = true → l.Nodup
  | [], _ => List.nodup_nil
  | x :: r, h => by
    simp only [nodupB, Bool.and_eq_true, Bool.not_eq_true', List.any_eq_false] at h
    refine List.nodup_cons.2 ⟨fun hm => ?_, nodupB_spec h.2⟩
    have := h.1 x hm
    simp at this

/-- An operation that is no effect, in a state: its value. -/
def StepNE (P : Program) (ops : List Oper) (o : Oper) (a : Act) (w : World) (v : Value) : Prop :=
  (Region.wanted o (yielded ops.toArray a.tmps) = true ∧ (execOp a.eval o).run P w = .ok (.value v) w) ∨ (Region.wanted o (yielded ops.toArray a.tmps) = false ∧ v = undef)

/-- No other end is let. -/
def noQ : Exit → Act → World → Prop := fun _ _ _ => False

theorem upon_swap {o : Oper} {a b : Act} {N M : Act → World → Prop} {r : Result Next} (h : o.upon P b (fun a' w' => ∃ u, a' = b.put o.dst u ∧ N a' w') noQ r) (hNM : ∀ u w', N (b.put o.dst u) w' → M (a.put o.dst u) w') :
    o.upon P a (fun a' w' => ∃ u, a' = a.put o.dst u ∧ M a' w') noQ r := by
  have key : ∀ v w', (∃ u, b.put o.dst v = b.put o.dst u ∧ N (b.put o.dst v) w') → ∃ u, a.put o.dst v = a.put o.dst u ∧ M (a.put o.dst v) w' := fun v w' ⟨u, hu, hn⟩ => ⟨v, rfl, hNM _ _ hn⟩
  cases r with
  | ok x w' =>
    cases x <;> simp only [Oper.upon] at h ⊢
    case value v => exact key _ _ h
    case skip => exact key _ _ h
    case enter f args =>
      refine Calls.mono h ?_
      intro e w'' he
      cases e <;> first | exact key _ _ he | exact he
    case defer d =>
      obtain ⟨u, hu, _⟩ := h
      exfalso
      have : (Act.put { b with defers := d :: b.defers } o.dst undef).defers = (b.put o.dst u).defers := by rw [hu]
      have h1 : ∀ (c : Act) (x : Value), (c.put o.dst x).defers = c.defers := fun c x => by cases o.dst <;> rfl
      rw [h1, h1] at this
      have := congrArg List.length this
      simp at this
    case row rw_ args => exact Rows.mono h (fun v w'' hv => key _ _ hv)
  | halt x w' => cases x <;> simp only [Oper.upon] at h ⊢ <;> exact h

/-- One order over frames, all that is read held. -/
def canA (P : Program) (ops : List Oper) (b : Array Nat) (K : Act → World → Prop) : List Nat → Holds → Act → World → Prop
  | [], _, a, w => K a w
  | i :: rest, H, a, w =>
    ∃ o, ops[i]? = some o ∧
      if isEff P ops i = true then
        (if Region.wanted o (yielded ops.toArray a.tmps) = true then
          o.wp P a w (fun a' w' => ∃ v, a' = a.put o.dst v ∧ (∀ h ∈ laterHeld b i H, h w') ∧ canA P ops b K rest H a' w') noQ
        else canA P ops b K rest H (a.put o.dst undef) w)
      else ∃ v hold, StepNE P ops o a w v ∧ (∀ w', hold w' → StepNE P ops o a w' v) ∧ canA P ops b K rest ((i, hold) :: H) (a.put o.dst v) w

/-- Fewer things held: less is asked. -/
theorem canA_mono {ops : List Oper} {b : Array Nat} {K : Act → World → Prop} :
    ∀ (l : List Nat) (H H' : Holds) (a : Act) (w : World), (∀ p ∈ H', p ∈ H) → canA P ops b K l H a w → canA P ops b K l H' a w
  | [], _, _, _, _, _, h => h
  | i :: rest, H, H', a, w, hs, ⟨o, ho, h⟩ => by
    refine ⟨o, ho, ?_⟩
    by_cases he : isEff P ops i = true
    · rw [if_pos he] at h ⊢
      by_cases hw : Region.wanted o (yielded ops.toArray a.tmps) = true
      · rw [if_pos hw] at h ⊢
        refine Oper.wp_mono ?_ h
        rintro a' w' ⟨v, rfl, hh, hc⟩
        refine ⟨v, rfl, fun x hx => hh x ?_, canA_mono rest H H' _ _ hs hc⟩
        simp only [laterHeld, List.mem_map, List.mem_filter] at hx ⊢
        obtain ⟨p, ⟨hp, hq⟩, rfl⟩ := hx
        exact ⟨p, ⟨hs p hp, hq⟩, rfl⟩
      · rw [if_neg hw] at h ⊢
        exact canA_mono rest H H' _ _ hs h
    · rw [if_neg he] at h ⊢
      obtain ⟨v, hold, h1, h2, h3⟩ := h
      refine ⟨v, hold, h1, h2, canA_mono rest _ _ _ _ ?_ h3⟩
      intro p hp
      rcases List.mem_cons.1 hp with rfl | hp
      · simp
      · exact List.mem_cons_of_mem _ (hs p hp)

/-- A lone order's evaluation, over frames. -/
theorem canA_of_runCan {ops : List Oper} {b : Array Nat} {K : Env → World → Prop} {Q : Exit → Act → World → Prop} {a0 : Act} {wr : Nat → Bool}
    (hd : dstsLt n ops = true) (hw : ∀ o ∈ ops, ∀ d, o.dst = some d → wr d = true) (hQ : ∀ e' a' w', K e' w' → Rel n e' a' → Keeps wr a0 a' → Q .normal a' w') :
    ∀ (l : List Nat) (H HA : Holds) (e : Env) (a : Act) (w : World), (∀ x w', (∀ h ∈ laterHeld b x H, h w') → ∀ h ∈ laterHeld b x HA, h w') →
      runCan (std P) P ops b K l H e w → Rel n e a → Keeps wr a0 a → canA P ops b (Q .normal) l HA a w
  | [], H, HA, e, a, w, _, h, hr, hk => hQ e a w h hr hk
  | i :: rest, H, HA, e, a, w, hH, h, hr, hk => by
    simp only [runCan] at h
    cases ho : ops[i]? with
    | none => simp [ho] at h
    | some o =>
      simp only [ho] at h
      have hmem : o ∈ ops := List.mem_of_getElem? ho
      have hd1 := dstsLt_mem hd hmem
      have hw1 := hw o hmem
      have hput : ∀ v, Keeps wr a0 (a.put o.dst v) := fun v => hk.trans (Keeps.put a o.dst v hw1) (fun t ht => ⟨ht, ht⟩)
      refine ⟨o, ho, ?_⟩
      have hE : isEff P ops i = match cls P o.op with | .eff => true | _ => false := by simp [isEff, ho]
      have hHa : ∀ x w', (∀ h ∈ laterHeld b x H, h w') → ∀ h ∈ laterHeld b x ((i, fun _ => True) :: HA), h w' := by
        intro x w' hh g hg
        simp only [laterHeld, List.mem_map, List.mem_filter, List.mem_cons] at hg
        obtain ⟨p, ⟨hp, hq⟩, rfl⟩ := hg
        rcases hp with rfl | hp
        · trivial
        · exact hH x w' hh _ (by simp only [laterHeld, List.mem_map, List.mem_filter]; exact ⟨p, ⟨hp, hq⟩, rfl⟩)
      rcases guarded_sound h hr with ⟨e', hr', hwant, hy⟩ | ⟨e', hr', hwant, hno⟩
      · cases hc : cls P o.op with
        | pure =>
          simp only [hc] at hy hE
          rw [if_neg (by simp [hE])]
          obtain ⟨v, hv, hk'⟩ := pure_sound hy hr'
          exact ⟨v, fun _ => True, .inl ⟨hwant, hv w⟩, fun w' _ => .inl ⟨hwant, hv w'⟩, canA_of_runCan hd hw hQ rest H _ _ _ _ hHa hk' (hr'.put hd1 v) (hput v)⟩
        | read =>
          simp only [hc] at hy hE
          rw [if_neg (by simp [hE])]
          obtain ⟨v, hold, hv, hh, hk'⟩ := read_sound hy hc hr'
          refine ⟨v, hold, .inl ⟨hwant, hv⟩, fun w' hw' => .inl ⟨hwant, hh w' hw'⟩, canA_of_runCan hd hw hQ rest ((i, hold) :: H) _ _ _ _ ?_ hk' (hr'.put hd1 v) (hput v)⟩
          intro x w' hh' g hg
          simp only [laterHeld, List.mem_map, List.mem_filter, List.mem_cons] at hg
          obtain ⟨p, ⟨hp, hq⟩, rfl⟩ := hg
          rcases hp with rfl | hp
          · exact hh' _ (by simp only [laterHeld, List.mem_map, List.mem_filter, List.mem_cons]; exact ⟨(i, hold), ⟨.inl rfl, hq⟩, rfl⟩)
          · refine hH x w' (fun g hg => hh' g ?_) _ (by simp only [laterHeld, List.mem_map, List.mem_filter]; exact ⟨p, ⟨hp, hq⟩, rfl⟩)
            simp only [laterHeld, List.mem_map, List.mem_filter, List.mem_cons] at hg ⊢
            obtain ⟨p, ⟨hp, hq⟩, rfl⟩ := hg
            exact ⟨p, ⟨.inr hp, hq⟩, rfl⟩
        | eff =>
          simp only [hc] at hy hE
          rw [if_pos (by simp [hE]), if_pos hwant]
          refine Oper.wp_mono ?_ (eff_sound noQ hy hr')
          rintro a' w' ⟨v, rfl, hv⟩
          have hv' : (∀ g ∈ laterHeld b i H, g w') ∧ runCan (std P) P ops b K rest H (e'.put o.dst v) w' := by
            split at hv
            · rename_i hl; exact ⟨by simp [hl], hv⟩
            · rename_i l hl; exact ⟨fun g hg => heldAll_mem hv.1 g hg, hv.2⟩
          exact ⟨v, rfl, hH i w' hv'.1, canA_of_runCan hd hw hQ rest H HA _ _ _ hH hv'.2 (hr'.put hd1 v) (hput v)⟩
      · by_cases he : isEff P ops i = true
        · rw [if_pos he, if_neg (by simp [hwant])]
          exact canA_of_runCan hd hw hQ rest H HA _ _ _ hH hno (hr'.put hd1 undef) (hput undef)
        · rw [if_neg he]
          exact ⟨undef, fun _ => True, .inr ⟨hwant, rfl⟩, fun _ _ => .inr ⟨hwant, rfl⟩, canA_of_runCan hd hw hQ rest H _ _ _ _ hHa hno (hr'.put hd1 undef) (hput undef)⟩

/-! ### Taking an operation first -/
theorem StepNE.put {ops : List Oper} {o p : Oper} {a : Act} {w : World} {v u : Value} (hs : Region.noSelect ops.toArray = true) (ho : o ∈ ops) (hap : ∀ d, p.dst = some d → d ∉ o.looksAt ops.toArray) :
    StepNE P ops o (a.put p.dst u) w v ↔ StepNE P ops o a w v := by
  have hsel : ∀ cs b, o.op ≠ .select cs b := fun cs b => by
    obtain ⟨j, hj, hjo⟩ := List.getElem_of_mem ho
    exact Region.noSelect_spec hs j o cs b (by simp [← hjo])
  unfold StepNE
  rw [wanted_put o a p.dst u hap, execOp_put o hsel a p.dst u hap]

/-- Past a row of operations that are no effects and apart: an operation that is none. -/
theorem canA_ne_first {ops : List Oper} {b : Array Nat} {K : Act → World → Prop} (hs : Region.noSelect ops.toArray = true) {x : Nat} {ox : Oper} (hx : ops[x]? = some ox) (hxe : isEff P ops x = false) :
    ∀ (pre post : List Nat) (H : Holds) (a : Act) (w : World), (∀ y ∈ pre, isEff P ops y = false ∧ apartB ops y x = true) → canA P ops b K (pre ++ x :: post) H a w →
      ∃ v, StepNE P ops ox a w v ∧ canA P ops b K (pre ++ post) H (a.put ox.dst v) w
  | [], post, H, a, w, _, ⟨o, ho, h⟩ => by
    obtain rfl : ox = o := by rw [hx] at ho; exact Option.some.inj ho
    rw [if_neg (by simp [hxe])] at h
    obtain ⟨v, hold, h1, _, h3⟩ := h
    exact ⟨v, h1, canA_mono _ _ _ _ _ (fun p hp => List.mem_cons_of_mem _ hp) h3⟩
  | y :: pre, post, H, a, w, hp, ⟨oy, hoy, h⟩ => by
    obtain ⟨hye, hyx⟩ := hp y (by simp)
    rw [if_neg (by simp [hye])] at h
    obtain ⟨v, hold, h1, h2, h3⟩ := h
    obtain ⟨u, hu, hc⟩ := canA_ne_first hs hx hxe pre post _ _ w (fun z hz => hp z (by simp [hz])) h3
    simp only [apartB, hoy, hx] at hyx
    obtain ⟨a1, a2, a3⟩ := Oper.apart_spec hyx
    refine ⟨u, (StepNE.put hs (List.mem_of_getElem? hx) a1).1 hu, oy, hoy, ?_⟩
    rw [if_neg (by simp [hye])]
    refine ⟨v, hold, (StepNE.put hs (List.mem_of_getElem? hoy) a3).2 h1, fun w' hw' => (StepNE.put hs (List.mem_of_getElem? hoy) a3).2 (h2 w' hw'), ?_⟩
    rw [← Act.put_comm a v u a2]
    exact hc

/-- The same for an effect. -/
theorem canA_eff_first {ops : List Oper} {b : Array Nat} {K : Act → World → Prop} (hs : Region.noSelect ops.toArray = true) {x : Nat} {ox : Oper} (hx : ops[x]? = some ox) (hxe : isEff P ops x = true) :
    ∀ (pre post : List Nat) (H : Holds) (a : Act) (w : World), (∀ y ∈ pre, isEff P ops y = false ∧ apartB ops y x = true ∧ isBefore b y x = false) → canA P ops b K (pre ++ x :: post) H a w →
      if Region.wanted ox (yielded ops.toArray a.tmps) = true then
        ox.wp P a w (fun a' w' => ∃ v, a' = a.put ox.dst v ∧ (∀ h ∈ laterHeld b x H, h w') ∧ canA P ops b K (pre ++ post) H a' w') noQ
      else canA P ops b K (pre ++ post) H (a.put ox.dst undef) w
  | [], post, H, a, w, _, ⟨o, ho, h⟩ => by
    obtain rfl : ox = o := by rw [hx] at ho; exact Option.some.inj ho
    rw [if_pos hxe] at h
    exact h
  | y :: pre, post, H, a, w, hp, ⟨oy, hoy, h⟩ => by
    obtain ⟨hye, hyx, hyb⟩ := hp y (by simp)
    rw [if_neg (by simp [hye])] at h
    obtain ⟨v, hold, h1, h2, h3⟩ := h
    have ih := canA_eff_first hs hx hxe pre post _ _ w (fun z hz => hp z (by simp [hz])) h3
    simp only [apartB, hoy, hx] at hyx
    obtain ⟨a1, a2, a3⟩ := Oper.apart_spec hyx
    have hmx : ox ∈ ops := List.mem_of_getElem? hx
    have hsel : ∀ cs c, ox.op ≠ .select cs c := fun cs c => by
      obtain ⟨j, hj, hjo⟩ := List.getElem_of_mem hmx
      exact Region.noSelect_spec hs j ox cs c (by simp [← hjo])
    rw [wanted_put ox a oy.dst v a1] at ih
    by_cases hwt : Region.wanted ox (yielded ops.toArray a.tmps) = true
    · rw [if_pos hwt] at ih ⊢
      unfold Oper.wp at ih ⊢
      rw [execOp_put ox hsel a oy.dst v a1] at ih
      have key : ∀ (u : Value) (w' : World), (∀ h ∈ laterHeld b x ((y, hold) :: H), h w') → canA P ops b K (pre ++ post) ((y, hold) :: H) ((a.put oy.dst v).put ox.dst u) w' →
          (∀ h ∈ laterHeld b x H, h w') ∧ canA P ops b K (y :: pre ++ post) H (a.put ox.dst u) w' := by
        intro u w' hh hc
        have hy : hold w' := hh hold (by simp only [laterHeld, List.mem_map, List.mem_filter, List.mem_cons]; exact ⟨(y, hold), ⟨.inl rfl, by simpa [isBefore] using hyb⟩, rfl⟩)
        refine ⟨fun g hg => hh g ?_, oy, hoy, ?_⟩
        · simp only [laterHeld, List.mem_map, List.mem_filter, List.mem_cons] at hg ⊢
          obtain ⟨p, ⟨hp1, hp2⟩, rfl⟩ := hg
          exact ⟨p, ⟨.inr hp1, hp2⟩, rfl⟩
        · rw [if_neg (by simp [hye])]
          refine ⟨v, hold, (StepNE.put hs (List.mem_of_getElem? hoy) a3).2 (h2 w' hy), fun w2 hw2 => (StepNE.put hs (List.mem_of_getElem? hoy) a3).2 (h2 w2 hw2), ?_⟩
          rw [← Act.put_comm a v u a2]
          exact hc
      exact upon_swap (N := fun a' w' => (∀ h ∈ laterHeld b x ((y, hold) :: H), h w') ∧ canA P ops b K (pre ++ post) ((y, hold) :: H) a' w')
        (M := fun a' w' => (∀ h ∈ laterHeld b x H, h w') ∧ canA P ops b K (y :: pre ++ post) H a' w') ih (fun u w' hh => key u w' hh.1 hh.2)
    · rw [if_neg hwt] at ih ⊢
      refine ⟨oy, hoy, ?_⟩
      rw [if_neg (by simp [hye])]
      refine ⟨v, hold, (StepNE.put hs (List.mem_of_getElem? hoy) a3).2 h1, fun w' hw' => (StepNE.put hs (List.mem_of_getElem? hoy) a3).2 (h2 w' hw'), ?_⟩
      rw [← Act.put_comm a v undef a2]
      exact ih

theorem wp_noQ {o : Oper} {a : Act} {w : World} {N : Act → World → Prop} {Q : Exit → Act → World → Prop} (h : o.wp P a w N noQ) : o.wp P a w N Q := by
  unfold Oper.wp at h ⊢
  generalize (execOp a.eval o).run P w = r at h ⊢
  cases r with
  | ok x w' =>
    cases x <;> simp only [Oper.upon] at h ⊢ <;> first
      | exact h
      | (refine Calls.mono h ?_
         intro e w'' he
         cases e with
         | returned v => exact he
         | panicked c => exact he.elim
         | outgrown => obtain ⟨_, _, hh⟩ := he; exact hh.elim)
  | halt x w' =>
    cases x <;> simp only [Oper.upon] at h ⊢ <;> first | exact h | exact h.elim

/-! ### Whatever order -/
theorem mem_split {x : Nat} {l : List Nat} (h : x ∈ l) : ∃ pre post, l = pre ++ x :: post ∧ x ∉ pre := by
  induction l with
  | nil => cases h
  | cons y l ih =>
    by_cases hy : y = x
    · subst hy; exact ⟨[], l, rfl, by simp⟩
    · have hx : x ∈ l := by rcases List.mem_cons.1 h with rfl | h; exact absurd rfl hy; exact h
      obtain ⟨pre, post, e, hn⟩ := ih hx
      exact ⟨y :: pre, post, by simp [e], by simp [hn]; exact fun h => hy h.symm⟩

theorem orderOk_mid {ops : List Oper} {b : Array Nat} {x : Nat} : ∀ {pre post : List Nat}, orderOk P ops b (pre ++ x :: post) = true → (∀ y ∈ pre, pairOk P ops b y x = true) ∧ orderOk P ops b (pre ++ post) = true
  | [], post, h => by
    simp only [List.nil_append, orderOk, Bool.and_eq_true] at h
    exact ⟨by simp, h.2⟩
  | z :: pre, post, h => by
    simp only [List.cons_append, orderOk, Bool.and_eq_true, List.all_eq_true] at h
    obtain ⟨h1, h2⟩ := h
    obtain ⟨i1, i2⟩ := orderOk_mid h2
    refine ⟨fun y hy => ?_, ?_⟩
    · rcases List.mem_cons.1 hy with rfl | hy
      · exact h1 x (by simp)
      · exact i1 y hy
    · simp only [List.cons_append, orderOk, Bool.and_eq_true, List.all_eq_true]
      exact ⟨fun y hy => h1 y (by
        rcases List.mem_append.1 hy with hy | hy
        · exact List.mem_append_left _ hy
        · exact List.mem_append_right _ (List.mem_cons_of_mem _ hy)), i2⟩

/-- A schedule against an order: each thing that comes first in what is left has nothing ahead of it in what is left. -/
theorem canA_sched {ops : List Oper} {b : Array Nat} {Q : Exit → Act → World → Prop} (hs : Region.noSelect ops.toArray = true) :
    ∀ (L C : List Nat) (a : Act) (w : World), L.Nodup → C.Nodup → (∀ i, i ∈ L ↔ i ∈ C) → orderOk P ops b C = true → effsOf P ops L = effsOf P ops C →
      (∀ pre x post, L = pre ++ x :: post → ∀ y ∈ post, isBefore b y x = false) →
      canA P ops b (Q .normal) C [] a w → wpOps P ops.toArray Q L a w
  | [], C, a, w, _, _, hm, _, _, _, h => by
    have : C = [] := List.eq_nil_iff_forall_not_mem.2 fun i hi => by have := (hm i).2 hi; cases this
    subst this
    exact h
  | x :: L, C, a, w, hL, hC, hm, ho, he, hb, h => by
    obtain ⟨pre, post, rfl, hxp⟩ := mem_split ((hm x).1 (by simp))
    obtain ⟨hpre, ho'⟩ := orderOk_mid ho
    have hLn := List.nodup_cons.1 hL
    have hCn : (pre ++ post).Nodup := by
      rw [List.nodup_append] at hC ⊢
      obtain ⟨c1, c2, c3⟩ := hC
      exact ⟨c1, (List.nodup_cons.1 c2).2, fun p hp q hq => c3 p hp q (List.mem_cons_of_mem _ hq)⟩
    have hxpost : x ∉ post := by
      rw [List.nodup_append] at hC
      exact (List.nodup_cons.1 hC.2.1).1
    have hm' : ∀ i, i ∈ L ↔ i ∈ pre ++ post := by
      intro i
      have := hm i
      simp only [List.mem_cons, List.mem_append] at this ⊢
      constructor
      · intro hi
        have hix : i ≠ x := fun e => hLn.1 (e ▸ hi)
        rcases this.1 (.inr hi) with h | h | h
        · exact .inl h
        · exact absurd h hix
        · exact .inr h
      · intro hi
        have hix : i ≠ x := fun e => by subst e; rcases hi with h | h; exact hxp h; exact hxpost h
        rcases this.2 (by rcases hi with h | h; exact .inl h; exact .inr (.inr h)) with h | h
        · exact absurd h hix
        · exact h
    have hnb : ∀ y ∈ pre, isBefore b y x = false := fun y hy => hb [] x L rfl y ((hm' y).2 (List.mem_append_left _ hy))
    have hb' : ∀ p z q, L = p ++ z :: q → ∀ y ∈ q, isBefore b y z = false := fun p z q hq => hb (x :: p) z q (by simp [hq])
    have hap : ∀ y ∈ pre, apartB ops y x = true ∧ (isEff P ops y = false ∨ isEff P ops x = true) := by
      intro y hy
      have := hpre y hy
      simp only [pairOk, hnb y hy, Bool.false_or, Bool.and_eq_true, Bool.or_eq_true, Bool.not_eq_true'] at this
      exact this
    cases hox : ops[x]? with
    | none =>
      -- no such operation: nothing is done; the order can't hold it
      exfalso
      cases pre with
      | nil => obtain ⟨o, ho2, _⟩ := h; rw [hox] at ho2; cases ho2
      | cons y pre =>
        have := (hap y (by simp)).1
        simp only [apartB, hox] at this
        split at this <;> simp_all
    | some ox =>
      have hox' : ops.toArray[x]? = some ox := by simpa using hox
      simp only [wpOps, hox']
      cases hxe : isEff P ops x with
      | false =>
        have hpn : ∀ y ∈ pre, isEff P ops y = false ∧ apartB ops y x = true := fun y hy => by
          refine ⟨?_, (hap y hy).1⟩
          rcases (hap y hy).2 with h | h
          · exact h
          · rw [hxe] at h; cases h
        obtain ⟨v, hv, hc⟩ := canA_ne_first hs hox hxe pre post [] a w hpn h
        have he' : effsOf P ops L = effsOf P ops (pre ++ post) := by
          simp only [effsOf, List.filter_cons, hxe, List.filter_append] at he ⊢
          simpa using he
        rcases hv with ⟨hw, hrun⟩ | ⟨hw, rfl⟩
        · rw [if_pos hw]
          exact .inl (wp_of_run hrun (canA_sched hs L _ _ _ hLn.2 hCn hm' ho' he' hb' hc))
        · rw [if_neg (by simp [hw])]
          exact canA_sched hs L _ _ _ hLn.2 hCn hm' ho' he' hb' hc
      | true =>
        have hpe : ∀ y ∈ pre, isEff P ops y = false := by
          have h1 : effsOf P ops (x :: L) = x :: effsOf P ops L := by simp [effsOf, hxe]
          have h2 : effsOf P ops (pre ++ x :: post) = effsOf P ops pre ++ x :: effsOf P ops post := by simp [effsOf, hxe]
          rw [h1, h2] at he
          have : effsOf P ops pre = [] := by
            cases hq : effsOf P ops pre with
            | nil => rfl
            | cons z zs =>
              rw [hq] at he
              simp at he
              have hz : z ∈ effsOf P ops pre := by rw [hq]; simp
              have := (List.mem_filter.1 hz).1
              exact absurd (he.1 ▸ this) hxp
          intro y hy
          cases hye : isEff P ops y with
          | false => rfl
          | true =>
            have : y ∈ effsOf P ops pre := List.mem_filter.2 ⟨hy, hye⟩
            rw [‹effsOf P ops pre = []›] at this
            cases this
        have he' : effsOf P ops L = effsOf P ops (pre ++ post) := by
          have h0 : effsOf P ops pre = [] := List.filter_eq_nil_iff.2 fun y hy => by simp [hpe y hy]
          have h1 : effsOf P ops (x :: L) = x :: effsOf P ops L := by simp [effsOf, hxe]
          have h2 : effsOf P ops (pre ++ x :: post) = effsOf P ops pre ++ x :: effsOf P ops post := by simp [effsOf, hxe]
          have h3 : effsOf P ops (pre ++ post) = effsOf P ops pre ++ effsOf P ops post := by simp [effsOf]
          rw [h1, h2, h0] at he
          rw [h3, h0]
          simpa using he
        have hc := canA_eff_first hs hox hxe pre post [] a w (fun y hy => ⟨hpe y hy, (hap y hy).1, hnb y hy⟩) h
        by_cases hw : Region.wanted ox (yielded ops.toArray a.tmps) = true
        · rw [if_pos hw] at hc ⊢
          refine .inl ?_
          have : ox.wp P a w (wpOps P ops.toArray Q L) noQ := by
            refine Oper.wp_mono ?_ hc
            rintro a' w' ⟨v, rfl, _, hc'⟩
            exact canA_sched hs L _ _ _ hLn.2 hCn hm' ho' he' hb' hc'
          exact wp_noQ this
        · rw [if_neg hw] at hc ⊢
          exact canA_sched hs L _ _ _ hLn.2 hCn hm' ho' he' hb' hc

end Go.Pt
