/- Texts PtP, FormsB, FormsS, SrtA, FormsP, PtM, HpA, HpB, PtN, PlA, PlB, PlC, PlD, SrtB, SrtC, SrtD, SrtE, SrtF, SrtG, SrtH, PlE, RfA, PlF: contracts of the program's functions, one behind the other. Conditions: those that stand in each line. -/
import Derived.Test.YtmbcedengdoamaaGreatDoorCLeast1
import Derived.Deep.Slices
import Derived.Test.YtmbcedengdoamaaGreatDoorProg
import Derived.KernelRfl
import Derived.Sort.LotD6
import Derived.Sort.LotA
import Derived.MapKept
import Derived.Sort.LotC
import Derived.Sort.LotD1
import Derived.Laws.Bits64b
import Derived.Laws.Closers25b
import Derived.Sort.LotD2
import Derived.Sort.LotB
import Derived.Sort.LotD3

section
/- Arguments that are slices: what their reading gives. Conditions: those that stand in each line. -/
set_option linter.unusedVariables false
namespace Go.Pt
open Go Go.RowKit Go.ChangeShapes

section
variable {H : Type} {enc : TypeId × Value → H} {P : Program} {w : World} {base : Nat} {spare : Nat → Bool} {held : Bool}

theorem wf_has {k : IntKind} {n : Int} (h : (Lit.int k n).wf = true) : k.has n := by
  have h' : k.min ≤ n ∧ n ≤ k.max := by simpa [Lit.wf] using h
  exact h'

theorem trod_cell {t : TypeId} {n : Nat} {v : Value} {y : DataW H × List MemPlace} {c : Cell} (hc : cellT P t = c) (h : DataW.trod enc P w base spare held n t [v] = some y) : ∃ x : c.El, v = c.mk x ∧ CFit c x := by
  unfold cellT at hc
  split at hc <;> subst hc
  · rename_i k hu
    obtain ⟨m, hm, _, hw⟩ := DataW.trod_int hu h
    simp only [List.cons.injEq, and_true] at hm
    exact ⟨m, hm, wf_has hw⟩
  · rename_i hu
    obtain ⟨m, hm, _⟩ := DataW.trod_bool hu h
    simp only [List.cons.injEq, and_true] at hm
    exact ⟨m, hm, trivial⟩
  · rename_i hu
    obtain ⟨s, hm, _, hs⟩ := DataW.trod_string hu h
    simp only [List.cons.injEq, and_true] at hm
    exact ⟨s, hm, by have : maxLen = 9223372036854775807 := rfl; show (s.size : Int) ≤ 9223372036854775807; omega⟩
  · rename_i e hu
    cases n with
    | zero => simp [DataW.trod] at h
    | succ n =>
      unfold DataW.trod at h
      rw [hu] at h
      split at h <;> simp_all
      · exact ⟨none, rfl⟩
      · exact ⟨_, rfl⟩
  · rename_i e hu
    rcases DataW.trod_slice hu h with ⟨hm, _⟩ | ⟨a, len, cap, _, _, _, _, hm, _, _, hl, hc, _⟩
    · simp only [List.cons.injEq, and_true] at hm
      exact ⟨⟨none, 0, 0⟩, hm, Nat.le_refl _, by decide, fun _ => rfl⟩
    · simp only [List.cons.injEq, and_true] at hm
      exact ⟨⟨some a, len, cap⟩, hm, hl, by have : maxLen = 9223372036854775807 := rfl; show (cap : Int) ≤ 9223372036854775807; omega, fun e => by cases e⟩
  · rename_i k e hu
    cases n with
    | zero => simp [DataW.trod] at h
    | succ n =>
      unfold DataW.trod at h
      rw [hu] at h
      split at h <;> simp_all
      · exact ⟨none, rfl⟩
      · exact ⟨_, rfl⟩
  · exact ⟨v, rfl, trivial⟩

theorem pick_list {β : Type} {R : Nat → β → Prop} : ∀ n, (∀ i, i < n → ∃ x, R i x) → ∃ l : List β, l.length = n ∧ ∀ (i : Nat) x, l[i]? = some x → R i x
  | 0, _ => ⟨[], rfl, fun i x h => by simp at h⟩
  | n + 1, h => by
    obtain ⟨l, hl, hr⟩ := pick_list n (fun i hi => h i (by omega))
    obtain ⟨x, hx⟩ := h n (by omega)
    refine ⟨l ++ [x], by simp [hl], fun i y hy => ?_⟩
    by_cases hi : i < n
    · rw [List.getElem?_append_left (by omega)] at hy
      exact hr i y hy
    · have : i < n + 1 := by have := (List.getElem?_eq_some_iff.1 hy).1; simp at this; omega
      have e : i = n := by omega
      subst e
      rw [List.getElem?_append_right (by omega)] at hy
      simp [hl] at hy
      subst hy
      exact hx

/-- A slice that is read: its elements, each with what the reading says of it. -/
theorem trod_rows {t e : TypeId} {n : Nat} {s : Sl} {y : DataW H × List MemPlace} {β : Type} {encB : β → List Value} {k : Nat} {Q : β → Prop} (ht : P.underlying t = some (.slice e)) (hce : P.cellsOf e = k) (hpos : 0 < k)
    (elem : ∀ n cells y, DataW.trod enc P w base spare held n e cells = some y → ∃ x : β, cells = encB x ∧ Q x) (h : DataW.trod enc P w base spare held n t [.slice s.a s.len s.cap] = some y) :
    ∃ l : List β, Rds encB k [] w s l ∧ ∀ x ∈ l, Q x := by
  rcases Go.Deep.open_slice ht h with ⟨hm, _⟩ | ⟨a, len, cap, m, n', D, Pl, hm, _, hl, hc, hmm, _, hx⟩
  · simp only [List.cons.injEq, Value.slice.injEq, and_true] at hm
    obtain ⟨h1, h2, h3⟩ := hm
    exact ⟨[], ⟨by rw [h2]; rfl, by omega, .inl rfl⟩, fun x hx => by cases hx⟩
  · simp only [List.cons.injEq, Value.slice.injEq, and_true] at hm
    obtain ⟨h1, h2, h3⟩ := hm
    have hlm : len ≤ m := by rw [hmm]; split <;> omega
    have hcells : ∀ i, i < len → ∃ x : β, w.cells? base (a.add (i * k)) k = some (encB x) ∧ Q x := fun i hi => by
      obtain ⟨cs', g1, g2⟩ := hx i (by omega)
      obtain ⟨x, rfl, hq⟩ := elem _ _ _ g2
      rw [hce] at g1
      exact ⟨x, g1, hq⟩
    obtain ⟨l, hll, hlr⟩ := pick_list len hcells
    refine ⟨l, ⟨by rw [h2, hll], by omega, ?_⟩, fun x hx => ?_⟩
    · by_cases h0 : l = []
      · exact .inl h0
      · right
        have hl0 : 0 < l.length := List.length_pos_iff.2 h0
        obtain ⟨_, hlen0, hcell0⟩ := World.cells?_some (hlr 0 l[0] (List.getElem?_eq_getElem hl0)).1
        have hc0 := hcell0 0 hpos
        rw [List.getElem?_eq_getElem (by omega)] at hc0
        obtain ⟨b, o, spot⟩ := a
        have hspot : spot = none := by simpa [Addr.add] using World.cell?_spot hc0
        subst hspot
        have hblk : ∃ cs T fr, w.heap[b]? = some (.cells cs T fr) := by
          simp only [Nat.zero_mul, Addr.add_mk] at hc0
          unfold World.cell? at hc0
          split at hc0
          · rename_i c T fr hb
            exact ⟨c, T, fr, hb⟩
          · cases hc0
        obtain ⟨cs, T, fr, hb⟩ := hblk
        refine ⟨b, o, cs, T, fr, h1, hb, by simp, fun i x hx => ?_⟩
        obtain ⟨_, hlen', hcell'⟩ := World.cells?_some (hlr i x hx).1
        apply List.ext_getElem?
        intro j
        rw [List.getElem?_take, List.getElem?_drop]
        by_cases hj : j < k
        · rw [if_pos hj]
          have := hcell' j hj
          rw [Addr.add_mk, Addr.add_mk, cell_of_blk hb] at this
          rw [← this]
          simp
        · rw [if_neg hj, List.getElem?_eq_none (by omega)]
    · obtain ⟨i, hi, rfl⟩ := List.getElem_of_mem hx
      exact (hlr i _ (List.getElem?_eq_getElem hi)).2

theorem elem_int {e : TypeId} {k : IntKind} (he : P.underlying e = some (.int k)) : ∀ n cells y, DataW.trod enc P w base spare held n e cells = some y → ∃ x : Int, cells = [Value.int k x] ∧ k.has x := by
  intro n cells y h
  obtain ⟨m, hm, _, hw⟩ := DataW.trod_int he h
  exact ⟨m, hm, wf_has hw⟩

theorem hl_of_cells : ∀ {ts : List TypeId} {vs : List Value} {cs : List Cell}, ts.map (cellT P) = cs → vs.length = ts.length → (∀ (i : Nat) v, vs[i]? = some v → ∃ u n y, ts[i]? = some u ∧ DataW.trod enc P w base spare held n u [v] = some y) → ∃ x : HL cs, vs = HL.mk cs x ∧ HFit cs x
  | [], vs, cs, hc, hl, h => by
    simp at hc hl
    subst hc hl
    exact ⟨(), rfl, trivial⟩
  | [t], vs, cs, hc, hl, h => by
    simp at hc hl
    subst hc
    match vs, hl with
    | [v], _ =>
      obtain ⟨u, n, y, hu, ho⟩ := h 0 v rfl
      simp at hu
      subst hu
      obtain ⟨x, hx, hf⟩ := trod_cell rfl ho
      exact ⟨x, by rw [hx]; rfl, hf⟩
  | t :: t' :: ts, vs, cs, hc, hl, h => by
    match vs, hl with
    | v :: vs, hl =>
      simp only [List.map_cons] at hc
      subst hc
      obtain ⟨u, n, y, hu, ho⟩ := h 0 v rfl
      simp at hu
      subst hu
      obtain ⟨x, hx, hf⟩ := trod_cell rfl ho
      obtain ⟨y, hy, hg⟩ := hl_of_cells (ts := t' :: ts) (vs := vs) rfl (by simpa using hl) (fun i v hv => by simpa using h (i + 1) v (by simpa using hv))
      exact ⟨(x, y), by rw [hx, hy]; rfl, hf, hg⟩

/-- Fields of one cell each, in order. -/
def flatF (P : Program) : Nat → List Field → Bool
  | _, [] => true
  | i, f :: fs => Nat.beq f.offset i && Nat.beq (P.cellsOf f.type) 1 && flatF P (i + 1) fs

theorem flatF_at {P : Program} : ∀ {fs : List Field} {k : Nat}, flatF P k fs = true → ∀ (i : Nat) f, fs[i]? = some f → f.offset = k + i ∧ P.cellsOf f.type = 1
  | [], k, _, i, f, h => by simp at h
  | g :: fs, k, hf, i, f, h => by
    simp only [flatF, Bool.and_eq_true] at hf
    match i with
    | 0 =>
      simp at h
      subst h
      exact ⟨Nat.eq_of_beq_eq_true hf.1.1, Nat.eq_of_beq_eq_true hf.1.2⟩
    | i + 1 =>
      have := flatF_at hf.2 i f (by simpa using h)
      exact ⟨by omega, this.2⟩

/-- A struct of one-cell fields. -/
theorem elem_struct {e : TypeId} {fs : Array Field} {cs : List Cell} (he : P.underlying e = some (.struct fs)) (hfl : flatF P 0 fs.toList = true) (hce : P.cellsOf e = fs.size) (hcs : fs.toList.map (fun f => cellT P f.type) = cs) :
    ∀ n cells y, DataW.trod enc P w base spare held n e cells = some y → ∃ x : HL cs, cells = HL.mk cs x ∧ (HFit cs x ∧ ∀ (i : Nat) v, (HL.mk cs x)[i]? = some v → ∃ f n y, fs[i]? = some f ∧ DataW.trod enc P w base spare held n f.type [v] = some y) := by
  intro n cells y h
  obtain ⟨xs, m, _, _, hlen, hxl, hf⟩ := DataW.trod_struct he h
  have key : ∀ (i : Nat) v, cells[i]? = some v → ∃ f n y, fs[i]? = some f ∧ DataW.trod enc P w base spare held n f.type [v] = some y := by
    intro i v hv
    have hi : i < fs.size := by have := (List.getElem?_eq_some_iff.1 hv).1; omega
    have hfi : fs[i]? = some fs[i] := by simp [hi]
    obtain ⟨ho, h1⟩ := flatF_at hfl i fs[i] (by simp [hi])
    have := hf i fs[i] hfi
    rw [ho, Nat.zero_add, h1] at this
    have e : (cells.drop i).take 1 = [v] := by
      obtain ⟨hic, rfl⟩ := List.getElem?_eq_some_iff.1 hv
      rw [List.drop_eq_getElem_cons hic]; rfl
    rw [e, List.getElem?_eq_getElem (show i < xs.length by omega)] at this
    exact ⟨_, _, _, hfi, this⟩
  obtain ⟨x, hx, hfit⟩ := hl_of_cells (ts := fs.toList.map (·.type)) (vs := cells) (cs := cs) (by rw [List.map_map]; exact hcs) (by simp; omega) (fun i v hv => by
    obtain ⟨f, n, y, g1, g2⟩ := key i v hv
    exact ⟨f.type, n, y, by simp [g1], g2⟩)
  refine ⟨x, hx, hfit, ?_⟩
  rw [← hx]
  exact key

/-- The cells of a struct of one-cell fields, off the table. -/
def flatT (P : Program) (e : TypeId) : Option (List Cell) :=
  match P.underlying e with
  | some (.struct fs) => bif flatF P 0 fs.toList && Nat.beq (P.cellsOf e) fs.size then some (fs.toList.map (fun f => cellT P f.type)) else none
  | _ => none

def fieldT (P : Program) (e : TypeId) (i : Nat) : Option TypeId :=
  match P.underlying e with
  | some (.struct fs) => (fs[i]?).map (·.type)
  | _ => none

theorem elem_flat {e : TypeId} {cs : List Cell} (hT : flatT P e = some cs) :
    ∀ n cells y, DataW.trod enc P w base spare held n e cells = some y → ∃ x : HL cs, cells = HL.mk cs x ∧ (HFit cs x ∧ ∀ (i : Nat) v, (HL.mk cs x)[i]? = some v → ∃ u n y, fieldT P e i = some u ∧ DataW.trod enc P w base spare held n u [v] = some y) := by
  unfold flatT at hT
  split at hT
  · rename_i fs he
    cases hc : (flatF P 0 fs.toList && Nat.beq (P.cellsOf e) fs.size) with
    | false => rw [hc] at hT; cases hT
    | true =>
      rw [hc] at hT
      simp only [Bool.and_eq_true] at hc
      intro n cells y h
      obtain ⟨x, h1, h2, h3⟩ := elem_struct he hc.1 (Nat.eq_of_beq_eq_true hc.2) (Option.some.inj hT) n cells y h
      refine ⟨x, h1, h2, fun i v hv => ?_⟩
      obtain ⟨f, n, y, g1, g2⟩ := h3 i v hv
      exact ⟨f.type, n, y, by unfold fieldT; rw [he]; simp [g1], g2⟩
  · cases hT
end

end Go.Pt
end

section
/- The readable forms of functions of the program, each shown to be what the evaluator gives: printed by a program of this claim (wip/tools). No condition. -/
set_option linter.unusedVariables false
set_option maxRecDepth 100000
namespace Go.Proofs.YtmbcedengdoamaaGreatDoor
open Go Go.Pt

/-- cashbook.crc.Sum -/
def crc_SumF (b : Sl) (K : Int → World → Prop) (w : World) : Prop :=
  call Tryz.prog 140 ([Value.int IntKind.u32 0, Value.slice b.a b.len b.cap]) ([Ty1.one (Cell.int IntKind.u32)]) w <|
  fun (x_1 : Int) (w_2 : World) =>
  K x_1 w_2
def crc_SumA : List Ann := [.n, .n]
theorem crc_Sum_of {b : Sl} {w : World} {K : Int → World → Prop} (hF : crc_SumF b K w) : call Tryz.prog 119 [.slice b.a b.len b.cap] [.one (.int .u32)] w K :=
  calls_of_fnPt (an := crc_SumA) (ts := [.one (.int .u32)]) (args := [.slice b.a b.len b.cap]) Tryz.func119 (by kernel_rfl) ((show fnPt (std Tryz.prog) Tryz.prog Tryz.f119 crc_SumA [.one (.int .u32)] [.slice b.a b.len b.cap] K w = crc_SumF b K w by kernel_rfl).mpr hF)

/-- cashbook.crc.More -/
def crc_MoreF (sum : Int) (b : Sl) (K : Int → World → Prop) (w : World) : Prop :=
  loop (Int × Int) (fun (X_1 : Int × Int → World → Prop) (t_2 : Int × Int) (w_3 : World) =>
    cond (decide (t_2.snd < (↑b.len : Int)))
      (idx b t_2.snd 1 <|
      fun (a_4 : Addr) =>
      ld (Cell.int IntKind.u8) a_4 w_3 <|
      fun (x_5 : Int) =>
      chk (0 ≤ bits BinOp.and IntKind.u32 (bits BinOp.xor IntKind.u32 t_2.fst (IntKind.wrap IntKind.u32 x_5)) 15 ∧ bits BinOp.and IntKind.u32 (bits BinOp.xor IntKind.u32 t_2.fst (IntKind.wrap IntKind.u32 x_5)) 15 < (↑16 : Int)) <|
      ld (Cell.int IntKind.u32) (Addr.add { block := 0, off := 0 } (Int.toNat (bits BinOp.and IntKind.u32 (bits BinOp.xor IntKind.u32 t_2.fst (IntKind.wrap IntKind.u32 x_5)) 15) * 1)) w_3 <|
      fun (x_6 : Int) =>
      chk (0 ≤ bits BinOp.and IntKind.u32 (bits BinOp.xor IntKind.u32 (Int.fdiv (bits BinOp.xor IntKind.u32 t_2.fst (IntKind.wrap IntKind.u32 x_5)) (2 ^ min (Int.toNat 4) (IntKind.bits IntKind.u32))) x_6) 15 ∧ bits BinOp.and IntKind.u32 (bits BinOp.xor IntKind.u32 (Int.fdiv (bits BinOp.xor IntKind.u32 t_2.fst (IntKind.wrap IntKind.u32 x_5)) (2 ^ min (Int.toNat 4) (IntKind.bits IntKind.u32))) x_6) 15 < (↑16 : Int)) <|
      ld (Cell.int IntKind.u32) (Addr.add { block := 0, off := 0 } (Int.toNat (bits BinOp.and IntKind.u32 (bits BinOp.xor IntKind.u32 (Int.fdiv (bits BinOp.xor IntKind.u32 t_2.fst (IntKind.wrap IntKind.u32 x_5)) (2 ^ 4)) x_6) 15) * 1)) w_3 <|
      fun (x_7 : Int) =>
      X_1 ((bits BinOp.xor IntKind.u32 (Int.fdiv (bits BinOp.xor IntKind.u32 (Int.fdiv (bits BinOp.xor IntKind.u32 t_2.fst (IntKind.wrap IntKind.u32 x_5)) (2 ^ 4)) x_6) (2 ^ 4)) x_7, IntKind.wrap IntKind.i64 (t_2.snd + 1))) w_3)
      (K (bits BinOp.xor IntKind.u32 t_2.fst 4294967295) w_3)) ((bits BinOp.xor IntKind.u32 sum 4294967295, 0)) w
def crc_MoreA : List Ann := [.n, .n, .n, .n, .l [(5, .one (.int .u32)), (12, .one (.int .i64))], .n, .n, .n, .n, .n, .n, .n]
theorem crc_More_of {sum : Int} {b : Sl} {w : World} {K : Int → World → Prop} (hF : crc_MoreF sum b K w) : call Tryz.prog 140 [.int .u32 sum, .slice b.a b.len b.cap] [.one (.int .u32)] w K :=
  calls_of_fnPt (an := crc_MoreA) (ts := [.one (.int .u32)]) (args := [.int .u32 sum, .slice b.a b.len b.cap]) Tryz.func140 (by kernel_rfl) ((show fnPt (std Tryz.prog) Tryz.prog Tryz.f140 crc_MoreA [.one (.int .u32)] [.int .u32 sum, .slice b.a b.len b.cap] K w = crc_MoreF sum b K w by kernel_rfl).mpr hF)

/-- cashbook.page.put -/
def page_putF (b : Sl) (n : Int) (K : Unit → World → Prop) (w : World) : Prop :=
  loop (Int) (fun (X_1 : Int → World → Prop) (x_2 : Int) (w_3 : World) =>
    cond (decide (x_2 < (↑b.len : Int)))
      (chk (0 ≤ IntKind.wrap IntKind.i64 (8 * IntKind.wrap IntKind.i64 (IntKind.wrap IntKind.i64 ((↑b.len : Int) - 1) - x_2))) <|
      idx b x_2 1 <|
      fun (a_4 : Addr) =>
      st a_4 ([Value.int IntKind.u8 (IntKind.wrap IntKind.u8 (Int.fdiv n (2 ^ min (Int.toNat (IntKind.wrap IntKind.i64 (8 * IntKind.wrap IntKind.i64 (IntKind.wrap IntKind.i64 ((↑b.len : Int) - 1) - x_2)))) 32)))]) w_3 <|
      fun (w_5 : World) =>
      X_1 (IntKind.wrap IntKind.i64 (x_2 + 1)) w_5)
      (K () w_3)) 0 w
def page_putA : List Ann := [.n, .l [(7, .one (.int .i64))], .n, .n, .n, .n]
theorem page_put_of {b : Sl} {n : Int} {w : World} {K : Unit → World → Prop} (hF : page_putF b n K w) : call Tryz.prog 129 [.slice b.a b.len b.cap, .int .u32 n] [] w K :=
  calls_of_fnPt (an := page_putA) (ts := []) (args := [.slice b.a b.len b.cap, .int .u32 n]) Tryz.func129 (by kernel_rfl) ((show fnPt (std Tryz.prog) Tryz.prog Tryz.f129 page_putA [] [.slice b.a b.len b.cap, .int .u32 n] K w = page_putF b n K w by kernel_rfl).mpr hF)

/-- cashbook.page.get -/
def page_getF (b : Sl) (K : Int → World → Prop) (w : World) : Prop :=
  loop (Int × Int) (fun (X_1 : Int × Int → World → Prop) (t_2 : Int × Int) (w_3 : World) =>
    cond (decide (t_2.snd < (↑b.len : Int)))
      (idx b t_2.snd 1 <|
      fun (a_4 : Addr) =>
      ld (Cell.int IntKind.u8) a_4 w_3 <|
      fun (x_5 : Int) =>
      X_1 ((bits BinOp.or IntKind.u32 (IntKind.wrap IntKind.u32 (t_2.fst * 2 ^ 8)) (IntKind.wrap IntKind.u32 x_5), IntKind.wrap IntKind.i64 (t_2.snd + 1))) w_3)
      (K t_2.fst w_3)) ((0, 0)) w
def page_getA : List Ann := [.n, .n, .n, .n, .l [(3, .one (.int .u32)), (8, .one (.int .i64))], .n, .n, .n, .n, .n]
theorem page_get_of {b : Sl} {w : World} {K : Int → World → Prop} (hF : page_getF b K w) : call Tryz.prog 118 [.slice b.a b.len b.cap] [.one (.int .u32)] w K :=
  calls_of_fnPt (an := page_getA) (ts := [.one (.int .u32)]) (args := [.slice b.a b.len b.cap]) Tryz.func118 (by kernel_rfl) ((show fnPt (std Tryz.prog) Tryz.prog Tryz.f118 page_getA [.one (.int .u32)] [.slice b.a b.len b.cap] K w = page_getF b K w by kernel_rfl).mpr hF)

/-- cashbook.page.Seal -/
def page_SealF (number : Int) (kind : Int) (body : Sl) (K : (Sl × Int) → World → Prop) (w : World) : Prop :=
  cond (decide ((↑body.len : Int) > 500))
    (K (({ a := none, len := 0, cap := 0 }, 3)) w)
    (mkS 5 ([Value.int IntKind.u8 0]) 1 1 512 512 w <|
    fun (s_1 : Sl) (w_2 : World) =>
    slc s_1 (some 4) (some 8) none 1 <|
    fun (s_3 : Sl) =>
    call Tryz.prog 129 ([Value.slice s_3.a s_3.len s_3.cap, Value.int IntKind.u32 number]) [] w_2 <|
    fun (x_4 : PUnit) (w_5 : World) =>
    idx s_1 8 1 <|
    fun (a_6 : Addr) =>
    st a_6 ([Value.int IntKind.u8 kind]) w_5 <|
    fun (w_7 : World) =>
    slc s_1 (some 9) (some 11) none 1 <|
    fun (s_8 : Sl) =>
    call Tryz.prog 129 ([Value.slice s_8.a s_8.len s_8.cap, Value.int IntKind.u32 (IntKind.wrap IntKind.u32 (↑body.len : Int))]) [] w_7 <|
    fun (x_9 : PUnit) (w_10 : World) =>
    slc s_1 (some 12) none none 1 <|
    fun (s_11 : Sl) =>
    run [Ty1.one (Cell.int IntKind.i64)] ((Builtin.copy_ (#[22, 22]) 3 (#[Value.slice s_11.a s_11.len s_11.cap, Value.slice body.a body.len body.cap])).run Tryz.prog w_10) <|
    fun (x_12 : Int) (w_13 : World) =>
    slc s_1 none (some 4) none 1 <|
    fun (s_14 : Sl) =>
    slc s_1 (some 4) none none 1 <|
    fun (s_15 : Sl) =>
    call Tryz.prog 119 ([Value.slice s_15.a s_15.len s_15.cap]) ([Ty1.one (Cell.int IntKind.u32)]) (World.drew w_13) <|
    fun (x_16 : Int) (w_17 : World) =>
    call Tryz.prog 129 ([Value.slice s_14.a s_14.len s_14.cap, Value.int IntKind.u32 x_16]) [] w_17 <|
    fun (x_18 : PUnit) (w_19 : World) =>
    K ((s_1, 0)) w_19)
def page_SealA : List Ann := [.n, .n, .n, .n, .n, .n, .n, .n, .n, .n, .o [[0, 1, 2, 3, 4, 5]], .n]
theorem page_Seal_of {number : Int} {kind : Int} {body : Sl} {w : World} {K : (Sl × Int) → World → Prop} (hF : page_SealF number kind body K w) : call Tryz.prog 99 [.int .u32 number, .int .u8 kind, .slice body.a body.len body.cap] [.one .slice, .one (.int .i64)] w K :=
  calls_of_fnPt (an := page_SealA) (ts := [.one .slice, .one (.int .i64)]) (args := [.int .u32 number, .int .u8 kind, .slice body.a body.len body.cap]) Tryz.func99 (by kernel_rfl) ((show fnPt (std Tryz.prog) Tryz.prog Tryz.f99 page_SealA [.one .slice, .one (.int .i64)] [.int .u32 number, .int .u8 kind, .slice body.a body.len body.cap] K w = page_SealF number kind body K w by kernel_rfl).mpr hF)

/-- cashbook.page.Open -/
def page_OpenF (number : Int) (b : Sl) (K : (Int × Sl × Int) → World → Prop) (w : World) : Prop :=
  cond (!(↑b.len : Int) == 512)
    (K ((0, { a := none, len := 0, cap := 0 }, 1)) w)
    (slc b none (some 4) none 1 <|
    fun (s_1 : Sl) =>
    slc b (some 4) none none 1 <|
    fun (s_2 : Sl) =>
    call Tryz.prog 118 ([Value.slice s_1.a s_1.len s_1.cap]) ([Ty1.one (Cell.int IntKind.u32)]) (World.drew w) <|
    fun (x_3 : Int) (w_4 : World) =>
    call Tryz.prog 119 ([Value.slice s_2.a s_2.len s_2.cap]) ([Ty1.one (Cell.int IntKind.u32)]) w_4 <|
    fun (x_5 : Int) (w_6 : World) =>
    cond (!x_3 == x_5)
      (K ((0, { a := none, len := 0, cap := 0 }, 8)) w_6)
      (slc b (some 4) (some 8) none 1 <|
      fun (s_7 : Sl) =>
      call Tryz.prog 118 ([Value.slice s_7.a s_7.len s_7.cap]) ([Ty1.one (Cell.int IntKind.u32)]) w_6 <|
      fun (x_8 : Int) (w_9 : World) =>
      cond (!x_8 == number)
        (K ((0, { a := none, len := 0, cap := 0 }, 4)) w_9)
        (slc b (some 9) (some 11) none 1 <|
        fun (s_10 : Sl) =>
        call Tryz.prog 118 ([Value.slice s_10.a s_10.len s_10.cap]) ([Ty1.one (Cell.int IntKind.u32)]) w_9 <|
        fun (x_11 : Int) (w_12 : World) =>
        join (Bool) (fun (X_13 : Bool → World → Prop) =>
          cond (decide (x_11 > 500))
            (X_13 true w_12)
            (idx b 11 1 <|
            fun (a_14 : Addr) =>
            ld (Cell.int IntKind.u8) a_14 w_12 <|
            fun (x_15 : Int) =>
            X_13 (!x_15 == 0) w_12)) <|
        fun (b_16 : Bool) (w_17 : World) =>
        cond b_16
          (K ((0, { a := none, len := 0, cap := 0 }, 2)) w_17)
          (slc b (some (IntKind.wrap IntKind.u32 (12 + x_11))) none none 1 <|
          fun (s_18 : Sl) =>
          new (Obj.cells #[Value.int IntKind.u8 0] 5) w_17 <|
          fun (r_19 : Nat) (w_20 : World) =>
          call Tryz.prog 120 ([Value.slice s_18.a s_18.len s_18.cap, Value.slice (some { block := r_19, off := 0 }) 1 1]) ([Ty1.one (Cell.int IntKind.i64)]) w_20 <|
          fun (x_21 : Int) (w_22 : World) =>
          cond (!x_21 == (↑s_18.len : Int))
            (K ((0, { a := none, len := 0, cap := 0 }, 2)) w_22)
            (idx b 8 1 <|
            fun (a_23 : Addr) =>
            ld (Cell.int IntKind.u8) a_23 (World.drew w_22) <|
            fun (x_24 : Int) =>
            slc b (some 12) (some (IntKind.wrap IntKind.u32 (12 + x_11))) none 1 <|
            fun (s_25 : Sl) =>
            call Tryz.prog 121 ([Value.slice s_25.a s_25.len s_25.cap]) ([Ty1.one Cell.slice]) (World.drew w_22) <|
            fun (s_26 : Sl) (w_27 : World) =>
            held [fun (w_28 : Go.World) => World.cell? w_28 a_23 = some (Value.int IntKind.u8 x_24)] w_27 <|
            K ((x_24, s_26, 0)) w_27)))))
def page_OpenA : List Ann := [.n, .n, .n, .n, .n, .o [[0, 1, 3, 4, 2, 5, 6, 7]], .n, .n, .n, .n, .n, .j [(37, .one .bool)], .n, .n, .n, .n, .n, .n, .o [[0, 1, 2, 3, 4, 5, 6, 7, 8, 9, 10]]]
theorem page_Open_of {number : Int} {b : Sl} {w : World} {K : (Int × Sl × Int) → World → Prop} (hF : page_OpenF number b K w) : call Tryz.prog 85 [.int .u32 number, .slice b.a b.len b.cap] [.one (.int .u8), .one .slice, .one (.int .i64)] w K :=
  calls_of_fnPt (an := page_OpenA) (ts := [.one (.int .u8), .one .slice, .one (.int .i64)]) (args := [.int .u32 number, .slice b.a b.len b.cap]) Tryz.func85 (by kernel_rfl) ((show fnPt (std Tryz.prog) Tryz.prog Tryz.f85 page_OpenA [.one (.int .u8), .one .slice, .one (.int .i64)] [.int .u32 number, .slice b.a b.len b.cap] K w = page_OpenF number b K w by kernel_rfl).mpr hF)

/-- bytes.Count -/
def bytes_CountF (s : Sl) (sep : Sl) (K : Int → World → Prop) (w : World) : Prop :=
  cond ((↑sep.len : Int) == 0)
    (call Tryz.prog 141 ([Value.slice s.a s.len s.cap]) ([Ty1.one (Cell.int IntKind.i64)]) w <|
    fun (x_1 : Int) (w_2 : World) =>
    K (IntKind.wrap IntKind.i64 (x_1 + 1)) w_2)
    (cond ((↑sep.len : Int) == 1)
      (idx sep 0 1 <|
      fun (a_3 : Addr) =>
      ld (Cell.int IntKind.u8) a_3 w <|
      fun (x_4 : Int) =>
      ext Tryz.prog 142 ([Value.slice s.a s.len s.cap, Value.int IntKind.u8 x_4]) ([Ty1.one (Cell.int IntKind.i64)]) w <|
      fun (x_5 : Int) (w_6 : World) =>
      K x_5 w_6)
      (loop (Sl × Int) (fun (X_7 : Sl × Int → World → Prop) (t_8 : Sl × Int) (w_9 : World) =>
        call Tryz.prog 143 ([Value.slice t_8.fst.a t_8.fst.len t_8.fst.cap, Value.slice sep.a sep.len sep.cap]) ([Ty1.one (Cell.int IntKind.i64)]) w_9 <|
        fun (x_10 : Int) (w_11 : World) =>
        cond (x_10 == -1)
          (K t_8.snd w_11)
          (slc t_8.fst (some (IntKind.wrap IntKind.i64 (x_10 + (↑sep.len : Int)))) none none 1 <|
          fun (s_12 : Sl) =>
          X_7 ((s_12, IntKind.wrap IntKind.i64 (t_8.snd + 1))) w_11)) ((s, 0)) w))
def bytes_CountA : List Ann := [.n, .n, .n, .n, .n, .n, .n, .n, .l [(0, .one .slice), (5, .one (.int .i64))], .n, .n, .n, .n, .n]
theorem bytes_Count_of {s : Sl} {sep : Sl} {w : World} {K : Int → World → Prop} (hF : bytes_CountF s sep K w) : call Tryz.prog 120 [.slice s.a s.len s.cap, .slice sep.a sep.len sep.cap] [.one (.int .i64)] w K :=
  calls_of_fnPt (an := bytes_CountA) (ts := [.one (.int .i64)]) (args := [.slice s.a s.len s.cap, .slice sep.a sep.len sep.cap]) Tryz.func120 (by kernel_rfl) ((show fnPt (std Tryz.prog) Tryz.prog Tryz.f120 bytes_CountA [.one (.int .i64)] [.slice s.a s.len s.cap, .slice sep.a sep.len sep.cap] K w = bytes_CountF s sep K w by kernel_rfl).mpr hF)

/-- bytes.Clone -/
def bytes_CloneF (b : Sl) (K : Sl → World → Prop) (w : World) : Prop :=
  cond (Option.isNone b.a)
    (K ({ a := none, len := 0, cap := 0 }) w)
    (new (Obj.cells #[] 5) w <|
    fun (r_1 : Nat) (w_2 : World) =>
    run [Ty1.one Cell.slice] ((Builtin.append_ (#[22, 22]) 22 (#[Value.slice (some { block := r_1, off := 0 }) 0 0, Value.slice b.a b.len b.cap])).run Tryz.prog w_2) <|
    fun (s_3 : Sl) (w_4 : World) =>
    K s_3 w_4)
def bytes_CloneA : List Ann := [.n, .n, .n, .n, .n]
theorem bytes_Clone_of {b : Sl} {w : World} {K : Sl → World → Prop} (hF : bytes_CloneF b K w) : call Tryz.prog 121 [.slice b.a b.len b.cap] [.one .slice] w K :=
  calls_of_fnPt (an := bytes_CloneA) (ts := [.one .slice]) (args := [.slice b.a b.len b.cap]) Tryz.func121 (by kernel_rfl) ((show fnPt (std Tryz.prog) Tryz.prog Tryz.f121 bytes_CloneA [.one .slice] [.slice b.a b.len b.cap] K w = bytes_CloneF b K w by kernel_rfl).mpr hF)

/-- slices.Clone   byte,byte  -/
def slices_CloneBF (s : Sl) (K : Sl → World → Prop) (w : World) : Prop :=
  cond (Option.isNone s.a)
    (K ({ a := none, len := 0, cap := 0 }) w)
    (new (Obj.cells #[] 5) w <|
    fun (r_1 : Nat) (w_2 : World) =>
    run [Ty1.one Cell.slice] ((Builtin.append_ (#[22, 22]) 22 (#[Value.slice (some { block := r_1, off := 0 }) 0 0, Value.slice s.a s.len s.cap])).run Tryz.prog w_2) <|
    fun (s_3 : Sl) (w_4 : World) =>
    K s_3 w_4)
def slices_CloneBA : List Ann := [.n, .n, .n, .n, .n]
theorem slices_CloneB_of {s : Sl} {w : World} {K : Sl → World → Prop} (hF : slices_CloneBF s K w) : call Tryz.prog 42 [.slice s.a s.len s.cap] [.one .slice] w K :=
  calls_of_fnPt (an := slices_CloneBA) (ts := [.one .slice]) (args := [.slice s.a s.len s.cap]) Tryz.func42 (by kernel_rfl) ((show fnPt (std Tryz.prog) Tryz.prog Tryz.f42 slices_CloneBA [.one .slice] [.slice s.a s.len s.cap] K w = slices_CloneBF s K w by kernel_rfl).mpr hF)

end Go.Proofs.YtmbcedengdoamaaGreatDoor
end

section
/- The readable forms of functions of the program, each shown to be what the evaluator gives: printed by a program of this claim (wip/tools). No condition. -/
set_option linter.unusedVariables false
set_option maxRecDepth 100000
namespace Go.Proofs.YtmbcedengdoamaaGreatDoor
open Go Go.Pt

/-- slices.Sort   uint32,uint32  -/
def slices_SortF (x : Sl) (K : Unit → World → Prop) (w : World) : Prop :=
  call Tryz.prog 125 ([Value.int IntKind.u64 (IntKind.wrap IntKind.u64 (↑x.len : Int))]) ([Ty1.one (Cell.int IntKind.i64)]) w <|
  fun (x_1 : Int) (w_2 : World) =>
  call Tryz.prog 124 ([Value.slice x.a x.len x.cap, Value.int IntKind.i64 0, Value.int IntKind.i64 (↑x.len : Int), Value.int IntKind.i64 x_1]) [] w_2 <|
  fun (x_3 : PUnit) (w_4 : World) =>
  K () w_4
def slices_SortA : List Ann := [.n]
theorem slices_Sort_of {x : Sl} {w : World} {K : Unit → World → Prop} (hF : slices_SortF x K w) : call Tryz.prog 91 [.slice x.a x.len x.cap] [] w K :=
  calls_of_fnPt (an := slices_SortA) (ts := []) (args := [.slice x.a x.len x.cap]) Tryz.func91 (by kernel_rfl) ((show fnPt (std Tryz.prog) Tryz.prog Tryz.f91 slices_SortA [] [.slice x.a x.len x.cap] K w = slices_SortF x K w by kernel_rfl).mpr hF)

/-- slices.pdqsortOrdered uint32  -/
def slices_pdqsortOrderedF (data : Sl) (a : Int) (b : Int) (limit : Int) (K : Unit → World → Prop) (w : World) : Prop :=
  loop (Int × Int × Int × Bool × Bool) (fun (X_1 : Int × Int × Int × Bool × Bool → World → Prop) (t_2 : Int × Int × Int × Bool × Bool) (w_3 : World) =>
    cond (decide (IntKind.wrap IntKind.i64 (t_2.snd.fst - t_2.fst) ≤ 12))
      (call Tryz.prog 147 ([Value.slice data.a data.len data.cap, Value.int IntKind.i64 t_2.fst, Value.int IntKind.i64 t_2.snd.fst]) [] w_3 <|
      fun (x_4 : PUnit) (w_5 : World) =>
      K () w_5)
      (cond (t_2.snd.snd.fst == 0)
        (call Tryz.prog 148 ([Value.slice data.a data.len data.cap, Value.int IntKind.i64 t_2.fst, Value.int IntKind.i64 t_2.snd.fst]) [] w_3 <|
        fun (x_6 : PUnit) (w_7 : World) =>
        K () w_7)
        (join (Int) (fun (X_8 : Int → World → Prop) =>
          cond (!t_2.snd.snd.snd.fst)
            (call Tryz.prog 149 ([Value.slice data.a data.len data.cap, Value.int IntKind.i64 t_2.fst, Value.int IntKind.i64 t_2.snd.fst]) [] w_3 <|
            fun (x_9 : PUnit) (w_10 : World) =>
            X_8 (IntKind.wrap IntKind.i64 (t_2.snd.snd.fst - 1)) w_10)
            (X_8 t_2.snd.snd.fst w_3)) <|
        fun (x_11 : Int) (w_12 : World) =>
        call Tryz.prog 150 ([Value.slice data.a data.len data.cap, Value.int IntKind.i64 t_2.fst, Value.int IntKind.i64 t_2.snd.fst]) ([Ty1.one (Cell.int IntKind.i64), Ty1.one (Cell.int IntKind.i64)]) w_12 <|
        fun (t_13 : Int × Int) (w_14 : World) =>
        join (Int × Int) (fun (X_15 : Int × Int → World → Prop) =>
          cond (t_13.snd == 2)
            (call Tryz.prog 151 ([Value.slice data.a data.len data.cap, Value.int IntKind.i64 t_2.fst, Value.int IntKind.i64 t_2.snd.fst]) [] w_14 <|
            fun (x_16 : PUnit) (w_17 : World) =>
            X_15 ((IntKind.wrap IntKind.i64 (IntKind.wrap IntKind.i64 (t_2.snd.fst - 1) - IntKind.wrap IntKind.i64 (t_13.fst - t_2.fst)), 1)) w_17)
            (X_15 t_13 w_14)) <|
        fun (t_18 : Int × Int) (w_19 : World) =>
        join (PUnit) (fun (X_20 : PUnit → World → Prop) =>
          join (Bool) (fun (X_21 : Bool → World → Prop) =>
            cond t_2.snd.snd.snd.fst
              (cond t_2.snd.snd.snd.snd
                (X_21 (t_18.snd == 1) w_19)
                (X_21 false w_19))
              (X_21 false w_19)) <|
          fun (b_22 : Bool) (w_23 : World) =>
          cond b_22
            (call Tryz.prog 152 ([Value.slice data.a data.len data.cap, Value.int IntKind.i64 t_2.fst, Value.int IntKind.i64 t_2.snd.fst]) ([Ty1.one Cell.bool]) w_23 <|
            fun (b_24 : Bool) (w_25 : World) =>
            cond b_24
              (K () w_25)
              (X_20 () w_25))
            (X_20 () w_23)) <|
        fun (x_26 : PUnit) (w_27 : World) =>
        join (Bool) (fun (X_28 : Bool → World → Prop) =>
          cond (decide (t_2.fst > 0))
            (idx data (IntKind.wrap IntKind.i64 (t_2.fst - 1)) 1 <|
            fun (a_29 : Addr) =>
            ld (Cell.int IntKind.u32) a_29 (World.drew w_27) <|
            fun (x_30 : Int) =>
            idx data t_18.fst 1 <|
            fun (a_31 : Addr) =>
            ld (Cell.int IntKind.u32) a_31 (World.drew w_27) <|
            fun (x_32 : Int) =>
            call Tryz.prog 153 ([Value.int IntKind.u32 x_30, Value.int IntKind.u32 x_32]) ([Ty1.one Cell.bool]) (World.drew w_27) <|
            fun (b_33 : Bool) (w_34 : World) =>
            X_28 (!b_33) w_34)
            (X_28 false (World.drew w_27))) <|
        fun (b_35 : Bool) (w_36 : World) =>
        cond b_35
          (call Tryz.prog 154 ([Value.slice data.a data.len data.cap, Value.int IntKind.i64 t_2.fst, Value.int IntKind.i64 t_2.snd.fst, Value.int IntKind.i64 t_18.fst]) ([Ty1.one (Cell.int IntKind.i64)]) w_36 <|
          fun (x_37 : Int) (w_38 : World) =>
          X_1 ((x_37, t_2.snd.fst, x_11, t_2.snd.snd.snd)) w_38)
          (call Tryz.prog 155 ([Value.slice data.a data.len data.cap, Value.int IntKind.i64 t_2.fst, Value.int IntKind.i64 t_2.snd.fst, Value.int IntKind.i64 t_18.fst]) ([Ty1.one (Cell.int IntKind.i64), Ty1.one Cell.bool]) w_36 <|
          fun (t_39 : Int × Bool) (w_40 : World) =>
          cond (decide (IntKind.wrap IntKind.i64 (t_39.fst - t_2.fst) < IntKind.wrap IntKind.i64 (t_2.snd.fst - t_39.fst)))
            (call Tryz.prog 124 ([Value.slice data.a data.len data.cap, Value.int IntKind.i64 t_2.fst, Value.int IntKind.i64 t_39.fst, Value.int IntKind.i64 x_11]) [] w_40 <|
            fun (x_41 : PUnit) (w_42 : World) =>
            X_1 ((IntKind.wrap IntKind.i64 (t_39.fst + 1), t_2.snd.fst, x_11, decide (IntKind.wrap IntKind.i64 (t_39.fst - t_2.fst) ≥ IntKind.wrap IntKind.i64 (Int.tdiv (IntKind.wrap IntKind.i64 (t_2.snd.fst - t_2.fst)) 8)), t_39.snd)) w_42)
            (call Tryz.prog 124 ([Value.slice data.a data.len data.cap, Value.int IntKind.i64 (IntKind.wrap IntKind.i64 (t_39.fst + 1)), Value.int IntKind.i64 t_2.snd.fst, Value.int IntKind.i64 x_11]) [] w_40 <|
            fun (x_43 : PUnit) (w_44 : World) =>
            X_1 ((t_2.fst, t_39.fst, x_11, decide (IntKind.wrap IntKind.i64 (t_2.snd.fst - t_39.fst) ≥ IntKind.wrap IntKind.i64 (Int.tdiv (IntKind.wrap IntKind.i64 (t_2.snd.fst - t_2.fst)) 8)), t_39.snd)) w_44))))) ((a, b, limit, true, true)) w
def slices_pdqsortOrderedA : List Ann := [.n, .n, .l [(1, .one (.int .i64)), (2, .one (.int .i64)), (3, .one (.int .i64)), (8, .one .bool), (9, .one .bool)], .n, .n, .n, .n, .n, .n, .n, .j [(3, .one (.int .i64))], .n, .n, .n, .j [(11, .one (.int .i64)), (12, .one (.int .i64))], .n, .n, .n, .j [], .j [(68, .one .bool)], .n, .n, .j [(87, .one .bool)], .o [[0, 1, 2, 3, 4, 5, 6, 7, 8, 9, 10, 11, 12, 13, 14]], .n, .n, .n, .n, .n, .n, .n, .n, .n, .n, .n]
theorem slices_pdqsortOrdered_of {data : Sl} {a : Int} {b : Int} {limit : Int} {w : World} {K : Unit → World → Prop} (hF : slices_pdqsortOrderedF data a b limit K w) : call Tryz.prog 124 [.slice data.a data.len data.cap, .int .i64 a, .int .i64 b, .int .i64 limit] [] w K :=
  calls_of_fnPt (an := slices_pdqsortOrderedA) (ts := []) (args := [.slice data.a data.len data.cap, .int .i64 a, .int .i64 b, .int .i64 limit]) Tryz.func124 (by kernel_rfl) ((show fnPt (std Tryz.prog) Tryz.prog Tryz.f124 slices_pdqsortOrderedA [] [.slice data.a data.len data.cap, .int .i64 a, .int .i64 b, .int .i64 limit] K w = slices_pdqsortOrderedF data a b limit K w by kernel_rfl).mpr hF)

/-- math.bits.Len -/
def bits_LenF (x : Int) (K : Int → World → Prop) (w : World) : Prop :=
  call Tryz.prog 157 ([Value.int IntKind.u64 x]) ([Ty1.one (Cell.int IntKind.i64)]) w <|
  fun (x_1 : Int) (w_2 : World) =>
  K x_1 w_2
def bits_LenA : List Ann := [.n, .n, .n, .n]
theorem bits_Len_of {x : Int} {w : World} {K : Int → World → Prop} (hF : bits_LenF x K w) : call Tryz.prog 125 [.int .u64 x] [.one (.int .i64)] w K :=
  calls_of_fnPt (an := bits_LenA) (ts := [.one (.int .i64)]) (args := [.int .u64 x]) Tryz.func125 (by kernel_rfl) ((show fnPt (std Tryz.prog) Tryz.prog Tryz.f125 bits_LenA [.one (.int .i64)] [.int .u64 x] K w = bits_LenF x K w by kernel_rfl).mpr hF)

/-- slices.insertionSortOrdered uint32  -/
def slices_insertionSortOrderedF (data : Sl) (a : Int) (b : Int) (K : Unit → World → Prop) (w : World) : Prop :=
  loop (Int) (fun (X_1 : Int → World → Prop) (x_2 : Int) (w_3 : World) =>
    cond (decide (x_2 < b))
      (loop (Int) (fun (X_4 : Int → World → Prop) (x_5 : Int) (w_6 : World) =>
        join (Bool) (fun (X_7 : Bool → World → Prop) =>
          cond (decide (x_5 > a))
            (idx data x_5 1 <|
            fun (a_8 : Addr) =>
            ld (Cell.int IntKind.u32) a_8 (World.drew w_6) <|
            fun (x_9 : Int) =>
            idx data (IntKind.wrap IntKind.i64 (x_5 - 1)) 1 <|
            fun (a_10 : Addr) =>
            ld (Cell.int IntKind.u32) a_10 (World.drew w_6) <|
            fun (x_11 : Int) =>
            call Tryz.prog 153 ([Value.int IntKind.u32 x_9, Value.int IntKind.u32 x_11]) ([Ty1.one Cell.bool]) (World.drew w_6) <|
            fun (b_12 : Bool) (w_13 : World) =>
            X_7 b_12 w_13)
            (X_7 false (World.drew w_6))) <|
        fun (b_14 : Bool) (w_15 : World) =>
        cond b_14
          (idx data (IntKind.wrap IntKind.i64 (x_5 - 1)) 1 <|
          fun (a_16 : Addr) =>
          ld (Cell.int IntKind.u32) a_16 (World.drew w_15) <|
          fun (x_17 : Int) =>
          idx data x_5 1 <|
          fun (a_18 : Addr) =>
          ld (Cell.int IntKind.u32) a_18 (World.drew w_15) <|
          fun (x_19 : Int) =>
          idx data x_5 1 <|
          fun (a_20 : Addr) =>
          st a_20 ([Value.int IntKind.u32 x_17]) (World.drew w_15) <|
          fun (w_21 : World) =>
          idx data (IntKind.wrap IntKind.i64 (x_5 - 1)) 1 <|
          fun (a_22 : Addr) =>
          st a_22 ([Value.int IntKind.u32 x_19]) w_21 <|
          fun (w_23 : World) =>
          X_4 (IntKind.wrap IntKind.i64 (x_5 - 1)) w_23)
          (X_1 (IntKind.wrap IntKind.i64 (x_2 + 1)) w_15)) x_2 w_3)
      (K () w_3)) (IntKind.wrap IntKind.i64 (a + 1)) w
def slices_insertionSortOrderedA : List Ann := [.n, .l [(6, .one (.int .i64))], .n, .n, .n, .n, .l [(7, .one (.int .i64))], .n, .j [(30, .one .bool)], .o [[0, 1, 2, 3, 4, 5, 6, 7, 8, 9, 10, 11, 12, 13, 14]], .n, .o [[0, 1, 2, 3, 4, 5, 6, 7, 8, 9, 10, 11, 12, 13, 14, 15, 16, 17]]]
theorem slices_insertionSortOrdered_of {data : Sl} {a : Int} {b : Int} {w : World} {K : Unit → World → Prop} (hF : slices_insertionSortOrderedF data a b K w) : call Tryz.prog 147 [.slice data.a data.len data.cap, .int .i64 a, .int .i64 b] [] w K :=
  calls_of_fnPt (an := slices_insertionSortOrderedA) (ts := []) (args := [.slice data.a data.len data.cap, .int .i64 a, .int .i64 b]) Tryz.func147 (by kernel_rfl) ((show fnPt (std Tryz.prog) Tryz.prog Tryz.f147 slices_insertionSortOrderedA [] [.slice data.a data.len data.cap, .int .i64 a, .int .i64 b] K w = slices_insertionSortOrderedF data a b K w by kernel_rfl).mpr hF)

/-- slices.heapSortOrdered uint32  -/
def slices_heapSortOrderedF (data : Sl) (a : Int) (b : Int) (K : Unit → World → Prop) (w : World) : Prop :=
  loop (Int) (fun (X_1 : Int → World → Prop) (x_2 : Int) (w_3 : World) =>
    cond (decide (x_2 ≥ 0))
      (call Tryz.prog 168 ([Value.slice data.a data.len data.cap, Value.int IntKind.i64 x_2, Value.int IntKind.i64 (IntKind.wrap IntKind.i64 (b - a)), Value.int IntKind.i64 a]) [] w_3 <|
      fun (x_4 : PUnit) (w_5 : World) =>
      X_1 (IntKind.wrap IntKind.i64 (x_2 - 1)) w_5)
      (loop (Int) (fun (X_6 : Int → World → Prop) (x_7 : Int) (w_8 : World) =>
        cond (decide (x_7 ≥ 0))
          (idx data (IntKind.wrap IntKind.i64 (a + x_7)) 1 <|
          fun (a_9 : Addr) =>
          ld (Cell.int IntKind.u32) a_9 (World.drew w_8) <|
          fun (x_10 : Int) =>
          idx data a 1 <|
          fun (a_11 : Addr) =>
          ld (Cell.int IntKind.u32) a_11 (World.drew w_8) <|
          fun (x_12 : Int) =>
          idx data a 1 <|
          fun (a_13 : Addr) =>
          st a_13 ([Value.int IntKind.u32 x_10]) (World.drew w_8) <|
          fun (w_14 : World) =>
          idx data (IntKind.wrap IntKind.i64 (a + x_7)) 1 <|
          fun (a_15 : Addr) =>
          st a_15 ([Value.int IntKind.u32 x_12]) w_14 <|
          fun (w_16 : World) =>
          call Tryz.prog 168 ([Value.slice data.a data.len data.cap, Value.int IntKind.i64 0, Value.int IntKind.i64 x_7, Value.int IntKind.i64 a]) [] w_16 <|
          fun (x_17 : PUnit) (w_18 : World) =>
          X_6 (IntKind.wrap IntKind.i64 (x_7 - 1)) w_18)
          (K () w_8)) (IntKind.wrap IntKind.i64 (IntKind.wrap IntKind.i64 (b - a) - 1)) w_3)) (IntKind.wrap IntKind.i64 (Int.tdiv (IntKind.wrap IntKind.i64 (IntKind.wrap IntKind.i64 (b - a) - 1)) 2)) w
def slices_heapSortOrderedA : List Ann := [.n, .n, .n, .n, .n, .l [(9, .one (.int .i64))], .n, .n, .n, .n, .l [(10, .one (.int .i64))], .n, .n, .n, .n, .o [[0, 1, 2, 3, 4, 5, 6, 7, 8, 9, 10, 11, 12, 13, 14, 15, 16, 17, 18, 19]]]
theorem slices_heapSortOrdered_of {data : Sl} {a : Int} {b : Int} {w : World} {K : Unit → World → Prop} (hF : slices_heapSortOrderedF data a b K w) : call Tryz.prog 148 [.slice data.a data.len data.cap, .int .i64 a, .int .i64 b] [] w K :=
  calls_of_fnPt (an := slices_heapSortOrderedA) (ts := []) (args := [.slice data.a data.len data.cap, .int .i64 a, .int .i64 b]) Tryz.func148 (by kernel_rfl) ((show fnPt (std Tryz.prog) Tryz.prog Tryz.f148 slices_heapSortOrderedA [] [.slice data.a data.len data.cap, .int .i64 a, .int .i64 b] K w = slices_heapSortOrderedF data a b K w by kernel_rfl).mpr hF)

/-- slices.breakPatternsOrdered uint32  -/
def slices_breakPatternsOrderedF (data : Sl) (a : Int) (b : Int) (K : Unit → World → Prop) (w : World) : Prop :=
  cond (decide (IntKind.wrap IntKind.i64 (b - a) ≥ 8))
    (new (Obj.cells #[Value.int IntKind.u64 0] 246) w <|
    fun (r_1 : Nat) (w_2 : World) =>
    st ({ block := r_1, off := 0 }) ([Value.int IntKind.u64 (IntKind.wrap IntKind.u64 (IntKind.wrap IntKind.i64 (b - a)))]) w_2 <|
    fun (w_3 : World) =>
    call Tryz.prog 169 ([Value.int IntKind.i64 (IntKind.wrap IntKind.i64 (b - a))]) ([Ty1.one (Cell.int IntKind.u64)]) w_3 <|
    fun (x_4 : Int) (w_5 : World) =>
    loop (Int) (fun (X_6 : Int → World → Prop) (x_7 : Int) (w_8 : World) =>
      cond (decide (x_7 ≤ IntKind.wrap IntKind.i64 (IntKind.wrap IntKind.i64 (a + IntKind.wrap IntKind.i64 (IntKind.wrap IntKind.i64 (Int.tdiv (IntKind.wrap IntKind.i64 (b - a)) 4) * 2)) + 1)))
        (call Tryz.prog 170 ([Value.pointer (some { block := r_1, off := 0 })]) ([Ty1.one (Cell.int IntKind.u64)]) w_8 <|
        fun (x_9 : Int) (w_10 : World) =>
        join (Int) (fun (X_11 : Int → World → Prop) =>
          cond (decide (IntKind.wrap IntKind.i64 (bits BinOp.and IntKind.u64 x_9 (IntKind.wrap IntKind.u64 (x_4 - 1))) ≥ IntKind.wrap IntKind.i64 (b - a)))
            (X_11 (IntKind.wrap IntKind.i64 (IntKind.wrap IntKind.i64 (bits BinOp.and IntKind.u64 x_9 (IntKind.wrap IntKind.u64 (x_4 - 1))) - IntKind.wrap IntKind.i64 (b - a))) w_10)
            (X_11 (IntKind.wrap IntKind.i64 (bits BinOp.and IntKind.u64 x_9 (IntKind.wrap IntKind.u64 (x_4 - 1)))) w_10)) <|
        fun (x_12 : Int) (w_13 : World) =>
        idx data (IntKind.wrap IntKind.i64 (a + x_12)) 1 <|
        fun (a_14 : Addr) =>
        ld (Cell.int IntKind.u32) a_14 (World.drew w_13) <|
        fun (x_15 : Int) =>
        idx data x_7 1 <|
        fun (a_16 : Addr) =>
        ld (Cell.int IntKind.u32) a_16 (World.drew w_13) <|
        fun (x_17 : Int) =>
        idx data x_7 1 <|
        fun (a_18 : Addr) =>
        st a_18 ([Value.int IntKind.u32 x_15]) (World.drew w_13) <|
        fun (w_19 : World) =>
        idx data (IntKind.wrap IntKind.i64 (a + x_12)) 1 <|
        fun (a_20 : Addr) =>
        st a_20 ([Value.int IntKind.u32 x_17]) w_19 <|
        fun (w_21 : World) =>
        X_6 (IntKind.wrap IntKind.i64 (x_7 + 1)) w_21)
        (K () w_8)) (IntKind.wrap IntKind.i64 (IntKind.wrap IntKind.i64 (a + IntKind.wrap IntKind.i64 (IntKind.wrap IntKind.i64 (Int.tdiv (IntKind.wrap IntKind.i64 (b - a)) 4) * 2)) - 1)) w_5)
    (K () w)
def slices_breakPatternsOrderedA : List Ann := [.n, .n, .n, .n, .n, .l [(9, .one (.int .i64))], .n, .n, .n, .n, .j [(10, .one (.int .i64))], .n, .o [[0, 1, 2, 3, 4, 5, 6, 7, 8, 9, 10, 11, 12, 13, 14, 15, 16, 17, 18, 19]]]
theorem slices_breakPatternsOrdered_of {data : Sl} {a : Int} {b : Int} {w : World} {K : Unit → World → Prop} (hF : slices_breakPatternsOrderedF data a b K w) : call Tryz.prog 149 [.slice data.a data.len data.cap, .int .i64 a, .int .i64 b] [] w K :=
  calls_of_fnPt (an := slices_breakPatternsOrderedA) (ts := []) (args := [.slice data.a data.len data.cap, .int .i64 a, .int .i64 b]) Tryz.func149 (by kernel_rfl) ((show fnPt (std Tryz.prog) Tryz.prog Tryz.f149 slices_breakPatternsOrderedA [] [.slice data.a data.len data.cap, .int .i64 a, .int .i64 b] K w = slices_breakPatternsOrderedF data a b K w by kernel_rfl).mpr hF)

/-- slices.choosePivotOrdered uint32  -/
def slices_choosePivotOrderedF (data : Sl) (a : Int) (b : Int) (K : (Int × Int) → World → Prop) (w : World) : Prop :=
  new (Obj.cells #[Value.int IntKind.i64 0] 3) w <|
  fun (r_1 : Nat) (w_2 : World) =>
  join (Int) (fun (X_3 : Int → World → Prop) =>
    cond (decide (IntKind.wrap IntKind.i64 (b - a) ≥ 8))
      (join (Int × Int × Int) (fun (X_4 : Int × Int × Int → World → Prop) =>
        cond (decide (IntKind.wrap IntKind.i64 (b - a) ≥ 50))
          (call Tryz.prog 171 ([Value.slice data.a data.len data.cap, Value.int IntKind.i64 (IntKind.wrap IntKind.i64 (a + IntKind.wrap IntKind.i64 (IntKind.wrap IntKind.i64 (Int.tdiv (IntKind.wrap IntKind.i64 (b - a)) 4) * 1))), Value.pointer (some { block := r_1, off := 0 })]) ([Ty1.one (Cell.int IntKind.i64)]) w_2 <|
          fun (x_5 : Int) (w_6 : World) =>
          call Tryz.prog 171 ([Value.slice data.a data.len data.cap, Value.int IntKind.i64 (IntKind.wrap IntKind.i64 (a + IntKind.wrap IntKind.i64 (IntKind.wrap IntKind.i64 (Int.tdiv (IntKind.wrap IntKind.i64 (b - a)) 4) * 2))), Value.pointer (some { block := r_1, off := 0 })]) ([Ty1.one (Cell.int IntKind.i64)]) w_6 <|
          fun (x_7 : Int) (w_8 : World) =>
          call Tryz.prog 171 ([Value.slice data.a data.len data.cap, Value.int IntKind.i64 (IntKind.wrap IntKind.i64 (a + IntKind.wrap IntKind.i64 (IntKind.wrap IntKind.i64 (Int.tdiv (IntKind.wrap IntKind.i64 (b - a)) 4) * 3))), Value.pointer (some { block := r_1, off := 0 })]) ([Ty1.one (Cell.int IntKind.i64)]) w_8 <|
          fun (x_9 : Int) (w_10 : World) =>
          X_4 ((x_5, x_7, x_9)) w_10)
          (X_4 ((IntKind.wrap IntKind.i64 (a + IntKind.wrap IntKind.i64 (IntKind.wrap IntKind.i64 (Int.tdiv (IntKind.wrap IntKind.i64 (b - a)) 4) * 1)), IntKind.wrap IntKind.i64 (a + IntKind.wrap IntKind.i64 (IntKind.wrap IntKind.i64 (Int.tdiv (IntKind.wrap IntKind.i64 (b - a)) 4) * 2)), IntKind.wrap IntKind.i64 (a + IntKind.wrap IntKind.i64 (IntKind.wrap IntKind.i64 (Int.tdiv (IntKind.wrap IntKind.i64 (b - a)) 4) * 3)))) w_2)) <|
      fun (t_11 : Int × Int × Int) (w_12 : World) =>
      call Tryz.prog 172 ([Value.slice data.a data.len data.cap, Value.int IntKind.i64 t_11.fst, Value.int IntKind.i64 t_11.snd.fst, Value.int IntKind.i64 t_11.snd.snd, Value.pointer (some { block := r_1, off := 0 })]) ([Ty1.one (Cell.int IntKind.i64)]) w_12 <|
      fun (x_13 : Int) (w_14 : World) =>
      X_3 x_13 w_14)
      (X_3 (IntKind.wrap IntKind.i64 (a + IntKind.wrap IntKind.i64 (IntKind.wrap IntKind.i64 (Int.tdiv (IntKind.wrap IntKind.i64 (b - a)) 4) * 2))) w_2)) <|
  fun (x_15 : Int) (w_16 : World) =>
  ld (Cell.int IntKind.i64) ({ block := r_1, off := 0 }) w_16 <|
  fun (x_17 : Int) =>
  cond (x_17 == 0)
    (K ((x_15, 1)) w_16)
    (cond (x_17 == 12)
      (K ((x_15, 2)) w_16)
      (K ((x_15, 0)) w_16))
def slices_choosePivotOrderedA : List Ann := [.n, .n, .n, .n, .n, .n, .j [(11, .one (.int .i64))], .n, .j [(10, .one (.int .i64)), (11, .one (.int .i64)), (12, .one (.int .i64))], .n, .n, .n, .n, .n, .n, .n, .n, .n]
theorem slices_choosePivotOrdered_of {data : Sl} {a : Int} {b : Int} {w : World} {K : (Int × Int) → World → Prop} (hF : slices_choosePivotOrderedF data a b K w) : call Tryz.prog 150 [.slice data.a data.len data.cap, .int .i64 a, .int .i64 b] [.one (.int .i64), .one (.int .i64)] w K :=
  calls_of_fnPt (an := slices_choosePivotOrderedA) (ts := [.one (.int .i64), .one (.int .i64)]) (args := [.slice data.a data.len data.cap, .int .i64 a, .int .i64 b]) Tryz.func150 (by kernel_rfl) ((show fnPt (std Tryz.prog) Tryz.prog Tryz.f150 slices_choosePivotOrderedA [.one (.int .i64), .one (.int .i64)] [.slice data.a data.len data.cap, .int .i64 a, .int .i64 b] K w = slices_choosePivotOrderedF data a b K w by kernel_rfl).mpr hF)

/-- slices.reverseRangeOrdered uint32  -/
def slices_reverseRangeOrderedF (data : Sl) (a : Int) (b : Int) (K : Unit → World → Prop) (w : World) : Prop :=
  loop (Int × Int) (fun (X_1 : Int × Int → World → Prop) (t_2 : Int × Int) (w_3 : World) =>
    cond (decide (t_2.fst < t_2.snd))
      (idx data t_2.snd 1 <|
      fun (a_4 : Addr) =>
      ld (Cell.int IntKind.u32) a_4 (World.drew w_3) <|
      fun (x_5 : Int) =>
      idx data t_2.fst 1 <|
      fun (a_6 : Addr) =>
      ld (Cell.int IntKind.u32) a_6 (World.drew w_3) <|
      fun (x_7 : Int) =>
      idx data t_2.fst 1 <|
      fun (a_8 : Addr) =>
      st a_8 ([Value.int IntKind.u32 x_5]) (World.drew w_3) <|
      fun (w_9 : World) =>
      idx data t_2.snd 1 <|
      fun (a_10 : Addr) =>
      st a_10 ([Value.int IntKind.u32 x_7]) w_9 <|
      fun (w_11 : World) =>
      X_1 ((IntKind.wrap IntKind.i64 (t_2.fst + 1), IntKind.wrap IntKind.i64 (t_2.snd - 1))) w_11)
      (K () w_3)) ((a, IntKind.wrap IntKind.i64 (b - 1))) w
def slices_reverseRangeOrderedA : List Ann := [.n, .n, .l [(6, .one (.int .i64)), (7, .one (.int .i64))], .n, .n, .n, .o [[0, 1, 2, 3, 4, 5, 6, 7, 8, 9, 10, 11, 12, 13, 14, 15]], .n]
theorem slices_reverseRangeOrdered_of {data : Sl} {a : Int} {b : Int} {w : World} {K : Unit → World → Prop} (hF : slices_reverseRangeOrderedF data a b K w) : call Tryz.prog 151 [.slice data.a data.len data.cap, .int .i64 a, .int .i64 b] [] w K :=
  calls_of_fnPt (an := slices_reverseRangeOrderedA) (ts := []) (args := [.slice data.a data.len data.cap, .int .i64 a, .int .i64 b]) Tryz.func151 (by kernel_rfl) ((show fnPt (std Tryz.prog) Tryz.prog Tryz.f151 slices_reverseRangeOrderedA [] [.slice data.a data.len data.cap, .int .i64 a, .int .i64 b] K w = slices_reverseRangeOrderedF data a b K w by kernel_rfl).mpr hF)

/-- slices.partialInsertionSortOrdered uint32  -/
def slices_partialInsertionSortOrderedF (data : Sl) (a : Int) (b : Int) (K : Bool → World → Prop) (w : World) : Prop :=
  loop (Int × Int) (fun (X_1 : Int × Int → World → Prop) (t_2 : Int × Int) (w_3 : World) =>
    cond (decide (t_2.snd < 5))
      (join (Int) (fun (X_4 : Int → World → Prop) =>
        loop (Int) (fun (X_5 : Int → World → Prop) (x_6 : Int) (w_7 : World) =>
          join (Bool) (fun (X_8 : Bool → World → Prop) =>
            cond (decide (x_6 < b))
              (idx data x_6 1 <|
              fun (a_9 : Addr) =>
              ld (Cell.int IntKind.u32) a_9 (World.drew w_7) <|
              fun (x_10 : Int) =>
              idx data (IntKind.wrap IntKind.i64 (x_6 - 1)) 1 <|
              fun (a_11 : Addr) =>
              ld (Cell.int IntKind.u32) a_11 (World.drew w_7) <|
              fun (x_12 : Int) =>
              call Tryz.prog 153 ([Value.int IntKind.u32 x_10, Value.int IntKind.u32 x_12]) ([Ty1.one Cell.bool]) (World.drew w_7) <|
              fun (b_13 : Bool) (w_14 : World) =>
              X_8 (!b_13) w_14)
              (X_8 false (World.drew w_7))) <|
          fun (b_15 : Bool) (w_16 : World) =>
          cond b_15
            (X_5 (IntKind.wrap IntKind.i64 (x_6 + 1)) w_16)
            (cond (x_6 == b)
              (K true w_16)
              (cond (decide (IntKind.wrap IntKind.i64 (b - a) < 50))
                (K false w_16)
                (idx data (IntKind.wrap IntKind.i64 (x_6 - 1)) 1 <|
                fun (a_17 : Addr) =>
                ld (Cell.int IntKind.u32) a_17 (World.drew w_16) <|
                fun (x_18 : Int) =>
                idx data x_6 1 <|
                fun (a_19 : Addr) =>
                ld (Cell.int IntKind.u32) a_19 (World.drew w_16) <|
                fun (x_20 : Int) =>
                idx data x_6 1 <|
                fun (a_21 : Addr) =>
                st a_21 ([Value.int IntKind.u32 x_18]) (World.drew w_16) <|
                fun (w_22 : World) =>
                idx data (IntKind.wrap IntKind.i64 (x_6 - 1)) 1 <|
                fun (a_23 : Addr) =>
                st a_23 ([Value.int IntKind.u32 x_20]) w_22 <|
                fun (w_24 : World) =>
                join (PUnit) (fun (X_25 : PUnit → World → Prop) =>
                  cond (decide (IntKind.wrap IntKind.i64 (x_6 - a) ≥ 2))
                    (loop (Int) (fun (X_26 : Int → World → Prop) (x_27 : Int) (w_28 : World) =>
                      cond (decide (x_27 ≥ 1))
                        (idx data x_27 1 <|
                        fun (a_29 : Addr) =>
                        ld (Cell.int IntKind.u32) a_29 (World.drew w_28) <|
                        fun (x_30 : Int) =>
                        idx data (IntKind.wrap IntKind.i64 (x_27 - 1)) 1 <|
                        fun (a_31 : Addr) =>
                        ld (Cell.int IntKind.u32) a_31 (World.drew w_28) <|
                        fun (x_32 : Int) =>
                        call Tryz.prog 153 ([Value.int IntKind.u32 x_30, Value.int IntKind.u32 x_32]) ([Ty1.one Cell.bool]) (World.drew w_28) <|
                        fun (b_33 : Bool) (w_34 : World) =>
                        cond (!b_33)
                          (X_25 () w_34)
                          (idx data (IntKind.wrap IntKind.i64 (x_27 - 1)) 1 <|
                          fun (a_35 : Addr) =>
                          ld (Cell.int IntKind.u32) a_35 (World.drew w_34) <|
                          fun (x_36 : Int) =>
                          idx data x_27 1 <|
                          fun (a_37 : Addr) =>
                          ld (Cell.int IntKind.u32) a_37 (World.drew w_34) <|
                          fun (x_38 : Int) =>
                          idx data x_27 1 <|
                          fun (a_39 : Addr) =>
                          st a_39 ([Value.int IntKind.u32 x_36]) (World.drew w_34) <|
                          fun (w_40 : World) =>
                          idx data (IntKind.wrap IntKind.i64 (x_27 - 1)) 1 <|
                          fun (a_41 : Addr) =>
                          st a_41 ([Value.int IntKind.u32 x_38]) w_40 <|
                          fun (w_42 : World) =>
                          X_26 (IntKind.wrap IntKind.i64 (x_27 - 1)) w_42))
                        (X_25 () w_28)) (IntKind.wrap IntKind.i64 (x_6 - 1)) w_24)
                    (X_25 () w_24)) <|
                fun (x_43 : PUnit) (w_44 : World) =>
                cond (decide (IntKind.wrap IntKind.i64 (b - x_6) ≥ 2))
                  (loop (Int) (fun (X_45 : Int → World → Prop) (x_46 : Int) (w_47 : World) =>
                    cond (decide (x_46 < b))
                      (idx data x_46 1 <|
                      fun (a_48 : Addr) =>
                      ld (Cell.int IntKind.u32) a_48 (World.drew w_47) <|
                      fun (x_49 : Int) =>
                      idx data (IntKind.wrap IntKind.i64 (x_46 - 1)) 1 <|
                      fun (a_50 : Addr) =>
                      ld (Cell.int IntKind.u32) a_50 (World.drew w_47) <|
                      fun (x_51 : Int) =>
                      call Tryz.prog 153 ([Value.int IntKind.u32 x_49, Value.int IntKind.u32 x_51]) ([Ty1.one Cell.bool]) (World.drew w_47) <|
                      fun (b_52 : Bool) (w_53 : World) =>
                      cond (!b_52)
                        (X_4 x_6 w_53)
                        (idx data (IntKind.wrap IntKind.i64 (x_46 - 1)) 1 <|
                        fun (a_54 : Addr) =>
                        ld (Cell.int IntKind.u32) a_54 (World.drew w_53) <|
                        fun (x_55 : Int) =>
                        idx data x_46 1 <|
                        fun (a_56 : Addr) =>
                        ld (Cell.int IntKind.u32) a_56 (World.drew w_53) <|
                        fun (x_57 : Int) =>
                        idx data x_46 1 <|
                        fun (a_58 : Addr) =>
                        st a_58 ([Value.int IntKind.u32 x_55]) (World.drew w_53) <|
                        fun (w_59 : World) =>
                        idx data (IntKind.wrap IntKind.i64 (x_46 - 1)) 1 <|
                        fun (a_60 : Addr) =>
                        st a_60 ([Value.int IntKind.u32 x_57]) w_59 <|
                        fun (w_61 : World) =>
                        X_45 (IntKind.wrap IntKind.i64 (x_46 + 1)) w_61))
                      (X_4 x_6 w_47)) (IntKind.wrap IntKind.i64 (x_6 + 1)) w_44)
                  (X_4 x_6 w_44))))) t_2.fst w_3) <|
      fun (x_62 : Int) (w_63 : World) =>
      X_1 ((x_62, IntKind.wrap IntKind.i64 (t_2.snd + 1))) w_63)
      (K false w_3)) ((IntKind.wrap IntKind.i64 (a + 1), 0)) w
def slices_partialInsertionSortOrderedA : List Ann := [.n, .n, .n, .n, .l [(7, .one (.int .i64)), (8, .one (.int .i64))], .n, .n, .j [(7, .one (.int .i64))], .n, .l [(7, .one (.int .i64))], .n, .j [(32, .one .bool)], .o [[0, 1, 2, 3, 4, 5, 6, 7, 8, 9, 10, 11, 12, 13, 14, 15]], .n, .n, .n, .n, .n, .n, .n, .o [[0, 1, 2, 3, 4, 5, 6, 7, 8, 9, 10, 11, 12, 13, 14, 15, 16, 17]], .j [], .n, .n, .l [(9, .one (.int .i64))], .n, .n, .n, .n, .n, .o [[0, 1, 2, 3, 4, 5, 6, 7, 8, 9, 10]], .o [[0, 1, 2, 3, 4, 5, 6, 7, 8, 9, 10, 11, 12, 13, 14, 15, 16, 17]], .n, .n, .l [(10, .one (.int .i64))], .n, .n, .n, .n, .n, .o [[0, 1, 2, 3, 4, 5, 6, 7, 8, 9, 10]], .o [[0, 1, 2, 3, 4, 5, 6, 7, 8, 9, 10, 11, 12, 13, 14, 15, 16, 17]], .n]
theorem slices_partialInsertionSortOrdered_of {data : Sl} {a : Int} {b : Int} {w : World} {K : Bool → World → Prop} (hF : slices_partialInsertionSortOrderedF data a b K w) : call Tryz.prog 152 [.slice data.a data.len data.cap, .int .i64 a, .int .i64 b] [.one .bool] w K :=
  calls_of_fnPt (an := slices_partialInsertionSortOrderedA) (ts := [.one .bool]) (args := [.slice data.a data.len data.cap, .int .i64 a, .int .i64 b]) Tryz.func152 (by kernel_rfl) ((show fnPt (std Tryz.prog) Tryz.prog Tryz.f152 slices_partialInsertionSortOrderedA [.one .bool] [.slice data.a data.len data.cap, .int .i64 a, .int .i64 b] K w = slices_partialInsertionSortOrderedF data a b K w by kernel_rfl).mpr hF)

/-- cmp.Less uint32  -/
def cmp_LessF (x : Int) (y : Int) (K : Bool → World → Prop) (w : World) : Prop :=
  call Tryz.prog 173 ([Value.int IntKind.u32 x]) ([Ty1.one Cell.bool]) w <|
  fun (b_1 : Bool) (w_2 : World) =>
  cond b_1
    (call Tryz.prog 173 ([Value.int IntKind.u32 y]) ([Ty1.one Cell.bool]) w_2 <|
    fun (b_3 : Bool) (w_4 : World) =>
    cond (!b_3)
      (K true w_4)
      (K (decide (x < y)) w_4))
    (K (decide (x < y)) w_2)
def cmp_LessA : List Ann := [.n, .n]
theorem cmp_Less_of {x : Int} {y : Int} {w : World} {K : Bool → World → Prop} (hF : cmp_LessF x y K w) : call Tryz.prog 153 [.int .u32 x, .int .u32 y] [.one .bool] w K :=
  calls_of_fnPt (an := cmp_LessA) (ts := [.one .bool]) (args := [.int .u32 x, .int .u32 y]) Tryz.func153 (by kernel_rfl) ((show fnPt (std Tryz.prog) Tryz.prog Tryz.f153 cmp_LessA [.one .bool] [.int .u32 x, .int .u32 y] K w = cmp_LessF x y K w by kernel_rfl).mpr hF)

/-- slices.partitionEqualOrdered uint32  -/
def slices_partitionEqualOrderedF (data : Sl) (a : Int) (b : Int) (pivot : Int) (K : Int → World → Prop) (w : World) : Prop :=
  idx data pivot 1 <|
  fun (a_1 : Addr) =>
  ld (Cell.int IntKind.u32) a_1 (World.drew w) <|
  fun (x_2 : Int) =>
  idx data a 1 <|
  fun (a_3 : Addr) =>
  ld (Cell.int IntKind.u32) a_3 (World.drew w) <|
  fun (x_4 : Int) =>
  idx data a 1 <|
  fun (a_5 : Addr) =>
  st a_5 ([Value.int IntKind.u32 x_2]) (World.drew w) <|
  fun (w_6 : World) =>
  idx data pivot 1 <|
  fun (a_7 : Addr) =>
  st a_7 ([Value.int IntKind.u32 x_4]) w_6 <|
  fun (w_8 : World) =>
  loop (Int × Int) (fun (X_9 : Int × Int → World → Prop) (t_10 : Int × Int) (w_11 : World) =>
    loop (Int) (fun (X_12 : Int → World → Prop) (x_13 : Int) (w_14 : World) =>
      join (Bool) (fun (X_15 : Bool → World → Prop) =>
        cond (decide (x_13 ≤ t_10.snd))
          (idx data a 1 <|
          fun (a_16 : Addr) =>
          ld (Cell.int IntKind.u32) a_16 (World.drew w_14) <|
          fun (x_17 : Int) =>
          idx data x_13 1 <|
          fun (a_18 : Addr) =>
          ld (Cell.int IntKind.u32) a_18 (World.drew w_14) <|
          fun (x_19 : Int) =>
          call Tryz.prog 153 ([Value.int IntKind.u32 x_17, Value.int IntKind.u32 x_19]) ([Ty1.one Cell.bool]) (World.drew w_14) <|
          fun (b_20 : Bool) (w_21 : World) =>
          X_15 (!b_20) w_21)
          (X_15 false (World.drew w_14))) <|
      fun (b_22 : Bool) (w_23 : World) =>
      cond b_22
        (X_12 (IntKind.wrap IntKind.i64 (x_13 + 1)) w_23)
        (loop (Int) (fun (X_24 : Int → World → Prop) (x_25 : Int) (w_26 : World) =>
          join (Bool) (fun (X_27 : Bool → World → Prop) =>
            cond (decide (x_13 ≤ x_25))
              (idx data a 1 <|
              fun (a_28 : Addr) =>
              ld (Cell.int IntKind.u32) a_28 (World.drew w_26) <|
              fun (x_29 : Int) =>
              idx data x_25 1 <|
              fun (a_30 : Addr) =>
              ld (Cell.int IntKind.u32) a_30 (World.drew w_26) <|
              fun (x_31 : Int) =>
              call Tryz.prog 153 ([Value.int IntKind.u32 x_29, Value.int IntKind.u32 x_31]) ([Ty1.one Cell.bool]) (World.drew w_26) <|
              fun (b_32 : Bool) (w_33 : World) =>
              X_27 b_32 w_33)
              (X_27 false (World.drew w_26))) <|
          fun (b_34 : Bool) (w_35 : World) =>
          cond b_34
            (X_24 (IntKind.wrap IntKind.i64 (x_25 - 1)) w_35)
            (cond (decide (x_13 > x_25))
              (K x_13 w_35)
              (idx data x_25 1 <|
              fun (a_36 : Addr) =>
              ld (Cell.int IntKind.u32) a_36 (World.drew w_35) <|
              fun (x_37 : Int) =>
              idx data x_13 1 <|
              fun (a_38 : Addr) =>
              ld (Cell.int IntKind.u32) a_38 (World.drew w_35) <|
              fun (x_39 : Int) =>
              idx data x_13 1 <|
              fun (a_40 : Addr) =>
              st a_40 ([Value.int IntKind.u32 x_37]) (World.drew w_35) <|
              fun (w_41 : World) =>
              idx data x_25 1 <|
              fun (a_42 : Addr) =>
              st a_42 ([Value.int IntKind.u32 x_39]) w_41 <|
              fun (w_43 : World) =>
              X_9 ((IntKind.wrap IntKind.i64 (x_13 + 1), IntKind.wrap IntKind.i64 (x_25 - 1))) w_43))) t_10.snd w_23)) t_10.fst w_11) ((IntKind.wrap IntKind.i64 (a + 1), IntKind.wrap IntKind.i64 (b - 1))) w_8
def slices_partitionEqualOrderedA : List Ann := [.n, .n, .o [[0, 1, 2, 3, 4, 5, 6, 7, 8, 9, 10, 11, 12, 13, 14, 15]], .n, .n, .l [(9, .one (.int .i64)), (10, .one (.int .i64))], .n, .l [(9, .one (.int .i64))], .n, .j [(43, .one .bool)], .o [[0, 1, 2, 3, 4, 5, 6, 7, 8, 9, 10, 11, 12, 13, 14]], .n, .l [(10, .one (.int .i64))], .n, .j [(59, .one .bool)], .o [[0, 1, 2, 3, 4, 5, 6, 7, 8, 9, 10, 11, 12, 13]], .n, .n, .n, .o [[0, 1, 2, 3, 4, 5, 6, 7, 8, 9, 10, 11, 12, 13, 14, 15]], .n, .n]
theorem slices_partitionEqualOrdered_of {data : Sl} {a : Int} {b : Int} {pivot : Int} {w : World} {K : Int → World → Prop} (hF : slices_partitionEqualOrderedF data a b pivot K w) : call Tryz.prog 154 [.slice data.a data.len data.cap, .int .i64 a, .int .i64 b, .int .i64 pivot] [.one (.int .i64)] w K :=
  calls_of_fnPt (an := slices_partitionEqualOrderedA) (ts := [.one (.int .i64)]) (args := [.slice data.a data.len data.cap, .int .i64 a, .int .i64 b, .int .i64 pivot]) Tryz.func154 (by kernel_rfl) ((show fnPt (std Tryz.prog) Tryz.prog Tryz.f154 slices_partitionEqualOrderedA [.one (.int .i64)] [.slice data.a data.len data.cap, .int .i64 a, .int .i64 b, .int .i64 pivot] K w = slices_partitionEqualOrderedF data a b pivot K w by kernel_rfl).mpr hF)

/-- slices.partitionOrdered uint32  -/
def slices_partitionOrderedF (data : Sl) (a : Int) (b : Int) (pivot : Int) (K : (Int × Bool) → World → Prop) (w : World) : Prop :=
  idx data pivot 1 <|
  fun (a_1 : Addr) =>
  ld (Cell.int IntKind.u32) a_1 (World.drew w) <|
  fun (x_2 : Int) =>
  idx data a 1 <|
  fun (a_3 : Addr) =>
  ld (Cell.int IntKind.u32) a_3 (World.drew w) <|
  fun (x_4 : Int) =>
  idx data a 1 <|
  fun (a_5 : Addr) =>
  st a_5 ([Value.int IntKind.u32 x_2]) (World.drew w) <|
  fun (w_6 : World) =>
  idx data pivot 1 <|
  fun (a_7 : Addr) =>
  st a_7 ([Value.int IntKind.u32 x_4]) w_6 <|
  fun (w_8 : World) =>
  loop (Int) (fun (X_9 : Int → World → Prop) (x_10 : Int) (w_11 : World) =>
    join (Bool) (fun (X_12 : Bool → World → Prop) =>
      cond (decide (x_10 ≤ IntKind.wrap IntKind.i64 (b - 1)))
        (idx data x_10 1 <|
        fun (a_13 : Addr) =>
        ld (Cell.int IntKind.u32) a_13 (World.drew w_11) <|
        fun (x_14 : Int) =>
        idx data a 1 <|
        fun (a_15 : Addr) =>
        ld (Cell.int IntKind.u32) a_15 (World.drew w_11) <|
        fun (x_16 : Int) =>
        call Tryz.prog 153 ([Value.int IntKind.u32 x_14, Value.int IntKind.u32 x_16]) ([Ty1.one Cell.bool]) (World.drew w_11) <|
        fun (b_17 : Bool) (w_18 : World) =>
        X_12 b_17 w_18)
        (X_12 false (World.drew w_11))) <|
    fun (b_19 : Bool) (w_20 : World) =>
    cond b_19
      (X_9 (IntKind.wrap IntKind.i64 (x_10 + 1)) w_20)
      (loop (Int) (fun (X_21 : Int → World → Prop) (x_22 : Int) (w_23 : World) =>
        join (Bool) (fun (X_24 : Bool → World → Prop) =>
          cond (decide (x_10 ≤ x_22))
            (idx data x_22 1 <|
            fun (a_25 : Addr) =>
            ld (Cell.int IntKind.u32) a_25 (World.drew w_23) <|
            fun (x_26 : Int) =>
            idx data a 1 <|
            fun (a_27 : Addr) =>
            ld (Cell.int IntKind.u32) a_27 (World.drew w_23) <|
            fun (x_28 : Int) =>
            call Tryz.prog 153 ([Value.int IntKind.u32 x_26, Value.int IntKind.u32 x_28]) ([Ty1.one Cell.bool]) (World.drew w_23) <|
            fun (b_29 : Bool) (w_30 : World) =>
            X_24 (!b_29) w_30)
            (X_24 false (World.drew w_23))) <|
        fun (b_31 : Bool) (w_32 : World) =>
        cond b_31
          (X_21 (IntKind.wrap IntKind.i64 (x_22 - 1)) w_32)
          (cond (decide (x_10 > x_22))
            (idx data a 1 <|
            fun (a_33 : Addr) =>
            ld (Cell.int IntKind.u32) a_33 (World.drew w_32) <|
            fun (x_34 : Int) =>
            idx data x_22 1 <|
            fun (a_35 : Addr) =>
            ld (Cell.int IntKind.u32) a_35 (World.drew w_32) <|
            fun (x_36 : Int) =>
            idx data x_22 1 <|
            fun (a_37 : Addr) =>
            st a_37 ([Value.int IntKind.u32 x_34]) (World.drew w_32) <|
            fun (w_38 : World) =>
            idx data a 1 <|
            fun (a_39 : Addr) =>
            st a_39 ([Value.int IntKind.u32 x_36]) w_38 <|
            fun (w_40 : World) =>
            K ((x_22, true)) w_40)
            (idx data x_22 1 <|
            fun (a_41 : Addr) =>
            ld (Cell.int IntKind.u32) a_41 (World.drew w_32) <|
            fun (x_42 : Int) =>
            idx data x_10 1 <|
            fun (a_43 : Addr) =>
            ld (Cell.int IntKind.u32) a_43 (World.drew w_32) <|
            fun (x_44 : Int) =>
            idx data x_10 1 <|
            fun (a_45 : Addr) =>
            st a_45 ([Value.int IntKind.u32 x_42]) (World.drew w_32) <|
            fun (w_46 : World) =>
            idx data x_22 1 <|
            fun (a_47 : Addr) =>
            st a_47 ([Value.int IntKind.u32 x_44]) w_46 <|
            fun (w_48 : World) =>
            loop (Int × Int) (fun (X_49 : Int × Int → World → Prop) (t_50 : Int × Int) (w_51 : World) =>
              loop (Int) (fun (X_52 : Int → World → Prop) (x_53 : Int) (w_54 : World) =>
                join (Bool) (fun (X_55 : Bool → World → Prop) =>
                  cond (decide (x_53 ≤ t_50.snd))
                    (idx data x_53 1 <|
                    fun (a_56 : Addr) =>
                    ld (Cell.int IntKind.u32) a_56 (World.drew w_54) <|
                    fun (x_57 : Int) =>
                    idx data a 1 <|
                    fun (a_58 : Addr) =>
                    ld (Cell.int IntKind.u32) a_58 (World.drew w_54) <|
                    fun (x_59 : Int) =>
                    call Tryz.prog 153 ([Value.int IntKind.u32 x_57, Value.int IntKind.u32 x_59]) ([Ty1.one Cell.bool]) (World.drew w_54) <|
                    fun (b_60 : Bool) (w_61 : World) =>
                    X_55 b_60 w_61)
                    (X_55 false (World.drew w_54))) <|
                fun (b_62 : Bool) (w_63 : World) =>
                cond b_62
                  (X_52 (IntKind.wrap IntKind.i64 (x_53 + 1)) w_63)
                  (loop (Int) (fun (X_64 : Int → World → Prop) (x_65 : Int) (w_66 : World) =>
                    join (Bool) (fun (X_67 : Bool → World → Prop) =>
                      cond (decide (x_53 ≤ x_65))
                        (idx data x_65 1 <|
                        fun (a_68 : Addr) =>
                        ld (Cell.int IntKind.u32) a_68 (World.drew w_66) <|
                        fun (x_69 : Int) =>
                        idx data a 1 <|
                        fun (a_70 : Addr) =>
                        ld (Cell.int IntKind.u32) a_70 (World.drew w_66) <|
                        fun (x_71 : Int) =>
                        call Tryz.prog 153 ([Value.int IntKind.u32 x_69, Value.int IntKind.u32 x_71]) ([Ty1.one Cell.bool]) (World.drew w_66) <|
                        fun (b_72 : Bool) (w_73 : World) =>
                        X_67 (!b_72) w_73)
                        (X_67 false (World.drew w_66))) <|
                    fun (b_74 : Bool) (w_75 : World) =>
                    cond b_74
                      (X_64 (IntKind.wrap IntKind.i64 (x_65 - 1)) w_75)
                      (cond (decide (x_53 > x_65))
                        (idx data a 1 <|
                        fun (a_76 : Addr) =>
                        ld (Cell.int IntKind.u32) a_76 (World.drew w_75) <|
                        fun (x_77 : Int) =>
                        idx data x_65 1 <|
                        fun (a_78 : Addr) =>
                        ld (Cell.int IntKind.u32) a_78 (World.drew w_75) <|
                        fun (x_79 : Int) =>
                        idx data x_65 1 <|
                        fun (a_80 : Addr) =>
                        st a_80 ([Value.int IntKind.u32 x_77]) (World.drew w_75) <|
                        fun (w_81 : World) =>
                        idx data a 1 <|
                        fun (a_82 : Addr) =>
                        st a_82 ([Value.int IntKind.u32 x_79]) w_81 <|
                        fun (w_83 : World) =>
                        K ((x_65, false)) w_83)
                        (idx data x_65 1 <|
                        fun (a_84 : Addr) =>
                        ld (Cell.int IntKind.u32) a_84 (World.drew w_75) <|
                        fun (x_85 : Int) =>
                        idx data x_53 1 <|
                        fun (a_86 : Addr) =>
                        ld (Cell.int IntKind.u32) a_86 (World.drew w_75) <|
                        fun (x_87 : Int) =>
                        idx data x_53 1 <|
                        fun (a_88 : Addr) =>
                        st a_88 ([Value.int IntKind.u32 x_85]) (World.drew w_75) <|
                        fun (w_89 : World) =>
                        idx data x_65 1 <|
                        fun (a_90 : Addr) =>
                        st a_90 ([Value.int IntKind.u32 x_87]) w_89 <|
                        fun (w_91 : World) =>
                        X_49 ((IntKind.wrap IntKind.i64 (x_53 + 1), IntKind.wrap IntKind.i64 (x_65 - 1))) w_91))) t_50.snd w_63)) t_50.fst w_51) ((IntKind.wrap IntKind.i64 (x_10 + 1), IntKind.wrap IntKind.i64 (x_22 - 1))) w_48))) (IntKind.wrap IntKind.i64 (b - 1)) w_20)) (IntKind.wrap IntKind.i64 (a + 1)) w_8
def slices_partitionOrderedA : List Ann := [.n, .n, .o [[0, 1, 2, 3, 4, 5, 6, 7, 8, 9, 10, 11, 12, 13, 14, 15]], .n, .n, .l [(10, .one (.int .i64))], .n, .j [(43, .one .bool)], .o [[0, 1, 2, 3, 4, 5, 6, 7, 8, 9, 10, 11, 12, 13]], .n, .l [(11, .one (.int .i64))], .n, .j [(60, .one .bool)], .o [[0, 1, 2, 3, 4, 5, 6, 7, 8, 9, 10, 11, 12, 13, 14]], .n, .n, .n, .o [[0, 1, 2, 3, 4, 5, 6, 7, 8, 9, 10, 11, 12, 13, 14, 15]], .n, .n, .o [[0, 1, 2, 3, 4, 5, 6, 7, 8, 9, 10, 11, 12, 13, 14, 15]], .n, .n, .n, .l [(10, .one (.int .i64)), (11, .one (.int .i64))], .n, .l [(10, .one (.int .i64))], .n, .j [(112, .one .bool)], .o [[0, 1, 2, 3, 4, 5, 6, 7, 8, 9, 10, 11, 12, 13]], .n, .l [(11, .one (.int .i64))], .n, .j [(129, .one .bool)], .o [[0, 1, 2, 3, 4, 5, 6, 7, 8, 9, 10, 11, 12, 13, 14]], .n, .n, .n, .o [[0, 1, 2, 3, 4, 5, 6, 7, 8, 9, 10, 11, 12, 13, 14, 15]], .n, .n, .o [[0, 1, 2, 3, 4, 5, 6, 7, 8, 9, 10, 11, 12, 13, 14, 15]], .n]
theorem slices_partitionOrdered_of {data : Sl} {a : Int} {b : Int} {pivot : Int} {w : World} {K : (Int × Bool) → World → Prop} (hF : slices_partitionOrderedF data a b pivot K w) : call Tryz.prog 155 [.slice data.a data.len data.cap, .int .i64 a, .int .i64 b, .int .i64 pivot] [.one (.int .i64), .one .bool] w K :=
  calls_of_fnPt (an := slices_partitionOrderedA) (ts := [.one (.int .i64), .one .bool]) (args := [.slice data.a data.len data.cap, .int .i64 a, .int .i64 b, .int .i64 pivot]) Tryz.func155 (by kernel_rfl) ((show fnPt (std Tryz.prog) Tryz.prog Tryz.f155 slices_partitionOrderedA [.one (.int .i64), .one .bool] [.slice data.a data.len data.cap, .int .i64 a, .int .i64 b, .int .i64 pivot] K w = slices_partitionOrderedF data a b pivot K w by kernel_rfl).mpr hF)

/-- math.bits.Len32 -/
def bits_Len32F (x : Int) (K : Int → World → Prop) (w : World) : Prop :=
  join (Int × Int) (fun (X_1 : Int × Int → World → Prop) =>
    cond (decide (x ≥ 65536))
      (X_1 ((Int.fdiv x (2 ^ 16), 16)) w)
      (X_1 ((x, 0)) w)) <|
  fun (t_2 : Int × Int) (w_3 : World) =>
  join (Int × Int) (fun (X_4 : Int × Int → World → Prop) =>
    cond (decide (t_2.fst ≥ 256))
      (X_4 ((Int.fdiv t_2.fst (2 ^ 8), IntKind.wrap IntKind.i64 (t_2.snd + 8))) w_3)
      (X_4 t_2 w_3)) <|
  fun (t_5 : Int × Int) (w_6 : World) =>
  idxS ({ data := List.toArray (List.append (List.append [0, 1, 2, 2, 3, 3, 3, 3, 4, 4, 4, 4, 4, 4, 4, 4, 5, 5, 5, 5, 5, 5, 5, 5, 5, 5, 5, 5, 5, 5, 5, 5, 6, 6, 6, 6, 6, 6, 6, 6, 6, 6, 6, 6, 6, 6, 6, 6, 6, 6, 6, 6, 6, 6, 6, 6, 6, 6, 6, 6, 6, 6, 6, 6] [7, 7, 7, 7, 7, 7, 7, 7, 7, 7, 7, 7, 7, 7, 7, 7, 7, 7, 7, 7, 7, 7, 7, 7, 7, 7, 7, 7, 7, 7, 7, 7, 7, 7, 7, 7, 7, 7, 7, 7, 7, 7, 7, 7, 7, 7, 7, 7, 7, 7, 7, 7, 7, 7, 7, 7, 7, 7, 7, 7, 7, 7, 7, 7]) (List.append [8, 8, 8, 8, 8, 8, 8, 8, 8, 8, 8, 8, 8, 8, 8, 8, 8, 8, 8, 8, 8, 8, 8, 8, 8, 8, 8, 8, 8, 8, 8, 8, 8, 8, 8, 8, 8, 8, 8, 8, 8, 8, 8, 8, 8, 8, 8, 8, 8, 8, 8, 8, 8, 8, 8, 8, 8, 8, 8, 8, 8, 8, 8, 8] [8, 8, 8, 8, 8, 8, 8, 8, 8, 8, 8, 8, 8, 8, 8, 8, 8, 8, 8, 8, 8, 8, 8, 8, 8, 8, 8, 8, 8, 8, 8, 8, 8, 8, 8, 8, 8, 8, 8, 8, 8, 8, 8, 8, 8, 8, 8, 8, 8, 8, 8, 8, 8, 8, 8, 8, 8, 8, 8, 8, 8, 8, 8, 8])) }) (IntKind.wrap IntKind.u8 t_5.fst) <|
  fun (x_7 : Int) =>
  K (IntKind.wrap IntKind.i64 (t_5.snd + IntKind.wrap IntKind.i64 x_7)) w_6
def bits_Len32A : List Ann := [.n, .j [(0, .one (.int .u32)), (2, .one (.int .i64))], .n, .n, .j [(0, .one (.int .u32)), (2, .one (.int .i64))], .n, .n, .n]
theorem bits_Len32_of {x : Int} {w : World} {K : Int → World → Prop} (hF : bits_Len32F x K w) : call Tryz.prog 156 [.int .u32 x] [.one (.int .i64)] w K :=
  calls_of_fnPt (an := bits_Len32A) (ts := [.one (.int .i64)]) (args := [.int .u32 x]) Tryz.func156 (by kernel_rfl) ((show fnPt (std Tryz.prog) Tryz.prog Tryz.f156 bits_Len32A [.one (.int .i64)] [.int .u32 x] K w = bits_Len32F x K w by kernel_rfl).mpr hF)

/-- math.bits.Len64 -/
def bits_Len64F (x : Int) (K : Int → World → Prop) (w : World) : Prop :=
  join (Int × Int) (fun (X_1 : Int × Int → World → Prop) =>
    cond (decide (x ≥ 4294967296))
      (X_1 ((Int.fdiv x (2 ^ 32), 32)) w)
      (X_1 ((x, 0)) w)) <|
  fun (t_2 : Int × Int) (w_3 : World) =>
  join (Int × Int) (fun (X_4 : Int × Int → World → Prop) =>
    cond (decide (t_2.fst ≥ 65536))
      (X_4 ((Int.fdiv t_2.fst (2 ^ 16), IntKind.wrap IntKind.i64 (t_2.snd + 16))) w_3)
      (X_4 t_2 w_3)) <|
  fun (t_5 : Int × Int) (w_6 : World) =>
  join (Int × Int) (fun (X_7 : Int × Int → World → Prop) =>
    cond (decide (t_5.fst ≥ 256))
      (X_7 ((Int.fdiv t_5.fst (2 ^ 8), IntKind.wrap IntKind.i64 (t_5.snd + 8))) w_6)
      (X_7 t_5 w_6)) <|
  fun (t_8 : Int × Int) (w_9 : World) =>
  idxS ({ data := List.toArray (List.append (List.append [0, 1, 2, 2, 3, 3, 3, 3, 4, 4, 4, 4, 4, 4, 4, 4, 5, 5, 5, 5, 5, 5, 5, 5, 5, 5, 5, 5, 5, 5, 5, 5, 6, 6, 6, 6, 6, 6, 6, 6, 6, 6, 6, 6, 6, 6, 6, 6, 6, 6, 6, 6, 6, 6, 6, 6, 6, 6, 6, 6, 6, 6, 6, 6] [7, 7, 7, 7, 7, 7, 7, 7, 7, 7, 7, 7, 7, 7, 7, 7, 7, 7, 7, 7, 7, 7, 7, 7, 7, 7, 7, 7, 7, 7, 7, 7, 7, 7, 7, 7, 7, 7, 7, 7, 7, 7, 7, 7, 7, 7, 7, 7, 7, 7, 7, 7, 7, 7, 7, 7, 7, 7, 7, 7, 7, 7, 7, 7]) (List.append [8, 8, 8, 8, 8, 8, 8, 8, 8, 8, 8, 8, 8, 8, 8, 8, 8, 8, 8, 8, 8, 8, 8, 8, 8, 8, 8, 8, 8, 8, 8, 8, 8, 8, 8, 8, 8, 8, 8, 8, 8, 8, 8, 8, 8, 8, 8, 8, 8, 8, 8, 8, 8, 8, 8, 8, 8, 8, 8, 8, 8, 8, 8, 8] [8, 8, 8, 8, 8, 8, 8, 8, 8, 8, 8, 8, 8, 8, 8, 8, 8, 8, 8, 8, 8, 8, 8, 8, 8, 8, 8, 8, 8, 8, 8, 8, 8, 8, 8, 8, 8, 8, 8, 8, 8, 8, 8, 8, 8, 8, 8, 8, 8, 8, 8, 8, 8, 8, 8, 8, 8, 8, 8, 8, 8, 8, 8, 8])) }) (IntKind.wrap IntKind.u8 t_8.fst) <|
  fun (x_10 : Int) =>
  K (IntKind.wrap IntKind.i64 (t_8.snd + IntKind.wrap IntKind.i64 x_10)) w_9
def bits_Len64A : List Ann := [.n, .j [(0, .one (.int .u64)), (2, .one (.int .i64))], .n, .n, .j [(0, .one (.int .u64)), (2, .one (.int .i64))], .n, .n, .j [(0, .one (.int .u64)), (2, .one (.int .i64))], .n, .n, .n]
theorem bits_Len64_of {x : Int} {w : World} {K : Int → World → Prop} (hF : bits_Len64F x K w) : call Tryz.prog 157 [.int .u64 x] [.one (.int .i64)] w K :=
  calls_of_fnPt (an := bits_Len64A) (ts := [.one (.int .i64)]) (args := [.int .u64 x]) Tryz.func157 (by kernel_rfl) ((show fnPt (std Tryz.prog) Tryz.prog Tryz.f157 bits_Len64A [.one (.int .i64)] [.int .u64 x] K w = bits_Len64F x K w by kernel_rfl).mpr hF)

/-- slices.siftDownOrdered uint32  -/
def slices_siftDownOrderedF (data : Sl) (lo : Int) (hi : Int) (first : Int) (K : Unit → World → Prop) (w : World) : Prop :=
  loop (Int) (fun (X_1 : Int → World → Prop) (x_2 : Int) (w_3 : World) =>
    cond (decide (IntKind.wrap IntKind.i64 (IntKind.wrap IntKind.i64 (2 * x_2) + 1) ≥ hi))
      (K () w_3)
      (join (Int) (fun (X_4 : Int → World → Prop) =>
        join (Bool) (fun (X_5 : Bool → World → Prop) =>
          cond (decide (IntKind.wrap IntKind.i64 (IntKind.wrap IntKind.i64 (IntKind.wrap IntKind.i64 (2 * x_2) + 1) + 1) < hi))
            (idx data (IntKind.wrap IntKind.i64 (first + IntKind.wrap IntKind.i64 (IntKind.wrap IntKind.i64 (2 * x_2) + 1))) 1 <|
            fun (a_6 : Addr) =>
            ld (Cell.int IntKind.u32) a_6 (World.drew w_3) <|
            fun (x_7 : Int) =>
            idx data (IntKind.wrap IntKind.i64 (IntKind.wrap IntKind.i64 (first + IntKind.wrap IntKind.i64 (IntKind.wrap IntKind.i64 (2 * x_2) + 1)) + 1)) 1 <|
            fun (a_8 : Addr) =>
            ld (Cell.int IntKind.u32) a_8 (World.drew w_3) <|
            fun (x_9 : Int) =>
            call Tryz.prog 153 ([Value.int IntKind.u32 x_7, Value.int IntKind.u32 x_9]) ([Ty1.one Cell.bool]) (World.drew w_3) <|
            fun (b_10 : Bool) (w_11 : World) =>
            X_5 b_10 w_11)
            (X_5 false (World.drew w_3))) <|
        fun (b_12 : Bool) (w_13 : World) =>
        cond b_12
          (X_4 (IntKind.wrap IntKind.i64 (IntKind.wrap IntKind.i64 (IntKind.wrap IntKind.i64 (2 * x_2) + 1) + 1)) w_13)
          (X_4 (IntKind.wrap IntKind.i64 (IntKind.wrap IntKind.i64 (2 * x_2) + 1)) w_13)) <|
      fun (x_14 : Int) (w_15 : World) =>
      idx data (IntKind.wrap IntKind.i64 (first + x_2)) 1 <|
      fun (a_16 : Addr) =>
      ld (Cell.int IntKind.u32) a_16 (World.drew w_15) <|
      fun (x_17 : Int) =>
      idx data (IntKind.wrap IntKind.i64 (first + x_14)) 1 <|
      fun (a_18 : Addr) =>
      ld (Cell.int IntKind.u32) a_18 (World.drew w_15) <|
      fun (x_19 : Int) =>
      call Tryz.prog 153 ([Value.int IntKind.u32 x_17, Value.int IntKind.u32 x_19]) ([Ty1.one Cell.bool]) (World.drew w_15) <|
      fun (b_20 : Bool) (w_21 : World) =>
      cond (!b_20)
        (K () w_21)
        (idx data (IntKind.wrap IntKind.i64 (first + x_14)) 1 <|
        fun (a_22 : Addr) =>
        ld (Cell.int IntKind.u32) a_22 (World.drew w_21) <|
        fun (x_23 : Int) =>
        idx data (IntKind.wrap IntKind.i64 (first + x_2)) 1 <|
        fun (a_24 : Addr) =>
        ld (Cell.int IntKind.u32) a_24 (World.drew w_21) <|
        fun (x_25 : Int) =>
        idx data (IntKind.wrap IntKind.i64 (first + x_2)) 1 <|
        fun (a_26 : Addr) =>
        st a_26 ([Value.int IntKind.u32 x_23]) (World.drew w_21) <|
        fun (w_27 : World) =>
        idx data (IntKind.wrap IntKind.i64 (first + x_14)) 1 <|
        fun (a_28 : Addr) =>
        st a_28 ([Value.int IntKind.u32 x_25]) w_27 <|
        fun (w_29 : World) =>
        X_1 x_14 w_29))) lo w
def slices_siftDownOrderedA : List Ann := [.n, .l [(8, .one (.int .i64))], .n, .n, .n, .j [(9, .one (.int .i64))], .j [(36, .one .bool)], .o [[0, 1, 2, 3, 4, 5, 6, 7, 8, 9, 10, 11, 12, 13, 14, 15, 16, 17, 18, 19]], .n, .n, .o [[0, 1, 2, 3, 4, 5, 6, 7, 8, 9, 10, 11, 12, 13]], .n, .o [[0, 1, 2, 3, 4, 5, 6, 7, 8, 9, 10, 11, 12, 13, 14, 15, 16, 17, 18, 19, 20, 21, 22, 23]]]
theorem slices_siftDownOrdered_of {data : Sl} {lo : Int} {hi : Int} {first : Int} {w : World} {K : Unit → World → Prop} (hF : slices_siftDownOrderedF data lo hi first K w) : call Tryz.prog 168 [.slice data.a data.len data.cap, .int .i64 lo, .int .i64 hi, .int .i64 first] [] w K :=
  calls_of_fnPt (an := slices_siftDownOrderedA) (ts := []) (args := [.slice data.a data.len data.cap, .int .i64 lo, .int .i64 hi, .int .i64 first]) Tryz.func168 (by kernel_rfl) ((show fnPt (std Tryz.prog) Tryz.prog Tryz.f168 slices_siftDownOrderedA [] [.slice data.a data.len data.cap, .int .i64 lo, .int .i64 hi, .int .i64 first] K w = slices_siftDownOrderedF data lo hi first K w by kernel_rfl).mpr hF)

/-- slices.nextPowerOfTwo -/
def slices_nextPowerOfTwoF (length : Int) (K : Int → World → Prop) (w : World) : Prop :=
  call Tryz.prog 125 ([Value.int IntKind.u64 (IntKind.wrap IntKind.u64 length)]) ([Ty1.one (Cell.int IntKind.i64)]) w <|
  fun (x_1 : Int) (w_2 : World) =>
  chk (0 ≤ x_1) <|
  K (IntKind.wrap IntKind.u64 (1 * 2 ^ min (Int.toNat x_1) 64)) w_2
def slices_nextPowerOfTwoA : List Ann := [.n, .n]
theorem slices_nextPowerOfTwo_of {length : Int} {w : World} {K : Int → World → Prop} (hF : slices_nextPowerOfTwoF length K w) : call Tryz.prog 169 [.int .i64 length] [.one (.int .u64)] w K :=
  calls_of_fnPt (an := slices_nextPowerOfTwoA) (ts := [.one (.int .u64)]) (args := [.int .i64 length]) Tryz.func169 (by kernel_rfl) ((show fnPt (std Tryz.prog) Tryz.prog Tryz.f169 slices_nextPowerOfTwoA [.one (.int .u64)] [.int .i64 length] K w = slices_nextPowerOfTwoF length K w by kernel_rfl).mpr hF)

/-- slices.xorshift.Next -/
def slices_xorshift_NextF (r : Option Addr) (K : Int → World → Prop) (w : World) : Prop :=
  nn r <|
  fun (a_1 : Addr) =>
  ld (Cell.int IntKind.u64) a_1 (World.drew w) <|
  fun (x_2 : Int) =>
  nn r <|
  fun (a_3 : Addr) =>
  ld (Cell.int IntKind.u64) a_3 (World.drew w) <|
  fun (x_4 : Int) =>
  nn r <|
  fun (a_5 : Addr) =>
  st a_5 ([Value.int IntKind.u64 (bits BinOp.xor IntKind.u64 x_2 (IntKind.wrap IntKind.u64 (x_4 * 2 ^ 13)))]) (World.drew w) <|
  fun (w_6 : World) =>
  nn r <|
  fun (a_7 : Addr) =>
  ld (Cell.int IntKind.u64) a_7 (World.drew w_6) <|
  fun (x_8 : Int) =>
  nn r <|
  fun (a_9 : Addr) =>
  ld (Cell.int IntKind.u64) a_9 (World.drew w_6) <|
  fun (x_10 : Int) =>
  nn r <|
  fun (a_11 : Addr) =>
  st a_11 ([Value.int IntKind.u64 (bits BinOp.xor IntKind.u64 x_8 (Int.fdiv x_10 (2 ^ 7)))]) (World.drew w_6) <|
  fun (w_12 : World) =>
  nn r <|
  fun (a_13 : Addr) =>
  ld (Cell.int IntKind.u64) a_13 (World.drew w_12) <|
  fun (x_14 : Int) =>
  nn r <|
  fun (a_15 : Addr) =>
  ld (Cell.int IntKind.u64) a_15 (World.drew w_12) <|
  fun (x_16 : Int) =>
  nn r <|
  fun (a_17 : Addr) =>
  st a_17 ([Value.int IntKind.u64 (bits BinOp.xor IntKind.u64 x_14 (IntKind.wrap IntKind.u64 (x_16 * 2 ^ 17)))]) (World.drew w_12) <|
  fun (w_18 : World) =>
  nn r <|
  fun (a_19 : Addr) =>
  ld (Cell.int IntKind.u64) a_19 w_18 <|
  fun (x_20 : Int) =>
  K x_20 w_18
def slices_xorshift_NextA : List Ann := [.n, .n, .o [[0, 1, 2, 3, 4, 5, 6, 7, 8, 9]], .n, .o [[0, 1, 2, 3, 4, 5, 6, 7, 8, 9]], .n, .o [[0, 1, 2, 3, 4, 5, 6, 7, 8, 9]], .n]
theorem slices_xorshift_Next_of {r : Option Addr} {w : World} {K : Int → World → Prop} (hF : slices_xorshift_NextF r K w) : call Tryz.prog 170 [.pointer r] [.one (.int .u64)] w K :=
  calls_of_fnPt (an := slices_xorshift_NextA) (ts := [.one (.int .u64)]) (args := [.pointer r]) Tryz.func170 (by kernel_rfl) ((show fnPt (std Tryz.prog) Tryz.prog Tryz.f170 slices_xorshift_NextA [.one (.int .u64)] [.pointer r] K w = slices_xorshift_NextF r K w by kernel_rfl).mpr hF)

/-- slices.medianAdjacentOrdered uint32  -/
def slices_medianAdjacentOrderedF (data : Sl) (a : Int) (swaps : Option Addr) (K : Int → World → Prop) (w : World) : Prop :=
  call Tryz.prog 172 ([Value.slice data.a data.len data.cap, Value.int IntKind.i64 (IntKind.wrap IntKind.i64 (a - 1)), Value.int IntKind.i64 a, Value.int IntKind.i64 (IntKind.wrap IntKind.i64 (a + 1)), Value.pointer swaps]) ([Ty1.one (Cell.int IntKind.i64)]) w <|
  fun (x_1 : Int) (w_2 : World) =>
  K x_1 w_2
def slices_medianAdjacentOrderedA : List Ann := [.n, .n]
theorem slices_medianAdjacentOrdered_of {data : Sl} {a : Int} {swaps : Option Addr} {w : World} {K : Int → World → Prop} (hF : slices_medianAdjacentOrderedF data a swaps K w) : call Tryz.prog 171 [.slice data.a data.len data.cap, .int .i64 a, .pointer swaps] [.one (.int .i64)] w K :=
  calls_of_fnPt (an := slices_medianAdjacentOrderedA) (ts := [.one (.int .i64)]) (args := [.slice data.a data.len data.cap, .int .i64 a, .pointer swaps]) Tryz.func171 (by kernel_rfl) ((show fnPt (std Tryz.prog) Tryz.prog Tryz.f171 slices_medianAdjacentOrderedA [.one (.int .i64)] [.slice data.a data.len data.cap, .int .i64 a, .pointer swaps] K w = slices_medianAdjacentOrderedF data a swaps K w by kernel_rfl).mpr hF)

/-- slices.medianOrdered uint32  -/
def slices_medianOrderedF (data : Sl) (a : Int) (b : Int) (c : Int) (swaps : Option Addr) (K : Int → World → Prop) (w : World) : Prop :=
  call Tryz.prog 177 ([Value.slice data.a data.len data.cap, Value.int IntKind.i64 a, Value.int IntKind.i64 b, Value.pointer swaps]) ([Ty1.one (Cell.int IntKind.i64), Ty1.one (Cell.int IntKind.i64)]) w <|
  fun (t_1 : Int × Int) (w_2 : World) =>
  call Tryz.prog 177 ([Value.slice data.a data.len data.cap, Value.int IntKind.i64 t_1.snd, Value.int IntKind.i64 c, Value.pointer swaps]) ([Ty1.one (Cell.int IntKind.i64), Ty1.one (Cell.int IntKind.i64)]) w_2 <|
  fun (t_3 : Int × Int) (w_4 : World) =>
  call Tryz.prog 177 ([Value.slice data.a data.len data.cap, Value.int IntKind.i64 t_1.fst, Value.int IntKind.i64 t_3.fst, Value.pointer swaps]) ([Ty1.one (Cell.int IntKind.i64), Ty1.one (Cell.int IntKind.i64)]) w_4 <|
  fun (t_5 : Int × Int) (w_6 : World) =>
  K t_5.snd w_6
def slices_medianOrderedA : List Ann := [.n, .n, .n, .n, .n]
theorem slices_medianOrdered_of {data : Sl} {a : Int} {b : Int} {c : Int} {swaps : Option Addr} {w : World} {K : Int → World → Prop} (hF : slices_medianOrderedF data a b c swaps K w) : call Tryz.prog 172 [.slice data.a data.len data.cap, .int .i64 a, .int .i64 b, .int .i64 c, .pointer swaps] [.one (.int .i64)] w K :=
  calls_of_fnPt (an := slices_medianOrderedA) (ts := [.one (.int .i64)]) (args := [.slice data.a data.len data.cap, .int .i64 a, .int .i64 b, .int .i64 c, .pointer swaps]) Tryz.func172 (by kernel_rfl) ((show fnPt (std Tryz.prog) Tryz.prog Tryz.f172 slices_medianOrderedA [.one (.int .i64)] [.slice data.a data.len data.cap, .int .i64 a, .int .i64 b, .int .i64 c, .pointer swaps] K w = slices_medianOrderedF data a b c swaps K w by kernel_rfl).mpr hF)

/-- cmp.isNaN uint32  -/
def cmp_isNaNF (x : Int) (K : Bool → World → Prop) (w : World) : Prop :=
  K (!x == x) w
def cmp_isNaNA : List Ann := [.n, .n]
theorem cmp_isNaN_of {x : Int} {w : World} {K : Bool → World → Prop} (hF : cmp_isNaNF x K w) : call Tryz.prog 173 [.int .u32 x] [.one .bool] w K :=
  calls_of_fnPt (an := cmp_isNaNA) (ts := [.one .bool]) (args := [.int .u32 x]) Tryz.func173 (by kernel_rfl) ((show fnPt (std Tryz.prog) Tryz.prog Tryz.f173 cmp_isNaNA [.one .bool] [.int .u32 x] K w = cmp_isNaNF x K w by kernel_rfl).mpr hF)

/-- slices.order2Ordered uint32  -/
def slices_order2OrderedF (data : Sl) (a : Int) (b : Int) (swaps : Option Addr) (K : (Int × Int) → World → Prop) (w : World) : Prop :=
  idx data b 1 <|
  fun (a_1 : Addr) =>
  ld (Cell.int IntKind.u32) a_1 (World.drew w) <|
  fun (x_2 : Int) =>
  idx data a 1 <|
  fun (a_3 : Addr) =>
  ld (Cell.int IntKind.u32) a_3 (World.drew w) <|
  fun (x_4 : Int) =>
  call Tryz.prog 153 ([Value.int IntKind.u32 x_2, Value.int IntKind.u32 x_4]) ([Ty1.one Cell.bool]) (World.drew w) <|
  fun (b_5 : Bool) (w_6 : World) =>
  cond b_5
    (nn swaps <|
    fun (a_7 : Addr) =>
    ld (Cell.int IntKind.i64) a_7 w_6 <|
    fun (x_8 : Int) =>
    nn swaps <|
    fun (a_9 : Addr) =>
    st a_9 ([Value.int IntKind.i64 (IntKind.wrap IntKind.i64 (x_8 + 1))]) w_6 <|
    fun (w_10 : World) =>
    K ((b, a)) w_10)
    (K ((a, b)) w_6)
def slices_order2OrderedA : List Ann := [.n, .n, .n, .o [[0, 1, 2, 3, 4, 5, 6, 7, 8]], .n, .n, .n]
theorem slices_order2Ordered_of {data : Sl} {a : Int} {b : Int} {swaps : Option Addr} {w : World} {K : (Int × Int) → World → Prop} (hF : slices_order2OrderedF data a b swaps K w) : call Tryz.prog 177 [.slice data.a data.len data.cap, .int .i64 a, .int .i64 b, .pointer swaps] [.one (.int .i64), .one (.int .i64)] w K :=
  calls_of_fnPt (an := slices_order2OrderedA) (ts := [.one (.int .i64), .one (.int .i64)]) (args := [.slice data.a data.len data.cap, .int .i64 a, .int .i64 b, .pointer swaps]) Tryz.func177 (by kernel_rfl) ((show fnPt (std Tryz.prog) Tryz.prog Tryz.f177 slices_order2OrderedA [.one (.int .i64), .one (.int .i64)] [.slice data.a data.len data.cap, .int .i64 a, .int .i64 b, .pointer swaps] K w = slices_order2OrderedF data a b swaps K w by kernel_rfl).mpr hF)

end Go.Proofs.YtmbcedengdoamaaGreatDoor
end

section
/- Arrays of numbers in one block: reading, exchanging; cmp.Less; the small functions of slices' sort. Conditions: those that stand in each line. -/
set_option linter.unusedVariables false
set_option linter.unusedSimpArgs false
namespace Go.Proofs.YtmbcedengdoamaaGreatDoor
open Go Go.Pt Go.Sort
attribute [local irreducible] ld ldA st new idx idxS idxA slc slcS slcP mkS chk nn call callV inv run runQ runU join loop held IntKind.wrap

/-- The block's cells: the numbers of d. -/
def u32s (d : Array Int) : Array Value := d.map (.int .u32)

theorem u32s_get (d : Array Int) (i : Nat) (h : i < d.size) : (u32s d)[i]? = some (.int .u32 d[i]!) := by
  unfold u32s
  simp [h]

theorem u32s_size (d : Array Int) : (u32s d).size = d.size := by simp [u32s]

theorem u32s_set (d : Array Int) (i : Nat) (v : Int) : (u32s d).setIfInBounds i (.int .u32 v) = u32s (d.setIfInBounds i v) := by
  unfold u32s
  apply Array.ext_getElem?
  intro j
  simp only [Array.getElem?_setIfInBounds, Array.getElem?_map, Array.size_map]
  by_cases hj : i = j
  · subst hj
    by_cases hi : i < d.size <;> simp [hi]
  · simp [hj]

/-- A row's type, and what lies behind the numbers in its block. -/
structure ArrT where
  ty : TypeId
  rest : Option (Array Value)
instance : Coe TypeId ArrT := ⟨fun T => ⟨T, none⟩⟩
def ArrT.cells (T : ArrT) (c : Array Value) : Array Value := match T.rest with | none => c | some r => c ++ r
theorem ArrT.get (T : ArrT) (c : Array Value) (i : Nat) (h : i < c.size) : (T.cells c)[i]? = c[i]? := by
  unfold ArrT.cells
  split
  · rfl
  · rw [Array.getElem?_append_left h]
theorem ArrT.size (T : ArrT) (c : Array Value) : c.size ≤ (T.cells c).size := by
  unfold ArrT.cells
  split
  · exact Nat.le_refl _
  · rw [Array.size_append]; omega
theorem ArrT.set (T : ArrT) (c : Array Value) (i : Nat) (v : Value) (h : i < c.size) : (T.cells c).setIfInBounds i v = T.cells (c.setIfInBounds i v) := by
  unfold ArrT.cells
  split
  · rfl
  · rename_i r _
    apply Array.ext_getElem?
    intro j
    rw [Array.getElem?_setIfInBounds, Array.getElem?_append, Array.getElem?_append, Array.size_append, Array.size_setIfInBounds, Array.getElem?_setIfInBounds]
    by_cases hij : i = j
    · subst hij
      rw [if_pos rfl, if_pos (by omega), if_pos h, if_pos rfl, if_pos h]
    · rw [if_neg hij, if_neg hij]

/-- All that was there is as it was, but block blk; it holds d. -/
structure Arr (blk : Nat) (T : ArrT) (w0 w : World) (d : Array Int) : Prop where
  fr : Fr [blk] w0 w
  blk : w.heap[blk]? = some (.cells (T.cells (u32s d)) T.ty (0, 0))

theorem Arr.start {blk : Nat} {T : TypeId} {w : World} {d : Array Int} (h : w.heap[blk]? = some (.cells (u32s d) T (0, 0))) : Arr blk T w w d := ⟨.refl _ _, h⟩

section
variable {blk : Nat} {T : ArrT} {w0 w : World} {d : Array Int} {len cap : Nat}

theorem Arr.drew (h : Arr blk T w0 w d) : Arr blk T w0 w.drew d := ⟨h.fr.drew, h.blk⟩
theorem Arr.same {w' : World} (h : Arr blk T w0 w d) (k : Same w w') : Arr blk T w0 w' d := ⟨h.fr.same k, by rw [k.heap]; exact h.blk⟩
theorem Arr.trans {w' : World} {d' : Array Int} (h : Arr blk T w0 w d) (k : Arr blk T w w' d') : Arr blk T w0 w' d' := ⟨h.fr.trans k.fr, k.blk⟩

/-- data[i], read. -/
theorem Arr.rd (h : Arr blk T w0 w d) (n : Nat) {i : Int} {K : Int → Prop} (hi : i = n) (hn : n < len) (hl : len ≤ d.size ∧ len ≤ 1152921504606846976) (k : K d[n]!) :
    idx ⟨some ⟨blk, 0, none⟩, len, cap⟩ i 1 fun a => ld (.int .u32) a w K := by
  subst hi
  refine idx_lit (by omega) (by omega) ?_
  refine ld_blk h.blk d[n]! ?_ k
  rw [Int.toNat_natCast, Nat.zero_add, Nat.mul_one]
  rw [ArrT.get _ _ _ (by rw [u32s_size]; omega)]
  exact u32s_get d n (by omega)

/-- data[i], written. -/
theorem Arr.wr (h : Arr blk T w0 w d) (n : Nat) {i v : Int} {K : World → Prop} (hi : i = n) (hn : n < len) (hl : len ≤ d.size ∧ len ≤ 1152921504606846976) (k : ∀ w', Arr blk T w0 w' (d.setIfInBounds n v) → K w') :
    idx ⟨some ⟨blk, 0, none⟩, len, cap⟩ i 1 fun a => st a [.int .u32 v] w K := by
  subst hi
  refine idx_lit (by omega) (by omega) ?_
  rw [Int.toNat_natCast, Nat.zero_add, Nat.mul_one]
  show st ⟨blk, n, none⟩ _ w K
  unfold st
  refine st_blk (w := w) [.int .u32 v] n 0 _ w K h.blk rfl (by have := T.size (u32s d); rw [u32s_size] at this; simp; omega) (k _ ⟨?_, ?_⟩)
  · refine h.fr.trans ⟨rfl, rfl, rfl, by rw [size_upd]; exact Nat.le_refl _, fun j hj hS => ?_⟩
    rw [heap_upd _ _ _ _ (lt_of_blk h.blk), if_neg (by simpa using hS)]
  · rw [heap_upd _ _ _ _ (lt_of_blk h.blk), if_pos rfl]
    simp only [splice, Nat.add_zero]
    rw [ArrT.set _ _ _ _ (by rw [u32s_size]; omega), u32s_set]

/-- data[i], data[j] = data[j], data[i]. -/
theorem Arr.swap (h : Arr blk T w0 w d) (n m : Nat) {i j : Int} {K : World → Prop} (hi : i = n) (hj : j = m) (hn : n < len) (hm : m < len) (hl : len ≤ d.size ∧ len ≤ 1152921504606846976) (k : ∀ w', Arr blk T w0 w' (swp d n m) → K w') :
    idx ⟨some ⟨blk, 0, none⟩, len, cap⟩ j 1 fun a => ld (.int .u32) a w fun x => idx ⟨some ⟨blk, 0, none⟩, len, cap⟩ i 1 fun a => ld (.int .u32) a w fun y =>
      idx ⟨some ⟨blk, 0, none⟩, len, cap⟩ i 1 fun a => st a [.int .u32 x] w fun w' => idx ⟨some ⟨blk, 0, none⟩, len, cap⟩ j 1 fun a => st a [.int .u32 y] w' K := by
  refine h.rd m hj hm hl ?_
  refine h.rd n hi hn hl ?_
  refine h.wr n hi hn hl fun w1 h1 => ?_
  refine h1.wr m hj hm (by simpa using hl) fun w2 h2 => ?_
  exact k w2 h2

theorem swp_size (d : Array Int) (n m : Nat) : (swp d n m).size = d.size := by simp [swp]
end

theorem isNaN_ok {x : Int} {w : World} {K : Bool → World → Prop} (hk : K false w) : call Tryz.prog 173 [.int .u32 x] [.one .bool] w K := by
  apply cmp_isNaN_of
  unfold cmp_isNaNF
  simpa using hk

theorem Less_ok {x y : Int} {w : World} {K : Bool → World → Prop} (hk : K (ltInt x y) w) : call Tryz.prog 153 [.int .u32 x, .int .u32 y] [.one .bool] w K := by
  apply cmp_Less_of
  unfold cmp_LessF
  refine isNaN_ok ?_
  exact cond_false rfl hk

theorem swo : SWO ltInt := ⟨fun x => by simp [ltInt], fun x y z h1 h2 => by simp [ltInt] at *; omega, fun x y z h1 h2 => by simp [ltInt] at *; omega⟩

/-- Whole numbers as Go's ints: no wrap. -/
theorem wi (x : Int) (h : -9223372036854775808 ≤ x ∧ x ≤ 9223372036854775807) : IntKind.i64.wrap x = x := IntWalk.i64_in x h

theorem Ins_ok {blk : Nat} {T : ArrT} {w0 w : World} {d : Array Int} {len cap a b : Nat} {K : Unit → World → Prop} (h : Arr blk T w0 w d) (hab : a ≤ b) (hb : b ≤ len) (hl : len ≤ d.size ∧ len ≤ 1152921504606846976)
    (hk : ∀ w', Arr blk T w0 w' (insertionSort ltInt d a b) → K () w') : call Tryz.prog 147 [.slice (some ⟨blk, 0, none⟩) len cap, .int .i64 a, .int .i64 b] [] w K := by
  refine slices_insertionSortOrdered_of (data := ⟨some ⟨blk, 0, none⟩, len, cap⟩) ?_
  unfold slices_insertionSortOrderedF
  rw [wi _ (by omega)]
  refine loop_ind (fun x w' => ∃ (i : Nat) (d' : Array Int), x = i ∧ a + 1 ≤ i ∧ Arr blk T w0 w' d' ∧ d'.size = d.size ∧ insOuter ltInt a b i d' = insOuter ltInt a b (a + 1) d) (fun x _ => ((b : Int) - x).toNat)
    ⟨a + 1, d, by omega, by omega, h, rfl, rfl⟩ ?_
  rintro x w1 ⟨i, d1, rfl, hi, h, hs1, he1⟩ X hX
  refine cond_of (fun hc => ?_) (fun hc => ?_)
  · have hib : i < b := by have := of_decide_eq_true hc; omega
    refine loop_ind (fun y w' => ∃ (j : Nat) (d' : Array Int), y = j ∧ j ≤ i ∧ Arr blk T w0 w' d' ∧ d'.size = d.size ∧ insInner ltInt a j d' = insInner ltInt a i d1) (fun y _ => y.toNat)
      ⟨i, d1, rfl, by omega, h, hs1, rfl⟩ ?_
    rintro y w2 ⟨j, d2, rfl, hj, h, hs2, he2⟩ Z hZ
    refine join_mid (fun c w' => c = (decide (a < j) && ltInt d2[j]! d2[j - 1]!) ∧ Arr blk T w0 w' d2) ?_ ?_
    · refine cond_of (fun hc => ?_) (fun hc => ?_)
      · have hc' : a < j := by have := of_decide_eq_true hc; omega
        refine h.drew.rd j rfl (by omega) (by omega) ?_
        refine h.drew.rd (j - 1) (by rw [wi _ (by omega)]; omega) (by omega) (by omega) ?_
        refine Less_ok ?_
        exact ⟨by simp [hc'], h.drew⟩
      · have hc' : ¬ a < j := by have := of_decide_eq_false hc; omega
        exact ⟨by simp [hc'], h.drew⟩
    · rintro c w3 ⟨rfl, h⟩
      refine cond_of (fun hc => ?_) (fun hc => ?_)
      · simp only [Bool.and_eq_true, decide_eq_true_eq] at hc
        obtain ⟨k, rfl⟩ : ∃ k, j = k + 1 := ⟨j - 1, by omega⟩
        refine h.drew.swap (k + 1) k rfl (by rw [wi _ (by omega)]; omega) (by omega) (by omega) (by omega) fun w4 h => ?_
        refine hZ _ _ ⟨k, _, by rw [wi _ (by omega)]; omega, by omega, h, by rw [swp_size]; exact hs2, ?_⟩ (by rw [wi _ (by omega)]; omega)
        rw [← he2, insInner, if_pos (by simpa using hc)]
      · rw [wi _ (by omega)]
        refine hX _ _ ⟨i + 1, d2, by omega, by omega, h, hs2, ?_⟩ (by omega)
        rw [← he1, insOuter.eq_1 ltInt a b i d1, if_pos hib, ← he2]
        cases j with
        | zero => rfl
        | succ k =>
          rw [insInner, if_neg]
          simpa using hc
  · have hib : ¬ i < b := by have := of_decide_eq_false hc; omega
    rw [insOuter.eq_1 ltInt a b i d1, if_neg hib] at he1
    refine hk _ ?_
    unfold insertionSort
    rw [← he1]
    exact h

end Go.Proofs.YtmbcedengdoamaaGreatDoor
end

section
/- The readable forms of functions of the program, each shown to be what the evaluator gives: printed by a program of this claim (wip/tools). No condition. -/
set_option linter.unusedVariables false
set_option maxRecDepth 100000
namespace Go.Proofs.YtmbcedengdoamaaGreatDoor
open Go Go.Pt

/-- cashbook.pool.New -/
def pool_NewF  (K : ((Option Addr)) → World → Prop) (w : World) : Prop :=
  new (Obj.map #[] 0) w <|
  fun (r_1 : Nat) (w_2 : World) =>
  new (Obj.cells #[Value.slice none 0 0, Value.map (some r_1)] 172) w_2 <|
  fun (r_3 : Nat) (w_4 : World) =>
  K (some { block := r_3, off := 0 }) w_4
def pool_NewA : List Ann := [.n, .n]
theorem pool_New_of  {w : World} {K : ((Option Addr)) → World → Prop} (hF : pool_NewF  K w) : call Tryz.prog 100 [] [.one .ptr] w K :=
  calls_of_fnPt (an := pool_NewA) (ts := [.one .ptr]) (args := []) Tryz.func100 (by kernel_rfl) ((show fnPt (std Tryz.prog) Tryz.prog Tryz.f100 pool_NewA [.one .ptr] [] K w = pool_NewF  K w by kernel_rfl).mpr hF)

/-- cashbook.pool.Pool.Len -/
def pool_Pool_LenF (p : Option Addr) (K : Int → World → Prop) (w : World) : Prop :=
  nn p <|
  fun (a_1 : Addr) =>
  ld Cell.slice a_1 w <|
  fun (s_2 : Sl) =>
  K (↑s_2.len : Int) w
def pool_Pool_LenA : List Ann := [.n, .n]
theorem pool_Pool_Len_of {p : Option Addr} {w : World} {K : Int → World → Prop} (hF : pool_Pool_LenF p K w) : call Tryz.prog 43 [.pointer p] [.one (.int .i64)] w K :=
  calls_of_fnPt (an := pool_Pool_LenA) (ts := [.one (.int .i64)]) (args := [.pointer p]) Tryz.func43 (by kernel_rfl) ((show fnPt (std Tryz.prog) Tryz.prog Tryz.f43 pool_Pool_LenA [.one (.int .i64)] [.pointer p] K w = pool_Pool_LenF p K w by kernel_rfl).mpr hF)

/-- cashbook.cashbookref08.Same -/
def cashbookref08_SameF (a : Sl) (b : Sl) (K : Bool → World → Prop) (w : World) : Prop :=
  cond (!(↑a.len : Int) == (↑b.len : Int))
    (K false w)
    (loop (Int) (fun (X_1 : Int → World → Prop) (x_2 : Int) (w_3 : World) =>
      cond (decide (x_2 < (↑a.len : Int)))
        (idx a x_2 1 <|
        fun (a_4 : Addr) =>
        ld (Cell.int IntKind.u32) a_4 (World.drew w_3) <|
        fun (x_5 : Int) =>
        idx b x_2 1 <|
        fun (a_6 : Addr) =>
        ld (Cell.int IntKind.u32) a_6 (World.drew w_3) <|
        fun (x_7 : Int) =>
        cond (!x_5 == x_7)
          (K false (World.drew w_3))
          (X_1 (IntKind.wrap IntKind.i64 (x_2 + 1)) (World.drew w_3)))
        (K true w_3)) 0 w)
def cashbookref08_SameA : List Ann := [.n, .n, .n, .n, .n, .n, .l [(5, .one (.int .i64))], .n, .n, .n, .n, .o [[0, 1, 2, 3, 4, 5, 6, 7, 8]], .n, .n]
theorem cashbookref08_Same_of {a : Sl} {b : Sl} {w : World} {K : Bool → World → Prop} (hF : cashbookref08_SameF a b K w) : call Tryz.prog 31 [.slice a.a a.len a.cap, .slice b.a b.len b.cap] [.one .bool] w K :=
  calls_of_fnPt (an := cashbookref08_SameA) (ts := [.one .bool]) (args := [.slice a.a a.len a.cap, .slice b.a b.len b.cap]) Tryz.func31 (by kernel_rfl) ((show fnPt (std Tryz.prog) Tryz.prog Tryz.f31 cashbookref08_SameA [.one .bool] [.slice a.a a.len a.cap, .slice b.a b.len b.cap] K w = cashbookref08_SameF a b K w by kernel_rfl).mpr hF)

/-- cashbook.pool.Pool.List -/
def pool_Pool_ListF (p : Option Addr) (K : Sl → World → Prop) (w : World) : Prop :=
  nn p <|
  fun (a_1 : Addr) =>
  ld Cell.slice a_1 w <|
  fun (s_2 : Sl) =>
  call Tryz.prog 82 ([Value.slice s_2.a s_2.len s_2.cap]) ([Ty1.one Cell.slice]) w <|
  fun (s_3 : Sl) (w_4 : World) =>
  call Tryz.prog 91 ([Value.slice s_3.a s_3.len s_3.cap]) [] w_4 <|
  fun (x_5 : PUnit) (w_6 : World) =>
  K s_3 w_6
def pool_Pool_ListA : List Ann := [.n, .n, .n, .n]
theorem pool_Pool_List_of {p : Option Addr} {w : World} {K : Sl → World → Prop} (hF : pool_Pool_ListF p K w) : call Tryz.prog 40 [.pointer p] [.one .slice] w K :=
  calls_of_fnPt (an := pool_Pool_ListA) (ts := [.one .slice]) (args := [.pointer p]) Tryz.func40 (by kernel_rfl) ((show fnPt (std Tryz.prog) Tryz.prog Tryz.f40 pool_Pool_ListA [.one .slice] [.pointer p] K w = pool_Pool_ListF p K w by kernel_rfl).mpr hF)

/-- cashbook.pool.Pool.Put -/
def pool_Pool_PutF (p : Option Addr) (n : Int) (K : Bool → World → Prop) (w : World) : Prop :=
  call Tryz.prog 93 ([Value.pointer p, Value.int IntKind.u32 n]) ([Ty1.one Cell.bool]) w <|
  fun (b_1 : Bool) (w_2 : World) =>
  cond b_1
    (K false w_2)
    (nn p <|
    fun (a_3 : Addr) =>
    ld Cell.map ({ block := a_3.block, off := a_3.off + 1 }) w_2 <|
    fun (p_4 : Option Nat) =>
    runU ((Instr.mapUpdate 170 (Value.map p_4) (Value.int IntKind.u32 n) (Value.int IntKind.i64 1)).run Tryz.prog w_2) <|
    fun (w_5 : World) =>
    nn p <|
    fun (a_6 : Addr) =>
    call Tryz.prog 94 ([Value.iface 175 (Value.pointer (some a_6)), Value.iface 29 (Value.int IntKind.u32 n)]) [] w_5 <|
    fun (x_7 : PUnit) (w_8 : World) =>
    K true w_8)
def pool_Pool_PutA : List Ann := [.n, .n, .n, .n, .n, .n, .n]
theorem pool_Pool_Put_of {p : Option Addr} {n : Int} {w : World} {K : Bool → World → Prop} (hF : pool_Pool_PutF p n K w) : call Tryz.prog 44 [.pointer p, .int .u32 n] [.one .bool] w K :=
  calls_of_fnPt (an := pool_Pool_PutA) (ts := [.one .bool]) (args := [.pointer p, .int .u32 n]) Tryz.func44 (by kernel_rfl) ((show fnPt (std Tryz.prog) Tryz.prog Tryz.f44 pool_Pool_PutA [.one .bool] [.pointer p, .int .u32 n] K w = pool_Pool_PutF p n K w by kernel_rfl).mpr hF)

/-- cashbook.pool.Pool.Take -/
def pool_Pool_TakeF (p : Option Addr) (K : (Int × Bool) → World → Prop) (w : World) : Prop :=
  nn p <|
  fun (a_1 : Addr) =>
  ld Cell.slice a_1 w <|
  fun (s_2 : Sl) =>
  cond ((↑s_2.len : Int) == 0)
    (K ((0, false)) w)
    (nn p <|
    fun (a_3 : Addr) =>
    call Tryz.prog 92 ([Value.iface 175 (Value.pointer (some a_3))]) ([Ty1.one Cell.any]) w <|
    fun (v_4 : Value) (w_5 : World) =>
    runQ [Ty1.one (Cell.int IntKind.u32), Ty1.one Cell.bool] (fun (w_6 : Go.World) => (Instr.typeAssert v_4 20 29 true).run Tryz.prog w_6) w_5 <|
    fun (t_7 : Int × Bool) =>
    nn p <|
    fun (a_8 : Addr) =>
    ld Cell.map ({ block := a_8.block, off := a_8.off + 1 }) w_5 <|
    fun (p_9 : Option Nat) =>
    run [] ((Builtin.delete_ (#[170, 29]) 0 (#[Value.map p_9, Value.int IntKind.u32 t_7.fst])).run Tryz.prog w_5) <|
    fun (x_10 : PUnit) (w_11 : World) =>
    K t_7 w_11)
def pool_Pool_TakeA : List Ann := [.n, .n, .n, .n, .n, .n, .n]
theorem pool_Pool_Take_of {p : Option Addr} {w : World} {K : (Int × Bool) → World → Prop} (hF : pool_Pool_TakeF p K w) : call Tryz.prog 41 [.pointer p] [.one (.int .u32), .one .bool] w K :=
  calls_of_fnPt (an := pool_Pool_TakeA) (ts := [.one (.int .u32), .one .bool]) (args := [.pointer p]) Tryz.func41 (by kernel_rfl) ((show fnPt (std Tryz.prog) Tryz.prog Tryz.f41 pool_Pool_TakeA [.one (.int .u32), .one .bool] [.pointer p] K w = pool_Pool_TakeF p K w by kernel_rfl).mpr hF)

/-- cashbook.pool.Pool.Has -/
def pool_Pool_HasF (p : Option Addr) (n : Int) (K : Bool → World → Prop) (w : World) : Prop :=
  nn p <|
  fun (a_1 : Addr) =>
  ld Cell.map ({ block := a_1.block, off := a_1.off + 1 }) w <|
  fun (p_2 : Option Nat) =>
  runQ [Ty1.one (Cell.int IntKind.i64)] (fun (w_3 : Go.World) => (Instr.lookup 170 (Value.map p_2) (Value.int IntKind.u32 n) false).run Tryz.prog w_3) w <|
  fun (x_4 : Int) =>
  K (x_4 == 1) w
def pool_Pool_HasA : List Ann := [.n, .n]
theorem pool_Pool_Has_of {p : Option Addr} {n : Int} {w : World} {K : Bool → World → Prop} (hF : pool_Pool_HasF p n K w) : call Tryz.prog 93 [.pointer p, .int .u32 n] [.one .bool] w K :=
  calls_of_fnPt (an := pool_Pool_HasA) (ts := [.one .bool]) (args := [.pointer p, .int .u32 n]) Tryz.func93 (by kernel_rfl) ((show fnPt (std Tryz.prog) Tryz.prog Tryz.f93 pool_Pool_HasA [.one .bool] [.pointer p, .int .u32 n] K w = pool_Pool_HasF p n K w by kernel_rfl).mpr hF)

/-- cashbook.cashbookref08.Has -/
def cashbookref08_HasF (l : Sl) (n : Int) (K : Bool → World → Prop) (w : World) : Prop :=
  loop (Int) (fun (X_1 : Int → World → Prop) (x_2 : Int) (w_3 : World) =>
    cond (decide (x_2 < (↑l.len : Int)))
      (idx l x_2 1 <|
      fun (a_4 : Addr) =>
      ld (Cell.int IntKind.u32) a_4 w_3 <|
      fun (x_5 : Int) =>
      cond (x_5 == n)
        (K true w_3)
        (X_1 (IntKind.wrap IntKind.i64 (x_2 + 1)) w_3))
      (K false w_3)) 0 w
def cashbookref08_HasA : List Ann := [.n, .n, .n, .l [(5, .one (.int .i64))], .n, .n, .n, .n, .n, .n]
theorem cashbookref08_Has_of {l : Sl} {n : Int} {w : World} {K : Bool → World → Prop} (hF : cashbookref08_HasF l n K w) : call Tryz.prog 14 [.slice l.a l.len l.cap, .int .u32 n] [.one .bool] w K :=
  calls_of_fnPt (an := cashbookref08_HasA) (ts := [.one .bool]) (args := [.slice l.a l.len l.cap, .int .u32 n]) Tryz.func14 (by kernel_rfl) ((show fnPt (std Tryz.prog) Tryz.prog Tryz.f14 cashbookref08_HasA [.one .bool] [.slice l.a l.len l.cap, .int .u32 n] K w = cashbookref08_HasF l n K w by kernel_rfl).mpr hF)

/-- cashbook.pool.Pool.Copy -/
def pool_Pool_CopyF (p : Option Addr) (K : ((Option Addr)) → World → Prop) (w : World) : Prop :=
  call Tryz.prog 100 [] ([Ty1.one Cell.ptr]) w <|
  fun (p_1 : Option Addr) (w_2 : World) =>
  nn p <|
  fun (a_3 : Addr) =>
  ld Cell.slice a_3 w_2 <|
  fun (s_4 : Sl) =>
  loop (Int) (fun (X_5 : Int → World → Prop) (x_6 : Int) (w_7 : World) =>
    cond (decide (x_6 < (↑s_4.len : Int)))
      (idx s_4 x_6 1 <|
      fun (a_8 : Addr) =>
      ld (Cell.int IntKind.u32) a_8 w_7 <|
      fun (x_9 : Int) =>
      call Tryz.prog 44 ([Value.pointer p_1, Value.int IntKind.u32 x_9]) ([Ty1.one Cell.bool]) w_7 <|
      fun (b_10 : Bool) (w_11 : World) =>
      X_5 (IntKind.wrap IntKind.i64 (x_6 + 1)) w_11)
      (K p_1 w_7)) 0 w_2
def pool_Pool_CopyA : List Ann := [.n, .n, .n, .n, .l [(12, .one (.int .i64))], .n, .n, .n, .n, .n]
theorem pool_Pool_Copy_of {p : Option Addr} {w : World} {K : ((Option Addr)) → World → Prop} (hF : pool_Pool_CopyF p K w) : call Tryz.prog 136 [.pointer p] [.one .ptr] w K :=
  calls_of_fnPt (an := pool_Pool_CopyA) (ts := [.one .ptr]) (args := [.pointer p]) Tryz.func136 (by kernel_rfl) ((show fnPt (std Tryz.prog) Tryz.prog Tryz.f136 pool_Pool_CopyA [.one .ptr] [.pointer p] K w = pool_Pool_CopyF p K w by kernel_rfl).mpr hF)

/-- cashbook.cashbookref08.Put -/
def cashbookref08_PutF (l : Sl) (n : Int) (K : Sl → World → Prop) (w : World) : Prop :=
  new (Obj.cells #[] 29) w <|
  fun (r_1 : Nat) (w_2 : World) =>
  loop (Sl × Bool × Int) (fun (X_3 : Sl × Bool × Int → World → Prop) (t_4 : Sl × Bool × Int) (w_5 : World) =>
    cond (decide (t_4.snd.snd < (↑l.len : Int)))
      (join (Sl × Bool) (fun (X_6 : Sl × Bool → World → Prop) =>
        join (Sl × Bool) (fun (X_7 : Sl × Bool → World → Prop) =>
          join (Bool) (fun (X_8 : Bool → World → Prop) =>
            cond (!t_4.snd.fst)
              (idx l t_4.snd.snd 1 <|
              fun (a_9 : Addr) =>
              ld (Cell.int IntKind.u32) a_9 w_5 <|
              fun (x_10 : Int) =>
              X_8 (decide (x_10 ≥ n)) w_5)
              (X_8 false w_5)) <|
          fun (b_11 : Bool) (w_12 : World) =>
          cond b_11
            (new (Obj.cells #[Value.int IntKind.u32 n] 29) w_12 <|
            fun (r_13 : Nat) (w_14 : World) =>
            run [Ty1.one Cell.slice] ((Builtin.append_ (#[27, 27]) 27 (#[Value.slice t_4.fst.a t_4.fst.len t_4.fst.cap, Value.slice (some { block := r_13, off := 0 }) 1 1])).run Tryz.prog w_14) <|
            fun (s_15 : Sl) (w_16 : World) =>
            X_7 ((s_15, true)) w_16)
            (X_7 ((t_4.fst, t_4.snd.fst)) w_12)) <|
        fun (t_17 : Sl × Bool) (w_18 : World) =>
        idx l t_4.snd.snd 1 <|
        fun (a_19 : Addr) =>
        ld (Cell.int IntKind.u32) a_19 w_18 <|
        fun (x_20 : Int) =>
        cond (!x_20 == n)
          (idx l t_4.snd.snd 1 <|
          fun (a_21 : Addr) =>
          ld (Cell.int IntKind.u32) a_21 w_18 <|
          fun (x_22 : Int) =>
          new (Obj.cells #[Value.int IntKind.u32 x_22] 29) w_18 <|
          fun (r_23 : Nat) (w_24 : World) =>
          run [Ty1.one Cell.slice] ((Builtin.append_ (#[27, 27]) 27 (#[Value.slice t_17.fst.a t_17.fst.len t_17.fst.cap, Value.slice (some { block := r_23, off := 0 }) 1 1])).run Tryz.prog w_24) <|
          fun (s_25 : Sl) (w_26 : World) =>
          X_6 ((s_25, t_17.snd)) w_26)
          (X_6 t_17 w_18)) <|
      fun (t_27 : Sl × Bool) (w_28 : World) =>
      X_3 ((t_27.fst, t_27.snd, IntKind.wrap IntKind.i64 (t_4.snd.snd + 1))) w_28)
      (join (Sl) (fun (X_29 : Sl → World → Prop) =>
        cond (!t_4.snd.fst)
          (new (Obj.cells #[Value.int IntKind.u32 n] 29) w_5 <|
          fun (r_30 : Nat) (w_31 : World) =>
          run [Ty1.one Cell.slice] ((Builtin.append_ (#[27, 27]) 27 (#[Value.slice t_4.fst.a t_4.fst.len t_4.fst.cap, Value.slice (some { block := r_30, off := 0 }) 1 1])).run Tryz.prog w_31) <|
          fun (s_32 : Sl) (w_33 : World) =>
          X_29 s_32 w_33)
          (X_29 t_4.fst w_5)) <|
      fun (s_34 : Sl) (w_35 : World) =>
      K s_34 w_35)) (({ a := some { block := r_1, off := 0 }, len := 0, cap := 0 }, false, 0)) w_2
def cashbookref08_PutA : List Ann := [.n, .n, .n, .n, .n, .l [(5, .one .slice), (6, .one .bool), (7, .one (.int .i64))], .n, .n, .j [(5, .one .slice), (6, .one .bool)], .j [(5, .one .slice), (6, .one .bool)], .j [(24, .one .bool)], .n, .n, .j [(5, .one .slice)], .n, .n]
theorem cashbookref08_Put_of {l : Sl} {n : Int} {w : World} {K : Sl → World → Prop} (hF : cashbookref08_PutF l n K w) : call Tryz.prog 15 [.slice l.a l.len l.cap, .int .u32 n] [.one .slice] w K :=
  calls_of_fnPt (an := cashbookref08_PutA) (ts := [.one .slice]) (args := [.slice l.a l.len l.cap, .int .u32 n]) Tryz.func15 (by kernel_rfl) ((show fnPt (std Tryz.prog) Tryz.prog Tryz.f15 cashbookref08_PutA [.one .slice] [.slice l.a l.len l.cap, .int .u32 n] K w = cashbookref08_PutF l n K w by kernel_rfl).mpr hF)

/-- slices.Clone   uint32,uint32  -/
def slices_CloneF (s : Sl) (K : Sl → World → Prop) (w : World) : Prop :=
  cond (Option.isNone s.a)
    (K ({ a := none, len := 0, cap := 0 }) w)
    (new (Obj.cells #[] 29) w <|
    fun (r_1 : Nat) (w_2 : World) =>
    run [Ty1.one Cell.slice] ((Builtin.append_ (#[27, 27]) 27 (#[Value.slice (some { block := r_1, off := 0 }) 0 0, Value.slice s.a s.len s.cap])).run Tryz.prog w_2) <|
    fun (s_3 : Sl) (w_4 : World) =>
    K s_3 w_4)
def slices_CloneA : List Ann := [.n, .n, .n, .n, .n]
theorem slices_Clone_of {s : Sl} {w : World} {K : Sl → World → Prop} (hF : slices_CloneF s K w) : call Tryz.prog 82 [.slice s.a s.len s.cap] [.one .slice] w K :=
  calls_of_fnPt (an := slices_CloneA) (ts := [.one .slice]) (args := [.slice s.a s.len s.cap]) Tryz.func82 (by kernel_rfl) ((show fnPt (std Tryz.prog) Tryz.prog Tryz.f82 slices_CloneA [.one .slice] [.slice s.a s.len s.cap] K w = slices_CloneF s K w by kernel_rfl).mpr hF)

/-- container.heap.Push -/
def heap_PushF (h : Value) (x : Value) (K : Unit → World → Prop) (w : World) : Prop :=
  inv Tryz.prog h "Push" [x] [] w <|
  fun (x_1 : PUnit) (w_2 : World) =>
  inv Tryz.prog h "Len" [] ([Ty1.one (Cell.int IntKind.i64)]) w_2 <|
  fun (x_3 : Int) (w_4 : World) =>
  call Tryz.prog 127 ([h, Value.int IntKind.i64 (IntKind.wrap IntKind.i64 (x_3 - 1))]) [] w_4 <|
  fun (x_5 : PUnit) (w_6 : World) =>
  K () w_6
def heap_PushA : List Ann := [.n]
theorem heap_Push_of {h : Value} {x : Value} {w : World} {K : Unit → World → Prop} (hF : heap_PushF h x K w) : call Tryz.prog 94 [h, x] [] w K :=
  calls_of_fnPt (an := heap_PushA) (ts := []) (args := [h, x]) Tryz.func94 (by kernel_rfl) ((show fnPt (std Tryz.prog) Tryz.prog Tryz.f94 heap_PushA [] [h, x] K w = heap_PushF h x K w by kernel_rfl).mpr hF)

/-- container.heap.Pop -/
def heap_PopF (h : Value) (K : Value → World → Prop) (w : World) : Prop :=
  inv Tryz.prog h "Len" [] ([Ty1.one (Cell.int IntKind.i64)]) w <|
  fun (x_1 : Int) (w_2 : World) =>
  inv Tryz.prog h "Swap" ([Value.int IntKind.i64 0, Value.int IntKind.i64 (IntKind.wrap IntKind.i64 (x_1 - 1))]) [] w_2 <|
  fun (x_3 : PUnit) (w_4 : World) =>
  call Tryz.prog 126 ([h, Value.int IntKind.i64 0, Value.int IntKind.i64 (IntKind.wrap IntKind.i64 (x_1 - 1))]) ([Ty1.one Cell.bool]) w_4 <|
  fun (b_5 : Bool) (w_6 : World) =>
  inv Tryz.prog h "Pop" [] ([Ty1.one Cell.any]) w_6 <|
  fun (v_7 : Value) (w_8 : World) =>
  K v_7 w_8
def heap_PopA : List Ann := [.n, .n, .n, .n, .n]
theorem heap_Pop_of {h : Value} {w : World} {K : Value → World → Prop} (hF : heap_PopF h K w) : call Tryz.prog 92 [h] [.one .any] w K :=
  calls_of_fnPt (an := heap_PopA) (ts := [.one .any]) (args := [h]) Tryz.func92 (by kernel_rfl) ((show fnPt (std Tryz.prog) Tryz.prog Tryz.f92 heap_PopA [.one .any] [h] K w = heap_PopF h K w by kernel_rfl).mpr hF)

/-- container.heap.up -/
def heap_upF (h : Value) (j : Int) (K : Unit → World → Prop) (w : World) : Prop :=
  loop (Int) (fun (X_1 : Int → World → Prop) (x_2 : Int) (w_3 : World) =>
    join (Bool) (fun (X_4 : Bool → World → Prop) =>
      cond (IntKind.wrap IntKind.i64 (Int.tdiv (IntKind.wrap IntKind.i64 (x_2 - 1)) 2) == x_2)
        (X_4 true w_3)
        (inv Tryz.prog h "Less" ([Value.int IntKind.i64 x_2, Value.int IntKind.i64 (IntKind.wrap IntKind.i64 (Int.tdiv (IntKind.wrap IntKind.i64 (x_2 - 1)) 2))]) ([Ty1.one Cell.bool]) w_3 <|
        fun (b_5 : Bool) (w_6 : World) =>
        X_4 (!b_5) w_6)) <|
    fun (b_7 : Bool) (w_8 : World) =>
    cond b_7
      (K () w_8)
      (inv Tryz.prog h "Swap" ([Value.int IntKind.i64 (IntKind.wrap IntKind.i64 (Int.tdiv (IntKind.wrap IntKind.i64 (x_2 - 1)) 2)), Value.int IntKind.i64 x_2]) [] w_8 <|
      fun (x_9 : PUnit) (w_10 : World) =>
      X_1 (IntKind.wrap IntKind.i64 (Int.tdiv (IntKind.wrap IntKind.i64 (x_2 - 1)) 2)) w_10)) j w
def heap_upA : List Ann := [.l [(1, .one (.int .i64))], .n, .n, .j [(17, .one .bool)], .n]
theorem heap_up_of {h : Value} {j : Int} {w : World} {K : Unit → World → Prop} (hF : heap_upF h j K w) : call Tryz.prog 127 [h, .int .i64 j] [] w K :=
  calls_of_fnPt (an := heap_upA) (ts := []) (args := [h, .int .i64 j]) Tryz.func127 (by kernel_rfl) ((show fnPt (std Tryz.prog) Tryz.prog Tryz.f127 heap_upA [] [h, .int .i64 j] K w = heap_upF h j K w by kernel_rfl).mpr hF)

/-- container.heap.down -/
def heap_downF (h : Value) (i0 : Int) (n : Int) (K : Bool → World → Prop) (w : World) : Prop :=
  join (Int) (fun (X_1 : Int → World → Prop) =>
    loop (Int) (fun (X_2 : Int → World → Prop) (x_3 : Int) (w_4 : World) =>
      join (Bool) (fun (X_5 : Bool → World → Prop) =>
        cond (decide (IntKind.wrap IntKind.i64 (IntKind.wrap IntKind.i64 (2 * x_3) + 1) ≥ n))
          (X_5 true w_4)
          (X_5 (decide (IntKind.wrap IntKind.i64 (IntKind.wrap IntKind.i64 (2 * x_3) + 1) < 0)) w_4)) <|
      fun (b_6 : Bool) (w_7 : World) =>
      cond b_6
        (X_1 x_3 w_7)
        (join (Int) (fun (X_8 : Int → World → Prop) =>
          join (Bool) (fun (X_9 : Bool → World → Prop) =>
            cond (decide (IntKind.wrap IntKind.i64 (IntKind.wrap IntKind.i64 (IntKind.wrap IntKind.i64 (2 * x_3) + 1) + 1) < n))
              (inv Tryz.prog h "Less" ([Value.int IntKind.i64 (IntKind.wrap IntKind.i64 (IntKind.wrap IntKind.i64 (IntKind.wrap IntKind.i64 (2 * x_3) + 1) + 1)), Value.int IntKind.i64 (IntKind.wrap IntKind.i64 (IntKind.wrap IntKind.i64 (2 * x_3) + 1))]) ([Ty1.one Cell.bool]) w_7 <|
              fun (b_10 : Bool) (w_11 : World) =>
              X_9 b_10 w_11)
              (X_9 false w_7)) <|
          fun (b_12 : Bool) (w_13 : World) =>
          cond b_12
            (X_8 (IntKind.wrap IntKind.i64 (IntKind.wrap IntKind.i64 (IntKind.wrap IntKind.i64 (2 * x_3) + 1) + 1)) w_13)
            (X_8 (IntKind.wrap IntKind.i64 (IntKind.wrap IntKind.i64 (2 * x_3) + 1)) w_13)) <|
        fun (x_14 : Int) (w_15 : World) =>
        inv Tryz.prog h "Less" ([Value.int IntKind.i64 x_14, Value.int IntKind.i64 x_3]) ([Ty1.one Cell.bool]) w_15 <|
        fun (b_16 : Bool) (w_17 : World) =>
        cond (!b_16)
          (X_1 x_3 w_17)
          (inv Tryz.prog h "Swap" ([Value.int IntKind.i64 x_3, Value.int IntKind.i64 x_14]) [] w_17 <|
          fun (x_18 : PUnit) (w_19 : World) =>
          X_2 x_14 w_19))) i0 w) <|
  fun (x_20 : Int) (w_21 : World) =>
  K (decide (x_20 > i0)) w_21
def heap_downA : List Ann := [.n, .n, .j [(7, .one (.int .i64))], .l [(7, .one (.int .i64))], .n, .n, .j [(21, .one .bool)], .n, .j [(9, .one (.int .i64))], .n, .j [(33, .one .bool)], .n, .n, .n, .n]
theorem heap_down_of {h : Value} {i0 : Int} {n : Int} {w : World} {K : Bool → World → Prop} (hF : heap_downF h i0 n K w) : call Tryz.prog 126 [h, .int .i64 i0, .int .i64 n] [.one .bool] w K :=
  calls_of_fnPt (an := heap_downA) (ts := [.one .bool]) (args := [h, .int .i64 i0, .int .i64 n]) Tryz.func126 (by kernel_rfl) ((show fnPt (std Tryz.prog) Tryz.prog Tryz.f126 heap_downA [.one .bool] [h, .int .i64 i0, .int .i64 n] K w = heap_downF h i0 n K w by kernel_rfl).mpr hF)

/-- cashbook.pool.row.Len -/
def pool_row_LenF (r : Sl) (K : Int → World → Prop) (w : World) : Prop :=
  K (↑r.len : Int) w
def pool_row_LenA : List Ann := [.n, .n]
theorem pool_row_Len_of {r : Sl} {w : World} {K : Int → World → Prop} (hF : pool_row_LenF r K w) : call Tryz.prog 194 [.slice r.a r.len r.cap] [.one (.int .i64)] w K :=
  calls_of_fnPt (an := pool_row_LenA) (ts := [.one (.int .i64)]) (args := [.slice r.a r.len r.cap]) Tryz.func194 (by kernel_rfl) ((show fnPt (std Tryz.prog) Tryz.prog Tryz.f194 pool_row_LenA [.one (.int .i64)] [.slice r.a r.len r.cap] K w = pool_row_LenF r K w by kernel_rfl).mpr hF)

/-- cashbook.pool.row.Less -/
def pool_row_LessF (r : Sl) (i : Int) (k : Int) (K : Bool → World → Prop) (w : World) : Prop :=
  idx r i 1 <|
  fun (a_1 : Addr) =>
  ld (Cell.int IntKind.u32) a_1 (World.drew w) <|
  fun (x_2 : Int) =>
  idx r k 1 <|
  fun (a_3 : Addr) =>
  ld (Cell.int IntKind.u32) a_3 (World.drew w) <|
  fun (x_4 : Int) =>
  K (decide (x_2 < x_4)) (World.drew w)
def pool_row_LessA : List Ann := [.n, .n, .o [[0, 1, 2, 3, 4, 5, 6, 7, 8, 9]]]
theorem pool_row_Less_of {r : Sl} {i : Int} {k : Int} {w : World} {K : Bool → World → Prop} (hF : pool_row_LessF r i k K w) : call Tryz.prog 195 [.slice r.a r.len r.cap, .int .i64 i, .int .i64 k] [.one .bool] w K :=
  calls_of_fnPt (an := pool_row_LessA) (ts := [.one .bool]) (args := [.slice r.a r.len r.cap, .int .i64 i, .int .i64 k]) Tryz.func195 (by kernel_rfl) ((show fnPt (std Tryz.prog) Tryz.prog Tryz.f195 pool_row_LessA [.one .bool] [.slice r.a r.len r.cap, .int .i64 i, .int .i64 k] K w = pool_row_LessF r i k K w by kernel_rfl).mpr hF)

/-- cashbook.pool.row.Swap -/
def pool_row_SwapF (r : Sl) (i : Int) (k : Int) (K : Unit → World → Prop) (w : World) : Prop :=
  idx r k 1 <|
  fun (a_1 : Addr) =>
  ld (Cell.int IntKind.u32) a_1 (World.drew w) <|
  fun (x_2 : Int) =>
  idx r i 1 <|
  fun (a_3 : Addr) =>
  ld (Cell.int IntKind.u32) a_3 (World.drew w) <|
  fun (x_4 : Int) =>
  idx r i 1 <|
  fun (a_5 : Addr) =>
  st a_5 ([Value.int IntKind.u32 x_2]) (World.drew w) <|
  fun (w_6 : World) =>
  idx r k 1 <|
  fun (a_7 : Addr) =>
  st a_7 ([Value.int IntKind.u32 x_4]) w_6 <|
  fun (w_8 : World) =>
  K () w_8
def pool_row_SwapA : List Ann := [.o [[0, 1, 2, 3, 4, 5, 6, 7, 8, 9, 10, 11, 12, 13, 14, 15]]]
theorem pool_row_Swap_of {r : Sl} {i : Int} {k : Int} {w : World} {K : Unit → World → Prop} (hF : pool_row_SwapF r i k K w) : call Tryz.prog 196 [.slice r.a r.len r.cap, .int .i64 i, .int .i64 k] [] w K :=
  calls_of_fnPt (an := pool_row_SwapA) (ts := []) (args := [.slice r.a r.len r.cap, .int .i64 i, .int .i64 k]) Tryz.func196 (by kernel_rfl) ((show fnPt (std Tryz.prog) Tryz.prog Tryz.f196 pool_row_SwapA [] [.slice r.a r.len r.cap, .int .i64 i, .int .i64 k] K w = pool_row_SwapF r i k K w by kernel_rfl).mpr hF)

/-- cashbook.pool.row.Pop -/
def pool_row_PopF (r : Option Addr) (K : Value → World → Prop) (w : World) : Prop :=
  nn r <|
  fun (a_1 : Addr) =>
  ld Cell.slice a_1 (World.drew w) <|
  fun (s_2 : Sl) =>
  nn r <|
  fun (a_3 : Addr) =>
  ld Cell.slice a_3 (World.drew w) <|
  fun (s_4 : Sl) =>
  idx s_2 (IntKind.wrap IntKind.i64 ((↑s_4.len : Int) - 1)) 1 <|
  fun (a_5 : Addr) =>
  ld (Cell.int IntKind.u32) a_5 (World.drew w) <|
  fun (x_6 : Int) =>
  nn r <|
  fun (a_7 : Addr) =>
  ld Cell.slice a_7 (World.drew (World.drew w)) <|
  fun (s_8 : Sl) =>
  nn r <|
  fun (a_9 : Addr) =>
  ld Cell.slice a_9 (World.drew (World.drew w)) <|
  fun (s_10 : Sl) =>
  slc s_8 none (some (IntKind.wrap IntKind.i64 ((↑s_10.len : Int) - 1))) none 1 <|
  fun (s_11 : Sl) =>
  nn r <|
  fun (a_12 : Addr) =>
  st a_12 ([Value.slice s_11.a s_11.len s_11.cap]) (World.drew (World.drew w)) <|
  fun (w_13 : World) =>
  K (Value.iface 29 (Value.int IntKind.u32 x_6)) w_13
def pool_row_PopA : List Ann := [.n, .n, .o [[0, 1, 2, 3, 4, 5, 6, 7, 8, 9, 10]], .n, .o [[0, 1, 2, 3, 4, 5, 6, 7, 8, 9, 10, 11]], .n]
theorem pool_row_Pop_of {r : Option Addr} {w : World} {K : Value → World → Prop} (hF : pool_row_PopF r K w) : call Tryz.prog 197 [.pointer r] [.one .any] w K :=
  calls_of_fnPt (an := pool_row_PopA) (ts := [.one .any]) (args := [.pointer r]) Tryz.func197 (by kernel_rfl) ((show fnPt (std Tryz.prog) Tryz.prog Tryz.f197 pool_row_PopA [.one .any] [.pointer r] K w = pool_row_PopF r K w by kernel_rfl).mpr hF)

/-- cashbook.pool.row.Push -/
def pool_row_PushF (r : Option Addr) (x : Value) (K : Unit → World → Prop) (w : World) : Prop :=
  runQ [Ty1.one (Cell.int IntKind.u32), Ty1.one Cell.bool] (fun (w_1 : Go.World) => (Instr.typeAssert x 20 29 true).run Tryz.prog w_1) w <|
  fun (t_2 : Int × Bool) =>
  cond t_2.snd
    (nn r <|
    fun (a_3 : Addr) =>
    ld Cell.slice a_3 w <|
    fun (s_4 : Sl) =>
    new (Obj.cells #[Value.int IntKind.u32 t_2.fst] 29) w <|
    fun (r_5 : Nat) (w_6 : World) =>
    run [Ty1.one Cell.slice] ((Builtin.append_ (#[169, 169]) 169 (#[Value.slice s_4.a s_4.len s_4.cap, Value.slice (some { block := r_5, off := 0 }) 1 1])).run Tryz.prog w_6) <|
    fun (s_7 : Sl) (w_8 : World) =>
    nn r <|
    fun (a_9 : Addr) =>
    st a_9 ([Value.slice s_7.a s_7.len s_7.cap]) w_8 <|
    fun (w_10 : World) =>
    K () w_10)
    (K () w)
def pool_row_PushA : List Ann := [.n, .n]
theorem pool_row_Push_of {r : Option Addr} {x : Value} {w : World} {K : Unit → World → Prop} (hF : pool_row_PushF r x K w) : call Tryz.prog 198 [.pointer r, x] [] w K :=
  calls_of_fnPt (an := pool_row_PushA) (ts := []) (args := [.pointer r, x]) Tryz.func198 (by kernel_rfl) ((show fnPt (std Tryz.prog) Tryz.prog Tryz.f198 pool_row_PushA [] [.pointer r, x] K w = pool_row_PushF r x K w by kernel_rfl).mpr hF)

end Go.Proofs.YtmbcedengdoamaaGreatDoor
end

section
/- Rules for methods called through an interface. Conditions: those that stand in each line. -/
set_option linter.unusedVariables false
namespace Go.Pt
open Go

variable {P : Program} {w : World}

/-- A type's own method: its function, and whether it takes the pointer. -/
def methodOf (P : Program) (t : TypeId) (name : String) : Option (FuncId × Bool) :=
  match (P.info? t).bind fun i => i.methods.find? (·.name == name) with
  | some m => bif m.path.isEmpty then m.func else none
  | none => none

theorem run_method {t : TypeId} {v : Value} {name : String} {f : FuncId} {p : Bool} (h : methodOf P t name = some (f, p)) (fuel : Nat) :
    ∃ wr, (Go.method (fuel + 1) t v name).run P w = (do let r ← receiverAt t (.val v) p (some wr); pure (f, r) : Sem (FuncId × Value)).run P w := by
  unfold methodOf at h
  cases hi : P.info? t with
  | none => rw [hi] at h; cases h
  | some i =>
    rw [hi] at h
    simp only [Option.bind_some] at h
    cases hm : i.methods.find? (·.name == name) with
    | none => rw [hm] at h; cases h
    | some m =>
      rw [hm] at h
      dsimp only at h
      cases hp : m.path.isEmpty with
      | false => rw [hp] at h; cases h
      | true =>
        rw [hp] at h
        change m.func = some (f, p) at h
        have hpe := Array.isEmpty_iff.1 hp
        refine ⟨(name.splitOn ".").getLastD name, ?_⟩
        simp [Go.method, typeInfo, run_program, hi, hm, hpe, h, follow]

theorem enter_ptr {t e : TypeId} {name : String} {f : FuncId} {q : Value} {args : Array Value} (h : methodOf P t name = some (f, true)) (hu : P.underlying t = some (.pointer e)) (hb : bodyless P f = false) :
    (callMethod (.iface t q) name args).run P w = .ok (.enter f (#[q] ++ args)) w := by
  obtain ⟨wr, hr⟩ := run_method (w := w) (v := q) h (P.types.size + Made.depth - 1)
  have hm0 : 0 < Made.depth := by decide
  have hd : P.types.size + Made.depth - 1 + 1 = P.types.size + Made.depth := by omega
  rw [hd] at hr
  have h2 : (do let r ← receiverAt t (.val q) true (some wr); pure (f, r) : Sem (FuncId × Value)).run P w = .ok (f, q) w := by
    simp [receiverAt, run_underlying hu, Place.get]
  rw [h2] at hr
  simp [callMethod, run_program, hr, callFunc_run hb]

theorem enter_val {t e : TypeId} {name : String} {f : FuncId} {a : Addr} {v : Value} {args : Array Value} (h : methodOf P t name = some (f, false)) (hu : P.underlying t = some (.pointer e)) (hb : bodyless P f = false)
    (he : (P.underlying e).isSome = true) (hag : isAggT P e = false) (hc : w.cell? a = some v) :
    (callMethod (.iface t (.pointer (some a))) name args).run P w = .ok (.enter f (#[v] ++ args)) w := by
  obtain ⟨wr, hr⟩ := run_method (w := w) (v := .pointer (some a)) h (P.types.size + Made.depth - 1)
  have hm0 : 0 < Made.depth := by decide
  have hd : P.types.size + Made.depth - 1 + 1 = P.types.size + Made.depth := by omega
  rw [hd] at hr
  have h2 : (do let r ← receiverAt t (.val (.pointer (some a))) false (some wr); pure (f, r) : Sem (FuncId × Value)).run P w = .ok (f, v) w := by
    have hs : Builtin.ssaWrapNilChk_ #[t] t #[.pointer (some a), strVal "", strVal wr] = pure (.pointer (some a)) := rfl
    simp [receiverAt, run_underlying hu, Place.get, hs, asAddr, loadVar, run_isAgg he, hag, hc]
  rw [h2] at hr
  simp [callMethod, run_program, hr, callFunc_run hb]

theorem inv_ptr {t e : TypeId} {name : String} {f : FuncId} {q : Value} {args : List Value} {ts : List Ty1} {K : ElR ts → World → Prop} (h : methodOf P t name = some (f, true)) (hu : P.underlying t = some (.pointer e)) (hb : bodyless P f = false)
    (k : call P f (q :: args) ts w K) : inv P (.iface t q) name args ts w K :=
  ⟨f, q :: args, by rw [enter_ptr h hu hb]; simp, k⟩

theorem inv_val {t e : TypeId} {name : String} {f : FuncId} {a : Addr} {v : Value} {args : List Value} {ts : List Ty1} {K : ElR ts → World → Prop} (h : methodOf P t name = some (f, false)) (hu : P.underlying t = some (.pointer e)) (hb : bodyless P f = false)
    (he : (P.underlying e).isSome = true) (hag : isAggT P e = false) (hc : w.cell? a = some v) (k : call P f (v :: args) ts w K) : inv P (.iface t (.pointer (some a))) name args ts w K :=
  ⟨f, v :: args, by rw [enter_val h hu hb he hag hc]; simp, k⟩

end Go.Pt
end

section
/- container/heap over pool's row: the steps up and down. Conditions: those that stand in each line. -/
set_option linter.unusedVariables false
set_option linter.unusedSimpArgs false
namespace Go.Proofs.YtmbcedengdoamaaGreatDoor
open Go Go.Pt Go.Sort
attribute [local irreducible] ld ldA st new idx idxS idxA slc slcS slcP mkS chk nn call callV inv run runQ runU join loop held IntKind.wrap

/-- A pool's block: the row's slice, and the map. -/
def plB (rb len cap : Nat) (m : Value) : Obj := .cells #[.slice (some ⟨rb, 0, none⟩) len cap, m] 172 (0, 0)

section
variable {pb rb len cap : Nat} {m : Value} {w0 w : World} {d : Array Int} {T : TypeId}

/-- The row's block is written, the pool's own is not. -/
theorem row_cell (hp : w0.heap[pb]? = some (plB rb len cap m)) (hne : rb ≠ pb) (h : Arr rb T w0 w d) : w.cell? ⟨pb, 0, none⟩ = some (.slice (some ⟨rb, 0, none⟩) len cap) := by
  have h1 : w.heap[pb]? = some (plB rb len cap m) := by
    rw [h.fr.block pb (lt_of_blk hp) (by simpa using fun e => hne e.symm)]
    exact hp
  rw [cell_of_blk h1]
  rfl

theorem mLess {i k : Nat} {K : Bool → World → Prop} (hp : w0.heap[pb]? = some (plB rb len cap m)) (hne : rb ≠ pb) (h : Arr rb T w0 w d) (hi : i < len) (hk : k < len) (hl : len ≤ d.size ∧ len ≤ 1152921504606846976)
    (hK : ∀ w', Arr rb T w0 w' d → K (ltInt d[i]! d[k]!) w') :
    inv Tryz.prog (.iface 175 (.pointer (some ⟨pb, 0, none⟩))) "Less" [.int .i64 i, .int .i64 k] [.one .bool] w K := by
  refine inv_val (f := 195) (by kernel_rfl) (e := 169) (by kernel_rfl) (by kernel_rfl) (by kernel_rfl) (by kernel_rfl) (row_cell hp hne h) ?_
  refine pool_row_Less_of (r := ⟨some ⟨rb, 0, none⟩, len, cap⟩) ?_
  unfold pool_row_LessF
  refine h.drew.rd i rfl hi hl ?_
  refine h.drew.rd k rfl hk hl ?_
  exact hK _ h.drew

theorem mSwap {i k : Nat} {K : Unit → World → Prop} (hp : w0.heap[pb]? = some (plB rb len cap m)) (hne : rb ≠ pb) (h : Arr rb T w0 w d) (hi : i < len) (hk : k < len) (hl : len ≤ d.size ∧ len ≤ 1152921504606846976)
    (hK : ∀ w', Arr rb T w0 w' (swp d i k) → K () w') :
    inv Tryz.prog (.iface 175 (.pointer (some ⟨pb, 0, none⟩))) "Swap" [.int .i64 i, .int .i64 k] [] w K := by
  refine inv_val (f := 196) (by kernel_rfl) (e := 169) (by kernel_rfl) (by kernel_rfl) (by kernel_rfl) (by kernel_rfl) (row_cell hp hne h) ?_
  refine pool_row_Swap_of (r := ⟨some ⟨rb, 0, none⟩, len, cap⟩) ?_
  unfold pool_row_SwapF
  exact h.drew.swap i k rfl rfl hi hk hl hK

theorem mLen {K : Int → World → Prop} (hp : w0.heap[pb]? = some (plB rb len cap m)) (hne : rb ≠ pb) (h : Arr rb T w0 w d) (hK : K len w) :
    inv Tryz.prog (.iface 175 (.pointer (some ⟨pb, 0, none⟩))) "Len" [] [.one (.int .i64)] w K := by
  refine inv_val (f := 194) (by kernel_rfl) (e := 169) (by kernel_rfl) (by kernel_rfl) (by kernel_rfl) (by kernel_rfl) (row_cell hp hne h) ?_
  refine pool_row_Len_of (r := ⟨some ⟨rb, 0, none⟩, len, cap⟩) ?_
  unfold pool_row_LenF
  exact hK

end
end Go.Proofs.YtmbcedengdoamaaGreatDoor
end

section
/- container/heap over pool's row: up and down keep a heap. Conditions: those that stand in each line. -/
set_option linter.unusedVariables false
set_option linter.unusedSimpArgs false
namespace Go.Proofs.YtmbcedengdoamaaGreatDoor
open Go Go.Pt Go.Sort
attribute [local irreducible] ld ldA st new idx idxS idxA slc slcS slcP mkS chk nn call callV inv run runQ runU join loop held IntKind.wrap

def IsHeap (d : Array Int) (n : Nat) : Prop := ∀ i, 0 < i → i < n → d[(i - 1) / 2]! ≤ d[i]!

/-- A heap but for place j, which may be less than what stands above it. -/
def UpAt (d : Array Int) (n j : Nat) : Prop := (∀ i, 0 < i → i < n → i ≠ j → d[(i - 1) / 2]! ≤ d[i]!) ∧ ∀ i, 0 < i → i < n → (i - 1) / 2 = j → 0 < j → d[(j - 1) / 2]! ≤ d[i]!

/-- A heap but for place j, which may be greater than what stands below it. -/
def DownAt (d : Array Int) (n j : Nat) : Prop := (∀ i, 0 < i → i < n → (i - 1) / 2 ≠ j → d[(i - 1) / 2]! ≤ d[i]!) ∧ ∀ i, 0 < i → i < n → (i - 1) / 2 = j → 0 < j → d[(j - 1) / 2]! ≤ d[i]!

theorem swp_at (d : Array Int) {i j : Nat} (hi : i < d.size) (hj : j < d.size) (k : Nat) : (swp d i j)[k]! = if k = j then d[i]! else if k = i then d[j]! else d[k]! := swp_get d hi hj k

theorem UpAt.step {d : Array Int} {n j : Nat} (h : UpAt d n j) (hj : 0 < j) (hjn : j < n) (hn : n ≤ d.size) (hlt : d[j]! < d[(j - 1) / 2]!) : UpAt (swp d ((j - 1) / 2) j) n ((j - 1) / 2) := by
  have hp : (j - 1) / 2 < d.size := by omega
  have hq : j < d.size := by omega
  have hne : (j - 1) / 2 ≠ j := by omega
  constructor
  · intro i h0 hi hij
    have a1 := h.1 i h0 hi
    have a2 := h.2 i h0 hi
    rw [swp_at d hp hq, swp_at d hp hq]
    by_cases e1 : i = j
    · subst e1
      rw [if_neg (by omega), if_pos rfl, if_pos rfl]
      omega
    · rw [if_neg e1, if_neg hij]
      by_cases e2 : (i - 1) / 2 = j
      · rw [if_pos e2]; exact a2 e2 hj
      · rw [if_neg e2]
        by_cases e3 : (i - 1) / 2 = (j - 1) / 2
        · rw [if_pos e3]
          have := a1 e1
          rw [e3] at this
          omega
        · rw [if_neg e3]; exact a1 e1
  · intro i h0 hi hip hjp
    have a1 := h.1 i h0 hi
    have b1 := h.1 ((j - 1) / 2) hjp (by omega) hne
    rw [swp_at d hp hq, swp_at d hp hq]
    rw [if_neg (by omega), if_neg (by omega)]
    by_cases e1 : i = j
    · subst e1; rw [if_pos rfl]; exact b1
    · rw [if_neg e1, if_neg (by omega)]
      have := a1 e1
      rw [hip] at this
      omega

theorem UpAt.stop {d : Array Int} {n j : Nat} (h : UpAt d n j) (hs : j = 0 ∨ d[(j - 1) / 2]! ≤ d[j]!) : IsHeap d n := by
  intro i h0 hi
  by_cases e : i = j
  · subst e
    rcases hs with hs | hs
    · omega
    · exact hs
  · exact h.1 i h0 hi e

theorem DownAt.step {d : Array Int} {n i c : Nat} (h : DownAt d n i) (hc : c = 2 * i + 1 ∨ c = 2 * i + 2) (hcn : c < n) (hn : n ≤ d.size) (hlt : d[c]! < d[i]!) (hmin : ∀ k, k < n → (k = 2 * i + 1 ∨ k = 2 * i + 2) → d[c]! ≤ d[k]!) : DownAt (swp d i c) n c := by
  have hp : i < d.size := by omega
  have hq : c < d.size := by omega
  constructor
  · intro k h0 hk hkc
    have a1 := h.1 k h0 hk
    have a2 := h.2 k h0 hk
    rw [swp_at d hp hq, swp_at d hp hq, if_neg hkc]
    by_cases e1 : k = c
    · rw [if_pos e1, if_pos (by omega)]; omega
    · rw [if_neg e1]
      by_cases e2 : k = i
      · rw [if_pos e2]
        subst e2
        rw [if_neg (by omega)]
        exact h.2 c (by omega) hcn (by omega) h0
      · rw [if_neg e2]
        by_cases e3 : (k - 1) / 2 = i
        · rw [if_pos e3]; exact hmin k hk (by omega)
        · rw [if_neg e3]; exact a1 e3
  · intro k h0 hk hkc hc0
    have a1 := h.1 k h0 hk (by omega)
    rw [swp_at d hp hq, swp_at d hp hq]
    rw [if_neg (by omega), if_pos (by omega), if_neg (by omega), if_neg (by omega)]
    rw [hkc] at a1
    exact a1

theorem DownAt.stop {d : Array Int} {n i : Nat} (h : DownAt d n i) (hs : ∀ k, k < n → (k = 2 * i + 1 ∨ k = 2 * i + 2) → d[i]! ≤ d[k]!) : IsHeap d n := by
  intro k h0 hk
  by_cases e : (k - 1) / 2 = i
  · rw [e]; exact hs k hk (by omega)
  · exact h.1 k h0 hk e

section
variable {pb rb len cap : Nat} {m : Value} {w0 w : World} {d : Array Int} {T : TypeId}

theorem Up_ok {j : Nat} {K : Unit → World → Prop} (hp : w0.heap[pb]? = some (plB rb len cap m)) (hne : rb ≠ pb) (h : Arr rb T w0 w d) (hj : j < len) (hl : len ≤ d.size ∧ len ≤ 1152921504606846976) (hu : UpAt d len j)
    (hk : ∀ d' w', PermIn 0 len d d' → IsHeap d' len → Arr rb T w0 w' d' → K () w') :
    call Tryz.prog 127 [.iface 175 (.pointer (some ⟨pb, 0, none⟩)), .int .i64 j] [] w K := by
  apply heap_up_of
  unfold heap_upF
  refine loop_ind (fun x w' => ∃ (j : Nat) (d' : Array Int), x = j ∧ j < len ∧ PermIn 0 len d d' ∧ UpAt d' len j ∧ Arr rb T w0 w' d') (fun x _ => x.toNat) ⟨j, d, rfl, hj, permIn_refl _ _ _, hu, h⟩ ?_
  rintro x w1 ⟨j, d1, rfl, hj, hpm, hu, h⟩ X hX
  have hs := hpm.1
  have e1 : IntKind.i64.wrap (Int.tdiv (IntKind.i64.wrap ((j : Int) - 1)) 2) = (((j - 1) / 2 : Nat) : Int) := by
    rw [wi ((j : Int) - 1) (by omega)]
    by_cases h0 : j = 0
    · subst h0; decide +kernel
    · rw [Int.tdiv_eq_ediv_of_nonneg (by omega), wi _ (by omega)]; omega
  rw [e1]
  refine join_mid (fun c w' => c = (decide (j = 0) || !ltInt d1[j]! d1[(j - 1) / 2]!) ∧ Arr rb T w0 w' d1) ?_ ?_
  · refine cond_of (fun hc => ?_) (fun hc => ?_)
    · have h0 : j = 0 := by have := beq_iff_eq.1 hc; omega
      exact ⟨by simp [h0], h⟩
    · have h0 : j ≠ 0 := fun e => by subst e; cases hc
      refine mLess hp hne h hj (by omega) (by omega) fun w2 h => ?_
      exact ⟨by simp [h0], h⟩
  · rintro c w2 ⟨rfl, h⟩
    refine cond_of (fun hc => ?_) (fun hc => ?_)
    · simp only [Bool.or_eq_true, decide_eq_true_eq, Bool.not_eq_true', ltInt, decide_eq_false_iff_not, Int.not_lt] at hc
      exact hk _ _ hpm (hu.stop hc) h
    · simp only [Bool.or_eq_false_iff, decide_eq_false_iff_not, Bool.not_eq_false', ltInt, decide_eq_true_eq] at hc
      refine mSwap hp hne h (by omega) hj (by omega) fun w3 h => ?_
      exact hX _ _ ⟨_, _, rfl, by omega, permIn_trans _ _ _ _ _ hpm (swp_permIn _ _ _ _ _ (by omega) (by omega) (by omega) hj (by omega)), hu.step (by omega) hj (by omega) hc.2, h⟩ (by omega)

theorem Down_ok {n : Nat} {K : Bool → World → Prop} (hp : w0.heap[pb]? = some (plB rb len cap m)) (hne : rb ≠ pb) (h : Arr rb T w0 w d) (hn : n ≤ len) (hl : len ≤ d.size ∧ len ≤ 1152921504606846976) (hu : DownAt d n 0)
    (hk : ∀ b d' w', PermIn 0 n d d' → IsHeap d' n → Arr rb T w0 w' d' → K b w') :
    call Tryz.prog 126 [.iface 175 (.pointer (some ⟨pb, 0, none⟩)), .int .i64 0, .int .i64 n] [.one .bool] w K := by
  apply heap_down_of
  unfold heap_downF
  refine join_mid (fun _ w' => ∃ d', PermIn 0 n d d' ∧ IsHeap d' n ∧ Arr rb T w0 w' d') ?_ (fun x w' ⟨d', h1, h2, h3⟩ => hk _ d' w' h1 h2 h3)
  refine loop_ind (fun x w' => ∃ (i : Nat) (d' : Array Int), x = i ∧ (i < n ∨ i = 0) ∧ PermIn 0 n d d' ∧ DownAt d' n i ∧ Arr rb T w0 w' d') (fun x _ => ((n : Int) - x).toNat) ⟨0, d, rfl, .inr rfl, permIn_refl _ _ _, hu, h⟩ ?_
  rintro x w1 ⟨i, d1, rfl, hi, hpm, hu, h⟩ X hX
  have hs := hpm.1
  have e1 : IntKind.i64.wrap (IntKind.i64.wrap (2 * (i : Int)) + 1) = ((2 * i + 1 : Nat) : Int) := by rw [wi (2 * (i : Int)) (by omega), wi _ (by omega)]; omega
  have e2 : IntKind.i64.wrap (((2 * i + 1 : Nat) : Int) + 1) = ((2 * i + 2 : Nat) : Int) := by rw [wi _ (by omega)]; omega
  rw [e1, e2]
  refine join_mid (fun c w' => c = decide (n ≤ 2 * i + 1) ∧ Arr rb T w0 w' d1) ?_ ?_
  · refine cond_of (fun hc => ?_) (fun hc => ?_)
    · have h0 : n ≤ 2 * i + 1 := by have := of_decide_eq_true hc; omega
      exact ⟨by simp [h0], h⟩
    · have h0 : ¬ n ≤ 2 * i + 1 := by have := of_decide_eq_false hc; omega
      refine ⟨?_, h⟩
      rw [decide_eq_false h0, decide_eq_false (by omega)]
  rintro c w2 ⟨rfl, h⟩
  refine cond_of (fun hc => ?_) (fun hc => ?_)
  · have h0 := of_decide_eq_true hc
    exact ⟨d1, hpm, hu.stop (fun k hk hk2 => by omega), h⟩
  have h0 : 2 * i + 1 < n := by have := of_decide_eq_false hc; omega
  refine join_mid (fun x w' => ∃ c : Nat, x = c ∧ (c = 2 * i + 1 ∨ c = 2 * i + 2) ∧ c < n ∧ (∀ k, k < n → (k = 2 * i + 1 ∨ k = 2 * i + 2) → d1[c]! ≤ d1[k]!) ∧ Arr rb T w0 w' d1) ?_ ?_
  · refine join_mid (fun c w' => c = (decide (2 * i + 2 < n) && ltInt d1[2 * i + 2]! d1[2 * i + 1]!) ∧ Arr rb T w0 w' d1) ?_ ?_
    · refine cond_of (fun hc => ?_) (fun hc => ?_)
      · have h2 : 2 * i + 2 < n := by have := of_decide_eq_true hc; omega
        refine mLess hp hne h (by omega) (by omega) (by omega) fun w3 h => ?_
        exact ⟨by simp [h2], h⟩
      · have h2 : ¬ 2 * i + 2 < n := by have := of_decide_eq_false hc; omega
        exact ⟨by simp [h2], h⟩
    · rintro c w3 ⟨rfl, h⟩
      refine cond_of (fun hc => ?_) (fun hc => ?_)
      · simp only [Bool.and_eq_true, decide_eq_true_eq, ltInt] at hc
        refine ⟨2 * i + 2, rfl, .inr rfl, hc.1, fun k hk hk2 => ?_, h⟩
        rcases hk2 with rfl | rfl <;> omega
      · simp only [Bool.and_eq_false_iff, decide_eq_false_iff_not, ltInt, Int.not_lt] at hc
        refine ⟨2 * i + 1, rfl, .inl rfl, h0, fun k hk hk2 => ?_, h⟩
        rcases hk2 with rfl | rfl <;> omega
  rintro x w3 ⟨c, rfl, hcc, hcn, hmin, h⟩
  refine mLess hp hne h (by omega) (by omega) (by omega) fun w4 h => ?_
  refine cond_of (fun hc => ?_) (fun hc => ?_)
  · simp only [Bool.not_eq_true', ltInt, decide_eq_false_iff_not, Int.not_lt] at hc
    exact ⟨d1, hpm, hu.stop (fun k hk hk2 => Int.le_trans hc (hmin k hk hk2)), h⟩
  · simp only [Bool.not_eq_false', ltInt, decide_eq_true_eq] at hc
    refine mSwap hp hne h (by omega) (by omega) (by omega) fun w5 h => ?_
    exact hX _ _ ⟨c, _, rfl, .inl hcn, permIn_trans _ _ _ _ _ hpm (swp_permIn _ _ _ _ _ (by omega) (by omega) (by omega) hcn (by omega)), hu.step hcc hcn (by omega) hc hmin, h⟩ (by omega)

end
end Go.Proofs.YtmbcedengdoamaaGreatDoor
end

section
/- Rules for maps whose keys are integers or strings: a map is the row of its pairs. Conditions: those that stand in each line. -/
set_option linter.unusedVariables false
namespace Go.Pt
open Go

/-- How keys are told apart, at a key type. -/
structure KeyOk {α : Type} [DecidableEq α] (P : Program) (kt : TypeId) (kv : α → Value) : Prop where
  desc : ∃ d, P.underlying kt = some d ∧ ∀ a b, Instr.sameNow d (kv a) (kv b) = some (decide (a = b))
  check : ∀ e a w, (Instr.checkKey e 10000 kt (kv a)).run P w = .ok () w
  stays : ∀ a w, (Instr.keyThatStays (kv a) (kv a)).run P w = .ok (kv a) w

theorem keyOk_int {P : Program} {kt : TypeId} {k : IntKind} (h : P.underlying kt = some (.int k)) : KeyOk P kt (fun n : Int => Value.int k n) where
  desc := ⟨_, h, fun a b => by simp [Instr.sameNow]; rfl⟩
  check := fun e a w => Go.MapKept.run_checkKey h (by simp [Go.MapKept.IsKey]) e 9999
  stays := fun a w => by simp [Instr.keyThatStays, Instr.sameBits]

section
variable {α : Type} [DecidableEq α]

theorem map_erase {β γ : Type} (g : β → γ) : ∀ (l : List β) (i : Nat), (l.eraseIdx i).map g = (l.map g).eraseIdx i
  | [], _ => rfl
  | _ :: _, 0 => rfl
  | a :: l, i + 1 => by simp only [List.eraseIdx_cons_succ, List.map_cons, map_erase g l i]

/-- The map's pairs, in the order of its entries. -/
def Ents (kv : α → Value) (es : List MapEntry) (f : List (α × Value)) : Prop := es.map (fun e => (e.key, e.val)) = f.map (fun p => (kv p.1, p.2))

def posOf (x : α) : List (α × Value) → Option (Nat × Value)
  | [] => none
  | p :: r => if x = p.1 then some (0, p.2) else (posOf x r).map fun q => (q.1 + 1, q.2)

theorem findNow_pos {kv : α → Value} {d : TypeDesc} (hd : ∀ a b, Instr.sameNow d (kv a) (kv b) = some (decide (a = b))) (x : α) : ∀ (es : List MapEntry) (f : List (α × Value)) (i : Nat), Ents kv es f →
    Instr.findNow d (kv x) es i = some ((posOf x f).map fun q => (i + q.1, q.2))
  | [], [], i, _ => rfl
  | [], _ :: _, _, h => by simp [Ents] at h
  | _ :: _, [], _, h => by simp [Ents] at h
  | e :: es, p :: f, i, h => by
    simp only [Ents, List.map_cons, List.cons.injEq, Prod.mk.injEq] at h
    obtain ⟨⟨h1, h2⟩, h3⟩ := h
    simp only [Instr.findNow, h1, hd, posOf]
    by_cases hx : x = p.1
    · simp [hx, h2]
    · simp only [hx, decide_false, if_false]
      rw [findNow_pos hd x es f (i + 1) h3]
      cases posOf x f with
      | none => rfl
      | some q => simp; omega

variable {P : Program} {w : World} {kt : TypeId} {kv : α → Value}

theorem run_findKey (K : KeyOk P kt kv) {es : List MapEntry} {f : List (α × Value)} (h : Ents kv es f) (x : α) : (Instr.findKey kt (kv x) es).run P w = .ok (posOf x f) w := by
  obtain ⟨d, hd, hs⟩ := K.desc
  unfold Instr.findKey
  simp only [Sem.run_bind, run_underlying hd, Result.andThen_ok, findNow_pos hs x es f 0 h, Sem.run_pure]
  congr 1
  cases posOf x f with
  | none => rfl
  | some q => simp

/-- Block b is a map with the pairs f. -/
def MapAt (kv : α → Value) (w : World) (b : Nat) (f : List (α × Value)) : Prop := ∃ es c, w.heap[b]? = some (.map es c) ∧ Ents kv es.toList f

theorem run_lookup {t et : TypeId} {z : Value} (ht : P.underlying t = some (.map kt et)) (hz : ∀ w, (zeroValue et).run P w = .ok z w) (K : KeyOk P kt kv) {b : Nat} {f : List (α × Value)} (h : MapAt kv w b f) (x : α) :
    (Instr.lookup t (.map (some b)) (kv x) false).run P w = .ok (match posOf x f with | some q => q.2 | none => z) w := by
  obtain ⟨es, c, hb, he⟩ := h
  cases hp : posOf x f with
  | none => simp [Instr.lookup, run_underlying ht, Go.MapKept.run_getObj_map hb, K.check, run_findKey K he, hp, hz]
  | some q => simp [Instr.lookup, run_underlying ht, Go.MapKept.run_getObj_map hb, K.check, run_findKey K he, hp]

theorem run_lookupOk {t et : TypeId} {z : Value} (ht : P.underlying t = some (.map kt et)) (hz : ∀ w, (zeroValue et).run P w = .ok z w) (K : KeyOk P kt kv) {b : Nat} {f : List (α × Value)} (h : MapAt kv w b f) (x : α) :
    (Instr.lookup t (.map (some b)) (kv x) true).run P w = .ok (match posOf x f with | some q => .tuple #[q.2, .bool true] | none => .tuple #[z, .bool false]) w := by
  obtain ⟨es, c, hb, he⟩ := h
  cases hp : posOf x f with
  | none => simp [Instr.lookup, run_underlying ht, Go.MapKept.run_getObj_map hb, K.check, run_findKey K he, hp, hz]
  | some q => simp [Instr.lookup, run_underlying ht, Go.MapKept.run_getObj_map hb, K.check, run_findKey K he, hp]

/-- A new key. -/
theorem run_mapNew {t et : TypeId} {v : Value} (ht : P.underlying t = some (.map kt et)) (K : KeyOk P kt kv) {b : Nat} {f : List (α × Value)} (h : MapAt kv w b f) (x : α) (hx : posOf x f = none) :
    ∃ o, (Instr.mapUpdate t (.map (some b)) (kv x) v).run P w = .ok () (upd w b o) ∧ MapAt kv (upd w b o) b (f ++ [(x, v)]) := by
  obtain ⟨es, c, hb, he⟩ := h
  refine ⟨.map (es.push ⟨kv x, v, c⟩) (c + 1), ?_, es.push ⟨kv x, v, c⟩, c + 1, ?_, ?_⟩
  · simp [Instr.mapUpdate, run_underlying ht, Go.MapKept.run_getObj_map hb, K.check, run_findKey K he, hx, Go.MapKept.run_setObj_map _ hb]
    rfl
  · rw [heap_upd _ _ _ _ (lt_of_blk hb), if_pos rfl]
  · simp only [Ents] at he ⊢
    simp [he]

/-- A key that goes. -/
theorem run_mapDel {t et ty : TypeId} (ht : P.underlying t = some (.map kt et)) (K : KeyOk P kt kv) {b : Nat} {f : List (α × Value)} (h : MapAt kv w b f) (x : α) :
    ∃ o, (Builtin.delete_ #[t, kt] ty #[.map (some b), kv x]).run P w = .ok (.tuple #[]) (upd w b o) ∧ MapAt kv (upd w b o) b (match posOf x f with | some q => f.eraseIdx q.1 | none => f) := by
  obtain ⟨es, c, hb, he⟩ := h
  cases hp : posOf x f with
  | none =>
    refine ⟨.map es c, ?_, es, c, ?_, he⟩
    · simp [Builtin.delete_, run_underlying ht, Go.MapKept.run_getObj_map hb, K.check, run_findKey K he, hp, Go.MapKept.run_setObj_map _ hb]
      rfl
    · rw [heap_upd _ _ _ _ (lt_of_blk hb), if_pos rfl]
  | some q =>
    refine ⟨.map (es.eraseIdxIfInBounds q.1) c, ?_, es.eraseIdxIfInBounds q.1, c, ?_, ?_⟩
    · simp [Builtin.delete_, run_underlying ht, Go.MapKept.run_getObj_map hb, K.check, run_findKey K he, hp, Go.MapKept.run_setObj_map _ hb]
      rfl
    · rw [heap_upd _ _ _ _ (lt_of_blk hb), if_pos rfl]
    · have h1 : (es.eraseIdxIfInBounds q.1).toList = es.toList.eraseIdx q.1 := by simp
      rw [h1]
      simp only [Ents] at he ⊢
      rw [map_erase, he, ← map_erase]
end

end Go.Pt
end

section
/- The pool: what it is in memory; New, Has, Len. Conditions: those that stand in each line. -/
set_option linter.unusedVariables false
set_option linter.unusedSimpArgs false
namespace Go.Proofs.YtmbcedengdoamaaGreatDoor
open Go Go.Pt Go.Sort
attribute [local irreducible] ld ldA st new idx idxS idxA slc slcS slcP mkS chk nn call callV inv run runQ runU join loop held IntKind.wrap

abbrev PT : TypeId := 172
abbrev u32V : Int → Value := fun n => Value.int .u32 n

/-- The row behind a pool: n numbers at the front of d. -/
def RowAt (w : World) (pb : Nat) (m : Value) (F : List Nat) (d : Array Int) (n : Nat) : Prop :=
  (n = 0 ∧ d = #[] ∧ F = [] ∧ w.heap[pb]? = some (.cells #[.slice none 0 0, m] PT (0, 0))) ∨
  ∃ rb T, F = [rb] ∧ w.heap[pb]? = some (plB rb n d.size m) ∧ w.heap[rb]? = some (.cells (u32s d) T (0, 0)) ∧ rb ≠ pb ∧ n ≤ d.size

/-- A pool at block pb, that holds the numbers of l (rising, each once); F: the blocks that are its own. -/
structure PoolAt (w : World) (pb : Nat) (F : List Nat) (l : List Int) : Prop where
  ex : ∃ (mb : Nat) (R : List Nat) (d : Array Int) (f : List (Int × Value)), F = pb :: mb :: R ∧ RowAt w pb (.map (some mb)) R d l.length ∧ MapAt u32V w mb f ∧
    (d.toList.take l.length).Perm l ∧ IsHeap d l.length ∧ (f.map (·.1)).Perm l ∧ ∀ p ∈ f, p.2 = .int .i64 1
  sorted : l.Pairwise (· < ·)

theorem keyOk31 : KeyOk Tryz.prog 29 u32V := keyOk_int (by kernel_rfl)

theorem posOf_mem {x : Int} : ∀ {f : List (Int × Value)}, (∀ p ∈ f, p.2 = Value.int .i64 1) → (posOf x f = none ∧ x ∉ f.map (·.1)) ∨ ∃ j, posOf x f = some (j, .int .i64 1) ∧ x ∈ f.map (·.1) ∧ (f.map (·.1))[j]? = some x
  | [], _ => .inl ⟨rfl, by simp⟩
  | p :: f, h => by
    simp only [posOf]
    by_cases hx : x = p.1
    · rw [if_pos hx, h p (by simp)]
      exact .inr ⟨0, rfl, by simp [hx], by simp [hx]⟩
    · rw [if_neg hx]
      rcases posOf_mem (x := x) (f := f) (fun q hq => h q (List.mem_cons_of_mem _ hq)) with ⟨h1, h2⟩ | ⟨j, h1, h2, h3⟩
      · rw [h1]
        exact .inl ⟨rfl, by simp only [List.map_cons, List.mem_cons]; rintro (e | e); exact hx e; exact h2 e⟩
      · rw [h1]
        exact .inr ⟨j + 1, rfl, by simp only [List.map_cons, List.mem_cons]; exact .inr h2, by simpa using h3⟩

theorem PoolAt.cells {w : World} {pb : Nat} {F : List Nat} {l : List Int} (h : PoolAt w pb F l) : ∃ (s : Sl) (mb : Nat), w.heap[pb]? = some (.cells #[.slice s.a s.len s.cap, .map (some mb)] PT (0, 0)) ∧ s.len = l.length ∧ mb ∈ F := by
  obtain ⟨mb, R, d, f, rfl, hr, _⟩ := h.ex
  rcases hr with ⟨h0, _, _, hb⟩ | ⟨rb, T, _, hb, _⟩
  · exact ⟨⟨none, 0, 0⟩, mb, hb, h0.symm, by simp⟩
  · exact ⟨⟨some ⟨rb, 0, none⟩, _, _⟩, mb, hb, rfl, by simp⟩

theorem New_ok {w : World} {K : Option Addr → World → Prop} (hk : ∀ pb F w', PoolAt w' pb F [] → Fr [] w w' → (∀ b ∈ F, w.heap.size ≤ b) → K (some ⟨pb, 0, none⟩) w') : call Tryz.prog 100 [] [.one .ptr] w K := by
  apply pool_New_of
  unfold pool_NewF
  have h := Own.start [] w
  refine Own.new h fun mb w1 em sm h => ?_
  refine Own.new h fun pb w2 ep sp h => ?_
  refine hk pb [pb, mb] w2 ⟨⟨mb, [], #[], [], rfl, .inl ⟨rfl, rfl, rfl, ?_⟩, ⟨#[], 0, ?_, rfl⟩, by simp, fun i h0 hi => by simp at hi, by simp, by simp⟩, List.Pairwise.nil⟩ h.fr ?_
  · exact h.at (i := 0) rfl
  · exact h.at (i := 1) rfl
  · intro b hb
    simp at hb
    omega

theorem Len_ok' {w : World} {pb : Nat} {F : List Nat} {l : List Int} {K : Int → World → Prop} (h : PoolAt w pb F l) (hk : K l.length w) : call Tryz.prog 43 [.pointer (some ⟨pb, 0, none⟩)] [.one (.int .i64)] w K := by
  refine pool_Pool_Len_of (p := some ⟨pb, 0, none⟩) ?_
  unfold pool_Pool_LenF
  obtain ⟨s, mb, hb, hl, _⟩ := h.cells
  refine nn_some ?_
  refine ld_blk (c := .slice) hb s rfl ?_
  rw [hl]; exact hk

theorem Has_ok {w : World} {pb : Nat} {F : List Nat} {l : List Int} {n : Int} {K : Bool → World → Prop} (h : PoolAt w pb F l) (hk : K (decide (n ∈ l)) w) : call Tryz.prog 93 [.pointer (some ⟨pb, 0, none⟩), .int .u32 n] [.one .bool] w K := by
  refine pool_Pool_Has_of (p := some ⟨pb, 0, none⟩) ?_
  unfold pool_Pool_HasF
  obtain ⟨mb, R, d, f, rfl, hr, hm, _, _, hf, h1⟩ := h.ex
  have hb : ∃ s : Sl, w.heap[pb]? = some (.cells #[.slice s.a s.len s.cap, .map (some mb)] PT (0, 0)) := by
    rcases hr with ⟨h0, _, _, hb⟩ | ⟨rb, T, _, hb, _⟩
    · exact ⟨⟨none, 0, 0⟩, hb⟩
    · exact ⟨⟨some ⟨rb, 0, none⟩, _, _⟩, hb⟩
  obtain ⟨s, hb⟩ := hb
  refine nn_some ?_
  refine ld_blk (c := .map) hb (some mb) rfl ?_
  unfold runQ
  rcases posOf_mem (x := n) h1 with ⟨hp, hx⟩ | ⟨j, hp, hx, _⟩
  · refine ⟨0, ?_, ?_⟩
    · have := run_lookup (P := Tryz.prog) (w := w) (t := 170) (et := 3) (z := .int .i64 0) (by kernel_rfl) (fun w => by kernel_rfl) keyOk31 hm n
      rw [hp] at this
      exact this
    · rw [show decide (n ∈ l) = false by rw [decide_eq_false_iff_not]; exact fun e => hx (hf.mem_iff.2 e)] at hk
      exact hk
  · refine ⟨1, ?_, ?_⟩
    · have := run_lookup (P := Tryz.prog) (w := w) (t := 170) (et := 3) (z := .int .i64 0) (by kernel_rfl) (fun w => by kernel_rfl) keyOk31 hm n
      rw [hp] at this
      exact this
    · rw [show decide (n ∈ l) = true by rw [decide_eq_true_iff]; exact hf.mem_iff.1 hx] at hk
      exact hk

end Go.Proofs.YtmbcedengdoamaaGreatDoor
end

section
/- The pool's row: Push and Pop. Conditions: those that stand in each line. -/
set_option linter.unusedVariables false
set_option linter.unusedSimpArgs false
namespace Go.Proofs.YtmbcedengdoamaaGreatDoor
open Go Go.Pt Go.Sort
attribute [local irreducible] ld ldA st new idx idxS idxA slc slcS slcP mkS chk nn call callV inv run runQ runU join loop held IntKind.wrap

theorem info31 : ∃ i, Tryz.prog.info? 29 = some i ∧ i.zero = some (.int .u32 0) ∧ i.size = 1 ∧ i.bytes = 4 := info_of (by kernel_rfl)

theorem zero_cells (v : Value) (k : Nat) (h : v.cells = #[v]) : Builtin.zeroCells v.cells k = Array.replicate k v := by
  rw [h]
  apply Array.ext
  · simp [Builtin.zeroCells]
  · intro i h1 h2
    simp [Builtin.zeroCells, Nat.mod_one]

theorem u32s_list (l : List Int) : u32s l.toArray = (l.map (Value.int .u32)).toArray := by simp [u32s]

theorem get_take {d : Array Int} {l : List Int} {n i : Nat} (h : d.toList.take n = l) (hi : i < n) (hd : n ≤ d.size) : l[i]? = some d[i]! := by
  rw [← h, List.getElem?_take, if_pos hi]
  simp [show i < d.size by omega]

theorem set_take {α : Type} (x : α) : ∀ (l : List α) (n : Nat), n < l.length → (l.set n x).take (n + 1) = l.take n ++ [x]
  | a :: l, 0, _ => by simp
  | a :: l, n + 1, h => by simpa using set_take x l n (by simpa using h)

/-- What the row's Push gives. -/
theorem mPush {w : World} {pb : Nat} {mb : Value} {R : List Nat} {d : Array Int} {n : Nat} {x : Int} {K : Unit → World → Prop} (h : RowAt w pb mb R d n) (hn : n ≤ 1000000)
    (hk : ∀ R' d' w', RowAt w' pb mb R' d' (n + 1) → d'.toList.take (n + 1) = d.toList.take n ++ [x] → Fr (pb :: R) w w' → (∀ b ∈ R', b ∈ R ∨ w.heap.size ≤ b) → K () w') :
    inv Tryz.prog (.iface 175 (.pointer (some ⟨pb, 0, none⟩))) "Push" [.iface 29 (.int .u32 x)] [] w K := by
  obtain ⟨i31, hi, hz, hsz, hby⟩ := info31
  refine inv_ptr (f := 198) (by kernel_rfl) (e := 169) (by kernel_rfl) (by kernel_rfl) ?_
  refine pool_row_Push_of (r := some ⟨pb, 0, none⟩) ?_
  unfold pool_row_PushF
  have ta : (Instr.typeAssert (.iface 29 (.int .u32 x)) 20 29 true).run Tryz.prog w = .ok (.tuple #[.int .u32 x, .bool true]) w := by kernel_rfl
  refine runQ_of (ts := [.one (.int .u32), .one .bool]) (x, true) ta ?_
  refine cond_true rfl ?_
  refine nn_some ?_
  have zc : ∀ k, Builtin.zeroCells (Value.int .u32 0).cells k = Array.replicate k (.int .u32 0) := fun k => zero_cells _ k rfl
  rcases h with ⟨h0, hd, hR, hb⟩ | ⟨rb, T, hR, hb, hrb, hne, hnd⟩
  · -- nil
    subst h0 hd hR
    refine ld_blk (c := .slice) hb ⟨none, 0, 0⟩ rfl ?_
    have ho : Own [pb] w w [(pb, .cells #[.slice none 0 0, mb] PT (0, 0))] := ⟨by simpa using hb, by simp, .refl _ _, by simp⟩
    refine Own.new ho fun tb w1 et st1 ho => ?_
    refine app_nil (P := Tryz.prog) (e := 29) (by kernel_rfl) hi hz [.int .u32 x] (by rw [hsz]; rfl) (fun j u hj => ?_) (by omega) (by rw [hby]; omega) (by omega) fun q hq1 hq2 => ?_
    · match j, hj with
      | 0, hj =>
        have := ho.cell (off := 0) 0 rfl rfl
        simp at hj
        subst hj
        exact this
      | j + 1, hj => simp at hj
    rw [zc]
    have ho := ho.drew.alloc (.cells (#[Value.int .u32 x] ++ Array.replicate (q - 1) (.int .u32 0)) 29 (0, 0))
    refine nn_some ?_
    refine Own.st ho 2 rfl _ rfl rfl rfl fun w2 ho _ => ?_
    have hnp : w1.drew.heap.size ≠ pb := by
      have := ho.nodup
      simp at this
      exact fun e => this.1.2 e
    have hd' : #[Value.int .u32 x] ++ Array.replicate (q - 1) (.int .u32 0) = u32s (([x] ++ List.replicate (q - 1) 0).toArray) := by
      rw [u32s_list]
      apply Array.ext'
      simp
    refine hk [w1.drew.heap.size] (([x] ++ List.replicate (q - 1) 0).toArray) w2 (.inr ⟨w1.drew.heap.size, 29, rfl, ?_, ?_, hnp, by simp⟩) (by simp) (ho.fr.mono (fun i hi _ => by simpa using hi)) (fun b hb => ?_)
    · have := ho.at (i := 2) rfl
      have e : (([x] ++ List.replicate (q - 1) (0 : Int)).toArray).size = q := by simp; omega
      rw [e]
      exact this
    · have := ho.at (i := 0) rfl
      rw [← hd']
      exact this
    · simp at hb
      subst hb
      right
      have := ho.own (w1.drew.heap.size, _) (by simp; exact .inl rfl)
      simp at this
      omega
  · subst hR
    refine ld_blk (c := .slice) hb ⟨some ⟨rb, 0, none⟩, n, d.size⟩ rfl ?_
    dsimp only
    have ho : Own [pb, rb] w w [(pb, plB rb n d.size mb), (rb, .cells (u32s d) T (0, 0))] := ⟨by simpa using ⟨hb, hrb⟩, by simpa using fun e => hne e.symm, .refl _ _, by simp⟩
    refine Own.new ho fun tb w1 et st1 ho => ?_
    have hnews : ∀ (j : Nat) u, [Value.int .u32 x][j]? = some u → w1.cell? ((⟨tb, 0, none⟩ : Addr).add j) = some u := fun j u hj => by
      match j, hj with
      | 0, hj =>
        have := ho.cell (off := 0) 0 rfl rfl
        simp at hj
        subst hj
        exact this
      | j + 1, hj => simp at hj
    by_cases hroom : n + 1 ≤ d.size
    · refine app_fit (P := Tryz.prog) (e := 29) (by kernel_rfl) hi [.int .u32 x] (ho.at (i := 2) rfl) (by rw [hsz]; rfl) hnews (by simp [Value.oneCell']) hroom (by rw [hsz, u32s_size]; simp; omega) ?_
      have hsp : splice (u32s d) (0 + n * i31.size) [.int .u32 x] = u32s (d.setIfInBounds n x) := by
        rw [hsz, Nat.zero_add, Nat.mul_one]
        exact u32s_set d n x
      rw [hsp]
      have ho := ho.upd (o' := .cells (u32s (d.setIfInBounds n x)) T (0, 0)) 2 rfl
      refine nn_some ?_
      refine Own.st ho 1 rfl _ rfl rfl rfl fun w2 ho _ => ?_
      refine hk [rb] (d.setIfInBounds n x) w2 (.inr ⟨rb, T, rfl, ?_, ?_, hne, by simpa using hroom⟩) ?_ (ho.fr.mono (fun i hi _ => by simpa using hi)) (fun b hb => .inl hb)
      · have := ho.at (i := 1) rfl
        rw [Array.size_setIfInBounds]
        exact this
      · exact ho.at (i := 2) rfl
      · rw [Array.toList_setIfInBounds]
        exact set_take x _ _ (by simp; omega)
    · have hnd' : n = d.size := by omega
      refine app_grow (P := Tryz.prog) (e := 29) (by kernel_rfl) hi hz (d.toList.map (Value.int .u32)) [.int .u32 x] (by rw [hsz]; simp; omega) (fun j u hj => ?_) (by rw [hsz]; rfl) hnews (by omega) (by rw [hby]; omega) (by omega) fun q hq1 hq2 => ?_
      · rw [Addr.add_mk, cell_of_blk (ho.at (i := 2) rfl), Nat.zero_add]
        rw [List.getElem?_map] at hj
        unfold u32s
        rw [Array.getElem?_map]
        simpa using hj
      rw [zc]
      have hcs : (d.toList.map (Value.int .u32)).toArray ++ [Value.int .u32 x].toArray ++ Array.replicate (q - (n + 1)) (.int .u32 0) = u32s ((d.toList ++ [x] ++ List.replicate (q - (n + 1)) (0 : Int)).toArray) := by
        rw [u32s_list]
        apply Array.ext'
        simp
      rw [hcs]
      have e : ((d.toList ++ [x] ++ List.replicate (q - (n + 1)) (0 : Int)).toArray).size = q := by simp; omega
      have ho := ho.drew.alloc (.cells (u32s ((d.toList ++ [x] ++ List.replicate (q - (n + 1)) (0 : Int)).toArray)) 29 (0, 0))
      refine nn_some ?_
      refine Own.st ho 2 rfl _ rfl rfl rfl fun w2 ho _ => ?_
      have hnp : w1.drew.heap.size ≠ pb := by
        have := ho.nodup
        simp at this
        exact fun e => this.1.2.1 e
      refine hk [w1.drew.heap.size] _ w2 (.inr ⟨w1.drew.heap.size, 29, rfl, ?_, ho.at (i := 0) rfl, hnp, by rw [e]; exact hq1⟩) ?_ (ho.fr.mono (fun i hi _ => by simpa using hi)) (fun b hb => ?_)
      · have := ho.at (i := 2) rfl
        rw [e]
        exact this
      · rw [hnd']
        simp [List.take_append, List.take_of_length_le]
      · simp at hb
        subst hb
        right
        show w.heap.size ≤ w1.heap.size
        omega

/-- What the row's Pop gives. -/
theorem mPop {w : World} {pb rb : Nat} {mb : Value} {d : Array Int} {n : Nat} {T : TypeId} {K : Value → World → Prop} (hb : w.heap[pb]? = some (plB rb (n + 1) d.size mb)) (hrb : w.heap[rb]? = some (.cells (u32s d) T (0, 0))) (hne : rb ≠ pb) (hn : n + 1 ≤ d.size) (hn2 : n ≤ 1000000)
    (hk : ∀ w', w'.heap[pb]? = some (plB rb n d.size mb) → w'.heap[rb]? = some (.cells (u32s d) T (0, 0)) → Fr [pb] w w' → K (.iface 29 (.int .u32 d[n]!)) w') :
    inv Tryz.prog (.iface 175 (.pointer (some ⟨pb, 0, none⟩))) "Pop" [] [.one .any] w K := by
  refine inv_ptr (f := 197) (by kernel_rfl) (e := 169) (by kernel_rfl) (by kernel_rfl) ?_
  refine pool_row_Pop_of (r := some ⟨pb, 0, none⟩) ?_
  unfold pool_row_PopF
  have ho : Own [pb] w w [(pb, plB rb (n + 1) d.size mb)] := ⟨by simpa using hb, by simp, .refl _ _, by simp⟩
  have ha : Arr rb T w w d := .start hrb
  refine nn_some (Own.ld (c := .slice) ho.drew 0 rfl ⟨some ⟨rb, 0, none⟩, n + 1, d.size⟩ rfl ?_)
  refine nn_some (Own.ld (c := .slice) ho.drew 0 rfl ⟨some ⟨rb, 0, none⟩, n + 1, d.size⟩ rfl ?_)
  dsimp only
  refine ha.drew.rd n (by rw [wi _ (by omega)]; omega) (by omega) (by omega) ?_
  refine nn_some (Own.ld (c := .slice) ho.drew.drew 0 rfl ⟨some ⟨rb, 0, none⟩, n + 1, d.size⟩ rfl ?_)
  refine nn_some (Own.ld (c := .slice) ho.drew.drew 0 rfl ⟨some ⟨rb, 0, none⟩, n + 1, d.size⟩ rfl ?_)
  dsimp only
  rw [wi _ (by omega)]
  refine slc_hi ⟨by omega, by dsimp only; omega⟩ ?_
  refine nn_some ?_
  refine Own.st ho.drew.drew 0 rfl _ rfl rfl rfl fun w2 ho2 _ => ?_
  refine hk w2 ?_ ?_ ho2.fr
  · have := ho2.at (i := 0) rfl
    rw [show (((n + 1 : Nat) : Int) - 1).toNat = n by omega] at this
    exact this
  · rw [ho2.fr.block rb (lt_of_blk hrb) (by simpa using hne)]
    exact hrb

end Go.Proofs.YtmbcedengdoamaaGreatDoor
end

section
/- container/heap's Push and Pop over the pool's row. Conditions: those that stand in each line. -/
set_option linter.unusedVariables false
set_option linter.unusedSimpArgs false
namespace Go.Proofs.YtmbcedengdoamaaGreatDoor
open Go Go.Pt Go.Sort
attribute [local irreducible] ld ldA st new idx idxS idxA slc slcS slcP mkS chk nn call callV inv run runQ runU join loop held IntKind.wrap

theorem permIn_take {d d' : Array Int} {n : Nat} (h : PermIn 0 n d d') : (d'.toList.take n).Perm (d.toList.take n) := by
  have := h.2.2
  simpa [Array.toList_extract] using this

theorem HPush_ok {w : World} {pb : Nat} {mb : Value} {R : List Nat} {d : Array Int} {n : Nat} {x : Int} {K : Unit → World → Prop} (h : RowAt w pb mb R d n) (hn : n ≤ 1000000) (hh : IsHeap d n)
    (hk : ∀ R' d' w', RowAt w' pb mb R' d' (n + 1) → IsHeap d' (n + 1) → (d'.toList.take (n + 1)).Perm (d.toList.take n ++ [x]) → Fr (pb :: R) w w' → (∀ b ∈ R', b ∈ R ∨ w.heap.size ≤ b) → K () w') :
    call Tryz.prog 94 [.iface 175 (.pointer (some ⟨pb, 0, none⟩)), .iface 29 (.int .u32 x)] [] w K := by
  have hdn : n ≤ d.size := by
    rcases h with ⟨h0, _⟩ | ⟨_, _, _, _, _, _, h1⟩
    · omega
    · exact h1
  apply heap_Push_of
  unfold heap_PushF
  refine mPush h hn fun R1 d1 w1 hr ht hf hR => ?_
  rcases hr with ⟨h0, _⟩ | ⟨rb, T, hR1, hb, hrb, hne, hnd⟩
  · omega
  subst hR1
  refine mLen hb hne (.start hrb) ?_
  rw [wi _ (by omega), show ((n + 1 : Nat) : Int) - 1 = (n : Nat) by omega]
  have hsame : ∀ i, i < n → d1[i]! = d[i]! := fun i hi => by
    have h1 := get_take ht (show i < n + 1 by omega) hnd
    rw [List.getElem?_append_left (by simp; omega)] at h1
    have h2 := get_take (d := d) rfl hi hdn
    rw [h2] at h1
    exact (Option.some.inj h1).symm
  refine Up_ok hb hne (.start hrb) (Nat.lt_succ_self n) ⟨hnd, by omega⟩ ⟨fun i h0 hi hin => ?_, fun i h0 hi hip _ => by omega⟩ fun d2 w2 hp hH ha => ?_
  · rw [hsame i (by omega), hsame _ (by omega)]
    exact hh i h0 (by omega)
  · refine hk [rb] d2 w2 (.inr ⟨rb, T, rfl, ?_, ha.blk, hne, by rw [hp.1]; exact hnd⟩) hH ((permIn_take hp).trans (by rw [ht])) (hf.trans' ha.fr fun i hi => ?_) hR
    · rw [ha.fr.block pb (lt_of_blk hb) (by simpa using fun e => hne e.symm), hp.1]
      exact hb
    · simp at hi
      subst hi
      rcases hR i (by simp) with h1 | h1
      · exact .inl (List.mem_cons_of_mem _ h1)
      · exact .inr h1

theorem IsHeap.min {d : Array Int} {n : Nat} (h : IsHeap d n) : ∀ i, i < n → d[0]! ≤ d[i]! := by
  intro i
  induction i using Nat.strongRecOn with
  | _ i ih =>
    intro hi
    by_cases h0 : i = 0
    · rw [h0]; exact Int.le_refl _
    · exact Int.le_trans (ih ((i - 1) / 2) (by omega) (by omega)) (h i (by omega) hi)

theorem HPop_ok {w : World} {pb rb : Nat} {mb : Value} {d : Array Int} {n : Nat} {T : TypeId} {K : Value → World → Prop} (hb : w.heap[pb]? = some (plB rb (n + 1) d.size mb)) (hrb : w.heap[rb]? = some (.cells (u32s d) T (0, 0))) (hne : rb ≠ pb) (hnd : n + 1 ≤ d.size) (hn : n ≤ 1000000) (hh : IsHeap d (n + 1))
    (hk : ∀ d' w', RowAt w' pb mb [rb] d' n → IsHeap d' n → (d[0]! :: d'.toList.take n).Perm (d.toList.take (n + 1)) → Fr [pb, rb] w w' → K (.iface 29 (.int .u32 d[0]!)) w') :
    call Tryz.prog 92 [.iface 175 (.pointer (some ⟨pb, 0, none⟩))] [.one .any] w K := by
  apply heap_Pop_of
  unfold heap_PopF
  refine mLen hb hne (.start hrb) ?_
  rw [wi _ (by omega), show ((n + 1 : Nat) : Int) - 1 = (n : Nat) by omega]
  refine mSwap (i := 0) (k := n) hb hne (.start hrb) (by omega) (by omega) ⟨hnd, by omega⟩ fun w1 h1 => ?_
  have hs1 : (swp d 0 n).size = d.size := Sort.size_swp _ _ _
  have hat := swp_at d (i := 0) (j := n) (by omega) (by omega)
  refine Down_ok (n := n) hb hne h1 (by omega) ⟨by omega, by omega⟩ ⟨fun i h0 hi hin => ?_, fun i h0 hi hip hc => by omega⟩ fun b d2 w2 hp hH h2 => ?_
  · rw [hat, hat, if_neg (by omega), if_neg (by omega), if_neg (by omega), if_neg (by omega)]
    exact hh i h0 (by omega)
  have hs2 := hp.1
  have hb2 : w2.heap[pb]? = some (plB rb (n + 1) d2.size mb) := by
    rw [h2.fr.block pb (lt_of_blk hb) (by simpa using fun e => hne e.symm), hs2, hs1]
    exact hb
  refine mPop hb2 h2.blk hne (by omega) hn fun w3 g1 g2 g3 => ?_
  have hlast : d2[n]! = d[0]! := by
    rw [hp.2.1 n (.inr (Nat.le_refl _)), hat, if_pos rfl]
  rw [hlast]
  refine hk d2 w3 (.inr ⟨rb, T, rfl, g1, g2, hne, by omega⟩) hH ?_ ((h2.fr.mono (T := [pb, rb]) (fun i hi _ => by simp at hi; simp [hi])).trans (g3.mono (fun i hi _ => by simp at hi; simp [hi])))
  have p1 := permIn_take hp
  have p2 := permIn_take (swp_permIn d 0 (n + 1) 0 n (by omega) (by omega) (by omega) (by omega) (by omega))
  have e1 : (swp d 0 n).toList.take (n + 1) = (swp d 0 n).toList.take n ++ [d[0]!] := by
    have hv : (swp d 0 n)[n]! = d[0]! := by rw [hat, if_pos rfl]
    have hl : n < (swp d 0 n).toList.length := by simp [hs1]; omega
    rw [List.take_succ_eq_append_getElem hl]
    congr 2
    rw [← hv]
    simp [show n < (swp d 0 n).size by omega]
  rw [e1] at p2
  exact ((List.perm_append_singleton _ _).symm.trans (p1.append_right _)).trans p2

end Go.Proofs.YtmbcedengdoamaaGreatDoor
end

section
/- The pool: Put and Take. Conditions: those that stand in each line. -/
set_option linter.unusedVariables false
set_option linter.unusedSimpArgs false
namespace Go.Proofs.YtmbcedengdoamaaGreatDoor
open Go Go.Pt Go.Sort
attribute [local irreducible] ld ldA st new idx idxS idxA slc slcS slcP mkS chk nn call callV inv run runQ runU join loop held IntKind.wrap

def ins (x : Int) : List Int → List Int
  | [] => [x]
  | a :: l => if x < a then x :: a :: l else if x = a then a :: l else a :: ins x l

theorem ins_perm {x : Int} : ∀ {l : List Int}, x ∉ l → (ins x l).Perm (x :: l)
  | [], _ => .refl _
  | a :: l, h => by
    simp only [List.mem_cons, not_or] at h
    simp only [ins]
    split
    · exact .refl _
    · rw [if_neg h.1]
      exact ((ins_perm h.2).cons a).trans (.swap x a l)

theorem ins_mem {x y : Int} : ∀ {l : List Int}, y ∈ ins x l → y = x ∨ y ∈ l
  | [], h => by simp [ins] at h; exact .inl h
  | a :: l, h => by
    simp only [ins] at h
    split at h
    · simp only [List.mem_cons] at h ⊢; exact h
    · split at h
      · exact .inr h
      · simp only [List.mem_cons] at h ⊢
        rcases h with h | h
        · exact .inr (.inl h)
        · rcases ins_mem h with h | h
          · exact .inl h
          · exact .inr (.inr h)

theorem ins_sorted {x : Int} : ∀ {l : List Int}, l.Pairwise (· < ·) → (ins x l).Pairwise (· < ·)
  | [], _ => by simp [ins]
  | a :: l, h => by
    have h' := List.pairwise_cons.1 h
    simp only [ins]
    split
    · rename_i hx
      refine List.pairwise_cons.2 ⟨fun b hb => ?_, h⟩
      rcases List.mem_cons.1 hb with rfl | hb
      · exact hx
      · exact Int.lt_trans hx (h'.1 b hb)
    · split
      · exact h
      · rename_i h1 h2
        refine List.pairwise_cons.2 ⟨fun b hb => ?_, ins_sorted h'.2⟩
        rcases ins_mem hb with rfl | hb
        · omega
        · exact h'.1 b hb

theorem ins_same {x : Int} : ∀ {l : List Int}, l.Pairwise (· < ·) → x ∈ l → ins x l = l
  | a :: l, h, hx => by
    have h' := List.pairwise_cons.1 h
    simp only [ins]
    rcases List.mem_cons.1 hx with rfl | hx
    · rw [if_neg (Int.lt_irrefl _), if_pos rfl]
    · have := h'.1 x hx
      rw [if_neg (by omega), if_neg (by omega), ins_same h'.2 hx]

theorem upd_fr {w : World} {b : Nat} (hb : b < w.heap.size) (o : Obj) : Fr [b] w (upd w b o) :=
  ⟨rfl, rfl, rfl, by rw [size_upd]; exact Nat.le_refl _, fun j hj hS => by rw [heap_upd _ _ _ _ hb, if_neg (by simpa using hS)]⟩

theorem RowAt.frame {w w' : World} {pb : Nat} {m : Value} {R S : List Nat} {d : Array Int} {n : Nat} (h : RowAt w pb m R d n) (k : Fr S w w') (h1 : pb ∉ S) (h2 : ∀ r ∈ R, r ∉ S) : RowAt w' pb m R d n := by
  rcases h with ⟨a, b, c, e⟩ | ⟨rb, T, a, b, c, e, f⟩
  · exact .inl ⟨a, b, c, by rw [k.block pb (lt_of_blk e) h1]; exact e⟩
  · exact .inr ⟨rb, T, a, by rw [k.block pb (lt_of_blk b) h1]; exact b, by rw [k.block rb (lt_of_blk c) (h2 rb (by rw [a]; simp))]; exact c, e, f⟩

theorem map_frame {α : Type} [DecidableEq α] {kv : α → Value} {w w' : World} {b : Nat} {S : List Nat} {f : List (α × Value)} (h : MapAt kv w b f) (k : Fr S w w') (h1 : b ∉ S) : MapAt kv w' b f := by
  obtain ⟨es, c, hb, he⟩ := h
  exact ⟨es, c, by rw [k.block b (lt_of_blk hb) h1]; exact hb, he⟩

theorem RowAt.map_ne {w : World} {pb mb : Nat} {m : Value} {R : List Nat} {d : Array Int} {n : Nat} {f : List (Int × Value)} (h : RowAt w pb m R d n) (hm : MapAt u32V w mb f) : pb ≠ mb ∧ ∀ r ∈ R, r ≠ mb := by
  obtain ⟨es, c, hb, _⟩ := hm
  rcases h with ⟨_, _, c', e⟩ | ⟨rb, T, a, b, c', e, _⟩
  · refine ⟨fun e' => ?_, by simp [c']⟩
    subst e'
    rw [e] at hb; cases hb
  · refine ⟨fun e' => ?_, fun r hr e' => ?_⟩
    · subst e'
      rw [b] at hb; cases hb
    · rw [a] at hr
      simp at hr
      subst hr e'
      rw [c'] at hb; cases hb

/-- A pool leaves what is not its own alone: another pool, or what was told, stays. -/
theorem PoolAt.frame {w w' : World} {pb : Nat} {F S : List Nat} {l : List Int} (h : PoolAt w pb F l) (k : Fr S w w') (hd : ∀ b ∈ F, b ∉ S) : PoolAt w' pb F l := by
  obtain ⟨⟨mb, R, d, f, rfl, hr, hm, h1, h2, h3, h4⟩, hs⟩ := h
  exact ⟨⟨mb, R, d, f, rfl, hr.frame k (hd _ (by simp)) (fun r hr => hd r (by simp [hr])), map_frame hm k (hd _ (by simp)), h1, h2, h3, h4⟩, hs⟩

theorem PoolAt.lt {w : World} {pb : Nat} {F : List Nat} {l : List Int} (h : PoolAt w pb F l) : ∀ b ∈ F, b < w.heap.size := by
  obtain ⟨⟨mb, R, d, f, rfl, hr, ⟨es, c, hb, _⟩, _⟩, _⟩ := h
  intro b hbm
  simp only [List.mem_cons] at hbm
  rcases hr with ⟨_, _, c', e⟩ | ⟨rb, T, a, b', c', e, _⟩
  · rcases hbm with rfl | rfl | hbm
    · exact lt_of_blk e
    · exact lt_of_blk hb
    · rw [c'] at hbm; cases hbm
  · rcases hbm with rfl | rfl | hbm
    · exact lt_of_blk b'
    · exact lt_of_blk hb
    · rw [a] at hbm
      simp at hbm
      subst hbm
      exact lt_of_blk c'

theorem Put_ok {w : World} {pb : Nat} {F : List Nat} {l : List Int} {n : Int} {K : Bool → World → Prop} (h : PoolAt w pb F l) (hl : l.length ≤ 1000000)
    (hk : ∀ F' w', PoolAt w' pb F' (ins n l) → Fr F w w' → (∀ b ∈ F', b ∈ F ∨ w.heap.size ≤ b) → K (decide (n ∉ l)) w') :
    call Tryz.prog 44 [.pointer (some ⟨pb, 0, none⟩), .int .u32 n] [.one .bool] w K := by
  refine pool_Pool_Put_of (p := some ⟨pb, 0, none⟩) ?_
  unfold pool_Pool_PutF
  refine Has_ok h ?_
  by_cases hx : n ∈ l
  · refine cond_true (by simpa using hx) ?_
    have := hk F w (by rw [ins_same h.sorted hx]; exact h) (.refl _ _) (fun b hb => .inl hb)
    simpa [hx] using this
  refine cond_false (by simpa using hx) ?_
  obtain ⟨s, mb', hcell, _, _⟩ := h.cells
  have hsort := h.sorted
  obtain ⟨mb, R, d, f, rfl, hr, hm, hp, hh, hf, h1⟩ := h.ex
  have hmb : mb' = mb := by
    rcases hr with ⟨_, _, _, e⟩ | ⟨rb, T, _, b, _⟩
    · have h3 := congrArg (fun o => match o with | some (Obj.cells cs _ _) => cs[1]? | _ => none) (hcell.symm.trans e)
      simpa using h3
    · have h3 := congrArg (fun o => match o with | some (Obj.cells cs _ _) => cs[1]? | _ => none) (hcell.symm.trans b)
      simpa [plB] using h3
  subst hmb
  refine nn_some ?_
  refine ld_blk (c := .map) hcell (some mb') rfl ?_
  have hpos : posOf n f = none := by
    rcases posOf_mem (x := n) h1 with ⟨hp, _⟩ | ⟨j, _, hx', _⟩
    · exact hp
    · exact absurd (hf.mem_iff.1 hx') hx
  obtain ⟨o, hrun, hm1⟩ := run_mapNew (P := Tryz.prog) (t := 170) (et := 3) (v := .int .i64 1) (by kernel_rfl) keyOk31 hm n hpos
  refine runU_of _ hrun ?_
  obtain ⟨hne1, hne2⟩ := hr.map_ne hm
  have hmlt : mb' < w.heap.size := by obtain ⟨es, c, hb, _⟩ := hm; exact lt_of_blk hb
  have hfr := upd_fr hmlt o
  have hr1 := hr.frame hfr (by simpa using hne1) (fun r hr => by simpa using hne2 r hr)
  refine nn_some ?_
  refine HPush_ok hr1 hl hh fun R' d' w2 hr2 hh2 hp2 hf2 hR2 => ?_
  have hperm := ins_perm hx
  have hlen : (ins n l).length = l.length + 1 := by have := hperm.length_eq; simpa using this
  have hm2 : MapAt u32V w2 mb' (f ++ [(n, .int .i64 1)]) := map_frame hm1 hf2 (by simp only [List.mem_cons, not_or]; exact ⟨fun e => hne1 e.symm, fun e => hne2 _ e rfl⟩)
  have := hk (pb :: mb' :: R') w2 ⟨⟨mb', R', d', f ++ [(n, .int .i64 1)], rfl, by rw [hlen]; exact hr2, hm2, ?_, by rw [hlen]; exact hh2, ?_, ?_⟩, ins_sorted hsort⟩
    ((hfr.mono (T := pb :: mb' :: R) (fun i hi _ => by simp at hi; simp [hi])).trans (hf2.mono (fun i hi _ => by simp at hi; rcases hi with rfl | hi <;> simp [*]))) (fun b hb => ?_)
  · simpa [hx] using this
  · rw [hlen]
    exact hp2.trans (((hp.append_right [n]).trans (List.perm_append_singleton _ _)).trans hperm.symm)
  · rw [List.map_append]
    exact ((hf.append_right _).trans (List.perm_append_singleton _ _)).trans hperm.symm
  · intro p hp
    rcases List.mem_append.1 hp with hp | hp
    · exact h1 p hp
    · simp at hp; rw [hp]
  · simp only [List.mem_cons] at hb
    rcases hb with rfl | rfl | hb
    · exact .inl (by simp)
    · exact .inl (by simp)
    · rcases hR2 b hb with h' | h'
      · exact .inl (by simp [h'])
      · rw [size_upd] at h'; exact .inr h'

theorem cons_erase_perm {α : Type} : ∀ (l : List α) (i : Nat) (h : i < l.length), (l[i] :: l.eraseIdx i).Perm l
  | a :: l, 0, _ => .refl _
  | a :: l, i + 1, h => by
    simp only [List.getElem_cons_succ, List.eraseIdx_cons_succ]
    exact (List.Perm.swap _ _ _).trans ((cons_erase_perm l i (by simpa using h)).cons a)

/-- What Take hands out, and what stays. -/
def takeV : List Int → (Int × Bool) × List Int
  | [] => ((0, false), [])
  | x :: r => ((x, true), r)

theorem Take_ok {w : World} {pb : Nat} {F : List Nat} {l : List Int} {K : Int × Bool → World → Prop} (h : PoolAt w pb F l) (hl : l.length ≤ 1000000)
    (hk : ∀ F' w', PoolAt w' pb F' (takeV l).2 → Fr F w w' → (∀ b ∈ F', b ∈ F ∨ w.heap.size ≤ b) → K (takeV l).1 w') :
    call Tryz.prog 41 [.pointer (some ⟨pb, 0, none⟩)] [.one (.int .u32), .one .bool] w K := by
  refine pool_Pool_Take_of (p := some ⟨pb, 0, none⟩) ?_
  unfold pool_Pool_TakeF
  have hsort := h.sorted
  have hwhole := h
  obtain ⟨mb, R, d, f, rfl, hr, hm, hp, hh, hf, h1⟩ := h.ex
  rcases hr with ⟨h0, hd, hR, hb⟩ | ⟨rb, T, hR, hb, hrb, hne, hnd⟩
  · have hl0 : l = [] := List.eq_nil_of_length_eq_zero h0
    subst hl0
    refine nn_some ?_
    refine ld_blk (c := .slice) hb ⟨none, 0, 0⟩ rfl ?_
    refine cond_true rfl ?_
    exact hk _ w hwhole (.refl _ _) (fun b hb => .inl hb)
  subst hR
  refine nn_some ?_
  refine ld_blk (c := .slice) hb ⟨some ⟨rb, 0, none⟩, l.length, d.size⟩ rfl ?_
  match l, hl, hk, hsort, hwhole, hb, hp, hh, hf, hnd with
  | [], hl, hk, hsort, hwhole, hb, hp, hh, hf, hnd =>
    refine cond_true rfl ?_
    exact hk _ w hwhole (.refl _ _) (fun b hb => .inl hb)
  | x :: r, hl, hk, hsort, hwhole, hb, hp, hh, hf, hnd =>
    simp only [List.length_cons] at hb hp hh hnd hl ⊢
    refine cond_false (by simp; omega) ?_
    refine nn_some ?_
    have hne' := (show RowAt w pb (.map (some mb)) [rb] d (r.length + 1) from .inr ⟨rb, T, rfl, hb, hrb, hne, hnd⟩).map_ne hm
    have hd0 : d[0]! = x := by
      have hmem : d[0]! ∈ x :: r := hp.mem_iff.1 (by
        have := get_take (d := d) rfl (show 0 < r.length + 1 by omega) hnd
        exact List.mem_of_getElem? this)
      have hx : x ∈ d.toList.take (r.length + 1) := hp.mem_iff.2 (by simp)
      obtain ⟨i, hi, hix⟩ := List.getElem_of_mem hx
      have hi' : i < r.length + 1 := by simp at hi; omega
      have h2 := get_take (d := d) rfl hi' hnd
      rw [List.getElem?_eq_getElem hi, hix] at h2
      have hmin := hh.min i hi'
      rw [← Option.some.inj h2] at hmin
      rcases List.mem_cons.1 hmem with e | e
      · exact e
      · have := (List.pairwise_cons.1 hsort).1 _ e
        omega
    refine HPop_ok hb hrb hne hnd (by omega) hh fun d2 w2 hr2 hh2 hp2 hf2 => ?_
    rw [hd0] at hp2 ⊢
    have ta : (Instr.typeAssert (.iface 29 (.int .u32 x)) 20 29 true).run Tryz.prog w2 = .ok (.tuple #[.int .u32 x, .bool true]) w2 := by kernel_rfl
    refine runQ_of (ts := [.one (.int .u32), .one .bool]) (x, true) ta ?_
    have hm2 : MapAt u32V w2 mb f := map_frame hm hf2 (by simp only [List.mem_cons, List.not_mem_nil, or_false, not_or]; exact ⟨fun e => hne'.1 e.symm, fun e => hne'.2 rb (by simp) e.symm⟩)
    obtain ⟨s2, hc2⟩ : ∃ s : Sl, w2.heap[pb]? = some (.cells #[.slice s.a s.len s.cap, .map (some mb)] PT (0, 0)) := by
      rcases hr2 with ⟨_, _, _, hb'⟩ | ⟨rb', T', _, hb', _⟩
      · exact ⟨⟨none, 0, 0⟩, hb'⟩
      · exact ⟨⟨some ⟨rb', 0, none⟩, _, _⟩, hb'⟩
    refine nn_some ?_
    refine ld_blk (c := .map) hc2 (some mb) rfl ?_
    obtain ⟨o, hrun, hm3⟩ := run_mapDel (P := Tryz.prog) (t := 170) (et := 3) (kt := 29) (ty := 0) (by kernel_rfl) keyOk31 hm2 x
    refine run_of (ts := []) () _ hrun ?_
    rcases posOf_mem (x := x) h1 with ⟨_, hx'⟩ | ⟨j, hpos, _, hj⟩
    · exact absurd (hf.mem_iff.2 (by simp)) hx'
    rw [hpos] at hm3
    have hmlt : mb < w2.heap.size := by obtain ⟨es, c, hb, _⟩ := hm2; exact lt_of_blk hb
    have hfr := upd_fr hmlt o
    refine hk [pb, mb, rb] (upd w2 mb o) ⟨⟨mb, [rb], d2, f.eraseIdx j, rfl, hr2.frame hfr (by simpa using hne'.1) (fun r hr => by simpa using hne'.2 r hr), hm3, (hp2.trans hp).cons_inv, hh2, ?_, fun p hp => h1 p (List.mem_of_mem_eraseIdx hp)⟩, (List.pairwise_cons.1 hsort).2⟩
      ((hf2.mono (T := [pb, mb, rb]) (fun i hi _ => by simp at hi; rcases hi with rfl | rfl <;> simp)).trans (hfr.mono (fun i hi _ => by simp at hi; simp [hi]))) (fun b hb => .inl hb)
    show ((f.eraseIdx j).map (·.1)).Perm r
    rw [map_erase]
    obtain ⟨hjl, hje⟩ := List.getElem?_eq_some_iff.1 hj
    have := cons_erase_perm _ _ hjl
    rw [hje] at this
    exact (this.trans hf).cons_inv

end Go.Proofs.YtmbcedengdoamaaGreatDoor
end

section
/- slices' sort of uint32: the heap, the reversal. Conditions: those that stand in each line. -/
set_option linter.unusedVariables false
set_option linter.unusedSimpArgs false
namespace Go.Proofs.YtmbcedengdoamaaGreatDoor
open Go Go.Pt Go.Sort
attribute [local irreducible] ld ldA st new idx idxS idxA slc slcS slcP mkS chk nn call callV inv run runQ runU join loop held IntKind.wrap

section
variable {blk : Nat} {T : ArrT} {w0 w : World} {d : Array Int} {len cap : Nat}

theorem Sift_ok {lo hi first : Nat} {K : Unit → World → Prop} (h : Arr blk T w0 w d) (hlo : lo ≤ hi) (hf : first + hi ≤ len) (hl : len ≤ d.size ∧ len ≤ 1152921504606846976)
    (hk : ∀ w', Arr blk T w0 w' (siftDown ltInt hi first lo d) → (siftDown ltInt hi first lo d).size = d.size → K () w') :
    call Tryz.prog 168 [.slice (some ⟨blk, 0, none⟩) len cap, .int .i64 lo, .int .i64 hi, .int .i64 first] [] w K := by
  refine slices_siftDownOrdered_of (data := ⟨some ⟨blk, 0, none⟩, len, cap⟩) ?_
  unfold slices_siftDownOrderedF
  refine loop_ind (fun x w' => ∃ (r : Nat) (d' : Array Int), x = r ∧ r ≤ hi ∧ Arr blk T w0 w' d' ∧ d'.size = d.size ∧ siftDown ltInt hi first r d' = siftDown ltInt hi first lo d) (fun x _ => ((hi : Int) - x).toNat)
    ⟨lo, d, rfl, hlo, h, rfl, rfl⟩ ?_
  rintro x w1 ⟨r, d1, rfl, hr, h, hs1, he1⟩ X hX
  have e1 : IntKind.i64.wrap (IntKind.i64.wrap (2 * (r : Int)) + 1) = ((2 * r + 1 : Nat) : Int) := by rw [wi (2 * (r : Int)) (by omega), wi _ (by omega)]; omega
  have e2 : IntKind.i64.wrap (((2 * r + 1 : Nat) : Int) + 1) = ((2 * r + 2 : Nat) : Int) := by rw [wi _ (by omega)]; omega
  rw [e1, e2]
  have hd := siftDown.eq_1 ltInt hi first r d1
  refine cond_of (fun hc => ?_) (fun hc => ?_)
  · have hc' : 2 * r + 1 ≥ hi := by have := of_decide_eq_true hc; omega
    rw [dif_pos hc'] at hd
    rw [hd] at he1
    refine hk _ ?_ ?_
    · rw [← he1]; exact h
    · rw [← he1]; exact hs1
  · have hc' : ¬ 2 * r + 1 ≥ hi := by have := of_decide_eq_false hc; omega
    rw [dif_neg hc'] at hd
    refine join_mid (fun x w' => x = ((if 2 * r + 1 + 1 < hi && ltInt d1[first + (2 * r + 1)]! d1[first + (2 * r + 1) + 1]! then 2 * r + 2 else 2 * r + 1 : Nat) : Int) ∧ Arr blk T w0 w' d1) ?_ ?_
    · refine join_mid (fun c w' => c = (decide (2 * r + 1 + 1 < hi) && ltInt d1[first + (2 * r + 1)]! d1[first + (2 * r + 1) + 1]!) ∧ Arr blk T w0 w' d1) ?_ ?_
      · refine cond_of (fun hc => ?_) (fun hc => ?_)
        · have hc2 : 2 * r + 1 + 1 < hi := by have := of_decide_eq_true hc; omega
          refine h.drew.rd (first + (2 * r + 1)) (by rw [wi _ (by omega)]; omega) (by omega) (by omega) ?_
          refine h.drew.rd (first + (2 * r + 1) + 1) (by rw [wi ((first : Int) + _) (by omega), wi _ (by omega)]; omega) (by omega) (by omega) ?_
          refine Less_ok ?_
          exact ⟨by simp [hc2], h.drew⟩
        · have hc2 : ¬ 2 * r + 1 + 1 < hi := by have := of_decide_eq_false hc; omega
          exact ⟨by simp [hc2], h.drew⟩
      · rintro c w3 ⟨rfl, h⟩
        refine cond_of (fun hc => ?_) (fun hc => ?_)
        · exact ⟨by rw [if_pos hc], h⟩
        · exact ⟨by rw [if_neg (by simpa using hc)], h⟩
    · rintro x w3 ⟨rfl, h⟩
      have fin : ∀ c : Nat, (c = 2 * r + 1 ∨ c = 2 * r + 2) → c < hi → ((if !ltInt d1[first + r]! d1[first + c]! then d1 else siftDown ltInt hi first c (swp d1 (first + r) (first + c))) = siftDown ltInt hi first lo d) →
          idx ⟨some ⟨blk, 0, none⟩, len, cap⟩ (IntKind.i64.wrap (first + r)) 1 fun a_16 => ld (.int .u32) a_16 w3.drew fun x_17 => idx ⟨some ⟨blk, 0, none⟩, len, cap⟩ (IntKind.i64.wrap (first + c)) 1 fun a_18 => ld (.int .u32) a_18 w3.drew fun x_19 =>
            call Tryz.prog 153 [.int .u32 x_17, .int .u32 x_19] [.one .bool] w3.drew fun b_20 w_21 =>
              bif !b_20 then K () w_21 else
                idx ⟨some ⟨blk, 0, none⟩, len, cap⟩ (IntKind.i64.wrap (first + c)) 1 fun a_22 => ld (.int .u32) a_22 w_21.drew fun x_23 => idx ⟨some ⟨blk, 0, none⟩, len, cap⟩ (IntKind.i64.wrap (first + r)) 1 fun a_24 => ld (.int .u32) a_24 w_21.drew fun x_25 =>
                  idx ⟨some ⟨blk, 0, none⟩, len, cap⟩ (IntKind.i64.wrap (first + r)) 1 fun a_26 => st a_26 [.int .u32 x_23] w_21.drew fun w_27 => idx ⟨some ⟨blk, 0, none⟩, len, cap⟩ (IntKind.i64.wrap (first + c)) 1 fun a_28 => st a_28 [.int .u32 x_25] w_27 fun w_29 => X c w_29 := by
        intro c hcc hch hceq
        refine h.drew.rd (first + r) (by rw [wi _ (by omega)]; omega) (by omega) (by omega) ?_
        refine h.drew.rd (first + c) (by rw [wi _ (by omega)]; omega) (by omega) (by omega) ?_
        refine Less_ok ?_
        refine cond_of (fun hc => ?_) (fun hc => ?_)
        · rw [if_pos hc] at hceq
          refine hk _ ?_ ?_
          · rw [← hceq]; exact h.drew
          · rw [← hceq]; exact hs1
        · rw [if_neg (by rw [hc]; decide)] at hceq
          refine h.drew.drew.swap (first + r) (first + c) (by rw [wi _ (by omega)]; omega) (by rw [wi _ (by omega)]; omega) (by omega) (by omega) (by omega) fun w4 h => ?_
          exact hX _ _ ⟨c, _, rfl, by omega, h, by rw [swp_size]; exact hs1, hceq⟩ (by omega)
      split
      · rename_i hcc
        rw [if_pos hcc] at hd
        have hlt : 2 * r + 2 < hi := by simp only [Bool.and_eq_true, decide_eq_true_eq] at hcc; omega
        rw [dif_pos hlt] at hd
        exact fin _ (.inr rfl) hlt (hd.symm.trans he1)
      · rename_i hcc
        rw [if_neg hcc] at hd
        exact fin _ (.inl rfl) (by omega) (hd.symm.trans he1)

theorem siftDown_size (hi first : Nat) : ∀ (root : Nat) (d : Array Int), (siftDown ltInt hi first root d).size = d.size := by
  intro root d
  induction root, d using siftDown.induct ltInt hi first with
  | case1 r d h => rw [siftDown, dif_pos h]
  | case2 r d h h1 h2 => rw [siftDown, dif_neg h, if_pos h1, if_pos h2]
  | case3 r d h h1 h2 h3 ih => rw [siftDown, dif_neg h, if_pos h1, if_neg h2, dif_pos h3, ih, swp_size]
  | case4 r d h h1 h2 h3 => rw [siftDown, dif_neg h, if_pos h1, if_neg h2, dif_neg h3]
  | case5 r d h h1 h2 => rw [siftDown, dif_neg h, if_neg h1, if_pos h2]
  | case6 r d h h1 h2 ih => rw [siftDown, dif_neg h, if_neg h1, if_neg h2, ih, swp_size]

theorem Heap_ok {a b : Nat} {K : Unit → World → Prop} (h : Arr blk T w0 w d) (hab : a ≤ b) (hb : b ≤ len) (hl : len ≤ d.size ∧ len ≤ 1152921504606846976)
    (hk : ∀ w', Arr blk T w0 w' (heapSort ltInt d a b) → K () w') :
    call Tryz.prog 148 [.slice (some ⟨blk, 0, none⟩) len cap, .int .i64 a, .int .i64 b] [] w K := by
  refine slices_heapSortOrdered_of (data := ⟨some ⟨blk, 0, none⟩, len, cap⟩) ?_
  unfold slices_heapSortOrderedF
  dsimp only
  have e0 : IntKind.i64.wrap ((b : Int) - a) = ((b - a : Nat) : Int) := by rw [wi _ (by omega)]; omega
  have e2 : IntKind.i64.wrap (Int.tdiv (IntKind.i64.wrap (((b - a : Nat) : Int) - 1)) 2) = (((b - a - 1) / 2 + 1 : Nat) : Int) - 1 := by
    rw [wi (_ - 1) (by omega)]
    by_cases hn : b - a = 0
    · rw [hn]; decide +kernel
    · rw [Int.tdiv_eq_ediv_of_nonneg (by omega), wi _ (by omega)]; omega
  rw [e0, e2]
  refine loop_ind (fun x w' => ∃ (k : Nat) (d' : Array Int), x = (k : Int) - 1 ∧ k ≤ (b - a - 1) / 2 + 1 ∧ Arr blk T w0 w' d' ∧ d'.size = d.size ∧ heapBuild ltInt (b - a) a k d' = heapBuild ltInt (b - a) a ((b - a - 1) / 2 + 1) d) (fun x _ => (x + 1).toNat)
    ⟨_, d, rfl, Nat.le_refl _, h, rfl, rfl⟩ ?_
  rintro x w1 ⟨k, d1, rfl, hkk, h, hs1, he1⟩ X hX
  refine cond_of (fun hc => ?_) (fun hc => ?_)
  · have hc' : 1 ≤ k := by have := of_decide_eq_true hc; omega
    obtain ⟨j, rfl⟩ : ∃ j, k = j + 1 := ⟨k - 1, by omega⟩
    rw [show ((j + 1 : Nat) : Int) - 1 = (j : Nat) by omega]
    refine Sift_ok h (by omega) (by omega) (by omega) fun w2 h hs => ?_
    rw [wi _ (by omega)]
    exact hX _ _ ⟨j, _, rfl, by omega, h, by rw [hs, hs1], he1⟩ (by omega)
  · have hc' : k = 0 := by have := of_decide_eq_false hc; omega
    subst hc'
    have he1' : d1 = heapBuild ltInt (b - a) a ((b - a - 1) / 2 + 1) d := he1
    rw [wi (_ - 1) (by omega)]
    refine loop_ind (fun x w' => ∃ (k : Nat) (d' : Array Int), x = (k : Int) - 1 ∧ k ≤ b - a ∧ Arr blk T w0 w' d' ∧ d'.size = d.size ∧ heapPop ltInt a k d' = heapPop ltInt a (b - a) d1) (fun x _ => (x + 1).toNat)
      ⟨_, d1, rfl, Nat.le_refl _, h, hs1, rfl⟩ ?_
    rintro x w2 ⟨k, d2, rfl, hkk, h, hs2, he2⟩ Z hZ
    refine cond_of (fun hc => ?_) (fun hc => ?_)
    · have hc' : 1 ≤ k := by have := of_decide_eq_true hc; omega
      obtain ⟨j, rfl⟩ : ∃ j, k = j + 1 := ⟨k - 1, by omega⟩
      rw [show ((j + 1 : Nat) : Int) - 1 = (j : Nat) by omega]
      refine h.drew.swap a (a + j) rfl (by rw [wi _ (by omega)]; omega) (by omega) (by omega) (by omega) fun w3 h => ?_
      refine Sift_ok (lo := 0) h (by omega) (by omega) (by rw [swp_size]; omega) fun w4 h hs => ?_
      rw [wi _ (by omega)]
      exact hZ _ _ ⟨j, _, rfl, by omega, h, by rw [hs, swp_size, hs2], he2⟩ (by omega)
    · have hc' : k = 0 := by have := of_decide_eq_false hc; omega
      subst hc'
      refine hk _ ?_
      unfold heapSort
      rw [← he1', ← he2]
      exact h

theorem Rev_ok {a b : Nat} {K : Unit → World → Prop} (h : Arr blk T w0 w d) (hab : a < b) (hb : b ≤ len) (hl : len ≤ d.size ∧ len ≤ 1152921504606846976)
    (hk : ∀ w', Arr blk T w0 w' (reverseRange d a b) → K () w') :
    call Tryz.prog 151 [.slice (some ⟨blk, 0, none⟩) len cap, .int .i64 a, .int .i64 b] [] w K := by
  refine slices_reverseRangeOrdered_of (data := ⟨some ⟨blk, 0, none⟩, len, cap⟩) ?_
  unfold slices_reverseRangeOrderedF
  rw [wi _ (by omega)]
  refine loop_ind (fun x w' => ∃ (i j : Nat) (d' : Array Int), x = ((i : Int), (j : Int)) ∧ i ≤ j + 1 ∧ j < b ∧ Arr blk T w0 w' d' ∧ d'.size = d.size ∧ reverseLoop i j d' = reverseLoop a (b - 1) d) (fun x _ => (x.2 - x.1).toNat)
    ⟨a, b - 1, d, pair_eq rfl (by omega), by omega, by omega, h, rfl, rfl⟩ ?_
  rintro x w1 ⟨i, j, d1, rfl, hij, hjb, h, hs1, he1⟩ X hX
  have hd := reverseLoop.eq_1 i j d1
  dsimp only
  refine cond_of (fun hc => ?_) (fun hc => ?_)
  · have hc' : i < j := by have := of_decide_eq_true hc; omega
    rw [if_pos hc'] at hd
    refine h.drew.swap i j rfl rfl (by omega) (by omega) (by omega) fun w2 h => ?_
    rw [wi (_ + 1) (by omega), wi (_ - 1) (by omega)]
    exact hX _ _ ⟨i + 1, j - 1, _, pair_eq (by omega) (by omega), by omega, by omega, h, by rw [swp_size, hs1], hd.symm.trans he1⟩ (by dsimp only; omega)
  · have hc' : ¬ i < j := by have := of_decide_eq_false hc; omega
    rw [if_neg hc'] at hd
    refine hk _ ?_
    unfold reverseRange
    rw [← he1, hd]
    exact h

end
end Go.Proofs.YtmbcedengdoamaaGreatDoor
end

section
/- slices' sort of uint32: the scans and the two partitions. Conditions: those that stand in each line. -/
set_option linter.unusedVariables false
set_option linter.unusedSimpArgs false
namespace Go.Proofs.YtmbcedengdoamaaGreatDoor
open Go Go.Pt Go.Sort
attribute [local irreducible] ld ldA st new idx idxS idxA slc slcS slcP mkS chk nn call callV inv run runQ runU join loop held IntKind.wrap

section
variable {blk : Nat} {T : ArrT} {w0 w : World} {d : Array Int} {len cap : Nat}

theorem scanUp_rule {p : Int → Bool} {J i0 : Nat} {E : Int → World → Prop} {t : Int → World → (Bool → World → Prop) → Prop} (h : Arr blk T w0 w d) (hJ : J ≤ 1152921504606846976) (hi0 : i0 ≤ J + 2)
    (hT : ∀ (x : Nat) w Y, i0 ≤ x → Arr blk T w0 w d → (∀ w', Arr blk T w0 w' d → Y (decide (x ≤ J) && p d[x]!) w') → t x w Y)
    (hE : ∀ w', Arr blk T w0 w' d → E (scanUp p d J i0 : Nat) w') :
    loop Int (fun X x w => join Bool (fun Y => t x w Y) fun b w' => bif b then X (IntKind.i64.wrap (x + 1)) w' else E x w') i0 w := by
  refine loop_ind (fun x w' => ∃ i : Nat, x = i ∧ i0 ≤ i ∧ i ≤ J + 2 ∧ Arr blk T w0 w' d ∧ scanUp p d J i = scanUp p d J i0) (fun x _ => ((J : Int) + 2 - x).toNat) ⟨i0, rfl, Nat.le_refl _, hi0, h, rfl⟩ ?_
  rintro x w1 ⟨i, rfl, hi, hiJ, h, he⟩ X hX
  refine join_mid (fun c w' => c = (decide (i ≤ J) && p d[i]!) ∧ Arr blk T w0 w' d) (hT i w1 _ hi h fun w' h => ⟨rfl, h⟩) ?_
  rintro c w2 ⟨rfl, h⟩
  have hd := scanUp.eq_1 p d J i
  refine cond_of (fun hc => ?_) (fun hc => ?_)
  · have hc1 := hc
    simp only [Bool.and_eq_true, decide_eq_true_eq] at hc
    rw [if_pos (by simpa using hc1)] at hd
    rw [wi _ (by omega)]
    exact hX _ _ ⟨i + 1, by omega, by omega, by omega, h, hd.symm.trans he⟩ (by omega)
  · rw [if_neg (by simpa using hc)] at hd
    rw [show (i : Int) = (scanUp p d J i0 : Nat) by rw [← he, hd]]
    exact hE _ h

theorem scanDown_rule {p : Int → Bool} {i j0 : Nat} {E : Int → World → Prop} {t : Int → World → (Bool → World → Prop) → Prop} (h : Arr blk T w0 w d) (hJ : j0 ≤ 1152921504606846976) (hi : 1 ≤ i)
    (hT : ∀ (x : Nat) w Y, x ≤ j0 → Arr blk T w0 w d → (∀ w', Arr blk T w0 w' d → Y (decide (i ≤ x) && p d[x]!) w') → t x w Y)
    (hE : ∀ w', Arr blk T w0 w' d → E (scanDown p d i j0 : Nat) w') :
    loop Int (fun X x w => join Bool (fun Y => t x w Y) fun b w' => bif b then X (IntKind.i64.wrap (x - 1)) w' else E x w') j0 w := by
  refine loop_ind (fun x w' => ∃ j : Nat, x = j ∧ j ≤ j0 ∧ Arr blk T w0 w' d ∧ scanDown p d i j = scanDown p d i j0) (fun x _ => x.toNat) ⟨j0, rfl, Nat.le_refl _, h, rfl⟩ ?_
  rintro x w1 ⟨j, rfl, hj, h, he⟩ X hX
  refine join_mid (fun c w' => c = (decide (i ≤ j) && p d[j]!) ∧ Arr blk T w0 w' d) (hT j w1 _ hj h fun w' h => ⟨rfl, h⟩) ?_
  rintro c w2 ⟨rfl, h⟩
  refine cond_of (fun hc => ?_) (fun hc => ?_)
  · have hc1 := hc
    simp only [Bool.and_eq_true, decide_eq_true_eq] at hc
    obtain ⟨k, rfl⟩ : ∃ k, j = k + 1 := ⟨j - 1, by omega⟩
    rw [wi _ (by omega)]
    refine hX _ _ ⟨k, by omega, by omega, h, ?_⟩ (by omega)
    rw [← he, scanDown, if_pos (by simpa using hc1)]
  · rw [show (j : Int) = (scanDown p d i j0 : Nat) by
      rw [← he]
      cases j with
      | zero => rfl
      | succ k => rw [scanDown, if_neg (by simpa using hc)]]
    exact hE _ h

theorem Part_ok {a b pivot : Nat} {K : Int × Bool → World → Prop} (h : Arr blk T w0 w d) (hap : a ≤ pivot) (hpb : pivot < b) (hb : b ≤ len) (hl : len ≤ d.size ∧ len ≤ 1152921504606846976)
    (hk : ∀ w', Arr blk T w0 w' (Sort.partition ltInt d a b pivot).2.2 → K (((Sort.partition ltInt d a b pivot).1 : Nat), (Sort.partition ltInt d a b pivot).2.1) w') :
    call Tryz.prog 155 [.slice (some ⟨blk, 0, none⟩) len cap, .int .i64 a, .int .i64 b, .int .i64 pivot] [.one (.int .i64), .one .bool] w K := by
  refine slices_partitionOrdered_of (data := ⟨some ⟨blk, 0, none⟩, len, cap⟩) ?_
  unfold slices_partitionOrderedF
  revert hk
  unfold Sort.partition
  dsimp only
  intro hk
  refine h.drew.swap a pivot rfl rfl (by omega) (by omega) (by omega) fun w1 h => ?_
  have hsz : (swp d a pivot).size = d.size := Sort.size_swp _ _ _
  generalize swp d a pivot = d1 at h hk hsz
  have eb : IntKind.i64.wrap ((b : Int) - 1) = ((b - 1 : Nat) : Int) := by rw [wi _ (by omega)]; omega
  rw [eb, wi ((a : Int) + 1) (by omega), show (a : Int) + 1 = ((a + 1 : Nat) : Int) by omega]
  refine scanUp_rule (p := fun x => ltInt x d1[a]!) (J := b - 1) (i0 := a + 1) h (by omega) (by omega) (fun x w Y hx h hY => ?_) fun w2 h => ?_
  · refine cond_of (fun hc => ?_) (fun hc => ?_)
    · have hc' : x ≤ b - 1 := by have := of_decide_eq_true hc; omega
      refine h.drew.rd x rfl (by omega) (by omega) ?_
      refine h.drew.rd a rfl (by omega) (by omega) ?_
      refine Less_ok ?_
      have := hY _ h.drew
      simpa [hc'] using this
    · have hc' : ¬ x ≤ b - 1 := by have := of_decide_eq_false hc; omega
      have := hY _ h.drew
      simpa [hc'] using this
  have hu1 := scanUp_ge (fun x => ltInt x d1[a]!) d1 (b - 1) (a + 1)
  generalize scanUp (fun x => ltInt x d1[a]!) d1 (b - 1) (a + 1) = i at hk hu1 ⊢
  refine scanDown_rule (p := fun x => !ltInt x d1[a]!) (i := i) (j0 := b - 1) h (by omega) (by omega) (fun x w Y hx h hY => ?_) fun w3 h => ?_
  · refine cond_of (fun hc => ?_) (fun hc => ?_)
    · have hc' : i ≤ x := by have := of_decide_eq_true hc; omega
      refine h.drew.rd x rfl (by omega) (by omega) ?_
      refine h.drew.rd a rfl (by omega) (by omega) ?_
      refine Less_ok ?_
      have := hY _ h.drew
      simpa [hc'] using this
    · have hc' : ¬ i ≤ x := by have := of_decide_eq_false hc; omega
      have := hY _ h.drew
      simpa [hc'] using this
  have hv1 := scanDown_le (fun x => !ltInt x d1[a]!) d1 i (b - 1)
  generalize scanDown (fun x => !ltInt x d1[a]!) d1 i (b - 1) = j at hk hv1 ⊢
  refine cond_of (fun hc => ?_) (fun hc => ?_)
  · have hc' : i > j := by have := of_decide_eq_true hc; omega
    simp only [if_pos hc'] at hk
    exact h.drew.swap j a rfl rfl (by omega) (by omega) (by omega) fun w4 h => hk _ h
  · have hc' : ¬ i > j := by have := of_decide_eq_false hc; omega
    simp only [if_neg hc'] at hk
    refine h.drew.swap i j rfl rfl (by omega) (by omega) (by omega) fun w4 h => ?_
    have hsz2 : (swp d1 i j).size = d1.size := Sort.size_swp _ _ _
    generalize swp d1 i j = d2 at h hk hsz2
    rw [wi ((i : Int) + 1) (by omega), wi ((j : Int) - 1) (by omega)]
    refine loop_ind (fun s w' => ∃ (i' j' : Nat) (d' : Array Int), s = ((i' : Int), (j' : Int)) ∧ a + 1 ≤ i' ∧ i' ≤ b ∧ j' ≤ b - 1 ∧ i' ≤ j' + 2 ∧ Arr blk T w0 w' d' ∧ d'.size = d.size ∧ partLoop ltInt a i' j' d' = partLoop ltInt a (i + 1) (j - 1) d2) (fun s _ => (s.2 + 2 - s.1).toNat)
      ⟨i + 1, j - 1, d2, pair_eq (by omega) (by omega), by omega, by omega, by omega, by omega, h, by omega, rfl⟩ ?_
    rintro s w5 ⟨i', j', d3, rfl, hi1, hi2, hj1, hij, h, hs3, he⟩ X hX
    rw [partLoop_eq ltInt a i' j' d3] at he
    dsimp only
    refine scanUp_rule (p := fun x => ltInt x d3[a]!) (J := j') (i0 := i') h (by omega) (by omega) (fun x w Y hx h hY => ?_) fun w6 h => ?_
    · refine cond_of (fun hc => ?_) (fun hc => ?_)
      · have hc' : x ≤ j' := by have := of_decide_eq_true hc; omega
        refine h.drew.rd x rfl (by omega) (by omega) ?_
        refine h.drew.rd a rfl (by omega) (by omega) ?_
        refine Less_ok ?_
        have := hY _ h.drew
        simpa [hc'] using this
      · have hc' : ¬ x ≤ j' := by have := of_decide_eq_false hc; omega
        have := hY _ h.drew
        simpa [hc'] using this
    have hu1 := scanUp_ge (fun x => ltInt x d3[a]!) d3 j' i'
    generalize scanUp (fun x => ltInt x d3[a]!) d3 j' i' = i2 at he hu1 ⊢
    refine scanDown_rule (p := fun x => !ltInt x d3[a]!) (i := i2) (j0 := j') h (by omega) (by omega) (fun x w Y hx h hY => ?_) fun w7 h => ?_
    · refine cond_of (fun hc => ?_) (fun hc => ?_)
      · have hc' : i2 ≤ x := by have := of_decide_eq_true hc; omega
        refine h.drew.rd x rfl (by omega) (by omega) ?_
        refine h.drew.rd a rfl (by omega) (by omega) ?_
        refine Less_ok ?_
        have := hY _ h.drew
        simpa [hc'] using this
      · have hc' : ¬ i2 ≤ x := by have := of_decide_eq_false hc; omega
        have := hY _ h.drew
        simpa [hc'] using this
    have hv1 := scanDown_le (fun x => !ltInt x d3[a]!) d3 i2 j'
    generalize scanDown (fun x => !ltInt x d3[a]!) d3 i2 j' = j2 at he hv1 ⊢
    refine cond_of (fun hc => ?_) (fun hc => ?_)
    · have hc' : i2 > j2 := by have := of_decide_eq_true hc; omega
      rw [if_pos hc'] at he
      rw [← he] at hk
      exact h.drew.swap j2 a rfl rfl (by omega) (by omega) (by omega) fun w4 h => hk _ h
    · have hc' : ¬ i2 > j2 := by have := of_decide_eq_false hc; omega
      rw [if_neg hc'] at he
      refine h.drew.swap i2 j2 rfl rfl (by omega) (by omega) (by omega) fun w4 h => ?_
      rw [wi ((i2 : Int) + 1) (by omega), wi ((j2 : Int) - 1) (by omega)]
      exact hX _ _ ⟨i2 + 1, j2 - 1, _, pair_eq (by omega) (by omega), by omega, by omega, by omega, by omega, h, by rw [Sort.size_swp]; exact hs3, he⟩ (by dsimp only; omega)

theorem PartEq_ok {a b pivot : Nat} {K : Int → World → Prop} (h : Arr blk T w0 w d) (hap : a ≤ pivot) (hpb : pivot < b) (hb : b ≤ len) (hl : len ≤ d.size ∧ len ≤ 1152921504606846976)
    (hk : ∀ w', Arr blk T w0 w' (Sort.partitionEqual ltInt d a b pivot).2 → K ((Sort.partitionEqual ltInt d a b pivot).1 : Nat) w') :
    call Tryz.prog 154 [.slice (some ⟨blk, 0, none⟩) len cap, .int .i64 a, .int .i64 b, .int .i64 pivot] [.one (.int .i64)] w K := by
  refine slices_partitionEqualOrdered_of (data := ⟨some ⟨blk, 0, none⟩, len, cap⟩) ?_
  unfold slices_partitionEqualOrderedF
  revert hk
  unfold Sort.partitionEqual
  intro hk
  refine h.drew.swap a pivot rfl rfl (by omega) (by omega) (by omega) fun w1 h => ?_
  have hsz : (swp d a pivot).size = d.size := Sort.size_swp _ _ _
  generalize swp d a pivot = d2 at h hk hsz
  rw [wi ((a : Int) + 1) (by omega), wi ((b : Int) - 1) (by omega)]
  refine loop_ind (fun s w' => ∃ (i' j' : Nat) (d' : Array Int), s = ((i' : Int), (j' : Int)) ∧ a + 1 ≤ i' ∧ i' ≤ b ∧ j' ≤ b - 1 ∧ i' ≤ j' + 2 ∧ Arr blk T w0 w' d' ∧ d'.size = d.size ∧ partEqLoop ltInt a i' j' d' = partEqLoop ltInt a (a + 1) (b - 1) d2) (fun s _ => (s.2 + 2 - s.1).toNat)
    ⟨a + 1, b - 1, d2, pair_eq (by omega) (by omega), by omega, by omega, by omega, by omega, h, by omega, rfl⟩ ?_
  rintro s w5 ⟨i', j', d3, rfl, hi1, hi2, hj1, hij, h, hs3, he⟩ X hX
  rw [partEqLoop_eq ltInt a i' j' d3] at he
  dsimp only
  refine scanUp_rule (p := fun x => !ltInt d3[a]! x) (J := j') (i0 := i') h (by omega) (by omega) (fun x w Y hx h hY => ?_) fun w6 h => ?_
  · refine cond_of (fun hc => ?_) (fun hc => ?_)
    · have hc' : x ≤ j' := by have := of_decide_eq_true hc; omega
      refine h.drew.rd a rfl (by omega) (by omega) ?_
      refine h.drew.rd x rfl (by omega) (by omega) ?_
      refine Less_ok ?_
      have := hY _ h.drew
      simpa [hc'] using this
    · have hc' : ¬ x ≤ j' := by have := of_decide_eq_false hc; omega
      have := hY _ h.drew
      simpa [hc'] using this
  have hu1 := scanUp_ge (fun x => !ltInt d3[a]! x) d3 j' i'
  generalize scanUp (fun x => !ltInt d3[a]! x) d3 j' i' = i2 at he hu1 ⊢
  refine scanDown_rule (p := fun x => ltInt d3[a]! x) (i := i2) (j0 := j') h (by omega) (by omega) (fun x w Y hx h hY => ?_) fun w7 h => ?_
  · refine cond_of (fun hc => ?_) (fun hc => ?_)
    · have hc' : i2 ≤ x := by have := of_decide_eq_true hc; omega
      refine h.drew.rd a rfl (by omega) (by omega) ?_
      refine h.drew.rd x rfl (by omega) (by omega) ?_
      refine Less_ok ?_
      have := hY _ h.drew
      simpa [hc'] using this
    · have hc' : ¬ i2 ≤ x := by have := of_decide_eq_false hc; omega
      have := hY _ h.drew
      simpa [hc'] using this
  have hv1 := scanDown_le (fun x => ltInt d3[a]! x) d3 i2 j'
  generalize scanDown (fun x => ltInt d3[a]! x) d3 i2 j' = j2 at he hv1 ⊢
  refine cond_of (fun hc => ?_) (fun hc => ?_)
  · have hc' : i2 > j2 := by have := of_decide_eq_true hc; omega
    rw [if_pos hc'] at he
    rw [← he] at hk
    exact hk _ h
  · have hc' : ¬ i2 > j2 := by have := of_decide_eq_false hc; omega
    rw [if_neg hc'] at he
    refine h.drew.swap i2 j2 rfl rfl (by omega) (by omega) (by omega) fun w4 h => ?_
    rw [wi ((i2 : Int) + 1) (by omega), wi ((j2 : Int) - 1) (by omega)]
    exact hX _ _ ⟨i2 + 1, j2 - 1, _, pair_eq (by omega) (by omega), by omega, by omega, by omega, by omega, h, by rw [Sort.size_swp]; exact hs3, he⟩ (by dsimp only; omega)

end
end Go.Proofs.YtmbcedengdoamaaGreatDoor
end

section
/- slices' sort of uint32: the short insertion. Conditions: those that stand in each line. -/
set_option linter.unusedVariables false
set_option linter.unusedSimpArgs false
namespace Go.Proofs.YtmbcedengdoamaaGreatDoor
open Go Go.Pt Go.Sort
attribute [local irreducible] ld ldA st new idx idxS idxA slc slcS slcP mkS chk nn call callV inv run runQ runU join loop held IntKind.wrap

section
variable {blk : Nat} {T : ArrT} {w0 w : World} {d : Array Int} {len cap : Nat}

theorem Short_ok {a b : Nat} {K : Bool → World → Prop} (h : Arr blk T w0 w d) (hab : a < b) (hb : b ≤ len) (hl : len ≤ d.size ∧ len ≤ 1152921504606846976)
    (hk : ∀ w', Arr blk T w0 w' (Sort.partialInsertionSort ltInt d a b).1 → K (Sort.partialInsertionSort ltInt d a b).2 w') :
    call Tryz.prog 152 [.slice (some ⟨blk, 0, none⟩) len cap, .int .i64 a, .int .i64 b] [.one .bool] w K := by
  refine slices_partialInsertionSortOrdered_of (data := ⟨some ⟨blk, 0, none⟩, len, cap⟩) ?_
  unfold slices_partialInsertionSortOrderedF
  revert hk
  unfold Sort.partialInsertionSort
  intro hk
  rw [wi ((a : Int) + 1) (by omega)]
  refine loop_ind (fun x w' => ∃ (i s : Nat) (d' : Array Int), x = ((i : Int), 5 - (s : Int)) ∧ s ≤ 5 ∧ a + 1 ≤ i ∧ i ≤ b ∧ Arr blk T w0 w' d' ∧ d'.size = d.size ∧ partialIns ltInt a b s i d' = partialIns ltInt a b 5 (a + 1) d) (fun x _ => (5 - x.2).toNat)
    ⟨a + 1, 5, d, pair_eq (by omega) (by omega), by omega, by omega, by omega, h, rfl, rfl⟩ ?_
  rintro x w1 ⟨i, s, d1, rfl, hs5, hi1, hi2, h, hs1, he⟩ X hX
  dsimp only
  refine cond_of (fun hc => ?_) (fun hc => ?_)
  · obtain ⟨s, rfl⟩ : ∃ k, s = k + 1 := ⟨s - 1, by have := of_decide_eq_true hc; omega⟩
    rw [partialIns_succ] at he
    refine join_mid (fun x w' => ∃ (i : Nat) (d' : Array Int), x = i ∧ a + 1 ≤ i ∧ i ≤ b ∧ Arr blk T w0 w' d' ∧ d'.size = d.size ∧ partialIns ltInt a b s i d' = partialIns ltInt a b 5 (a + 1) d) ?_ ?_
    · refine loop_ind (fun x w' => ∃ k : Nat, x = k ∧ a + 1 ≤ k ∧ k ≤ b ∧ Arr blk T w0 w' d1 ∧ scanSorted ltInt d1 b k = scanSorted ltInt d1 b i) (fun x _ => ((b : Int) - x).toNat) ⟨i, rfl, hi1, hi2, h, rfl⟩ ?_
      rintro x w2 ⟨k, rfl, hk1, hk2, h, hsc⟩ Z hZ
      have hd := scanSorted.eq_1 ltInt d1 b k
      refine join_mid (fun c w' => c = (decide (k < b) && !ltInt d1[k]! d1[k - 1]!) ∧ Arr blk T w0 w' d1) ?_ ?_
      · refine cond_of (fun hc => ?_) (fun hc => ?_)
        · have hc' : k < b := by have := of_decide_eq_true hc; omega
          refine h.drew.rd k rfl (by omega) (by omega) ?_
          refine h.drew.rd (k - 1) (by rw [wi _ (by omega)]; omega) (by omega) (by omega) ?_
          refine Less_ok ?_
          exact ⟨by simp [hc'], h.drew⟩
        · have hc' : ¬ k < b := by have := of_decide_eq_false hc; omega
          exact ⟨by simp [hc'], h.drew⟩
      · rintro c w3 ⟨rfl, h⟩
        refine cond_of (fun hc => ?_) (fun hc => ?_)
        · have hc1 := hc
          simp only [Bool.and_eq_true, decide_eq_true_eq] at hc
          rw [if_pos (by simpa using hc1)] at hd
          rw [wi _ (by omega)]
          exact hZ _ _ ⟨k + 1, by omega, by omega, by omega, h, hd.symm.trans hsc⟩ (by omega)
        · rw [if_neg (by simpa using hc)] at hd
          rw [show scanSorted ltInt d1 b i = k by rw [← hsc, hd]] at he
          unfold fixUp fixDown at he
          refine cond_of (fun hc => ?_) (fun hc => ?_)
          · have hkb : k = b := by have := beq_iff_eq.1 hc; omega
            rw [if_pos hkb] at he
            rw [← he] at hk
            exact hk _ h
          · have hkb : ¬ k = b := fun e => by rw [e] at hc; simp at hc
            rw [if_neg hkb] at he
            rw [wi ((b : Int) - a) (by omega)]
            refine cond_of (fun hc => ?_) (fun hc => ?_)
            · have h50 : b - a < 50 := by have := of_decide_eq_true hc; omega
              rw [if_pos h50] at he
              rw [← he] at hk
              exact hk _ h
            · have h50 : ¬ b - a < 50 := by have := of_decide_eq_false hc; omega
              rw [if_neg h50] at he
              refine h.drew.swap k (k - 1) rfl (by rw [wi _ (by omega)]; omega) (by omega) (by omega) (by omega) fun w4 h => ?_
              have hsz2 : (swp d1 k (k - 1)).size = d1.size := Sort.size_swp _ _ _
              generalize swp d1 k (k - 1) = d2 at h he hsz2
              refine join_mid (fun _ w' => Arr blk T w0 w' (if k - a ≥ 2 then shiftDown ltInt (k - 1) d2 else d2) ∧ (if k - a ≥ 2 then shiftDown ltInt (k - 1) d2 else d2).size = d2.size) ?_ ?_
              · rw [wi ((k : Int) - a) (by omega)]
                refine cond_of (fun hc => ?_) (fun hc => ?_)
                · have hka : k - a ≥ 2 := by have := of_decide_eq_true hc; omega
                  simp only [if_pos hka]
                  rw [wi ((k : Int) - 1) (by omega)]
                  refine loop_ind (fun x w' => ∃ (j : Nat) (d' : Array Int), x = j ∧ j ≤ k - 1 ∧ Arr blk T w0 w' d' ∧ d'.size = d2.size ∧ shiftDown ltInt j d' = shiftDown ltInt (k - 1) d2) (fun x _ => x.toNat) ⟨k - 1, d2, by omega, by omega, h, rfl, rfl⟩ ?_
                  rintro x w5 ⟨j, d3, rfl, hj, h, hs3, he3⟩ Q hQ
                  refine cond_of (fun hc => ?_) (fun hc => ?_)
                  · obtain ⟨j, rfl⟩ : ∃ m, j = m + 1 := ⟨j - 1, by have := of_decide_eq_true hc; omega⟩
                    rw [shiftDown] at he3
                    refine h.drew.rd (j + 1) rfl (by omega) (by omega) ?_
                    refine h.drew.rd j (by rw [wi _ (by omega)]; omega) (by omega) (by omega) ?_
                    refine Less_ok ?_
                    refine cond_of (fun hc => ?_) (fun hc => ?_)
                    · rw [if_pos hc] at he3
                      rw [← he3]
                      exact ⟨h.drew, hs3⟩
                    · rw [if_neg (by rw [hc]; decide)] at he3
                      refine h.drew.drew.swap (j + 1) j rfl (by rw [wi _ (by omega)]; omega) (by omega) (by omega) (by omega) fun w6 h => ?_
                      rw [wi _ (by omega)]
                      exact hQ _ _ ⟨j, _, by omega, by omega, h, by rw [Sort.size_swp]; exact hs3, he3⟩ (by omega)
                  · have hj0 : j = 0 := by have := of_decide_eq_false hc; omega
                    subst hj0
                    rw [← he3]
                    exact ⟨h, hs3⟩
                · have hka : ¬ k - a ≥ 2 := by have := of_decide_eq_false hc; omega
                  simp only [if_neg hka]
                  exact ⟨h, trivial⟩
              · rintro _ w5 ⟨h, hs3⟩
                generalize (if k - a ≥ 2 then shiftDown ltInt (k - 1) d2 else d2) = d3 at h he hs3
                rw [wi ((b : Int) - k) (by omega)]
                refine cond_of (fun hc => ?_) (fun hc => ?_)
                · have hbk : b - k ≥ 2 := by have := of_decide_eq_true hc; omega
                  rw [if_pos hbk] at he
                  rw [wi ((k : Int) + 1) (by omega)]
                  refine loop_ind (fun x w' => ∃ (j : Nat) (d' : Array Int), x = j ∧ k + 1 ≤ j ∧ j ≤ b ∧ Arr blk T w0 w' d' ∧ d'.size = d.size ∧ shiftUp ltInt b j d' = shiftUp ltInt b (k + 1) d3) (fun x _ => ((b : Int) - x).toNat) ⟨k + 1, d3, by omega, by omega, by omega, h, by omega, rfl⟩ ?_
                  rintro x w6 ⟨j, d4, rfl, hj1, hj2, h, hs4, he4⟩ Q hQ
                  have hd4 := shiftUp.eq_1 ltInt b j d4
                  refine cond_of (fun hc => ?_) (fun hc => ?_)
                  · have hjb : j < b := by have := of_decide_eq_true hc; omega
                    rw [if_pos hjb] at hd4
                    refine h.drew.rd j rfl (by omega) (by omega) ?_
                    refine h.drew.rd (j - 1) (by rw [wi _ (by omega)]; omega) (by omega) (by omega) ?_
                    refine Less_ok ?_
                    refine cond_of (fun hc => ?_) (fun hc => ?_)
                    · rw [if_pos hc] at hd4
                      rw [← he4, hd4] at he
                      exact ⟨k, d4, rfl, hk1, hk2, h.drew, hs4, he⟩
                    · rw [if_neg (by rw [hc]; decide)] at hd4
                      refine h.drew.drew.swap j (j - 1) rfl (by rw [wi _ (by omega)]; omega) (by omega) (by omega) (by omega) fun w6 h => ?_
                      rw [wi _ (by omega)]
                      exact hQ _ _ ⟨j + 1, _, by omega, by omega, by omega, h, by rw [Sort.size_swp]; exact hs4, hd4.symm.trans he4⟩ (by omega)
                  · have hjb : ¬ j < b := by have := of_decide_eq_false hc; omega
                    rw [if_neg hjb] at hd4
                    rw [← he4, hd4] at he
                    exact ⟨k, d4, rfl, hk1, hk2, h, hs4, he⟩
                · have hbk : ¬ b - k ≥ 2 := by have := of_decide_eq_false hc; omega
                  rw [if_neg hbk] at he
                  exact ⟨k, d3, rfl, hk1, hk2, h, by omega, he⟩
    · rintro x w2 ⟨k, d2, rfl, hk1, hk2, h, hs2, he2⟩
      rw [wi _ (by omega)]
      exact hX _ _ ⟨k, s, d2, pair_eq rfl (by omega), by omega, hk1, hk2, h, hs2, he2⟩ (by dsimp only; omega)
  · have hs0 : s = 0 := by have := of_decide_eq_false hc; omega
    subst hs0
    rw [← he] at hk
    exact hk _ h

end
end Go.Proofs.YtmbcedengdoamaaGreatDoor
end

section
/- slices' sort of uint32: Len, the pivot's choice, the broken patterns. Conditions: those that stand in each line. -/
set_option linter.unusedVariables false
set_option linter.unusedSimpArgs false
namespace Go.Proofs.YtmbcedengdoamaaGreatDoor
open Go Go.Pt Go.Sort
attribute [local irreducible] ld ldA st new idx idxS idxA slc slcS slcP mkS chk nn call callV inv run runQ runU join loop held IntKind.wrap

theorem idxS_of {s : ByteArray} {i : Int} {K : Int → Prop} (b : UInt8) (h0 : 0 ≤ i) (h : s[i.toNat]? = some b) (k : K (b.toNat : Int)) : idxS s i K := by
  unfold idxS
  exact ⟨b, ⟨h0, h⟩, k⟩

theorem bitsLen_shift {n k : Nat} (h : 2 ^ k ≤ n) : bitsLen n = bitsLen (n / 2 ^ k) + k := by
  have h1 : bitsLen n ≤ bitsLen (n / 2 ^ k) + k := by
    rw [bitsLen_le_iff, Nat.pow_add]
    have := lt_two_pow_bitsLen (n / 2 ^ k)
    exact (Nat.div_lt_iff_lt_mul (Nat.two_pow_pos k)).1 this
  have h2 : bitsLen (n / 2 ^ k) + k ≤ bitsLen n := by
    have hn := lt_two_pow_bitsLen n
    have hk : k ≤ bitsLen n := by
      rcases Nat.lt_or_ge (bitsLen n) k with hl | hl
      · have := Nat.pow_le_pow_right (show 0 < 2 by decide) (Nat.le_of_lt hl); omega
      · exact hl
    have : bitsLen (n / 2 ^ k) ≤ bitsLen n - k := by
      rw [bitsLen_le_iff, Nat.div_lt_iff_lt_mul (Nat.two_pow_pos k), ← Nat.pow_add, Nat.sub_add_cancel hk]
      exact hn
    omega
  omega

theorem bitsLen_lt {n k : Nat} (h : n < 2 ^ k) : bitsLen n ≤ k := (bitsLen_le_iff n k).2 h

theorem fdiv_nat (n k : Nat) : Int.fdiv (n : Int) ((k : Nat) : Int) = ((n / k : Nat) : Int) := by
  rw [Int.fdiv_eq_ediv_of_nonneg _ (by omega)]
  rfl

theorem Len64_ok {n : Nat} {w : World} {K : Int → World → Prop} (hn : n < 18446744073709551616) (hk : K (bitsLen n : Nat) w) : call Tryz.prog 157 [.int .u64 n] [.one (.int .i64)] w K := by
  apply bits_Len64_of
  unfold bits_Len64F
  refine join_mid (fun t w' => ∃ m c : Nat, t = ((m : Int), (c : Int)) ∧ w = w' ∧ m < 4294967296 ∧ c ≤ 32 ∧ bitsLen n = bitsLen m + c) ?_ ?_
  · refine cond_of (fun hc => ?_) (fun hc => ?_)
    · have h := of_decide_eq_true hc
      refine ⟨n / 2 ^ 32, 32, pair_eq (fdiv_nat n (2 ^ 32)) rfl, rfl, by omega, by omega, bitsLen_shift (by omega)⟩
    · have h := of_decide_eq_false hc
      exact ⟨n, 0, rfl, rfl, by omega, by omega, rfl⟩
  rintro t w' ⟨m, c, rfl, rfl, hm, hc1, he⟩
  dsimp only
  refine join_mid (fun t w' => ∃ m c : Nat, t = ((m : Int), (c : Int)) ∧ w = w' ∧ m < 65536 ∧ c ≤ 48 ∧ bitsLen n = bitsLen m + c) ?_ ?_
  · refine cond_of (fun hc => ?_) (fun hc => ?_)
    · have h := of_decide_eq_true hc
      refine ⟨m / 2 ^ 16, c + 16, pair_eq (fdiv_nat m (2 ^ 16)) (by rw [wi _ (by omega)]; omega), rfl, by omega, by omega, by rw [he, bitsLen_shift (n := m) (k := 16) (by omega)]; omega⟩
    · have h := of_decide_eq_false hc
      exact ⟨m, c, rfl, rfl, by omega, by omega, he⟩
  rintro t w' ⟨m, c, rfl, rfl, hm, hc1, he⟩
  dsimp only
  refine join_mid (fun t w' => ∃ m c : Nat, t = ((m : Int), (c : Int)) ∧ w = w' ∧ m < 256 ∧ c ≤ 56 ∧ bitsLen n = bitsLen m + c) ?_ ?_
  · refine cond_of (fun hc => ?_) (fun hc => ?_)
    · have h := of_decide_eq_true hc
      refine ⟨m / 2 ^ 8, c + 8, pair_eq (fdiv_nat m (2 ^ 8)) (by rw [wi _ (by omega)]; omega), rfl, by omega, by omega, by rw [he, bitsLen_shift (n := m) (k := 8) (by omega)]; omega⟩
    · have h := of_decide_eq_false hc
      exact ⟨m, c, rfl, rfl, by omega, by omega, he⟩
  rintro t w' ⟨m, c, rfl, rfl, hm, hc1, he⟩
  dsimp only
  have hb := bitsLen_lt (n := m) (k := 8) (by omega)
  rw [IntWalk.u8_in (m : Int) (by omega)]
  refine idxS_of (UInt8.ofNat (bitsLen m)) (by omega) ?_ ?_
  · rw [Int.toNat_natCast]
    clear he hb
    revert m
    decide +kernel
  · have e : (UInt8.ofNat (bitsLen m)).toNat = bitsLen m := by simp; omega
    rw [e, wi (bitsLen m : Nat) (by omega), wi _ (by omega)]
    rw [he] at hk
    rw [show (c : Int) + (bitsLen m : Nat) = ((bitsLen m + c : Nat) : Int) by omega]
    exact hk

theorem Len_ok {n : Nat} {w : World} {K : Int → World → Prop} (hn : n < 18446744073709551616) (hk : K (bitsLen n : Nat) w) : call Tryz.prog 125 [.int .u64 n] [.one (.int .i64)] w K := by
  apply bits_Len_of
  unfold bits_LenF
  exact Len64_ok hn hk

end Go.Proofs.YtmbcedengdoamaaGreatDoor
end

section
/- slices' sort of uint32: the pivot's choice, the broken patterns. Conditions: those that stand in each line. -/
set_option linter.unusedVariables false
set_option linter.unusedSimpArgs false
namespace Go.Proofs.YtmbcedengdoamaaGreatDoor
open Go Go.Pt Go.Sort
attribute [local irreducible] ld ldA st new idx idxS idxA slc slcS slcP mkS chk nn call callV inv run runQ runU join loop held IntKind.wrap

/-- Beside the array: a number in a block of the call's own. -/
structure Arr2 (blk : Nat) (T : ArrT) (w0 w : World) (d : Array Int) (sb : Nat) (k : IntKind) (v : Int) : Prop where
  arr : Arr blk T w0 w d
  cell : ∃ T2, w.heap[sb]? = some (.cells #[.int k v] T2 (0, 0))
  ne : sb ≠ blk
  new : w0.heap.size ≤ sb

section
variable {blk : Nat} {T : ArrT} {w0 w : World} {d : Array Int} {len cap sb : Nat} {k : IntKind} {v : Int}

theorem Arr2.drew (h : Arr2 blk T w0 w d sb k v) : Arr2 blk T w0 w.drew d sb k v := ⟨h.arr.drew, h.cell, h.ne, h.new⟩

theorem Arr2.get (h : Arr2 blk T w0 w d sb k v) {K : Int → Prop} (hk : K v) : ld (.int k) ⟨sb, 0, none⟩ w K := by
  obtain ⟨T2, hc⟩ := h.cell
  exact ld_blk hc v rfl hk

theorem Arr2.put (h : Arr2 blk T w0 w d sb k v) (u : Int) {K : World → Prop} (hk : ∀ w', Arr2 blk T w0 w' d sb k u → K w') : st ⟨sb, 0, none⟩ [.int k u] w K := by
  obtain ⟨T2, hc⟩ := h.cell
  unfold st
  refine st_blk (w := w) [.int k u] 0 0 _ w K hc rfl (by simp) (hk _ ⟨⟨?_, ?_⟩, ⟨T2, ?_⟩, h.ne, h.new⟩)
  · refine h.arr.fr.trans' (T := [sb]) ⟨rfl, rfl, rfl, by rw [size_upd]; exact Nat.le_refl _, fun j hj hS => ?_⟩ (fun i hi => .inr ?_)
    · rw [heap_upd _ _ _ _ (lt_of_blk hc), if_neg (by simpa using hS)]
    · have := h.new
      simp at hi; omega
  · rw [heap_upd _ _ _ _ (lt_of_blk hc), if_neg (fun e => h.ne e.symm)]
    exact h.arr.blk
  · rw [heap_upd _ _ _ _ (lt_of_blk hc), if_pos rfl]
    rfl

theorem Arr2.mk' (h : Arr blk T w0 w d) (T2 : TypeId) (u : Int) {K : Nat → World → Prop} (hk : ∀ b w', Arr2 blk T w0 w' d b k u → K b w') : Pt.new (.cells #[.int k u] T2 (0, 0)) w K := by
  unfold Pt.new
  refine hk _ _ ⟨⟨h.fr.alloc _, ?_⟩, ⟨T2, ?_⟩, ?_, h.fr.size⟩
  · have := lt_of_blk h.blk
    rw [heap_alloc, if_neg (by omega)]
    exact h.blk
  · rw [heap_alloc, if_pos rfl]
  · have := lt_of_blk h.blk
    omega

theorem Order2_ok {a b : Nat} {K : Int × Int → World → Prop} (h : Arr2 blk T w0 w d sb .i64 v) (ha : a < len) (hb : b < len) (hl : len ≤ d.size ∧ len ≤ 1152921504606846976)
    (hk : ∀ (p q : Nat) u w', (p = a ∧ q = b ∨ p = b ∧ q = a) → Arr2 blk T w0 w' d sb .i64 u → K ((p : Int), (q : Int)) w') :
    call Tryz.prog 177 [.slice (some ⟨blk, 0, none⟩) len cap, .int .i64 a, .int .i64 b, .pointer (some ⟨sb, 0, none⟩)] [.one (.int .i64), .one (.int .i64)] w K := by
  refine slices_order2Ordered_of (data := ⟨some ⟨blk, 0, none⟩, len, cap⟩) ?_
  unfold slices_order2OrderedF
  refine h.arr.drew.rd b rfl hb hl ?_
  refine h.arr.drew.rd a rfl ha hl ?_
  refine Less_ok ?_
  refine cond_of (fun hc => ?_) (fun hc => ?_)
  · refine nn_some ?_
    refine h.drew.get ?_
    refine nn_some ?_
    exact h.drew.put _ fun w' h => hk b a _ _ (.inr ⟨rfl, rfl⟩) h
  · exact hk a b _ _ (.inl ⟨rfl, rfl⟩) h.drew

theorem Median_ok {a b c : Nat} {K : Int → World → Prop} (h : Arr2 blk T w0 w d sb .i64 v) (ha : a < len) (hb : b < len) (hc : c < len) (hl : len ≤ d.size ∧ len ≤ 1152921504606846976)
    (hk : ∀ (p : Nat) u w', (p = a ∨ p = b ∨ p = c) → Arr2 blk T w0 w' d sb .i64 u → K (p : Int) w') :
    call Tryz.prog 172 [.slice (some ⟨blk, 0, none⟩) len cap, .int .i64 a, .int .i64 b, .int .i64 c, .pointer (some ⟨sb, 0, none⟩)] [.one (.int .i64)] w K := by
  refine slices_medianOrdered_of (data := ⟨some ⟨blk, 0, none⟩, len, cap⟩) ?_
  unfold slices_medianOrderedF
  dsimp only
  refine Order2_ok h ha hb hl fun p q u w1 hp h => ?_
  dsimp only
  refine Order2_ok h (by omega) hc hl fun p' q' u w1 hp' h => ?_
  dsimp only
  refine Order2_ok h (by omega) (by omega) hl fun p'' q'' u w1 hp'' h => ?_
  exact hk _ _ _ (by omega) h

theorem MedAdj_ok {a : Nat} {K : Int → World → Prop} (h : Arr2 blk T w0 w d sb .i64 v) (ha : 1 ≤ a) (hb : a + 1 < len) (hl : len ≤ d.size ∧ len ≤ 1152921504606846976)
    (hk : ∀ (p : Nat) u w', (a ≤ p + 1 ∧ p ≤ a + 1) → Arr2 blk T w0 w' d sb .i64 u → K (p : Int) w') :
    call Tryz.prog 171 [.slice (some ⟨blk, 0, none⟩) len cap, .int .i64 a, .pointer (some ⟨sb, 0, none⟩)] [.one (.int .i64)] w K := by
  refine slices_medianAdjacentOrdered_of (data := ⟨some ⟨blk, 0, none⟩, len, cap⟩) ?_
  unfold slices_medianAdjacentOrderedF
  dsimp only
  rw [wi ((a : Int) - 1) (by omega), wi ((a : Int) + 1) (by omega), show (a : Int) - 1 = ((a - 1 : Nat) : Int) by omega, show (a : Int) + 1 = ((a + 1 : Nat) : Int) by omega]
  exact Median_ok h (by omega) (by omega) (by omega) hl fun p u w' hp h => hk p u w' (by omega) h

theorem Pivot_ok {a b : Nat} {K : Int × Int → World → Prop} (h : Arr blk T w0 w d) (hab : a < b) (hb : b ≤ len) (hl : len ≤ d.size ∧ len ≤ 1152921504606846976)
    (hk : ∀ (p : Nat) (x : Int) w', a ≤ p ∧ p < b → Arr blk T w0 w' d → K ((p : Int), x) w') :
    call Tryz.prog 150 [.slice (some ⟨blk, 0, none⟩) len cap, .int .i64 a, .int .i64 b] [.one (.int .i64), .one (.int .i64)] w K := by
  refine slices_choosePivotOrdered_of (data := ⟨some ⟨blk, 0, none⟩, len, cap⟩) ?_
  unfold slices_choosePivotOrderedF
  dsimp only
  have e0 : IntKind.i64.wrap ((b : Int) - a) = ((b - a : Nat) : Int) := by rw [wi _ (by omega)]; omega
  have e4 : Int.tdiv ((b - a : Nat) : Int) 4 = (((b - a) / 4 : Nat) : Int) := by rw [Int.tdiv_eq_ediv_of_nonneg (by omega)]; omega
  have e1 : ∀ m : Nat, m ≤ 3 → IntKind.i64.wrap ((a : Int) + IntKind.i64.wrap (IntKind.i64.wrap (((b - a) / 4 : Nat) : Int) * (m : Int))) = ((a + (b - a) / 4 * m : Nat) : Int) := by
    intro m hm
    have hq : (b - a) / 4 * m ≤ (b - a) / 4 * 3 := Nat.mul_le_mul_left _ hm
    have hz : (((b - a) / 4 : Nat) : Int) * (m : Int) = (((b - a) / 4 * m : Nat) : Int) := by push_cast; rfl
    rw [wi (((b - a) / 4 : Nat) : Int) (by omega), hz, wi (((b - a) / 4 * m : Nat) : Int) (by omega), wi _ (by omega)]
    omega
  have f1 := e1 1 (by omega)
  have f2 := e1 2 (by omega)
  have f3 := e1 3 (by omega)
  simp only [Int.cast_ofNat_Int] at f1 f2 f3
  rw [e0, e4, f1, f2, f3]
  refine Arr2.mk' h _ _ fun sb w1 h => ?_
  refine join_mid (fun x w' => ∃ (p : Nat) (u : Int), x = p ∧ a ≤ p ∧ p < b ∧ Arr2 blk T w0 w' d sb .i64 u) ?_ ?_
  · refine cond_of (fun hc => ?_) (fun hc => ?_)
    · have h8 : b - a ≥ 8 := by have := of_decide_eq_true hc; omega
      refine join_mid (fun x w' => ∃ (p q r : Nat) (u : Int), x = ((p : Int), (q : Int), (r : Int)) ∧ a ≤ p ∧ p < b ∧ a ≤ q ∧ q < b ∧ a ≤ r ∧ r < b ∧ Arr2 blk T w0 w' d sb .i64 u) ?_ ?_
      · refine cond_of (fun hc => ?_) (fun hc => ?_)
        · have h50 : b - a ≥ 50 := by have := of_decide_eq_true hc; omega
          refine MedAdj_ok h (by omega) (by omega) hl fun p u w2 hp h => ?_
          refine MedAdj_ok h (by omega) (by omega) hl fun q u w2 hq h => ?_
          refine MedAdj_ok h (by omega) (by omega) hl fun r u w2 hr h => ?_
          exact ⟨p, q, r, u, rfl, by omega, by omega, by omega, by omega, by omega, by omega, h⟩
        · exact ⟨_, _, _, _, rfl, by omega, by omega, by omega, by omega, by omega, by omega, h⟩
      · rintro x w2 ⟨p, q, r, u, rfl, hp1, hp2, hq1, hq2, hr1, hr2, h⟩
        dsimp only
        refine Median_ok h (by omega) (by omega) (by omega) hl fun m u w3 hm h => ?_
        exact ⟨m, u, rfl, by omega, by omega, h⟩
    · exact ⟨_, _, rfl, by omega, by omega, h⟩
  · rintro x w2 ⟨p, u, rfl, hp1, hp2, h⟩
    refine h.get ?_
    refine cond_of (fun hc => ?_) (fun hc => ?_)
    · exact hk _ _ _ ⟨hp1, hp2⟩ h.arr
    · refine cond_of (fun hc => ?_) (fun hc => ?_)
      · exact hk _ _ _ ⟨hp1, hp2⟩ h.arr
      · exact hk _ _ _ ⟨hp1, hp2⟩ h.arr

end
end Go.Proofs.YtmbcedengdoamaaGreatDoor
end

section
/- slices' sort of uint32: the broken patterns. Conditions: those that stand in each line. -/
set_option linter.unusedVariables false
set_option linter.unusedSimpArgs false
namespace Go.Proofs.YtmbcedengdoamaaGreatDoor
open Go Go.Pt Go.Sort
attribute [local irreducible] ld ldA st new idx idxS idxA slc slcS slcP mkS chk nn call callV inv run runQ runU join loop held IntKind.wrap

section
variable {blk : Nat} {T : ArrT} {w0 w : World} {d : Array Int} {len cap sb : Nat} {k : IntKind} {v : Int}

theorem Arr.self (h : Arr blk T w0 w d) : Arr blk T w w d := ⟨.refl _ _, h.blk⟩

theorem Arr2.step (h : Arr2 blk T w0 w d sb k v) {w' : World} {d' : Array Int} (g : Arr blk T w w' d') : Arr2 blk T w0 w' d' sb k v := by
  obtain ⟨T2, hc⟩ := h.cell
  refine ⟨⟨h.arr.fr.trans g.fr, g.blk⟩, ⟨T2, ?_⟩, h.ne, h.new⟩
  rw [g.fr.block sb (lt_of_blk hc) (by simpa using h.ne)]
  exact hc

theorem Next_ok {K : Int → World → Prop} (h : Arr2 blk T w0 w d sb .u64 v) (hk : ∀ (x : Int) w', 0 ≤ x ∧ x ≤ 18446744073709551615 → Arr2 blk T w0 w' d sb .u64 x → K x w') :
    call Tryz.prog 170 [.pointer (some ⟨sb, 0, none⟩)] [.one (.int .u64)] w K := by
  refine slices_xorshift_Next_of (r := some ⟨sb, 0, none⟩) ?_
  unfold slices_xorshift_NextF
  refine nn_some (h.drew.get (nn_some (h.drew.get (nn_some (h.drew.put _ fun w1 h => ?_)))))
  refine nn_some (h.drew.get (nn_some (h.drew.get (nn_some (h.drew.put _ fun w1 h => ?_)))))
  refine nn_some (h.drew.get (nn_some (h.drew.get (nn_some (h.drew.put _ fun w1 h => ?_)))))
  refine nn_some (h.get ?_)
  exact hk _ _ (bits_within .xor .u64 _ _) h

theorem Pow_ok {n : Nat} {w : World} {K : Int → World → Prop} (hn : 1 ≤ n ∧ n ≤ 1152921504606846976) (hk : K ((2 ^ bitsLen n : Nat) : Int) w) : call Tryz.prog 169 [.int .i64 n] [.one (.int .u64)] w K := by
  apply slices_nextPowerOfTwo_of
  unfold slices_nextPowerOfTwoF
  rw [IntWalk.u64_in (n : Int) (by omega)]
  refine Len_ok (by omega) ?_
  refine chk_of (by omega) ?_
  have h1 := two_pow_bitsLen_le (n := n) (by omega)
  have h2 : bitsLen n ≤ 61 := (bitsLen_le_iff n 61).2 (by omega)
  rw [Int.toNat_natCast, Nat.min_eq_left (by omega)]
  have e : (1 : Int) * 2 ^ bitsLen n = ((2 ^ bitsLen n : Nat) : Int) := by rw [Int.one_mul]; push_cast; rfl
  have hnn : (0 : Int) ≤ ((2 ^ bitsLen n : Nat) : Int) := Int.natCast_nonneg _
  rw [e, IntWalk.u64_in _ (by omega)]
  exact hk

theorem Break_ok {a b : Nat} {K : Unit → World → Prop} (h : Arr blk T w0 w d) (hab : a ≤ b) (hb : b ≤ len) (hl : len ≤ d.size ∧ len ≤ 1152921504606846976)
    (hk : ∀ d' w', PermIn a b d d' → Arr blk T w0 w' d' → K () w') :
    call Tryz.prog 149 [.slice (some ⟨blk, 0, none⟩) len cap, .int .i64 a, .int .i64 b] [] w K := by
  refine slices_breakPatternsOrdered_of (data := ⟨some ⟨blk, 0, none⟩, len, cap⟩) ?_
  unfold slices_breakPatternsOrderedF
  have e0 : IntKind.i64.wrap ((b : Int) - a) = ((b - a : Nat) : Int) := by rw [wi _ (by omega)]; omega
  rw [e0]
  refine cond_of (fun hc => ?_) (fun hc => ?_)
  · have h8 : b - a ≥ 8 := by have := of_decide_eq_true hc; omega
    have e4 : Int.tdiv ((b - a : Nat) : Int) 4 = (((b - a) / 4 : Nat) : Int) := by rw [Int.tdiv_eq_ediv_of_nonneg (by omega)]; omega
    have e1 : IntKind.i64.wrap ((a : Int) + IntKind.i64.wrap (IntKind.i64.wrap (((b - a) / 4 : Nat) : Int) * 2)) = ((a + (b - a) / 4 * 2 : Nat) : Int) := by
      rw [wi (((b - a) / 4 : Nat) : Int) (by omega), wi ((((b - a) / 4 : Nat) : Int) * 2) (by omega), wi _ (by omega)]
      omega
    rw [e4, e1, IntWalk.u64_in ((b - a : Nat) : Int) (by omega)]
    refine Arr2.mk' h _ _ fun sb w1 h => ?_
    refine h.put _ fun w2 h => ?_
    refine Pow_ok (by omega) ?_
    have hp1 := two_pow_bitsLen_le (n := b - a) (by omega)
    have hp2 := Nat.two_pow_pos (bitsLen (b - a))
    rw [wi (_ - 1) (by omega), wi (_ + 1) (by omega)]
    refine loop_ind (fun x w' => ∃ (i : Nat) (d' : Array Int) (u : Int), x = i ∧ a ≤ i ∧ i ≤ a + (b - a) / 4 * 2 + 2 ∧ PermIn a b d d' ∧ Arr2 blk T w0 w' d' sb .u64 u) (fun x _ => (((a + (b - a) / 4 * 2 + 2 : Nat) : Int) - x).toNat)
      ⟨a + (b - a) / 4 * 2 - 1, d, _, by omega, by omega, by omega, permIn_refl _ _ _, h⟩ ?_
    rintro x w3 ⟨i, d1, u, rfl, hi1, hi2, hp, h⟩ X hX
    have hs1 := hp.1
    refine cond_of (fun hc => ?_) (fun hc => ?_)
    · have hi3 : i ≤ a + (b - a) / 4 * 2 + 1 := by have := of_decide_eq_true hc; omega
      refine Next_ok h fun y w4 hy h => ?_
      obtain ⟨z, rfl⟩ : ∃ z : Nat, y = z := ⟨y.toNat, by omega⟩
      have ez : bits .and .u64 (z : Int) (IntKind.u64.wrap (((2 ^ bitsLen (b - a) : Nat) : Int) - 1)) = ((z % 2 ^ bitsLen (b - a) : Nat) : Int) := by
        rw [IntWalk.u64_in _ (by omega), show ((2 ^ bitsLen (b - a) : Nat) : Int) - 1 = ((2 ^ bitsLen (b - a) - 1 : Nat) : Int) by omega, bits_and_u64_nat z _ (by omega) (by omega), Nat.and_two_pow_sub_one_eq_mod]
      rw [ez]
      have hz := Nat.mod_lt z hp2
      rw [wi ((z % 2 ^ bitsLen (b - a) : Nat) : Int) (by omega)]
      refine join_mid (fun x w' => ∃ o : Nat, x = o ∧ o < b - a ∧ Arr2 blk T w0 w' d1 sb .u64 z) ?_ ?_
      · refine cond_of (fun hc => ?_) (fun hc => ?_)
        · have := of_decide_eq_true hc
          exact ⟨z % 2 ^ bitsLen (b - a) - (b - a), by rw [wi _ (by omega)]; omega, by omega, h⟩
        · have := of_decide_eq_false hc
          exact ⟨z % 2 ^ bitsLen (b - a), rfl, by omega, h⟩
      · rintro x w5 ⟨o, rfl, ho, h⟩
        refine h.drew.arr.self.swap i (a + o) rfl (by rw [wi _ (by omega)]; omega) (by omega) (by omega) (by omega) fun w6 h6 => ?_
        rw [wi _ (by omega)]
        exact hX _ _ ⟨i + 1, _, _, by omega, by omega, by omega, permIn_trans _ _ _ _ _ hp (swp_permIn _ _ _ _ _ (by omega) (by omega) (by omega) (by omega) (by omega)), h.drew.step h6⟩ (by omega)
    · exact hk d1 _ hp h.arr
  · exact hk d _ (permIn_refl _ _ _) h

end
end Go.Proofs.YtmbcedengdoamaaGreatDoor
end

section
/- slices.Sort at uint32: it sorts. Conditions: those that stand in each line. -/
set_option linter.unusedVariables false
set_option linter.unusedSimpArgs false
namespace Go.Proofs.YtmbcedengdoamaaGreatDoor
open Go Go.Pt Go.Sort
attribute [local irreducible] ld ldA st new idx idxS idxA slc slcS slcP mkS chk nn call callV inv run runQ runU join loop held IntKind.wrap

section
variable {blk : Nat} {T : ArrT} {len cap : Nat}

theorem Pdq_ok : ∀ (n : Nat) {w0 w : World} {d : Array Int} {a b : Nat} {limit : Int} {K : Unit → World → Prop}, b - a ≤ n → Arr blk T w0 w d → a ≤ b → b ≤ len → (len ≤ d.size ∧ len ≤ 1152921504606846976) → Sort.Below ltInt a b d →
    (∀ d' w', PermIn a b d d' → SortedIn ltInt a b d' → Arr blk T w0 w' d' → K () w') →
    call Tryz.prog 124 [.slice (some ⟨blk, 0, none⟩) len cap, .int .i64 a, .int .i64 b, .int .i64 limit] [] w K := by
  intro n
  induction n using Nat.strongRecOn with
  | _ n ih =>
  intro w0 w d a0 b0 limit0 K hn h hab hb hl hB hk
  refine slices_pdqsortOrdered_of (data := ⟨some ⟨blk, 0, none⟩, len, cap⟩) ?_
  unfold slices_pdqsortOrderedF
  dsimp only
  refine loop_ind (fun x w' => ∃ (a b : Nat) (l : Int) (wb wp : Bool) (d' : Array Int), x = ((a : Int), (b : Int), l, wb, wp) ∧ b - a ≤ n ∧ a ≤ b ∧ b ≤ len ∧ d'.size = d.size ∧ Sort.Below ltInt a b d' ∧ Arr blk T w0 w' d' ∧
      ∀ R, PermIn a b d' R → SortedIn ltInt a b R → PermIn a0 b0 d R ∧ SortedIn ltInt a0 b0 R) (fun x _ => (x.2.1 - x.1).toNat)
    ⟨a0, b0, limit0, true, true, d, rfl, hn, hab, hb, rfl, hB, h, fun R h1 h2 => ⟨h1, h2⟩⟩ ?_
  rintro x w1 ⟨a, b, l, wb, wp, d1, rfl, hn1, hab, hb, hs1, hB, h, hR⟩ X hX
  dsimp only
  have e0 : IntKind.i64.wrap ((b : Int) - a) = ((b - a : Nat) : Int) := by rw [wi _ (by omega)]; omega
  rw [e0]
  refine cond_of (fun hc => ?_) (fun hc => ?_)
  · refine Ins_ok h hab hb (by omega) fun w2 h => ?_
    obtain ⟨h1, h2⟩ := insertionSort_holds swo d1 a b hab (by omega)
    obtain ⟨h3, h4⟩ := hR _ h1 h2
    exact hk _ _ h3 h4 h
  have h12 : 12 < b - a := by have := of_decide_eq_false hc; omega
  refine cond_of (fun hc => ?_) (fun hc => ?_)
  · refine Heap_ok h hab hb (by omega) fun w2 h => ?_
    obtain ⟨h1, h2⟩ := heapSort_holds swo d1 a b hab (by omega)
    obtain ⟨h3, h4⟩ := hR _ h1 h2
    exact hk _ _ h3 h4 h
  refine join_mid (fun _ w' => ∃ d2, PermIn a b d1 d2 ∧ Arr blk T w0 w' d2) ?_ ?_
  · refine cond_of (fun hc => ?_) (fun hc => ?_)
    · exact Break_ok h hab hb (by omega) fun d2 w2 hp h => ⟨d2, hp, h⟩
    · exact ⟨d1, permIn_refl _ _ _, h⟩
  rintro lim w2 ⟨d2, hp2, h⟩
  have hs2 := hp2.1
  refine Pivot_ok h (by omega) hb (by omega) fun p hint w3 hpp h => ?_
  dsimp only
  refine join_mid (fun x w' => ∃ (p : Nat) (hint : Int) (d3 : Array Int), x = ((p : Int), hint) ∧ a ≤ p ∧ p < b ∧ PermIn a b d1 d3 ∧ Arr blk T w0 w' d3) ?_ ?_
  · refine cond_of (fun hc => ?_) (fun hc => ?_)
    · refine Rev_ok h (by omega) hb (by omega) fun w4 h => ?_
      refine ⟨(b - 1) - (p - a), 1, _, pair_eq ?_ rfl, by omega, by omega, permIn_trans _ _ _ _ _ hp2 (reverseRange_holds _ _ _ hab (by omega)), h⟩
      rw [wi ((b : Int) - 1) (by omega), wi ((p : Int) - a) (by omega), wi _ (by omega)]
      omega
    · exact ⟨p, hint, d2, rfl, hpp.1, hpp.2, hp2, h⟩
  rintro x w4 ⟨p, hint, d3, rfl, hp1, hp2, hp3, h⟩
  have hs3 := hp3.1
  dsimp only
  refine join_mid (fun _ w' => ∃ d4, PermIn a b d1 d4 ∧ Arr blk T w0 w' d4) ?_ ?_
  · refine join_mid (fun _ w' => Arr blk T w0 w' d3) ?_ ?_
    · refine cond_of (fun hc => ?_) (fun hc => ?_)
      · refine cond_of (fun hc => ?_) (fun hc => ?_)
        · exact h
        · exact h
      · exact h
    · rintro c w5 h
      refine cond_of (fun hc => ?_) (fun hc => ?_)
      · refine Short_ok h (by omega) hb (by omega) fun w6 h => ?_
        obtain ⟨h1, h2⟩ := partialInsertionSort_holds swo d3 a b (by omega) (by omega) (hB.perm (by omega) hp3)
        refine cond_of (fun hc => ?_) (fun hc => ?_)
        · obtain ⟨h3, h4⟩ := hR _ (permIn_trans _ _ _ _ _ hp3 h1) (h2 hc)
          exact hk _ _ h3 h4 h
        · exact ⟨_, permIn_trans _ _ _ _ _ hp3 h1, h⟩
      · exact ⟨d3, hp3, h⟩
  rintro _ w5 ⟨d4, hp4, h⟩
  have hs4 := hp4.1
  have hB4 := hB.perm (by omega) hp4
  refine join_mid (fun c w' => c = (decide (0 < a) && !ltInt d4[a - 1]! d4[p]!) ∧ Arr blk T w0 w' d4) ?_ ?_
  · refine cond_of (fun hc => ?_) (fun hc => ?_)
    · have ha : 0 < a := by have := of_decide_eq_true hc; omega
      refine h.drew.rd (a - 1) (by rw [wi _ (by omega)]; omega) (by omega) (by omega) ?_
      refine h.drew.rd p rfl (by omega) (by omega) ?_
      refine Less_ok ?_
      exact ⟨by simp [ha], h.drew⟩
    · have ha : ¬ 0 < a := by have := of_decide_eq_false hc; omega
      exact ⟨by simp [ha], h.drew⟩
  rintro c w6 ⟨rfl, h⟩
  refine cond_of (fun hc => ?_) (fun hc => ?_)
  · simp only [Bool.and_eq_true, decide_eq_true_eq, Bool.not_eq_true'] at hc
    have hr := round_eq swo (partitionEqual_holds ltInt) hc.1 hp1 hp2 (by omega) hB4 hc.2 (mid := (Sort.partitionEqual ltInt d4 a b p).1) (d4 := (Sort.partitionEqual ltInt d4 a b p).2) rfl
    refine PartEq_ok h hp1 hp2 hb (by omega) fun w7 h => ?_
    obtain ⟨h1, h2, h3, h4, h5⟩ := hr
    refine hX _ _ ⟨_, b, lim, wb, wp, _, rfl, by omega, h2, hb, by omega, h4, h, fun R r1 r2 => ?_⟩ (by dsimp only; omega)
    obtain ⟨q1, q2⟩ := h5 R r1 r2
    exact hR R (permIn_trans _ _ _ _ _ hp4 q1) q2
  · have hr := round_part swo (partition_holds ltInt) hp1 hp2 (by omega) hB4 (mid := (Sort.partition ltInt d4 a b p).1) (ap := (Sort.partition ltInt d4 a b p).2.1) (d4 := (Sort.partition ltInt d4 a b p).2.2) rfl
    refine Part_ok h hp1 hp2 hb (by omega) fun w7 h => ?_
    obtain ⟨h1, h2, h3, h4, h5, h6, h7⟩ := hr
    dsimp only
    generalize (Sort.partition ltInt d4 a b p).1 = mid at *
    generalize (Sort.partition ltInt d4 a b p).2.2 = d5 at *
    rw [wi ((mid : Int) - a) (by omega), wi ((b : Int) - mid) (by omega), wi ((mid : Int) + 1) (by omega), show (mid : Int) + 1 = ((mid + 1 : Nat) : Int) by omega]
    refine cond_of (fun hc => ?_) (fun hc => ?_)
    · have hlt : mid - a < b - mid := by have := of_decide_eq_true hc; omega
      refine ih (mid - a) (by omega) (Nat.le_refl _) h h1 (by omega) (by omega) h4 fun d6 w8 r1 r2 h => ?_
      obtain ⟨q1, q2⟩ := h6 d6 r1 r2
      refine hX _ _ ⟨mid + 1, b, lim, _, _, d6, rfl, by omega, by omega, hb, by have := r1.1; omega, q1, h, fun R s1 s2 => ?_⟩ (by dsimp only; omega)
      obtain ⟨t1, t2⟩ := q2 R s1 s2
      exact hR R (permIn_trans _ _ _ _ _ hp4 t1) t2
    · refine ih (b - (mid + 1)) (by omega) (Nat.le_refl _) h (by omega) hb (by omega) h5 fun d6 w8 r1 r2 h => ?_
      obtain ⟨q1, q2⟩ := h7 d6 r1 r2
      refine hX _ _ ⟨a, mid, lim, _, _, d6, rfl, by omega, by omega, by omega, by have := r1.1; omega, q1, h, fun R s1 s2 => ?_⟩ (by dsimp only; omega)
      obtain ⟨t1, t2⟩ := q2 R s1 s2
      exact hR R (permIn_trans _ _ _ _ _ hp4 t1) t2

theorem Sort_ok {w0 w : World} {d : Array Int} {K : Unit → World → Prop} (h : Arr blk T w0 w d) (hl : len ≤ d.size ∧ len ≤ 1152921504606846976)
    (hk : ∀ d' w', PermIn 0 len d d' → SortedIn ltInt 0 len d' → Arr blk T w0 w' d' → K () w') :
    call Tryz.prog 91 [.slice (some ⟨blk, 0, none⟩) len cap] [] w K := by
  refine slices_Sort_of (x := ⟨some ⟨blk, 0, none⟩, len, cap⟩) ?_
  unfold slices_SortF
  dsimp only
  rw [IntWalk.u64_in (len : Int) (by omega)]
  refine Len_ok (by omega) ?_
  exact Pdq_ok len (a := 0) (by omega) h (by omega) (Nat.le_refl _) hl (.inl rfl) hk

theorem Sort_nil {w : World} {K : Unit → World → Prop} (hk : K () w) : call Tryz.prog 91 [.slice none 0 0] [] w K := by
  refine slices_Sort_of (x := ⟨none, 0, 0⟩) ?_
  unfold slices_SortF
  dsimp only
  rw [IntWalk.u64_in ((0 : Nat) : Int) (by omega)]
  refine Len_ok (n := 0) (by omega) ?_
  refine slices_pdqsortOrdered_of (data := ⟨none, 0, 0⟩) ?_
  unfold slices_pdqsortOrderedF
  refine loop_step fun X hX => ?_
  refine cond_true (by decide +kernel) ?_
  refine slices_insertionSortOrdered_of (data := ⟨none, 0, 0⟩) ?_
  unfold slices_insertionSortOrderedF
  refine loop_step fun X hX => ?_
  exact cond_false (by decide +kernel) hk

end
end Go.Proofs.YtmbcedengdoamaaGreatDoor
end

section
/- The pool: Clone of the row, List. Conditions: those that stand in each line. -/
set_option linter.unusedVariables false
set_option linter.unusedSimpArgs false
namespace Go.Proofs.YtmbcedengdoamaaGreatDoor
open Go Go.Pt Go.Sort
attribute [local irreducible] ld ldA st new idx idxS idxA slc slcS slcP mkS chk nn call callV inv run runQ runU join loop held IntKind.wrap

theorem Clone_ok {w : World} {rb n cap : Nat} {d : Array Int} {T : TypeId} {K : Sl → World → Prop} (hrb : w.heap[rb]? = some (.cells (u32s d) T (0, 0))) (hnd : n ≤ d.size) (hn : n ≤ 1000000)
    (hk : ∀ b d' cap' T' w', w'.heap[b]? = some (.cells (u32s d') T' (0, 0)) → n ≤ d'.size → n ≤ cap' ∧ cap' ≤ d'.size → d'.toList.take n = d.toList.take n → w.heap.size ≤ b → Fr [] w w' → K ⟨some ⟨b, 0, none⟩, n, cap'⟩ w') :
    call Tryz.prog 82 [.slice (some ⟨rb, 0, none⟩) n cap] [.one .slice] w K := by
  obtain ⟨i31, hi, hz, hsz, hby⟩ := info31
  refine slices_Clone_of (s := ⟨some ⟨rb, 0, none⟩, n, cap⟩) ?_
  unfold slices_CloneF
  refine cond_false rfl ?_
  have ho := Own.start [] w
  refine Own.new ho fun tb w1 et st1 ho => ?_
  have hr1 : w1.heap[rb]? = some (.cells (u32s d) T (0, 0)) := by rw [ho.fr.block rb (lt_of_blk hrb) (by simp)]; exact hrb
  have hnews : ∀ (j : Nat) u, ((d.toList.take n).map (Value.int .u32))[j]? = some u → w1.cell? ((⟨rb, 0, none⟩ : Addr).add j) = some u := fun j u hj => by
    rw [Addr.add_mk, cell_of_blk hr1, Nat.zero_add]
    rw [List.getElem?_map, List.getElem?_take] at hj
    by_cases hjn : j < n
    · rw [if_pos hjn] at hj
      unfold u32s
      rw [Array.getElem?_map]
      simpa using hj
    · rw [if_neg hjn] at hj; cases hj
  have hlen : ((d.toList.take n).map (Value.int .u32)).length = n := by simp; omega
  dsimp only
  by_cases h0 : n = 0
  · subst h0
    refine app_fit (P := Tryz.prog) (e := 29) (by kernel_rfl) hi [] (ho.at (i := 0) rfl) (by simp) (fun j u hj => by simp at hj) (by simp) (by omega) (by simp) ?_
    have ho2 := ho.upd (o' := .cells (splice #[] (0 + 0 * i31.size) []) 29 (0, 0)) 0 rfl
    have := ho2.at (i := 0) rfl
    have e : u32s #[] = #[] := by simp [u32s]
    exact hk tb #[] 0 29 _ (by rw [e]; exact this) (by simp) ⟨Nat.le_refl _, Nat.le_refl _⟩ (by simp) (by omega) ho2.fr
  · refine app_grow (P := Tryz.prog) (e := 29) (by kernel_rfl) hi hz [] ((d.toList.take n).map (Value.int .u32)) (by simp) (fun j u hj => by simp at hj) (by rw [hlen, hsz]; omega) hnews (by omega) (by rw [hby]; omega) (by omega) fun q hq1 hq2 => ?_
    rw [zero_cells _ _ rfl]
    have hcs : ([] : List Value).toArray ++ ((d.toList.take n).map (Value.int .u32)).toArray ++ Array.replicate (q - (0 + n)) (.int .u32 0) = u32s ((d.toList.take n ++ List.replicate (q - (0 + n)) (0 : Int)).toArray) := by
      rw [u32s_list]
      apply Array.ext'
      simp
    rw [hcs]
    have ho := ho.drew.alloc (.cells (u32s ((d.toList.take n ++ List.replicate (q - (0 + n)) (0 : Int)).toArray)) 29 (0, 0))
    have hl : (d.toList.take n).length = n := by simp; omega
    rw [Nat.zero_add]
    refine hk _ _ q _ _ (by have := ho.at (i := 0) rfl; rw [Nat.zero_add] at this; exact this) (by simp; omega) ⟨by omega, by simp; omega⟩ ?_ (by show w.heap.size ≤ w1.heap.size; omega) (by rw [Nat.zero_add] at ho; exact ho.fr)
    show ((d.toList.take n ++ List.replicate (q - n) (0 : Int))).take n = _
    rw [List.take_append_of_le_length (by omega), List.take_take, Nat.min_self]

theorem perm_sorted_eq : ∀ {l1 l2 : List Int}, l1.Perm l2 → l1.Pairwise (· ≤ ·) → l2.Pairwise (· ≤ ·) → l1 = l2
  | [], l2, h, _, _ => h.nil_eq
  | a :: l1, [], h, _, _ => absurd h.symm.nil_eq (by simp)
  | a :: l1, b :: l2, h, h1, h2 => by
    have h1' := List.pairwise_cons.1 h1
    have h2' := List.pairwise_cons.1 h2
    have hab : a = b := by
      have m1 : a ∈ b :: l2 := h.mem_iff.1 (by simp)
      have m2 : b ∈ a :: l1 := h.mem_iff.2 (by simp)
      rcases List.mem_cons.1 m1 with e | e
      · exact e
      · rcases List.mem_cons.1 m2 with e' | e'
        · exact e'.symm
        · have := h2'.1 a e
          have := h1'.1 b e'
          omega
    subst hab
    rw [perm_sorted_eq h.cons_inv h1'.2 h2'.2]

/-- A slice that is told: nil, or a fresh block from its beginning on. -/
def Told (w w' : World) (s : Sl) (l : List Int) : Prop :=
  (l = [] ∧ s = ⟨none, 0, 0⟩) ∨ ∃ b d T cap, s = ⟨some ⟨b, 0, none⟩, l.length, cap⟩ ∧ w'.heap[b]? = some (.cells (u32s d) T (0, 0)) ∧ l.length ≤ d.size ∧ l.length ≤ cap ∧ d.toList.take l.length = l ∧ w.heap.size ≤ b ∧ cap ≤ d.size

theorem List_ok {w : World} {pb : Nat} {F : List Nat} {l : List Int} {K : Sl → World → Prop} (h : PoolAt w pb F l) (hl : l.length ≤ 1000000)
    (hk : ∀ s w', Told w w' s l → Fr [] w w' → K s w') : call Tryz.prog 40 [.pointer (some ⟨pb, 0, none⟩)] [.one .slice] w K := by
  refine pool_Pool_List_of (p := some ⟨pb, 0, none⟩) ?_
  unfold pool_Pool_ListF
  have hsort := h.sorted
  obtain ⟨mb, R, d, f, rfl, hr, hm, hp, hh, hf, h1⟩ := h.ex
  rcases hr with ⟨h0, hd, hR, hb⟩ | ⟨rb, T, hR, hb, hrb, hne, hnd⟩
  · have hl0 : l = [] := List.eq_nil_of_length_eq_zero h0
    subst hl0
    refine nn_some ?_
    refine ld_blk (c := .slice) hb ⟨none, 0, 0⟩ rfl ?_
    refine slices_Clone_of (s := ⟨none, 0, 0⟩) ?_
    unfold slices_CloneF
    refine cond_true rfl ?_
    refine Sort_nil ?_
    exact hk _ _ (.inl ⟨rfl, rfl⟩) (.refl _ _)
  · refine nn_some ?_
    refine ld_blk (c := .slice) hb ⟨some ⟨rb, 0, none⟩, l.length, d.size⟩ rfl ?_
    dsimp only
    refine Clone_ok hrb hnd hl fun b d' cap' T' w' c1 c2 c2' c3 c4 c5 => ?_
    dsimp only
    refine Sort_ok (.start c1) ⟨c2, by omega⟩ fun d2 w2 s1 s2 s3 => ?_
    have hsz := s1.1
    refine hk _ _ (.inr ⟨b, d2, T', cap', rfl, s3.blk, by omega, c2'.1, ?_, c4, by omega⟩) (c5.trans' s3.fr fun i hi => by simp at hi; subst hi; exact .inr c4)
    refine perm_sorted_eq ((permIn_take s1).trans (by rw [c3]; exact hp)) ?_ (hsort.imp Int.le_of_lt)
    rw [List.pairwise_iff_getElem]
    intro i j hi hj hij
    have hi' : i < l.length := by simp at hi; omega
    have hj' : j < l.length := by simp at hj; omega
    have g1 := get_take (d := d2) rfl hi' (by omega)
    have g2 := get_take (d := d2) rfl hj' (by omega)
    rw [List.getElem?_eq_getElem hi] at g1
    rw [List.getElem?_eq_getElem hj] at g2
    rw [Option.some.inj g1, Option.some.inj g2]
    have := s2 i j (by omega) hij hj'
    simp [ltInt] at this
    exact this

end Go.Proofs.YtmbcedengdoamaaGreatDoor
end

section
/- The document's pool: lists of numbers that are read; Has, Same, Put. Conditions: those that stand in each line. -/
set_option linter.unusedVariables false
set_option linter.unusedSimpArgs false
namespace Go.Proofs.YtmbcedengdoamaaGreatDoor
open Go Go.Pt Go.Sort
attribute [local irreducible] ld ldA st new idx idxS idxA slc slcS slcP mkS chk nn call callV inv run runQ runU join loop held IntKind.wrap

abbrev encU : Int → List Value := fun n => [Value.int .u32 n]
/-- The slice s reads as the numbers l; its block, if there is one, is none of those of S. -/
abbrev Rd (S : List Nat) (w : World) (s : Sl) (l : List Int) : Prop := Rds encU 1 S w s l
abbrev BufU (w : World) (s : Sl) (l : List Int) (B : List Nat) : Prop := Buf encU 1 w s l B
theorem encU_len : ∀ x, (encU x).length = 1 := fun _ => rfl

theorem Rd.at {S : List Nat} {w : World} {s : Sl} {l : List Int} (h : Rd S w s l) (n : Nat) {i x : Int} {K : Int → Prop} (hi : i = n) (hx : l[n]? = some x) (k : K x) : idx s i 1 fun a => ld (.int .u32) a w K :=
  Rds.get (c := .int .u32) (y := x) h n hi hx rfl k

theorem pushU {w : World} {s : Sl} {l : List Int} {B : List Nat} {x : Int} {T : TypeId} {K : Sl → World → Prop} (h : BufU w s l B) (hl : l.length ≤ 1000000)
    (kk : ∀ s' B' w', BufU w' s' (l ++ [x]) B' → Fr B w w' → (∀ b ∈ B', b ∈ B ∨ w.heap.size ≤ b) → K s' w') :
    Pt.new (.cells #[.int .u32 x] T) w fun r w1 => Pt.run [Ty1.one Cell.slice] ((Builtin.append_ #[27, 27] 27 #[.slice s.a s.len s.cap, .slice (some ⟨r, 0, none⟩) 1 1]).run Tryz.prog w1) K := by
  obtain ⟨i, hi, hz, hsz, hby⟩ := info31
  exact Buf.push (e := 29) h encU_len (by simp [Value.oneCell']) (by kernel_rfl) hi hz hsz rfl rfl (by rw [hby]; omega) (by omega) kk

theorem RHas_ok {S : List Nat} {w : World} {s : Sl} {l : List Int} {n : Int} {K : Bool → World → Prop} (h : Rd S w s l) (hl : l.length ≤ 1000000) (hk : K (decide (n ∈ l)) w) :
    call Tryz.prog 14 [.slice s.a s.len s.cap, .int .u32 n] [.one .bool] w K := by
  refine cashbookref08_Has_of (l := s) ?_
  unfold cashbookref08_HasF
  have hlen := h.1
  refine loop_ind (fun x w' => w' = w ∧ ∃ i : Nat, x = i ∧ i ≤ l.length ∧ ∀ j y, j < i → l[j]? = some y → y ≠ n) (fun x _ => ((l.length : Int) - x).toNat) ⟨rfl, 0, rfl, by omega, fun j y hj => by omega⟩ ?_
  rintro x w' ⟨rfl, i, rfl, hi, hno⟩ X hX
  refine cond_of (fun hc => ?_) (fun hc => ?_)
  · have hil : i < l.length := by have := of_decide_eq_true hc; omega
    refine Rd.at h i rfl (List.getElem?_eq_getElem hil) ?_
    refine cond_of (fun he => ?_) (fun he => ?_)
    · have he' : l[i] = n := beq_iff_eq.1 he
      rw [show decide (n ∈ l) = true by rw [decide_eq_true_iff]; rw [← he']; exact List.getElem_mem hil] at hk
      exact hk
    · have he' : l[i] ≠ n := fun e => by rw [e] at he; simp at he
      rw [wi _ (by omega)]
      refine hX _ _ ⟨rfl, i + 1, by omega, by omega, fun j y hj hy => ?_⟩ (by omega)
      by_cases hji : j = i
      · subst hji
        rw [List.getElem?_eq_getElem hil] at hy
        rw [← Option.some.inj hy]; exact he'
      · exact hno j y (by omega) hy
  · have hil : i = l.length := by have := of_decide_eq_false hc; omega
    rw [show decide (n ∈ l) = false by
      rw [decide_eq_false_iff_not]
      intro hm
      obtain ⟨j, hj, he⟩ := List.getElem_of_mem hm
      exact hno j n (by omega) (by rw [List.getElem?_eq_getElem hj, he]) rfl] at hk
    exact hk

theorem RSame_ok {S S' : List Nat} {w : World} {s t : Sl} {l : List Int} {K : Bool → World → Prop} (h : Rd S w s l) (g : Rd S' w t l) (hl : l.length ≤ 1000000) (hk : ∀ w', Same w w' → K true w') :
    call Tryz.prog 31 [.slice s.a s.len s.cap, .slice t.a t.len t.cap] [.one .bool] w K := by
  refine cashbookref08_Same_of (a := s) (b := t) ?_
  unfold cashbookref08_SameF
  have hlen := h.1
  refine cond_false (by rw [h.1, g.1]; simp) ?_
  refine loop_ind (fun x w' => Same w w' ∧ ∃ i : Nat, x = i ∧ i ≤ l.length) (fun x _ => ((l.length : Int) - x).toNat) ⟨.refl _, 0, rfl, by omega⟩ ?_
  rintro x w' ⟨hs, i, rfl, hi⟩ X hX
  have h' : Rd S w' s l := h.same hs
  have g' : Rd S' w' t l := g.same hs
  refine cond_of (fun hc => ?_) (fun hc => ?_)
  · have hil : i < l.length := by have := of_decide_eq_true hc; omega
    refine Rd.at h'.drew i rfl (List.getElem?_eq_getElem hil) ?_
    refine Rd.at g'.drew i rfl (List.getElem?_eq_getElem hil) ?_
    refine cond_false (by simp) ?_
    rw [wi _ (by omega)]
    exact hX _ _ ⟨hs.drew, i + 1, by omega, by omega⟩ (by omega)
  · exact hk _ hs

/-- The document's Put, as its loop makes it: what is made of the first ones. -/
def putAcc (n : Int) (acc : List Int × Bool) (x : Int) : List Int × Bool :=
  let a1 := if !acc.2 && decide (x ≥ n) then (acc.1 ++ [n], true) else acc
  (if x ≠ n then a1.1 ++ [x] else a1.1, a1.2)

def putFin (n : Int) (r : List Int × Bool) : List Int := if !r.2 then r.1 ++ [n] else r.1

def putR (l : List Int) (n : Int) : List Int := putFin n (l.foldl (putAcc n) ([], false))

theorem putAcc_len (n : Int) (acc : List Int × Bool) (x : Int) : (putAcc n acc x).1.length ≤ acc.1.length + 2 := by
  unfold putAcc
  dsimp only
  split <;> split <;> simp

theorem putFold_len (n : Int) : ∀ (l : List Int) (acc : List Int × Bool), (l.foldl (putAcc n) acc).1.length ≤ acc.1.length + 2 * l.length
  | [], acc => by simp
  | x :: l, acc => by
    have h1 := putAcc_len n acc x
    have h2 := putFold_len n l (putAcc n acc x)
    simp only [List.foldl_cons, List.length_cons]
    omega

theorem putFold_true (n : Int) : ∀ (l : List Int) (a : List Int), (∀ x ∈ l, n < x) → l.foldl (putAcc n) (a, true) = (a ++ l, true)
  | [], a, _ => by simp
  | x :: l, a, h => by
    have hx := h x (by simp)
    have e : putAcc n (a, true) x = (a ++ [x], true) := by simp [putAcc, show x ≠ n by omega]
    rw [List.foldl_cons, e, putFold_true n l _ (fun y hy => h y (by simp [hy]))]
    simp

theorem putFold_ins (n : Int) : ∀ (l : List Int) (a : List Int), l.Pairwise (· < ·) → putFin n (l.foldl (putAcc n) (a, false)) = a ++ ins n l
  | [], a, _ => by simp [ins, putFin]
  | x :: l, a, h => by
    have h' := List.pairwise_cons.1 h
    simp only [List.foldl_cons, ins]
    by_cases h1 : n < x
    · have e : putAcc n (a, false) x = (a ++ [n] ++ [x], true) := by simp [putAcc, show x ≥ n by omega, show x ≠ n by omega]
      rw [e, putFold_true n l _ (fun y hy => by have := h'.1 y hy; omega), if_pos h1]
      simp [putFin]
    · by_cases h2 : n = x
      · have e : putAcc n (a, false) x = (a ++ [n], true) := by simp [putAcc, show x ≥ n by omega, h2]
        rw [e, putFold_true n l _ (fun y hy => by have := h'.1 y hy; omega), if_neg h1, if_pos h2, h2]
        simp [putFin]
      · have e : putAcc n (a, false) x = (a ++ [x], false) := by simp [putAcc, show ¬ n ≤ x by omega, show x ≠ n by omega]
        rw [e, if_neg h1, if_neg h2]
        have := putFold_ins n l (a ++ [x]) h'.2
        simpa using this

theorem putR_ins {l : List Int} {n : Int} (h : l.Pairwise (· < ·)) : putR l n = ins n l := by
  have := putFold_ins n l [] h
  simpa [putR] using this

theorem RPut_ok {S : List Nat} {w : World} {s : Sl} {l : List Int} {n : Int} {K : Sl → World → Prop} (h : Rd S w s l) (hl : l.length ≤ 100000)
    (hk : ∀ s' B w', BufU w' s' (putR l n) B → Fr [] w w' → (∀ b ∈ B, w.heap.size ≤ b) → K s' w') :
    call Tryz.prog 15 [.slice s.a s.len s.cap, .int .u32 n] [.one .slice] w K := by
  refine cashbookref08_Put_of (l := s) ?_
  unfold cashbookref08_PutF
  have hlen := h.1
  refine Own.new (Own.start [] w) fun b0 w1 e0 s0 ho => ?_
  have hB0 : BufU w1 ⟨some ⟨b0, 0, none⟩, 0, 0⟩ [] [b0] := Buf.fresh encU_len (ho.at (i := 0) rfl) rfl (Nat.le_refl _) (by simp) (by simp)
  have key : ∀ {w2 : World}, Fr [] w w2 → ∀ {s2 : Sl} {l2 : List Int} {B2 : List Nat}, BufU w2 s2 l2 B2 → (∀ b ∈ B2, w.heap.size ≤ b) → l2.length ≤ 300000 → ∀ {x : Int} {T : TypeId} {K : Sl → World → Prop},
      (∀ s' B' w', BufU w' s' (l2 ++ [x]) B' → Fr [] w w' → (∀ b ∈ B', w.heap.size ≤ b) → K s' w') →
      Pt.new (.cells #[.int .u32 x] T) w2 fun r w1 => Pt.run [Ty1.one Cell.slice] ((Builtin.append_ #[27, 27] 27 #[.slice s2.a s2.len s2.cap, .slice (some ⟨r, 0, none⟩) 1 1]).run Tryz.prog w1) K := by
    intro w2 f2 s2 l2 B2 hb hB hl2 x T K kk
    refine pushU hb (by omega) fun s' B' w' g1 g2 g3 => kk s' B' w' g1 (f2.trans' g2 fun i hi => .inr (hB i hi)) (fun b hb => ?_)
    rcases g3 b hb with h | h
    · exact hB b h
    · have := f2.size; omega
  refine loop_ind (fun x w' => ∃ (i : Nat) (B : List Nat), x.2.2 = i ∧ i ≤ l.length ∧ BufU w' x.1 ((l.take i).foldl (putAcc n) ([], false)).1 B ∧ x.2.1 = ((l.take i).foldl (putAcc n) ([], false)).2 ∧ Fr [] w w' ∧ ∀ b ∈ B, w.heap.size ≤ b) (fun x _ => ((l.length : Int) - x.2.2).toNat)
    ⟨0, [b0], rfl, by omega, by simpa using hB0, rfl, ho.fr, fun b hb => by simp at hb; omega⟩ ?_
  rintro ⟨sa, da, ia⟩ w2 ⟨i, B, hi0, hi, hb, hd, hf, hB⟩ X hX
  simp only at hi0 hb hd
  subst hi0
  have hh : Rd S w2 s l := h.frame0 hf
  dsimp only
  generalize hacc : (l.take i).foldl (putAcc n) ([], false) = acc at hb hd
  have hacclen : acc.1.length ≤ 2 * i := by
    have := putFold_len n (l.take i) ([], false)
    rw [hacc, List.length_take] at this
    simp at this
    omega
  refine cond_of (fun hc => ?_) (fun hc => ?_)
  · have hil : i < l.length := by have := of_decide_eq_true hc; omega
    have hget := List.getElem?_eq_getElem hil
    have hnext : (l.take (i + 1)).foldl (putAcc n) ([], false) = putAcc n acc l[i] := by
      rw [List.take_succ_eq_append_getElem hil, List.foldl_append, hacc]; rfl
    -- what the first part leaves
    refine join_mid (fun (x : Sl × Bool) w' => ∃ B, BufU w' x.1 (putAcc n acc l[i]).1 B ∧ x.2 = (putAcc n acc l[i]).2 ∧ Fr [] w w' ∧ ∀ b ∈ B, w.heap.size ≤ b) ?_ ?_
    · refine join_mid (fun (x : Sl × Bool) w' => ∃ B, BufU w' x.1 (if !acc.2 && decide (l[i] ≥ n) then (acc.1 ++ [n], true) else acc).1 B ∧ x.2 = (if !acc.2 && decide (l[i] ≥ n) then (acc.1 ++ [n], true) else acc).2 ∧ Fr [] w w' ∧ ∀ b ∈ B, w.heap.size ≤ b) ?_ ?_
      · refine join_mid (fun x w' => x = (!acc.2 && decide (l[i] ≥ n)) ∧ w' = w2) ?_ ?_
        · rw [hd]
          refine cond_of (fun hc => ?_) (fun hc => ?_)
          · refine Rd.at hh i rfl hget ⟨?_, rfl⟩
            rw [hc, Bool.true_and]
          · exact ⟨by rw [hc]; rfl, rfl⟩
        · rintro x w' ⟨rfl, rfl⟩
          refine cond_of (fun hc => ?_) (fun hc => ?_)
          · rw [if_pos hc]
            exact key hf hb hB (by omega) fun s' B' w' g1 g2 g3 => ⟨B', g1, rfl, g2, g3⟩
          · rw [if_neg (by rw [hc]; simp)]
            exact ⟨B, hb, hd, hf, hB⟩
      · rintro ⟨s3, d3⟩ w3 ⟨B3, h3, hd3, f3, hB3⟩
        simp only at h3 hd3
        have hh3 : Rd S w3 s l := h.frame0 f3
        refine Rd.at hh3 i rfl hget ?_
        generalize hacc3 : (if !acc.2 && decide (l[i] ≥ n) then (acc.1 ++ [n], true) else acc) = acc3 at h3 hd3
        have hl3 : acc3.1.length ≤ 2 * i + 1 := by rw [← hacc3]; split <;> (try rw [List.length_append, List.length_singleton]) <;> omega
        have hput : putAcc n acc l[i] = (if l[i] ≠ n then acc3.1 ++ [l[i]] else acc3.1, acc3.2) := by unfold putAcc; rw [hacc3]
        rw [hput]
        refine cond_of (fun hc => ?_) (fun hc => ?_)
        · have hne : l[i] ≠ n := by simpa using hc
          refine Rd.at hh3 i rfl hget ?_
          rw [if_pos hne]
          exact key f3 h3 hB3 (by omega) fun s' B' w' g1 g2 g3 => ⟨B', g1, hd3, g2, g3⟩
        · have hne : ¬ l[i] ≠ n := by simpa using hc
          rw [if_neg hne]
          exact ⟨B3, h3, hd3, f3, hB3⟩
    · rintro ⟨s4, d4⟩ w4 ⟨B4, h4, hd4, f4, hB4⟩
      rw [wi _ (by omega)]
      exact hX _ _ ⟨i + 1, B4, by simp, by omega, by rw [hnext]; exact h4, by rw [hnext]; exact hd4, f4, hB4⟩ (by dsimp only; omega)
  · have hil : i = l.length := by have := of_decide_eq_false hc; omega
    subst hil
    rw [List.take_length] at hacc
    have hput : putR l n = if !acc.2 then acc.1 ++ [n] else acc.1 := by unfold putR; rw [hacc]; rfl
    refine join_mid (fun s' w' => ∃ B, BufU w' s' (putR l n) B ∧ Fr [] w w' ∧ ∀ b ∈ B, w.heap.size ≤ b) ?_ (fun s' w' ⟨B', g1, g2, g3⟩ => hk s' B' w' g1 g2 g3)
    rw [hd, hput]
    refine cond_of (fun hc => ?_) (fun hc => ?_)
    · rw [if_pos hc]
      exact key hf hb hB (by omega) fun s' B' w' g1 g2 g3 => ⟨B', g1, g2, g3⟩
    · rw [if_neg (by rw [hc]; simp)]
      exact ⟨B, hb, hf, hB⟩

end Go.Proofs.YtmbcedengdoamaaGreatDoor
end

section
/- The pool: Copy. Conditions: those that stand in each line. -/
set_option linter.unusedVariables false
set_option linter.unusedSimpArgs false
namespace Go.Proofs.YtmbcedengdoamaaGreatDoor
open Go Go.Pt Go.Sort
attribute [local irreducible] ld ldA st new idx idxS idxA slc slcS slcP mkS chk nn call callV inv run runQ runU join loop held IntKind.wrap

theorem strict_le {l : List Int} (h : l.Pairwise (· < ·)) : l.Pairwise (· ≤ ·) := h.imp Int.le_of_lt

/-- The blocks of F' came of F, or are new since w. -/
theorem new_of {w0 w : World} {F F' : List Nat} (hF : ∀ b ∈ F, w0.heap.size ≤ b) (hs : w0.heap.size ≤ w.heap.size) (h : ∀ b ∈ F', b ∈ F ∨ w.heap.size ≤ b) : ∀ b ∈ F', w0.heap.size ≤ b := by
  intro b hb
  rcases h b hb with h | h
  · exact hF b h
  · omega

theorem Copy_ok {w : World} {pb : Nat} {F : List Nat} {l : List Int} {K : Option Addr → World → Prop} (h : PoolAt w pb F l) (hl : l.length ≤ 1000000)
    (hk : ∀ pb' F' w', PoolAt w' pb' F' l → Fr [] w w' → (∀ b ∈ F', w.heap.size ≤ b) → K (some ⟨pb', 0, none⟩) w') :
    call Tryz.prog 136 [.pointer (some ⟨pb, 0, none⟩)] [.one .ptr] w K := by
  refine pool_Pool_Copy_of (p := some ⟨pb, 0, none⟩) ?_
  unfold pool_Pool_CopyF
  refine New_ok fun nb F0 w1 h1 f1 hF0 => ?_
  have hp1 : PoolAt w1 pb F l := h.frame f1 (fun _ _ h => by cases h)
  have hsort := h.sorted
  refine nn_some ?_
  obtain ⟨mb, R, d, f, rfl, hr, hm, hp, hh, hf, hv⟩ := hp1.ex
  rcases hr with ⟨h0, hd, hR, hb⟩ | ⟨rb, T, hR, hb, hrb, hne, hnd⟩
  · have hl0 : l = [] := List.eq_nil_of_length_eq_zero h0
    subst hl0
    refine ld_blk (c := .slice) hb ⟨none, 0, 0⟩ rfl ?_
    refine loop_step fun X hX => ?_
    refine cond_false rfl ?_
    exact hk nb F0 w1 h1 f1 hF0
  · refine ld_blk (c := .slice) hb ⟨some ⟨rb, 0, none⟩, l.length, d.size⟩ rfl ?_
    dsimp only
    have hrbF : rb < w.heap.size := h.lt rb (by rw [hR]; simp)
    have hrd0 : Rd F0 w1 ⟨some ⟨rb, 0, none⟩, l.length, d.size⟩ (d.toList.take l.length) := by
      refine ⟨by rw [List.length_take, Array.length_toList]; exact (Nat.min_eq_left hnd).symm, hnd, .inr ⟨rb, 0, _, T, _, rfl, hrb, fun hm => by have := hF0 rb hm; omega, fun i x hx => ?_⟩⟩
      have hi := (List.getElem?_eq_some_iff.1 hx).1
      rw [List.length_take, Array.length_toList] at hi
      have hil : i < l.length := Nat.lt_of_lt_of_le hi (Nat.min_le_left _ _)
      have hid : i < d.size := Nat.lt_of_lt_of_le hi (Nat.min_le_right _ _)
      have hx' := get_take (d := d) rfl hil hnd
      rw [hx'] at hx
      rw [Nat.zero_add, Nat.mul_one]
      have hc : (u32s d)[i]? = some (.int .u32 x) := by
        unfold u32s
        rw [Array.getElem?_map]
        rw [← Option.some.inj hx]
        simp [hid]
      apply List.ext_getElem?
      intro j
      rw [List.getElem?_take, List.getElem?_drop]
      match j with
      | 0 => simpa using hc
      | j + 1 => simp
    have hlen : (d.toList.take l.length).length = l.length := by simp; omega
    have hnodup : (d.toList.take l.length).Nodup := hp.symm.nodup (hsort.imp (fun h => Int.ne_of_lt h))
    generalize hL : d.toList.take l.length = L at hrd0 hlen hnodup hp
    refine loop_ind (fun x w' => ∃ (i : Nat) (l' : List Int) (F' : List Nat), x = i ∧ i ≤ l.length ∧ PoolAt w' nb F' l' ∧ l'.Perm (L.take i) ∧ Fr [] w w' ∧ Rd F' w' ⟨some ⟨rb, 0, none⟩, l.length, d.size⟩ L ∧ ∀ b ∈ F', w.heap.size ≤ b) (fun x _ => ((l.length : Int) - x).toNat)
      ⟨0, [], F0, rfl, by omega, h1, by simp, f1, hrd0, hF0⟩ ?_
    rintro x w2 ⟨i, l', F', rfl, hi, h2, hperm, f2, hrd, hF'⟩ X hX
    have hlen' : l'.length = i := by rw [hperm.length_eq, List.length_take]; omega
    refine cond_of (fun hc => ?_) (fun hc => ?_)
    · have hil : i < l.length := by have := of_decide_eq_true hc; omega
      have hiL : i < L.length := by omega
      refine Rd.at hrd i rfl (List.getElem?_eq_getElem hiL) ?_
      refine Put_ok h2 (by omega) fun F3 w3 h3 f3 hF3 => ?_
      rw [wi _ (by omega)]
      have hnot : L[i] ∉ l' := by
        intro hm
        have hm' := hperm.mem_iff.1 hm
        have e : L.take (i + 1) = L.take i ++ [L[i]] := List.take_succ_eq_append_getElem hiL
        have hn2 : (L.take (i + 1)).Nodup := (List.take_sublist _ _).nodup hnodup
        rw [e] at hn2
        have := (List.nodup_append.1 hn2).2.2 _ hm' L[i] (by simp)
        exact this rfl
      refine hX _ _ ⟨i + 1, ins L[i] l', F3, by omega, by omega, h3, ?_, f2.trans' f3 (fun b hb => .inr (hF' b hb)), hrd.frame f3 hF3, new_of hF' f2.size hF3⟩ (by omega)
      rw [List.take_succ_eq_append_getElem hiL]
      exact ((ins_perm hnot).trans (hperm.cons _)).trans (List.perm_append_singleton _ _).symm
    · have hil : i = l.length := by have := of_decide_eq_false hc; omega
      subst hil
      rw [List.take_of_length_le (by omega)] at hperm
      have : l' = l := perm_sorted_eq (hperm.trans hp) (strict_le h2.sorted) (strict_le hsort)
      subst this
      exact hk nb F' w2 h2 f2 hF'

end Go.Proofs.YtmbcedengdoamaaGreatDoor
end
