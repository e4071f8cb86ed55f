/- Texts PgA, LwL, FormsF, PtQ, PgB, PgC, PgD, PtR, FlA, FlB, FlC, FormsW, SuA, SuB, SuC, FormsG, PtS: contracts of the program's functions, one behind the other. Conditions: those that stand in each line. -/
import Derived.Test.YtmbcedengdoamaaGreatDoorCLeast2
import Derived.Shelf.Bytes.SlCountOne
import Derived.Laws.CopyRow
import Derived.Laws.IdiomCopy
import Derived.Test.YtmbcedengdoamaaGreatDoorTie
import Derived.LaidMore
import Derived.MakeChecks
import Derived.OpenShut
import Derived.ProofKit
import Derived.Test.YtmbcedengdoamaaGreatDoorCLeast1
import Derived.Test.YtmbcedengdoamaaGreatDoorProg
import Derived.KernelRfl
import Derived.Laws.Externs
import Derived.Laws.IdiomRangeMap

section
/- Bytes: rows that are read, clones, counts, numbers laid into bytes and read off them. Conditions: those that stand in each line. -/
set_option linter.unusedVariables false
set_option linter.unusedSimpArgs false
namespace Go.Proofs.YtmbcedengdoamaaGreatDoor
open Go Go.Pt
attribute [local irreducible] ld ldA ldV fld fldA newZ st new idx idxS idxA slc slcS slcP mkS chk nn call callV inv run runQ runU join loop held ext rng undefer IntKind.wrap

abbrev encB : Int → List Value := fun n => [Value.int .u8 n]
abbrev RdB (S : List Nat) (w : World) (s : Sl) (l : List Int) : Prop := Rds encB 1 S w s l
abbrev BufB (w : World) (s : Sl) (l : List Int) (B : List Nat) : Prop := Buf encB 1 w s l B
theorem encB_len : ∀ x, (encB x).length = 1 := fun _ => rfl
def bytesA (l : List Int) : Array Value := (l.map (Value.int .u8)).toArray
theorem bytesA_size (l : List Int) : (bytesA l).size = l.length := by simp [bytesA]
theorem flatMap_encB (l : List Int) : l.flatMap encB = l.map (Value.int .u8) := by
  induction l with
  | nil => rfl
  | cons a l ih => rw [List.flatMap_cons, ih]; rfl
theorem info5 : ∃ i, Tryz.prog.info? 5 = some i ∧ i.zero = some (.int .u8 0) ∧ i.size = 1 ∧ i.bytes = 1 := info_of (by kernel_rfl)

theorem RdB.at {S : List Nat} {w : World} {s : Sl} {l : List Int} (h : RdB S w s l) (n : Nat) {i x : Int} {K : Int → Prop} (hi : i = n) (hx : l[n]? = some x) (k : K x) : idx s i 1 fun a => ld (.int .u8) a w K :=
  Rds.get (c := .int .u8) (y := x) h n hi hx rfl k

/-- A block of bytes, read through a slice of it. -/
theorem rdB_blk {S : List Nat} {w : World} {b o n cap : Nat} {L : List Int} {T : TypeId} {fr : Nat × Nat} (hb : w.heap[b]? = some (.cells (bytesA L) T fr)) (hn : o + n ≤ L.length) (hc : n ≤ cap) (hS : b ∉ S) : RdB S w ⟨some ⟨b, o, none⟩, n, cap⟩ ((L.drop o).take n) := by
  refine ⟨by rw [List.length_take, List.length_drop]; dsimp only; omega, hc, .inr ⟨b, o, _, T, _, rfl, hb, hS, fun i x hx => ?_⟩⟩
  have hi := (List.getElem?_eq_some_iff.1 hx).1
  rw [List.length_take, List.length_drop] at hi
  rw [List.getElem?_take, if_pos (by omega), List.getElem?_drop] at hx
  rw [Nat.mul_one]
  apply List.ext_getElem?
  intro j
  rw [List.getElem?_take, List.getElem?_drop]
  match j with
  | 0 => simp [bytesA, hx]
  | j + 1 => simp

theorem slc_two {b o len cap : Nat} {lo hi : Int} {size : Nat} {K : Sl → Prop} (h0 : 0 ≤ lo) (h1 : lo ≤ hi) (h2 : hi ≤ cap) (h3 : lo < cap) (k : K ⟨some ⟨b, o + lo.toNat * size, none⟩, hi.toNat - lo.toNat, cap - lo.toNat⟩) : slc ⟨some ⟨b, o, none⟩, len, cap⟩ (some lo) (some hi) none size K := by
  unfold slc
  refine ⟨by simpa using ⟨h0, h1, h2⟩, ?_⟩
  simp only [Option.getD_none, Option.getD_some, Int.toNat_natCast]
  rw [if_neg (by omega)]
  simp only [Option.map_some, Addr.add_mk]
  exact k
theorem slc_from {b o len cap : Nat} {lo : Int} {size : Nat} {K : Sl → Prop} (h0 : 0 ≤ lo) (h1 : lo ≤ len) (h2 : len ≤ cap) (h3 : lo < cap) (k : K ⟨some ⟨b, o + lo.toNat * size, none⟩, len - lo.toNat, cap - lo.toNat⟩) : slc ⟨some ⟨b, o, none⟩, len, cap⟩ (some lo) none none size K := by
  unfold slc
  refine ⟨by simp; omega, ?_⟩
  simp only [Option.getD_none, Option.getD_some, Int.toNat_natCast]
  rw [if_neg (by omega)]
  simp only [Option.map_some, Addr.add_mk]
  exact k

/-- A part of a row that is read. -/
theorem Rds.part {α : Type} {enc : α → List Value} {k : Nat} {S : List Nat} {w : World} {s : Sl} {l : List α} (h : Rds enc k S w s l) {lo hi : Option Int} (a b : Nat) {K : Sl → Prop} (hlo : lo.getD 0 = a) (hhi : hi.getD s.len = b) (hab : a ≤ b) (hb : b ≤ l.length)
    (kk : ∀ s', s'.len = b - a → Rds enc k S w s' ((l.take b).drop a) → (s.a.isNone = true → s'.a.isNone = true) → K s') : slc s lo hi none k K := by
  obtain ⟨h1, h2, h3⟩ := h
  unfold slc
  refine ⟨by rw [hlo, hhi]; simp; omega, kk _ ?_ ⟨?_, ?_, ?_⟩ ?_⟩
  · rw [hlo, hhi]; simp
  · rw [hlo, hhi]; simp; omega
  · rw [hlo, hhi]; simp; omega
  · by_cases he : (l.take b).drop a = []
    · exact .inl he
    · right
      have hlt : a < b := by
        rcases Nat.lt_or_ge a b with h | h
        · exact h
        · exact absurd (by rw [List.drop_eq_nil_of_le]; simp; omega) he
      rcases h3 with h3 | ⟨bl, o, cs, T, fr, ha, hbl, hnS, hc⟩
      · rw [h3] at hb; simp at hb; omega
      · refine ⟨bl, o + a * k, cs, T, fr, ?_, hbl, hnS, fun i x hx => ?_⟩
        · rw [hlo]
          simp only [Option.getD_none, Int.toNat_natCast]
          rw [if_neg (by omega), ha]
          simp [Addr.add_mk]
        · rw [List.getElem?_drop, List.getElem?_take] at hx
          split at hx
          · have := hc (a + i) x hx
            rw [← this, Nat.add_mul, Nat.add_assoc]
          · cases hx
  · intro hn
    rw [Option.isNone_iff_eq_none] at hn
    rw [hn]
    simp

/-! ### Numbers in bytes -/
def byteAt (n : Int) (j : Nat) : Int := IntKind.wrap .u8 (Int.fdiv n (2 ^ min (8 * j) 32))
def be (n : Int) (k : Nat) : List Int := (List.range k).map fun i => byteAt n (k - 1 - i)
theorem be_len (n : Int) (k : Nat) : (be n k).length = k := by simp [be]

theorem wi' (n : Int) (h : -1000000000000000 ≤ n ∧ n ≤ 1000000000000000) : IntKind.wrap .i64 n = n := by rw [IntWalk.i64_in]; omega

theorem put_ok {S : List Nat} {w0 w : World} {L : List (Nat × Obj)} {b o k cap : Nat} {A X Z : List Int} {T : TypeId} {n : Int} {K : Unit → World → Prop} (h : Own S w0 w L) (i : Nat) (hi : L[i]? = some (b, .cells (bytesA (A ++ X ++ Z)) T (0, 0))) (ho : A.length = o) (hX : X.length = k) (hk4 : k ≤ 4)
    (hk : ∀ w', Own S w0 w' (L.set i (b, .cells (bytesA (A ++ be n k ++ Z)) T (0, 0))) → K () w') :
    call Tryz.prog 129 [.slice (some ⟨b, o, none⟩) k cap, .int .u32 n] [] w K := by
  refine page_put_of (b := ⟨some ⟨b, o, none⟩, k, cap⟩) ?_
  unfold page_putF
  refine loop_ind (fun x w' => ∃ j : Nat, x = j ∧ j ≤ k ∧ Own S w0 w' (L.set i (b, .cells (bytesA (A ++ ((be n k).take j ++ X.drop j) ++ Z)) T (0, 0)))) (fun x _ => ((k : Int) - x).toNat) ⟨0, rfl, by omega, ?_⟩ ?_
  · have : L.set i (b, .cells (bytesA (A ++ ((be n k).take 0 ++ X.drop 0) ++ Z)) T (0, 0)) = L := by
      apply List.ext_getElem?
      intro j
      rw [List.getElem?_set]
      by_cases hij : i = j
      · subst hij
        rw [if_pos rfl, hi]
        have := (List.getElem?_eq_some_iff.1 hi).1
        simp [this]
      · rw [if_neg hij]
    rw [this]; exact h
  rintro x w1 ⟨j, rfl, hj, ho1⟩ Y hY
  have hil := (List.getElem?_eq_some_iff.1 hi).1
  dsimp only
  refine cond_of (fun hc => ?_) (fun hc => ?_)
  · have hjk : j < k := by have := of_decide_eq_true hc; omega
    have e1 : IntKind.wrap .i64 (8 * IntKind.wrap .i64 (IntKind.wrap .i64 ((k : Int) - 1) - j)) = ((8 * (k - 1 - j) : Nat) : Int) := by
      rw [wi' ((k : Int) - 1) (by omega), wi' ((k : Int) - 1 - j) (by omega), wi' (8 * ((k : Int) - 1 - j)) (by omega)]; omega
    rw [e1, wi' _ (by omega)]
    refine chk_of (by omega) ?_
    refine idx_lit (by omega) (by omega) ?_
    rw [Int.toNat_natCast, Nat.mul_one, Int.toNat_natCast]
    have hXj : X.drop j = X[j] :: X.drop (j + 1) := List.drop_eq_getElem_cons (by omega)
    have hbe : (be n k).take (j + 1) = (be n k).take j ++ [byteAt n (k - 1 - j)] := by
      rw [List.take_succ_eq_append_getElem (by rw [be_len]; exact hjk)]
      simp [be]
    have hlen : ((be n k).take j).length = j := by rw [List.length_take, be_len]; omega
    refine Own.st ho1 i (by rw [List.getElem?_set, if_pos rfl, if_pos hil]) (bytesA (A ++ ((be n k).take (j + 1) ++ X.drop (j + 1)) ++ Z)) ?_ rfl ?_ fun w2 ho2 _ => ?_
    · rw [splice, splice]
      apply Array.ext'
      rw [Array.toList_setIfInBounds]
      show (bytesA _).toList.set _ _ = (bytesA _).toList
      unfold bytesA
      simp only [List.toList_toArray]
      rw [← List.map_set, hXj, hbe, List.append_assoc A, List.set_append_right _ _ (by omega)]
      rw [show o + j - A.length = j by omega, List.append_assoc ((be n k).take j), List.set_append_right _ _ (by omega), hlen, Nat.sub_self, List.cons_append, List.set_cons_zero]
      simp only [List.append_assoc, List.cons_append, List.nil_append, byteAt]
    · refine Nat.ble_eq_true_of_le ?_
      rw [bytesA_size, hXj]
      simp only [List.length_append, List.length_cons, List.length_nil, hlen]
      omega
    · refine hY _ _ ⟨j + 1, by omega, by omega, ?_⟩ (by omega)
      rw [List.set_set] at ho2
      exact ho2
  · have hjk : j = k := by have := of_decide_eq_false hc; omega
    subst hjk
    rw [List.take_of_length_le (by rw [be_len]; exact Nat.le_refl _), List.drop_of_length_le (by omega), List.append_nil] at ho1
    exact hk _ ho1

def getV (l : List Int) : Int := l.foldl (fun r x => bits .or .u32 (IntKind.wrap .u32 (r * 2 ^ 8)) (IntKind.wrap .u32 x)) 0

theorem get_ok {S : List Nat} {w : World} {s : Sl} {l : List Int} {K : Int → World → Prop} (h : RdB S w s l) (hl : l.length ≤ 100000) (hk : K (getV l) w) : call Tryz.prog 118 [.slice s.a s.len s.cap] [.one (.int .u32)] w K := by
  refine page_get_of (b := s) ?_
  unfold page_getF
  have hlen := h.1
  refine loop_ind (fun x w' => w' = w ∧ ∃ i : Nat, x.2 = i ∧ i ≤ l.length ∧ x.1 = getV (l.take i)) (fun x _ => ((l.length : Int) - x.2).toNat) ⟨rfl, 0, rfl, by omega, rfl⟩ ?_
  rintro ⟨r, ii⟩ w' ⟨rfl, i, hi0, hi, hr⟩ X hX
  simp only at hi0 hr
  subst hi0 hr
  refine cond_of (fun hc => ?_) (fun hc => ?_)
  · have hil : i < l.length := by have := of_decide_eq_true hc; omega
    refine RdB.at h i rfl (List.getElem?_eq_getElem hil) ?_
    rw [wi' _ (by omega)]
    refine hX _ _ ⟨rfl, i + 1, by simp, by omega, ?_⟩ (by dsimp only; omega)
    rw [List.take_succ_eq_append_getElem hil, getV, getV, List.foldl_append]
    rfl
  · have hil : i = l.length := by have := of_decide_eq_false hc; omega
    subst hil
    rw [List.take_length]
    exact hk

/-! ### Clones -/
theorem cloneB_core {S : List Nat} {w : World} {s : Sl} {l : List Int} {K : Sl → World → Prop} (h : RdB S w s l) (hl : l.length ≤ 1000000)
    (hk : ∀ s' B w', BufB w' s' l B → Fr [] w w' → (∀ b ∈ B, w.heap.size ≤ b) → (s.a.isNone = true → s' = ⟨none, 0, 0⟩) → (s.a.isNone = false → s'.a.isNone = false) → K s' w') :
    cond (Option.isNone s.a) (K ⟨none, 0, 0⟩ w) (new (.cells #[] 5) w fun r w1 => Pt.run [Ty1.one Cell.slice] ((Builtin.append_ #[22, 22] 22 #[.slice (some ⟨r, 0, none⟩) 0 0, .slice s.a s.len s.cap]).run Tryz.prog w1) fun s' w' => K s' w') := by
  obtain ⟨i5, hi, hz, hsz, hby⟩ := info5
  refine cond_of (fun hc => ?_) (fun hc => ?_)
  · have hl0 : l = [] := by
      rcases h.2.2 with h3 | ⟨b, o, cs, T, fr, ha, _⟩
      · exact h3
      · rw [ha] at hc; cases hc
    subst hl0
    exact hk _ [] w (.nil _ _ _) (.refl _ _) (by simp) (fun _ => rfl) (fun h => by rw [hc] at h; cases h)
  · obtain ⟨a, ha⟩ : ∃ a, s.a = some a := by cases hs : s.a with | none => rw [hs] at hc; cases hc | some a => exact ⟨a, rfl⟩
    have ho := Own.start [] w
    refine Own.new ho fun r w1 e1 s1 ho => ?_
    have h1 : RdB S w1 s l := h.frame0 ho.fr
    have hb : BufB w1 ⟨some ⟨r, 0, none⟩, 0, 0⟩ [] [r] := Buf.fresh encB_len (ho.at (i := 0) rfl) rfl (Nat.le_refl _) (by simp) (by simp)
    have hlen := h.1
    rw [ha]
    refine Buf.appSrc (s := ⟨some ⟨r, 0, none⟩, 0, 0⟩) (ys := l) (e := 5) hb encB_len (by kernel_rfl) hi hz hsz rfl (.ofSlice _ (e' := 5) (by kernel_rfl) a s.len s.cap _ ?_ (h1.cells encB_len ha) ?_) hlen (by rw [hby, hlen]; simp; omega) (by rw [hlen]; simp; omega) fun s' B w' g1 g2 g3 g4 => ?_
    · rw [flatMap_encB]; simp [hlen]
    · intro u hu
      rw [flatMap_encB] at hu
      obtain ⟨x, _, rfl⟩ := List.mem_map.1 hu
      rfl
    · have hBn : ∀ b ∈ B, w.heap.size ≤ b := fun b hb => by
        rcases g3 b hb with h | h
        · simp at h; omega
        · omega
      refine hk s' B w' (by simpa using g1) (ho.fr.trans' g2 (fun b hb => by simp at hb; subst hb; exact .inr (by omega))) hBn (fun h => by rw [hc] at h; cases h) (fun _ => ?_)
      rcases g4 with hn | hn
      · exact hn
      · simp at hn

/-- A buffer that was not nil is none behind an append. -/
theorem slices_CloneB_ok {S : List Nat} {w : World} {s : Sl} {l : List Int} {K : Sl → World → Prop} (h : RdB S w s l) (hl : l.length ≤ 1000000)
    (hk : ∀ s' B w', BufB w' s' l B → Fr [] w w' → (∀ b ∈ B, w.heap.size ≤ b) → (s.a.isNone = true → s' = ⟨none, 0, 0⟩) → (s.a.isNone = false → s'.a.isNone = false) → K s' w') :
    call Tryz.prog 42 [.slice s.a s.len s.cap] [.one .slice] w K := by
  refine slices_CloneB_of (s := s) ?_
  unfold slices_CloneBF
  exact cloneB_core h hl hk

theorem bytes_Clone_ok {S : List Nat} {w : World} {s : Sl} {l : List Int} {K : Sl → World → Prop} (h : RdB S w s l) (hl : l.length ≤ 1000000)
    (hk : ∀ s' B w', BufB w' s' l B → Fr [] w w' → (∀ b ∈ B, w.heap.size ≤ b) → (s.a.isNone = true → s' = ⟨none, 0, 0⟩) → (s.a.isNone = false → s'.a.isNone = false) → K s' w') :
    call Tryz.prog 121 [.slice s.a s.len s.cap] [.one .slice] w K := by
  refine bytes_Clone_of (b := s) ?_
  unfold bytes_CloneF
  exact cloneB_core h hl hk

/-! ### The sum -/
def halvesL : List Int := [0, 274646895, 549293790, 820201905, 1098587580, 1361435347, 1640403810, 1905808397, 2197175160, 2460548119, 2722870694, 2987750089, 3280807620, 3553878443, 3811616794, 4084100981]
abbrev HG : Nat := 0
/-- The table is as the program lays it. -/
def Hv (w : World) : Prop := ∃ T fr, w.heap[HG]? = some (.cells (halvesL.map (Value.int .u32)).toArray T fr)
theorem Hv.frame {S : List Nat} {w w' : World} (h : Hv w) (f : Fr S w w') (hS : HG ∉ S) : Hv w' := by
  obtain ⟨T, fr, hb⟩ := h
  exact ⟨T, fr, by rw [f.block HG (lt_of_blk hb) hS]; exact hb⟩
theorem Hv.frame0 {w w' : World} (h : Hv w) (f : Fr [] w w') : Hv w' := h.frame f (by simp)
theorem Hv.lt {w : World} (h : Hv w) : HG < w.heap.size := by obtain ⟨T, fr, hb⟩ := h; exact lt_of_blk hb

theorem and15 (x : Int) : 0 ≤ bits .and .u32 x 15 ∧ bits .and .u32 x 15 < 16 := by
  have h1 : (BitVec.ofInt 32 x &&& BitVec.ofInt 32 15).toNat < 16 := by
    rw [BitVec.toNat_and]
    exact Nat.lt_of_le_of_lt Nat.and_le_right (by decide)
  have h2 : bits .and .u32 x 15 = ((BitVec.ofInt 32 x &&& BitVec.ofInt 32 15).toNat : Int) := by
    show IntKind.wrap .u32 _ = _
    unfold IntKind.wrap
    have : (IntKind.u32.signed) = false := rfl
    simp only [this, Bool.false_and, Bool.false_eq_true, if_false]
    have e : ((2 : Int) ^ IntKind.u32.bits) = 4294967296 := rfl
    rw [e]
    exact Int.emod_eq_of_lt (by omega) (by
      have : (BitVec.ofInt IntKind.u32.bits x &&& BitVec.ofInt IntKind.u32.bits 15).toNat < 16 := h1
      omega)
  rw [h2]
  omega

def half (x : Int) : Int := halvesL.getD x.toNat 0
/-- Four bits' turn. -/
def turn4 (r : Int) : Int := bits .xor .u32 (Int.fdiv r (2 ^ 4)) (half (bits .and .u32 r 15))
def crcStep (r x : Int) : Int := turn4 (turn4 (bits .xor .u32 r (IntKind.wrap .u32 x)))
def moreV (sum : Int) (l : List Int) : Int := bits .xor .u32 (l.foldl crcStep (bits .xor .u32 sum 4294967295)) 4294967295
def sumV (l : List Int) : Int := moreV 0 l

theorem half_ld {w : World} {x : Int} {K : Int → Prop} (h : Hv w) (k : K (half (bits .and .u32 x 15))) : ld (.int .u32) (Addr.add ⟨HG, 0, none⟩ (Int.toNat (bits .and .u32 x 15) * 1)) w K := by
  obtain ⟨T, fr, hb⟩ := h
  obtain ⟨h0, h1⟩ := and15 x
  rw [Addr.add_mk]
  refine ld_blk hb _ ?_ k
  generalize bits .and .u32 x 15 = y at h0 h1
  have hlt : y.toNat < halvesL.length := by show y.toNat < 16; omega
  rw [Nat.zero_add, Nat.mul_one]
  simp only [List.getElem?_toArray, List.getElem?_map, List.getElem?_eq_getElem hlt, Option.map_some, half, List.getD_eq_getElem?_getD, Option.getD_some]
  rfl

theorem more_ok {S : List Nat} {w : World} {s : Sl} {l : List Int} {sum : Int} {K : Int → World → Prop} (h : RdB S w s l) (hv : Hv w) (hl : l.length ≤ 100000) (hk : K (moreV sum l) w) :
    call Tryz.prog 140 [.int .u32 sum, .slice s.a s.len s.cap] [.one (.int .u32)] w K := by
  refine crc_More_of (b := s) ?_
  unfold crc_MoreF
  have hlen := h.1
  refine loop_ind (fun x w' => w' = w ∧ ∃ i : Nat, x.2 = i ∧ i ≤ l.length ∧ x.1 = (l.take i).foldl crcStep (bits .xor .u32 sum 4294967295)) (fun x _ => ((l.length : Int) - x.2).toNat) ⟨rfl, 0, rfl, by omega, rfl⟩ ?_
  rintro ⟨r, ii⟩ w' ⟨rfl, i, hi0, hi, hr⟩ X hX
  simp only at hi0 hr
  subst hi0 hr
  refine cond_of (fun hc => ?_) (fun hc => ?_)
  · have hil : i < l.length := by have := of_decide_eq_true hc; omega
    refine RdB.at h i rfl (List.getElem?_eq_getElem hil) ?_
    refine chk_of (and15 _) ?_
    refine half_ld hv ?_
    refine chk_of (and15 _) ?_
    refine half_ld hv ?_
    rw [wi' _ (by omega)]
    refine hX _ _ ⟨rfl, i + 1, by simp, by omega, ?_⟩ (by dsimp only; omega)
    rw [List.take_succ_eq_append_getElem hil, List.foldl_append]
    rfl
  · have hil : i = l.length := by have := of_decide_eq_false hc; omega
    subst hil
    rw [List.take_length]
    exact hk

theorem sum_ok {S : List Nat} {w : World} {s : Sl} {l : List Int} {K : Int → World → Prop} (h : RdB S w s l) (hv : Hv w) (hl : l.length ≤ 100000) (hk : K (sumV l) w) :
    call Tryz.prog 119 [.slice s.a s.len s.cap] [.one (.int .u32)] w K := by
  refine crc_Sum_of (b := s) ?_
  unfold crc_SumF
  exact more_ok h hv hl hk

end Go.Proofs.YtmbcedengdoamaaGreatDoor
end

section
/- The listed variable: what the condition gives. Conditions: those that stand in each line. -/
namespace Go.Proofs.YtmbcedengdoamaaGreatDoor
open Go.ChangeShapes Go.WideShapes Go.ChangeAt Go.RowKit Go.Pt
set_option linter.unusedVariables false

theorem own10 : ownKnob Tryz.prog.godebug = none := by kernel_rfl
theorem laidOut10 : laidOutB Tryz.prog = true := by kernel_rfl
abbrev laidH : List (String × DataW Unit) := [("cashbook/crc.halves", Rows.laid_cashbook_crc_halves)]
theorem halvesG : Tryz.prog.globalNamed "cashbook/crc.halves" = some HG := by kernel_rfl
theorem halvesT : (Tryz.prog.globals[HG]?).map (·.type) = some 242 := by kernel_rfl
theorem halvesU : Tryz.prog.underlying 242 = some (.array 16 29) := by kernel_rfl
theorem halves32 : Tryz.prog.underlying 29 = some (.int .u32) := by kernel_rfl

set_option maxRecDepth 100000 in
theorem door_met (os : Os) (args : Array Value) : laidMetH Tryz.prog laidH ((World.doorLaid Tryz.prog 4000 os).forCall (fun _ _ => 0) ⟨#[], args, []⟩).memory :=
  laidMetH_of_parts3 (fuel := 8) (laidMet_of_run' 8 (by kernel_rfl) (by kernel_rfl)) (by kernel_rfl) (by kernel_rfl)

theorem hv_of_laid {W : World} (h : laidMetH Tryz.prog laidH W) : Hv W := by
  rw [MakeChecks.laidMetH_plain _ _ _ (by kernel_rfl)] at h
  obtain ⟨ps, ⟨g0, t0, cs0, f0, p0, q0, hg0, ht0, hv0, hd0, _, _⟩, _, _⟩ := h
  obtain rfl := Option.some.inj (halvesG.symm.trans hg0)
  obtain rfl := Option.some.inj (halvesT.symm.trans ht0)
  obtain ⟨xs, m1, rfl, hx1, hlen, hn3, hel⟩ := DataW.trod_array halvesU hd0
  simp only [Prod.mk.injEq] at hx1
  have hx := hx1.1
  unfold Rows.laid_cashbook_crc_halves at hx
  rw [DataW.agg.injEq] at hx
  have c31 : Tryz.prog.cellsOf 29 = 1 := by kernel_rfl
  have hcl : Tryz.prog.cellsOf 242 = 16 := by kernel_rfl
  have hb : ∃ T fr, W.heap[HG]? = some (.cells cs0 T fr) := by
    unfold World.var? at hv0
    rw [halvesG, Option.bind_some] at hv0
    split at hv0
    · rename_i cs T fr hb
      cases hv0
      exact ⟨T, fr, hb⟩
    · cases hv0
  obtain ⟨T, fr, hb⟩ := hb
  have key : ∀ (i : Nat) (n : Int), (xs.map (·.1))[i]? = some (DataW.lit (.int .u32 n)) → cs0.toList[i]? = some (.int .u32 n) := by
    intro i n hi
    rw [List.getElem?_map] at hi
    obtain ⟨y, hy, hyn⟩ := Option.map_eq_some_iff.1 hi
    have hil : i < xs.length := (List.getElem?_eq_some_iff.1 hy).1
    have h1 := hel i (by omega)
    rw [c31] at h1
    rw [hy] at h1
    obtain ⟨k, e1, e2, _⟩ := DataW.trod_int halves32 h1
    rw [e2] at hyn
    have hk : k = n := by simpa using hyn
    subst hk
    have := congrArg (·[0]?) e1
    simpa using this
  refine ⟨T, fr, ?_⟩
  rw [hb]
  refine congrArg (fun c => some (Obj.cells c T fr)) ?_
  apply Array.ext'
  apply List.ext_getElem?
  intro i
  have hsz : cs0.toList.length = 16 := hlen.trans hcl
  have hx' : xs.map (·.1) = halvesL.map (fun n => DataW.lit (.int .u32 n)) := hx.symm
  by_cases hi : i < halvesL.length
  · have h1 := key i halvesL[i] (by rw [hx', List.getElem?_map, List.getElem?_eq_getElem hi]; rfl)
    rw [h1]
    show _ = (halvesL.map (Value.int .u32))[i]?
    rw [List.getElem?_map, List.getElem?_eq_getElem hi]
    rfl
  · have h16 : halvesL.length = 16 := rfl
    rw [List.getElem?_eq_none (by omega)]
    exact (List.getElem?_eq_none (by rw [List.length_map]; omega)).symm

theorem u8_of {x : Int} (h : IntKind.u8.has x) : 0 ≤ x ∧ x < 256 := by
  have h' : (0 : Int) ≤ x ∧ x ≤ 255 := h
  omega
theorem u16_of {x : Int} (h : IntKind.u16.has x) : 0 ≤ x ∧ x < 65536 := by
  have h' : (0 : Int) ≤ x ∧ x ≤ 65535 := h
  omega
theorem u32_of {x : Int} (h : IntKind.u32.has x) : 0 ≤ x ∧ x < 4294967296 := by
  have h' : (0 : Int) ≤ x ∧ x ≤ 4294967295 := h
  omega

end Go.Proofs.YtmbcedengdoamaaGreatDoor
end

section
/- The readable forms of functions of the program, each shown to be what the evaluator gives: printed by a program of this claim (wip/tools). No condition. -/
set_option linter.unusedVariables false
set_option maxRecDepth 100000
namespace Go.Proofs.YtmbcedengdoamaaGreatDoor
open Go Go.Pt

/-- cashbook.freelist.Need -/
def freelist_NeedF (free : Int) (K : Int → World → Prop) (w : World) : Prop :=
  cond (decide (free < 1))
    (K 0 w)
    (K (IntKind.wrap IntKind.i64 (IntKind.wrap IntKind.i64 (Int.tdiv (IntKind.wrap IntKind.i64 (free - 1)) 124) + 1)) w)
def freelist_NeedA : List Ann := [.n, .n, .n, .n, .n]
theorem freelist_Need_of {free : Int} {w : World} {K : Int → World → Prop} (hF : freelist_NeedF free K w) : call Tryz.prog 88 [.int .i64 free] [.one (.int .i64)] w K :=
  calls_of_fnPt (an := freelist_NeedA) (ts := [.one (.int .i64)]) (args := [.int .i64 free]) Tryz.func88 (by kernel_rfl) ((show fnPt (std Tryz.prog) Tryz.prog Tryz.f88 freelist_NeedA [.one (.int .i64)] [.int .i64 free] K w = freelist_NeedF free K w by kernel_rfl).mpr hF)

/-- cashbook.freelist.rises -/
def freelist_risesF (l : Sl) (K : Bool → World → Prop) (w : World) : Prop :=
  loop (Int × Int) (fun (X_1 : Int × Int → World → Prop) (t_2 : Int × Int) (w_3 : World) =>
    cond (decide (t_2.snd < (↑l.len : Int)))
      (idx l t_2.snd 1 <|
      fun (a_4 : Addr) =>
      ld (Cell.int IntKind.u32) a_4 w_3 <|
      fun (x_5 : Int) =>
      cond (decide (x_5 ≤ t_2.fst))
        (K false w_3)
        (X_1 ((x_5, IntKind.wrap IntKind.i64 (t_2.snd + 1))) w_3))
      (K true w_3)) ((1, 0)) w
def freelist_risesA : List Ann := [.n, .n, .n, .n, .l [(3, .one (.int .u32)), (8, .one (.int .i64))], .n, .n, .n, .n, .n, .n, .n, .n]
theorem freelist_rises_of {l : Sl} {w : World} {K : Bool → World → Prop} (hF : freelist_risesF l K w) : call Tryz.prog 132 [.slice l.a l.len l.cap] [.one .bool] w K :=
  calls_of_fnPt (an := freelist_risesA) (ts := [.one .bool]) (args := [.slice l.a l.len l.cap]) Tryz.func132 (by kernel_rfl) ((show fnPt (std Tryz.prog) Tryz.prog Tryz.f132 freelist_risesA [.one .bool] [.slice l.a l.len l.cap] K w = freelist_risesF l K w by kernel_rfl).mpr hF)

/-- cashbook.freelist.put -/
def freelist_putF (b : Sl) (n : Int) (K : Sl → World → Prop) (w : World) : Prop :=
  new (Obj.cells #[Value.int IntKind.u8 (IntKind.wrap IntKind.u8 (Int.fdiv n (2 ^ 24))), Value.int IntKind.u8 (IntKind.wrap IntKind.u8 (Int.fdiv n (2 ^ 16))), Value.int IntKind.u8 (IntKind.wrap IntKind.u8 (Int.fdiv n (2 ^ 8))), Value.int IntKind.u8 (IntKind.wrap IntKind.u8 n)] 5) w <|
  fun (r_1 : Nat) (w_2 : World) =>
  run [Ty1.one Cell.slice] ((Builtin.append_ (#[22, 22]) 22 (#[Value.slice b.a b.len b.cap, Value.slice (some { block := r_1, off := 0 }) 4 4])).run Tryz.prog w_2) <|
  fun (s_3 : Sl) (w_4 : World) =>
  K s_3 w_4
def freelist_putA : List Ann := [.n, .n]
theorem freelist_put_of {b : Sl} {n : Int} {w : World} {K : Sl → World → Prop} (hF : freelist_putF b n K w) : call Tryz.prog 145 [.slice b.a b.len b.cap, .int .u32 n] [.one .slice] w K :=
  calls_of_fnPt (an := freelist_putA) (ts := [.one .slice]) (args := [.slice b.a b.len b.cap, .int .u32 n]) Tryz.func145 (by kernel_rfl) ((show fnPt (std Tryz.prog) Tryz.prog Tryz.f145 freelist_putA [.one .slice] [.slice b.a b.len b.cap, .int .u32 n] K w = freelist_putF b n K w by kernel_rfl).mpr hF)

/-- cashbook.freelist.parts -/
def freelist_partsF (l : Sl) (pages : Int) (K : Value → World → Prop) (w : World) : Prop :=
  new (Obj.cells #[Value.slice l.a l.len l.cap] 27) w <|
  fun (r_1 : Nat) (w_2 : World) =>
  new (Obj.cells #[Value.int IntKind.i64 pages] 3) w_2 <|
  fun (r_3 : Nat) (w_4 : World) =>
  K (Value.func (Fn.func 167) #[] #[Value.pointer (some { block := r_3, off := 0 }), Value.pointer (some { block := r_1, off := 0 })]) w_4
def freelist_partsA : List Ann := [.n, .n]
theorem freelist_parts_of {l : Sl} {pages : Int} {w : World} {K : Value → World → Prop} (hF : freelist_partsF l pages K w) : call Tryz.prog 144 [.slice l.a l.len l.cap, .int .i64 pages] [.one .any] w K :=
  calls_of_fnPt (an := freelist_partsA) (ts := [.one .any]) (args := [.slice l.a l.len l.cap, .int .i64 pages]) Tryz.func144 (by kernel_rfl) ((show fnPt (std Tryz.prog) Tryz.prog Tryz.f144 freelist_partsA [.one .any] [.slice l.a l.len l.cap, .int .i64 pages] K w = freelist_partsF l pages K w by kernel_rfl).mpr hF)

/-- cashbook.freelist.parts$1 -/
def freelist_parts_c1F (yield : Value) (cap0 : Addr) (cap1 : Addr) (K : Unit → World → Prop) (w : World) : Prop :=
  ld (Cell.int IntKind.i64) cap0 w <|
  fun (x_1 : Int) =>
  loop (Int) (fun (X_2 : Int → World → Prop) (x_3 : Int) (w_4 : World) =>
    cond (decide (x_3 < x_1))
      (ld Cell.slice cap1 w_4 <|
      fun (s_5 : Sl) =>
      ld Cell.slice cap1 w_4 <|
      fun (s_6 : Sl) =>
      slc s_6 none (some (if 123 < (↑s_5.len : Int) then 123 else (↑s_5.len : Int))) none 1 <|
      fun (s_7 : Sl) =>
      callV Tryz.prog yield ([Value.int IntKind.i64 x_3, Value.slice s_7.a s_7.len s_7.cap]) ([Ty1.one Cell.bool]) w_4 <|
      fun (b_8 : Bool) (w_9 : World) =>
      cond (!b_8)
        (K () w_9)
        (ld Cell.slice cap1 w_9 <|
        fun (s_10 : Sl) =>
        slc s_10 (some (if 123 < (↑s_5.len : Int) then 123 else (↑s_5.len : Int))) none none 1 <|
        fun (s_11 : Sl) =>
        st cap1 ([Value.slice s_11.a s_11.len s_11.cap]) w_9 <|
        fun (w_12 : World) =>
        X_2 (IntKind.wrap IntKind.i64 (x_3 + 1)) w_12))
      (K () w_4)) 0 w
def freelist_parts_c1A : List Ann := [.n, .l [(7, .one (.int .i64))], .n, .n, .n, .n, .n, .n, .n]
theorem freelist_parts_c1_of {yield : Value} {cap0 : Addr} {cap1 : Addr} {w : World} {K : Unit → World → Prop} (hF : freelist_parts_c1F yield cap0 cap1 K w) : call Tryz.prog 167 [yield, .pointer (some cap0), .pointer (some cap1)] [] w K :=
  calls_of_fnPt (an := freelist_parts_c1A) (ts := []) (args := [yield, .pointer (some cap0), .pointer (some cap1)]) Tryz.func167 (by kernel_rfl) ((show fnPt (std Tryz.prog) Tryz.prog Tryz.f167 freelist_parts_c1A [] [yield, .pointer (some cap0), .pointer (some cap1)] K w = freelist_parts_c1F yield cap0 cap1 K w by kernel_rfl).mpr hF)

/-- cashbook.freelist.Bodies -/
def freelist_BodiesF (numbers : Sl) (pages : Sl) (K : (Sl × Int) → World → Prop) (w : World) : Prop :=
  new (Obj.cells #[Value.slice pages.a pages.len pages.cap] 27) w <|
  fun (r_1 : Nat) (w_2 : World) =>
  join (Bool) (fun (X_3 : Bool → World → Prop) =>
    call Tryz.prog 132 ([Value.slice numbers.a numbers.len numbers.cap]) ([Ty1.one Cell.bool]) w_2 <|
    fun (b_4 : Bool) (w_5 : World) =>
    cond (!b_4)
      (X_3 true w_5)
      (ld Cell.slice ({ block := r_1, off := 0 }) w_5 <|
      fun (s_6 : Sl) =>
      X_3 (decide ((↑numbers.len : Int) > IntKind.wrap IntKind.i64 (123 * (↑s_6.len : Int)))) w_5)) <|
  fun (b_7 : Bool) (w_8 : World) =>
  cond b_7
    (K (({ a := none, len := 0, cap := 0 }, 1)) w_8)
    (ld Cell.slice ({ block := r_1, off := 0 }) w_8 <|
    fun (s_9 : Sl) =>
    loop (Sl × Int × Int) (fun (X_10 : Sl × Int × Int → World → Prop) (t_11 : Sl × Int × Int) (w_12 : World) =>
      cond (decide (t_11.snd.snd < (↑s_9.len : Int)))
        (idx s_9 t_11.snd.snd 1 <|
        fun (a_13 : Addr) =>
        ld (Cell.int IntKind.u32) a_13 w_12 <|
        fun (x_14 : Int) =>
        cond (decide (x_14 < 2))
          (K (({ a := none, len := 0, cap := 0 }, 1)) w_12)
          (X_10 ((t_11.fst, t_11.snd.fst, IntKind.wrap IntKind.i64 (t_11.snd.snd + 1))) w_12))
        (new (Obj.cells #[Value.slice none 0 0] 198) w_12 <|
        fun (r_15 : Nat) (w_16 : World) =>
        ld Cell.slice ({ block := r_1, off := 0 }) w_16 <|
        fun (s_17 : Sl) =>
        call Tryz.prog 144 ([Value.slice numbers.a numbers.len numbers.cap, Value.int IntKind.i64 (↑s_17.len : Int)]) ([Ty1.one Cell.any]) w_16 <|
        fun (v_18 : Value) (w_19 : World) =>
        rng Tryz.prog v_18 [Ty1.one (Cell.int IntKind.i64), Ty1.one Cell.slice] (fun (t_20 : Int × Sl) (X_21 : World → (World → Prop) → Prop) (X_22 : World → Prop) (X_23 : Nat → World → Prop) (w_24 : World) =>
          X_21 w_24 <|
          fun (w_25 : World) =>
          join (Int) (fun (X_26 : Int → World → Prop) =>
            ld Cell.slice ({ block := r_1, off := 0 }) w_25 <|
            fun (s_27 : Sl) =>
            cond (decide (IntKind.wrap IntKind.i64 (t_20.fst + 1) < (↑s_27.len : Int)))
              (ld Cell.slice ({ block := r_1, off := 0 }) w_25 <|
              fun (s_28 : Sl) =>
              idx s_28 (IntKind.wrap IntKind.i64 (t_20.fst + 1)) 1 <|
              fun (a_29 : Addr) =>
              ld (Cell.int IntKind.u32) a_29 w_25 <|
              fun (x_30 : Int) =>
              X_26 x_30 w_25)
              (X_26 0 w_25)) <|
          fun (x_31 : Int) (w_32 : World) =>
          call Tryz.prog 145 ([Value.slice none 0 0, Value.int IntKind.u32 x_31]) ([Ty1.one Cell.slice]) w_32 <|
          fun (s_33 : Sl) (w_34 : World) =>
          new (Obj.cells #[Value.int IntKind.u8 (IntKind.wrap IntKind.u8 (Int.fdiv ((↑t_20.snd.len : Int)) (2 ^ 8))), Value.int IntKind.u8 (IntKind.wrap IntKind.u8 (↑t_20.snd.len : Int))] 5) w_34 <|
          fun (r_35 : Nat) (w_36 : World) =>
          run [Ty1.one Cell.slice] ((Builtin.append_ (#[22, 22]) 22 (#[Value.slice s_33.a s_33.len s_33.cap, Value.slice (some { block := r_35, off := 0 }) 2 2])).run Tryz.prog w_36) <|
          fun (s_37 : Sl) (w_38 : World) =>
          loop (Sl × Int) (fun (X_39 : Sl × Int → World → Prop) (t_40 : Sl × Int) (w_41 : World) =>
            cond (decide (t_40.snd < (↑t_20.snd.len : Int)))
              (idx t_20.snd t_40.snd 1 <|
              fun (a_42 : Addr) =>
              ld (Cell.int IntKind.u32) a_42 w_41 <|
              fun (x_43 : Int) =>
              call Tryz.prog 145 ([Value.slice t_40.fst.a t_40.fst.len t_40.fst.cap, Value.int IntKind.u32 x_43]) ([Ty1.one Cell.slice]) w_41 <|
              fun (s_44 : Sl) (w_45 : World) =>
              X_39 ((s_44, IntKind.wrap IntKind.i64 (t_40.snd + 1))) w_45)
              (ld Cell.slice ({ block := r_15, off := 0 }) w_41 <|
              fun (s_46 : Sl) =>
              new (Obj.cells #[Value.slice t_40.fst.a t_40.fst.len t_40.fst.cap] 22) w_41 <|
              fun (r_47 : Nat) (w_48 : World) =>
              run [Ty1.one Cell.slice] ((Builtin.append_ (#[198, 198]) 198 (#[Value.slice s_46.a s_46.len s_46.cap, Value.slice (some { block := r_47, off := 0 }) 1 1])).run Tryz.prog w_48) <|
              fun (s_49 : Sl) (w_50 : World) =>
              st ({ block := r_15, off := 0 }) ([Value.slice s_49.a s_49.len s_49.cap]) w_50 <|
              fun (w_51 : World) =>
              X_22 w_51)) ((s_37, 0)) w_38)
        (fun (r_52 : Nat) (w_53 : World) =>
          ld Cell.slice ({ block := r_15, off := 0 }) w_53 <|
          fun (s_54 : Sl) =>
          undefer r_52 w_53 <|
          fun (w_55 : World) =>
          K ((s_54, 0)) w_55)
        [] w_19)) (({ a := none, len := 0, cap := 0 }, 0, 0)) w_8)
def freelist_BodiesA : List Ann := [.n, .n, .j [(25, .one .bool)], .n, .n, .n, .l [(4, .one .slice), (5, .one (.int .i64)), (28, .one (.int .i64))], .n, .n, .n, .n, .n, .n, .n, .n, .n, .r [.one (.int .i64), .one .slice], .n, .n, .j [(11, .one (.int .u32))], .n, .n, .n, .n, .l [(12, .one .slice), (64, .one (.int .i64))], .n, .n, .n, .n, .n]
theorem freelist_Bodies_of {numbers : Sl} {pages : Sl} {w : World} {K : (Sl × Int) → World → Prop} (hF : freelist_BodiesF numbers pages K w) : call Tryz.prog 122 [.slice numbers.a numbers.len numbers.cap, .slice pages.a pages.len pages.cap] [.one .slice, .one (.int .i64)] w K :=
  calls_of_fnPtS (an := freelist_BodiesA) (ts := [.one .slice, .one (.int .i64)]) (args := [.slice numbers.a numbers.len numbers.cap, .slice pages.a pages.len pages.cap]) Tryz.func122 (by kernel_rfl) ((show fnPtS (std Tryz.prog) Tryz.prog Tryz.f122 freelist_BodiesA [.one .slice, .one (.int .i64)] [.slice numbers.a numbers.len numbers.cap, .slice pages.a pages.len pages.cap] K w = freelist_BodiesF numbers pages K w by kernel_rfl).mpr hF)

/-- cashbook.freelist.get -/
def freelist_getF (b : Sl) (K : Int → World → Prop) (w : World) : Prop :=
  idx b 0 1 <|
  fun (a_1 : Addr) =>
  ld (Cell.int IntKind.u8) a_1 (World.drew w) <|
  fun (x_2 : Int) =>
  idx b 1 1 <|
  fun (a_3 : Addr) =>
  ld (Cell.int IntKind.u8) a_3 (World.drew w) <|
  fun (x_4 : Int) =>
  idx b 2 1 <|
  fun (a_5 : Addr) =>
  ld (Cell.int IntKind.u8) a_5 (World.drew w) <|
  fun (x_6 : Int) =>
  idx b 3 1 <|
  fun (a_7 : Addr) =>
  ld (Cell.int IntKind.u8) a_7 (World.drew w) <|
  fun (x_8 : Int) =>
  K (bits BinOp.or IntKind.u32 (bits BinOp.or IntKind.u32 (bits BinOp.or IntKind.u32 (IntKind.wrap IntKind.u32 (IntKind.wrap IntKind.u32 x_2 * 2 ^ 24)) (IntKind.wrap IntKind.u32 (IntKind.wrap IntKind.u32 x_4 * 2 ^ 16))) (IntKind.wrap IntKind.u32 (IntKind.wrap IntKind.u32 x_6 * 2 ^ 8))) (IntKind.wrap IntKind.u32 x_8)) (World.drew w)
def freelist_getA : List Ann := [.n, .n, .o [[0, 1, 2, 3, 4, 5, 6, 7, 8, 9, 10, 11, 12, 13, 14, 15, 16, 17, 18, 19, 20, 21, 22]]]
theorem freelist_get_of {b : Sl} {w : World} {K : Int → World → Prop} (hF : freelist_getF b K w) : call Tryz.prog 131 [.slice b.a b.len b.cap] [.one (.int .u32)] w K :=
  calls_of_fnPt (an := freelist_getA) (ts := [.one (.int .u32)]) (args := [.slice b.a b.len b.cap]) Tryz.func131 (by kernel_rfl) ((show fnPt (std Tryz.prog) Tryz.prog Tryz.f131 freelist_getA [.one (.int .u32)] [.slice b.a b.len b.cap] K w = freelist_getF b K w by kernel_rfl).mpr hF)

/-- cashbook.freelist.Parse -/
def freelist_ParseF (body : Sl) (K : (Int × Sl × Int) → World → Prop) (w : World) : Prop :=
  cond (decide ((↑body.len : Int) < 6))
    (K ((0, { a := none, len := 0, cap := 0 }, 2)) w)
    (idx body 4 1 <|
    fun (a_1 : Addr) =>
    ld (Cell.int IntKind.u8) a_1 (World.drew w) <|
    fun (x_2 : Int) =>
    idx body 5 1 <|
    fun (a_3 : Addr) =>
    ld (Cell.int IntKind.u8) a_3 (World.drew w) <|
    fun (x_4 : Int) =>
    call Tryz.prog 131 ([Value.slice body.a body.len body.cap]) ([Ty1.one (Cell.int IntKind.u32)]) (World.drew w) <|
    fun (x_5 : Int) (w_6 : World) =>
    held [fun (w_7 : Go.World) => World.cell? w_7 a_3 = some (Value.int IntKind.u8 x_4), fun (w_8 : Go.World) => World.cell? w_8 a_1 = some (Value.int IntKind.u8 x_2)] w_6 <|
    join (Bool) (fun (X_9 : Bool → World → Prop) =>
      cond (x_5 == 1)
        (X_9 true w_6)
        (cond (decide (bits BinOp.or IntKind.i64 (IntKind.wrap IntKind.i64 (IntKind.wrap IntKind.i64 x_2 * 2 ^ 8)) (IntKind.wrap IntKind.i64 x_4) > 123))
          (X_9 true w_6)
          (X_9 (!(↑body.len : Int) == IntKind.wrap IntKind.i64 (6 + IntKind.wrap IntKind.i64 (4 * bits BinOp.or IntKind.i64 (IntKind.wrap IntKind.i64 (IntKind.wrap IntKind.i64 x_2 * 2 ^ 8)) (IntKind.wrap IntKind.i64 x_4)))) w_6))) <|
    fun (b_10 : Bool) (w_11 : World) =>
    cond b_10
      (K ((0, { a := none, len := 0, cap := 0 }, 2)) w_11)
      (loop (Sl × Int) (fun (X_12 : Sl × Int → World → Prop) (t_13 : Sl × Int) (w_14 : World) =>
        cond (decide (t_13.snd < bits BinOp.or IntKind.i64 (IntKind.wrap IntKind.i64 (IntKind.wrap IntKind.i64 x_2 * 2 ^ 8)) (IntKind.wrap IntKind.i64 x_4)))
          (slc body (some (IntKind.wrap IntKind.i64 (6 + IntKind.wrap IntKind.i64 (4 * t_13.snd)))) none none 1 <|
          fun (s_15 : Sl) =>
          call Tryz.prog 131 ([Value.slice s_15.a s_15.len s_15.cap]) ([Ty1.one (Cell.int IntKind.u32)]) w_14 <|
          fun (x_16 : Int) (w_17 : World) =>
          new (Obj.cells #[Value.int IntKind.u32 x_16] 29) w_17 <|
          fun (r_18 : Nat) (w_19 : World) =>
          run [Ty1.one Cell.slice] ((Builtin.append_ (#[27, 27]) 27 (#[Value.slice t_13.fst.a t_13.fst.len t_13.fst.cap, Value.slice (some { block := r_18, off := 0 }) 1 1])).run Tryz.prog w_19) <|
          fun (s_20 : Sl) (w_21 : World) =>
          X_12 ((s_20, IntKind.wrap IntKind.i64 (t_13.snd + 1))) w_21)
          (call Tryz.prog 132 ([Value.slice t_13.fst.a t_13.fst.len t_13.fst.cap]) ([Ty1.one Cell.bool]) w_14 <|
          fun (b_22 : Bool) (w_23 : World) =>
          cond (!b_22)
            (K ((0, { a := none, len := 0, cap := 0 }, 2)) w_23)
            (K ((x_5, t_13.fst, 0)) w_23))) (({ a := none, len := 0, cap := 0 }, 0)) w_11))
def freelist_ParseA : List Ann := [.n, .n, .n, .n, .n, .o [[0, 2, 3, 4, 5, 6, 7, 8, 9, 10, 11, 1, 12, 13]], .n, .j [(37, .one .bool)], .n, .n, .n, .n, .l [(7, .one .slice), (39, .one (.int .i64))], .n, .n, .n, .n, .n, .n, .n, .n]
theorem freelist_Parse_of {body : Sl} {w : World} {K : (Int × Sl × Int) → World → Prop} (hF : freelist_ParseF body K w) : call Tryz.prog 105 [.slice body.a body.len body.cap] [.one (.int .u32), .one .slice, .one (.int .i64)] w K :=
  calls_of_fnPt (an := freelist_ParseA) (ts := [.one (.int .u32), .one .slice, .one (.int .i64)]) (args := [.slice body.a body.len body.cap]) Tryz.func105 (by kernel_rfl) ((show fnPt (std Tryz.prog) Tryz.prog Tryz.f105 freelist_ParseA [.one (.int .u32), .one .slice, .one (.int .i64)] [.slice body.a body.len body.cap] K w = freelist_ParseF body K w by kernel_rfl).mpr hF)

end Go.Proofs.YtmbcedengdoamaaGreatDoor
end

section
/- Rules for make, copy, a struct's or an array's many cells as a row. Conditions: those that stand in each line. -/
set_option linter.unusedVariables false
namespace Go.Pt
open Go

variable {S : List Nat} {w0 w : World} {L : List (Nat × Obj)} {P : Program}

theorem mkCells_one (z : Value) (c : Nat) : mkCells [z] c = (List.replicate c z).toArray := by
  apply Array.ext
  · simp [mkCells]
  · intro i h1 h2
    simp [mkCells, Nat.mod_one]

/-- make, of elements of one cell. -/
theorem Own.mk1 {el : TypeId} {z : Value} {bytes : Nat} {l c : Int} {K : Sl → World → Prop} (h : Own S w0 w L) (h0 : 0 ≤ l) (h1 : l ≤ c) (h2 : (bytes : Int) * c ≤ 2 ^ 48) (h3 : c ≤ 2 ^ 48)
    (k : ∀ b w', b = w.heap.size → Own S w0 w' ((b, .cells (List.replicate c.toNat z).toArray el (0, 0)) :: L) → K ⟨some ⟨b, 0, none⟩, l.toNat, c.toNat⟩ w') : mkS el [z] 1 bytes l c w K := by
  refine ⟨⟨h0, h1, h2, h3⟩, ?_⟩
  have e : mkCells (if c.toNat * 1 = 0 then [] else [z]) (c.toNat * 1) = (List.replicate c.toNat z).toArray := by
    rw [Nat.mul_one]
    split
    · rename_i hc; rw [hc]; apply Array.ext' ; simp [mkCells]
    · exact mkCells_one z _
  rw [e]
  exact k _ _ rfl (h.alloc _)

/-- copy, of elements of one cell, into a block of one's own. -/
theorem Own.copy1 {t t' ty el b : Nat} {cs : Array Value} {T : TypeId} {o dLen dCap : Nat} {src : Sl} {vs : List Value} {K : Int → World → Prop} (h : Own S w0 w L) (i : Nat) (hi : L[i]? = some (b, .cells cs T (0, 0)))
    (hu : P.underlying t = some (.slice el)) (hs : (P.info? el).map (·.size) = some 1) (hlen : vs.length = Nat.min src.len dLen) (hvs : vs ≠ [] → ∃ a, src.a = some a ∧ ∀ (j : Nat) v, vs[j]? = some v → w.cell? (a.add j) = some v) (h1 : ∀ v ∈ vs, v.oneCell' = true)
    (hfit : o + vs.length ≤ cs.size) (k : ∀ w', Own S w0 w' (L.set i (b, .cells (splice cs o vs) T (0, 0))) → K vs.length w') :
    Pt.run [Ty1.one (Cell.int .i64)] ((Builtin.copy_ #[t, t'] ty #[.slice (some ⟨b, o, none⟩) dLen dCap, .slice src.a src.len src.cap]).run P w) K := by
  by_cases h0 : vs = []
  · subst h0
    refine ⟨((0 : Nat) : Int), w, run_copy_none w t t' ty el _ _ _ _ _ _ hu hs (by simpa using hlen.symm), ?_⟩
    have e : L.set i (b, .cells (splice cs o []) T (0, 0)) = L := by
      apply List.ext_getElem?
      intro j
      rw [List.getElem?_set]
      by_cases hij : i = j
      · subst hij
        have := (List.getElem?_eq_some_iff.1 hi).1
        rw [if_pos rfl, hi]; simp [this, splice]
      · rw [if_neg hij]
    have := k w (by rw [e]; exact h)
    simpa using this
  · obtain ⟨a, ha, hc⟩ := hvs h0
    have hb := h.at hi
    have hrun := run_copy_cells (P := P) w t t' ty el b o dLen dCap a src.len src.cap vs hu hs hlen hc (fun j hj => by
      rw [cell_of_blk hb]; simp [show o + j < cs.size by omega]) (fun j hj => by simp [World.frozen?, hb]) h1
    rw [setCells_upd hb] at hrun
    refine ⟨(vs.length : Int), _, ?_, k _ (h.upd i hi)⟩
    rw [ha]
    exact hrun

theorem ext_of {P : Program} {f : FuncId} {fn : Func} {e : Array Value → Sem Value} {args : List Value} {ts : List Ty1} {w : World} {K : ElR ts → World → Prop} (hf : P.funcs[f]? = some fn) (hname : (fn.name == "runtime.NumGoroutine") = false) (hb : fn.body.isNone = true) (hn : Extern.findNext fn = none) (he : Extern.find fn = some e)
    (x : ElR ts) (w' : World) (hrun : (e args.toArray).run P w = .ok (resVal ts x) w') (k : K x w') : Pt.ext P f args ts w K := by
  refine ⟨x, w', ?_, k⟩
  rw [run_callFunc_extern hf hname hb hn he]
  simp [hrun]

end Go.Pt
end

section
/- Pages: Seal. Conditions: those that stand in each line. -/
set_option linter.unusedVariables false
set_option linter.unusedSimpArgs false
namespace Go.Proofs.YtmbcedengdoamaaGreatDoor
open Go Go.Pt
attribute [local irreducible] ld ldA ldV fld fldA newZ st new idx idxS idxA slc slcS slcP mkS chk nn call callV inv run runQ runU join loop held ext rng undefer IntKind.wrap

theorem splice_parts {α : Type} (A X Y Z : List α) (h : X.length = Y.length) : (A ++ X ++ Z).take A.length ++ Y ++ (A ++ X ++ Z).drop (A.length + Y.length) = A ++ Y ++ Z := by
  have h1 : (A ++ X ++ Z).take A.length = A := by rw [List.append_assoc, List.take_append_of_le_length (Nat.le_refl _), List.take_of_length_le (Nat.le_refl _)]
  have h2 : (A ++ X ++ Z).drop (A.length + Y.length) = Z := by
    rw [← h, ← List.length_append, List.drop_append_of_le_length (Nat.le_refl _), List.drop_of_length_le (Nat.le_refl _), List.nil_append]
  rw [h1, h2]

theorem splice_bytes {A X Y Z : List Int} (h : X.length = Y.length) : splice (bytesA (A ++ X ++ Z)) A.length (Y.map (Value.int .u8)) = bytesA (A ++ Y ++ Z) := by
  apply Array.ext'
  rw [splice_toList _ _ _ (by rw [bytesA_size]; simp only [List.length_append, List.length_map]; omega)]
  have := splice_parts (A.map (Value.int .u8)) (X.map (Value.int .u8)) (Y.map (Value.int .u8)) (Z.map (Value.int .u8)) (by simpa using h)
  simpa only [bytesA, List.map_append, List.toList_toArray, List.length_map] using this

/-- So many zeros. -/
def zs (n : Nat) : List Int := List.replicate n 0
theorem zs_len (n : Nat) : (zs n).length = n := List.length_replicate
theorem zs_add (a b : Nat) : zs (a + b) = zs a ++ zs b := List.replicate_append_replicate.symm
theorem zs_one : zs 1 = [0] := rfl
theorem zs_bytes (n : Nat) : (List.replicate n (Value.int .u8 0)).toArray = bytesA (zs n) := by unfold bytesA zs; rw [List.map_replicate]

/-- A block of bytes that is one's own, by its parts. -/
theorem Own.bytes {S : List Nat} {w0 w : World} {L : List (Nat × Obj)} {b : Nat} {T : TypeId} {l l' : List Int} (h : Own S w0 w ((b, .cells (bytesA l) T (0, 0)) :: L)) (e : l = l') : Own S w0 w ((b, .cells (bytesA l') T (0, 0)) :: L) := by rw [← e]; exact h

def restV (number kind : Int) (body : List Int) : List Int := be number 4 ++ [kind] ++ be (IntKind.wrap .u32 body.length) 2 ++ [0] ++ body ++ zs (500 - body.length)
def sealV (number kind : Int) (body : List Int) : List Int := be (sumV (restV number kind body)) 4 ++ restV number kind body

theorem restV_len {number kind : Int} {body : List Int} (h : body.length ≤ 500) : (restV number kind body).length = 508 := by
  simp only [restV, be_len, zs_len, List.length_append, List.length_cons, List.length_nil]; omega
theorem sealV_len {number kind : Int} {body : List Int} (h : body.length ≤ 500) : (sealV number kind body).length = 512 := by
  rw [sealV, List.length_append, be_len, restV_len h]

theorem seal_ok {S : List Nat} {w : World} {s : Sl} {l : List Int} {number kind : Int} {K : Sl × Int → World → Prop} (h : RdB S w s l) (hv : Hv w) (hl : l.length ≤ 100000)
    (hlong : 500 < l.length → K (⟨none, 0, 0⟩, 3) w)
    (hk : l.length ≤ 500 → ∀ b T w', w'.heap[b]? = some (.cells (bytesA (sealV number kind l)) T (0, 0)) → Fr [] w w' → w.heap.size ≤ b → K (⟨some ⟨b, 0, none⟩, 512, 512⟩, 0) w') :
    call Tryz.prog 99 [.int .u32 number, .int .u8 kind, .slice s.a s.len s.cap] [.one .slice, .one (.int .i64)] w K := by
  refine page_Seal_of (body := s) ?_
  unfold page_SealF
  have hlen := h.1
  refine cond_of (fun hc => hlong (by have := of_decide_eq_true hc; omega)) (fun hc => ?_)
  have hle : l.length ≤ 500 := by have := of_decide_eq_false hc; omega
  refine Own.mk1 (Own.start [] w) (by decide) (by decide) (by decide) (by decide) fun b w1 eb ho => ?_
  rw [zs_bytes] at ho
  replace ho := Own.bytes (l' := zs 4 ++ zs 4 ++ zs 504) ho (by rw [← zs_add, ← zs_add]; rfl)
  refine slc_two (by decide) (by decide) (by decide) (by decide) ?_
  refine put_ok (k := 4) ho 0 rfl (zs_len 4) (zs_len 4) (by decide) fun w2 ho => ?_
  replace ho := Own.bytes (l' := (zs 4 ++ be number 4) ++ zs 1 ++ zs 503) ho (by rw [show (504 : Nat) = 1 + 503 from rfl, zs_add, List.append_assoc, List.append_assoc, List.append_assoc])
  refine idx_lit (by omega) (by simp) ?_
  refine Own.st ho 0 rfl _ (splice_bytes (A := zs 4 ++ be number 4) (X := zs 1) (Y := [kind]) rfl) rfl (by rw [bytesA_size]; simp only [List.length_append, zs_len, be_len]; rfl) fun w3 ho _ => ?_
  replace ho := Own.bytes (l' := (zs 4 ++ be number 4 ++ [kind]) ++ zs 2 ++ zs 501) ho (by rw [show (503 : Nat) = 2 + 501 from rfl, zs_add, List.append_assoc, List.append_assoc, List.append_assoc, List.append_assoc, List.append_assoc])
  refine slc_two (by omega) (by omega) (by simp) (by simp) ?_
  refine put_ok (k := 2) ho 0 rfl (by simp only [List.length_append, zs_len, be_len]; rfl) (zs_len 2) (by decide) fun w4 ho => ?_
  replace ho := Own.bytes (l' := (zs 4 ++ be number 4 ++ [kind] ++ be (IntKind.wrap .u32 s.len) 2 ++ [0]) ++ zs l.length ++ zs (500 - l.length)) ho (by
    rw [show (501 : Nat) = 1 + (l.length + (500 - l.length)) by omega, zs_add, zs_add, zs_one]
    simp only [List.append_assoc])
  refine slc_from (by omega) (by simp) (by simp) (by simp) ?_
  have h4 : RdB S w4 s l := h.frame0 ho.fr
  have e6 : (zs 4 ++ be number 4 ++ [kind] ++ be (IntKind.wrap .u32 s.len) 2 ++ [0]).length = 12 := by simp only [List.length_append, zs_len, be_len]; rfl
  refine Own.copy1 (el := 5) (vs := l.map (Value.int .u8)) ho 0 rfl (by kernel_rfl) (by kernel_rfl) (by rw [List.length_map, hlen]; exact (Nat.min_eq_left (by show l.length ≤ 500; omega)).symm) (fun hne => ?_) (fun v hv => by obtain ⟨x, _, rfl⟩ := List.mem_map.1 hv; rfl) (by rw [bytesA_size, List.length_append, List.length_append, e6, zs_len, zs_len, List.length_map]; omega) fun w5 ho => ?_
  · rcases h4.2.2 with h3 | ⟨bb, o, cs, T, fr, ha, _⟩
    · rw [h3] at hne; exact absurd rfl hne
    · refine ⟨_, ha, ?_⟩
      have := h4.cells encB_len ha
      rw [flatMap_encB] at this
      exact this
  have e5 := splice_bytes (A := zs 4 ++ be number 4 ++ [kind] ++ be (IntKind.wrap .u32 s.len) 2 ++ [0]) (X := zs l.length) (Y := l) (Z := zs (500 - l.length)) (zs_len _)
  rw [e6] at e5
  have e7 : (0 : Nat) + Int.toNat 12 * 1 = 12 := rfl
  rw [e7, e5] at ho
  replace ho := Own.bytes (l' := [] ++ zs 4 ++ restV number kind l) ho (by simp only [restV, hlen, List.append_assoc, List.nil_append])
  refine slc_hi ⟨by omega, by simp⟩ ?_
  refine slc_from (by omega) (by simp) (by simp) (by simp) ?_
  have hd := ho.drew
  have hr : RdB [] w5.drew ⟨some ⟨b, 0 + Int.toNat 4 * 1, none⟩, (512 : Int).toNat - Int.toNat 4, (512 : Int).toNat - Int.toNat 4⟩ (restV number kind l) := by
    have := rdB_blk (S := []) (o := 4) (n := 508) (cap := 508) (hd.at (i := 0) rfl) (by rw [List.length_append, List.length_append, zs_len, restV_len hle]; simp) (Nat.le_refl _) (by simp)
    · rw [List.nil_append, List.drop_append_of_le_length (by rw [zs_len]; exact Nat.le_refl _), List.drop_of_length_le (by rw [zs_len]; exact Nat.le_refl _), List.nil_append, List.take_of_length_le (by rw [restV_len hle]; exact Nat.le_refl _)] at this
      exact this
  have hv5 : Hv w5.drew := hv.frame0 hd.fr
  refine sum_ok hr hv5 (by rw [restV_len hle]; decide) ?_
  refine put_ok (k := 4) hd 0 rfl rfl (zs_len 4) (by decide) fun w6 ho => ?_
  refine hk hle b _ w6 (ho.at (i := 0) rfl) ho.fr (by omega)

end Go.Proofs.YtmbcedengdoamaaGreatDoor
end

section
/- Pages: Open. Conditions: those that stand in each line. -/
set_option linter.unusedVariables false
set_option linter.unusedSimpArgs false
namespace Go.Proofs.YtmbcedengdoamaaGreatDoor
open Go Go.Pt
attribute [local irreducible] ld ldA ldV fld fldA newZ st new idx idxS idxA slc slcS slcP mkS chk nn call callV inv run runQ runU join loop held ext rng undefer IntKind.wrap

/-- All are bytes. -/
def IsB (l : List Int) : Prop := ∀ x ∈ l, 0 ≤ x ∧ x < 256

theorem IsB.take {l : List Int} (h : IsB l) (n : Nat) : IsB (l.take n) := fun x hx => h x (List.mem_of_mem_take hx)
theorem IsB.drop {l : List Int} (h : IsB l) (n : Nat) : IsB (l.drop n) := fun x hx => h x (List.mem_of_mem_drop hx)

theorem count_all {l : List Int} (h : IsB l) : ((Lib.countByte (Lib.bytesOf l) (0 : Int).toNat.toUInt8 : Nat) : Int) = l.length ↔ ∀ x ∈ l, x = 0 := by
  have key : ∀ l : List Int, IsB l → ((Lib.bytesOf l).count (0 : UInt8) ≤ l.length ∧ ((Lib.bytesOf l).count (0 : UInt8) = l.length ↔ ∀ x ∈ l, x = 0)) := by
    intro l
    induction l with
    | nil => intro _; simp [Lib.bytesOf]
    | cons a l ih =>
      intro hl
      obtain ⟨i1, i2⟩ := ih (fun x hx => hl x (List.mem_cons_of_mem _ hx))
      have ha := hl a (by simp)
      have e : Lib.bytesOf (a :: l) = UInt8.ofNat a.toNat :: Lib.bytesOf l := rfl
      rw [e, List.count_cons]
      have hz : (UInt8.ofNat a.toNat == 0) = decide (a = 0) := by
        by_cases h0 : a = 0
        · subst h0; rfl
        · rw [decide_eq_false h0, beq_eq_false_iff_ne]
          intro hq
          have := congrArg UInt8.toNat hq
          simp at this
          omega
      rw [hz]
      by_cases h0 : a = 0
      · subst h0
        simp only [decide_true, if_true, List.length_cons, List.mem_cons, forall_eq_or_imp, true_and]
        exact ⟨by omega, by rw [← i2]; omega⟩
      · simp only [h0, decide_false, Bool.false_eq_true, if_false, List.length_cons, List.mem_cons, forall_eq_or_imp, false_and, iff_false]
        omega
  have := (key l h).2
  show (((Lib.bytesOf l).count _ : Nat) : Int) = _ ↔ _
  rw [← this]
  exact Int.ofNat_inj

theorem bytes_Count_ok {S : List Nat} {w : World} {s : Sl} {l : List Int} {b2 cap2 : Nat} {K : Int → World → Prop} (h : RdB S w s l) (hB : IsB l) (hc2 : w.cell? ⟨b2, 0, none⟩ = some (.int .u8 0))
    (hk : ∀ c : Int, (c = l.length ↔ ∀ x ∈ l, x = 0) → K c w) :
    call Tryz.prog 120 [.slice s.a s.len s.cap, .slice (some ⟨b2, 0, none⟩) 1 cap2] [.one (.int .i64)] w K := by
  refine bytes_Count_of (s := s) (sep := ⟨some ⟨b2, 0, none⟩, 1, cap2⟩) ?_
  unfold bytes_CountF
  have hlen := h.1
  refine cond_false (by rfl) ?_
  refine cond_true (by rfl) ?_
  refine idx_lit (by omega) (by simp) ?_
  refine ld_of (c := .int .u8) 0 hc2 ?_
  have hcount : (Extern.BytealgCount.count #[.slice s.a s.len s.cap, .int .u8 0]).run Tryz.prog w = .ok (.int .i64 (Lib.countByte (Lib.bytesOf l) (0 : Int).toNat.toUInt8)) w := by
    cases ha : s.a with
    | none =>
      have hl0 : l = [] := by
        rcases h.2.2 with h3 | ⟨b, o, cs, T, fr, ha', _⟩
        · exact h3
        · rw [ha] at ha'; cases ha'
      subst hl0
      exact Lib.run_countNil w _ _ _
    | some a =>
      refine Lib.run_countAt w a s.len s.cap l hlen.symm (fun i hi => ?_) 0
      have := h.cells encB_len ha i (.int .u8 (l.getD i 0)) ?_
      · exact this
      · rw [flatMap_encB, List.getElem?_map, List.getD_eq_getElem?_getD, List.getElem?_eq_getElem (by omega)]; rfl
  refine ext_of (e := Extern.BytealgCount.count) Tryz.func142 (by kernel_rfl) (by kernel_rfl) (by kernel_rfl) (by kernel_rfl) (((Lib.countByte (Lib.bytesOf l) (0 : Int).toNat.toUInt8 : Nat) : Int)) w hcount ?_
  exact hk _ (count_all hB)

/-- What a page says: kind, body, the error's number. -/
def openV (number : Int) (b : List Int) : Int × List Int × Int :=
  if b.length ≠ 512 then (0, [], 1)
  else if getV (b.take 4) ≠ sumV (b.drop 4) then (0, [], 8)
  else if getV ((b.take 8).drop 4) ≠ number then (0, [], 4)
  else if getV ((b.take 11).drop 9) > 500 ∨ b.getD 11 0 ≠ 0 then (0, [], 2)
  else if ∃ x ∈ b.drop (12 + (getV ((b.take 11).drop 9)).toNat), x ≠ 0 then (0, [], 2)
  else (b.getD 8 0, (b.take (12 + (getV ((b.take 11).drop 9)).toNat)).drop 12, 0)

theorem wu32 (x : Int) (h : 0 ≤ x ∧ x < 4294967296) : IntKind.wrap .u32 x = x := by
  unfold IntKind.wrap
  have : (IntKind.u32.signed) = false := rfl
  simp only [this, Bool.false_and, Bool.false_eq_true, if_false]
  exact Int.emod_eq_of_lt h.1 h.2

theorem wrap_u32_range (x : Int) : 0 ≤ IntKind.wrap .u32 x ∧ IntKind.wrap .u32 x < 4294967296 := by
  unfold IntKind.wrap
  have : (IntKind.u32.signed) = false := rfl
  simp only [this, Bool.false_and, Bool.false_eq_true, if_false]
  exact ⟨Int.emod_nonneg _ (by decide), Int.emod_lt_of_pos _ (by decide)⟩

theorem bits_u32_range (op : BinOp) (x y : Int) : 0 ≤ bits op .u32 x y ∧ bits op .u32 x y < 4294967296 := wrap_u32_range _

theorem getV_range (l : List Int) : 0 ≤ getV l ∧ getV l < 4294967296 := by
  unfold getV
  have : ∀ (l : List Int) (a : Int), 0 ≤ a ∧ a < 4294967296 → 0 ≤ l.foldl (fun r x => bits .or .u32 (IntKind.wrap .u32 (r * 2 ^ 8)) (IntKind.wrap .u32 x)) a ∧ l.foldl (fun r x => bits .or .u32 (IntKind.wrap .u32 (r * 2 ^ 8)) (IntKind.wrap .u32 x)) a < 4294967296 := by
    intro l
    induction l with
    | nil => intro a h; exact h
    | cons x l ih => intro a _; exact ih _ (bits_u32_range _ _ _)
  exact this l 0 (by decide)

theorem open_ok {S : List Nat} {w : World} {s : Sl} {l : List Int} {number : Int} {K : Int × Sl × Int → World → Prop} (h : RdB S w s l) (hv : Hv w) (hB : IsB l) (hl : l.length ≤ 100000)
    (hk : ∀ s' B w', BufB w' s' (openV number l).2.1 B → Fr [] w w' → (∀ b ∈ B, w.heap.size ≤ b) → K ((openV number l).1, s', (openV number l).2.2) w') :
    call Tryz.prog 85 [.int .u32 number, .slice s.a s.len s.cap] [.one (.int .u8), .one .slice, .one (.int .i64)] w K := by
  refine page_Open_of (b := s) ?_
  unfold page_OpenF
  have hlen := h.1
  have bad : ∀ {e : Int} {w' : World}, openV number l = (0, [], e) → Fr [] w w' → K (0, ⟨none, 0, 0⟩, e) w' := by
    intro e w' he hf
    have := hk ⟨none, 0, 0⟩ [] w' (by rw [he]; exact .nil _ _ _) hf (by simp)
    rw [he] at this
    exact this
  refine cond_of (fun hc => ?_) (fun hc => ?_)
  · refine bad ?_ (.refl _ _)
    have : l.length ≠ 512 := by simp at hc; omega
    simp [openV, this]
  have h512 : l.length = 512 := by simp at hc; omega
  refine Rds.part h 0 4 rfl rfl (by omega) (by omega) fun s1 l1 r1 _ => ?_
  refine Rds.part h 4 512 rfl (by rw [hlen, h512]; rfl) (by omega) (by omega) fun s2 l2 r2 _ => ?_
  rw [List.take_of_length_le (by omega)] at r2
  rw [List.drop_zero] at r1
  have fd : Fr [] w w.drew := (Fr.refl _ _).drew
  have hvd : Hv w.drew := hv.frame0 fd
  refine get_ok (w := w.drew) r1 (by rw [List.length_take]; omega) ?_
  refine sum_ok (w := w.drew) r2 hvd (by rw [List.length_drop]; omega) ?_
  have h0 : ¬ l.length ≠ 512 := by omega
  refine cond_of (fun hc => ?_) (fun hc => ?_)
  · refine bad ?_ fd
    have : getV (l.take 4) ≠ sumV (l.drop 4) := by simpa using hc
    rw [openV, if_neg h0, if_pos this]
  have h1 : ¬ getV (l.take 4) ≠ sumV (l.drop 4) := by simpa using hc
  have hd : RdB S w.drew s l := h
  refine Rds.part hd 4 8 rfl rfl (by omega) (by omega) fun s3 l3 r3 _ => ?_
  refine get_ok r3 (by rw [List.length_drop, List.length_take]; omega) ?_
  refine cond_of (fun hc => ?_) (fun hc => ?_)
  · refine bad ?_ fd
    have : getV ((l.take 8).drop 4) ≠ number := by simpa using hc
    rw [openV, if_neg h0, if_neg h1, if_pos this]
  have h2 : ¬ getV ((l.take 8).drop 4) ≠ number := by simpa using hc
  refine Rds.part hd 9 11 rfl rfl (by omega) (by omega) fun s4 l4 r4 _ => ?_
  refine get_ok r4 (by rw [List.length_drop, List.length_take]; omega) ?_
  have hn := getV_range ((l.take 11).drop 9)
  have g11 : l[11]? = some (l.getD 11 0) := by rw [List.getD_eq_getElem?_getD, List.getElem?_eq_getElem (by omega)]; rfl
  have g8 : l[8]? = some (l.getD 8 0) := by rw [List.getD_eq_getElem?_getD, List.getElem?_eq_getElem (by omega)]; rfl
  refine join_mid (fun b w' => b = decide (getV ((l.take 11).drop 9) > 500 ∨ l.getD 11 0 ≠ 0) ∧ w' = w.drew) ?_ ?_
  · refine cond_of (fun hc => ?_) (fun hc => ?_)
    · exact ⟨by rw [decide_eq_true (Or.inl (of_decide_eq_true hc))], rfl⟩
    · refine RdB.at hd 11 rfl g11 ⟨?_, rfl⟩
      have := of_decide_eq_false hc
      generalize l.getD 11 0 = z
      by_cases hz : z = 0 <;> simp [this, hz]
  rintro b w1 ⟨rfl, rfl⟩
  refine cond_of (fun hc => ?_) (fun hc => ?_)
  · refine bad ?_ fd
    rw [openV, if_neg h0, if_neg h1, if_neg h2, if_pos (of_decide_eq_true hc)]
  have h3 := of_decide_eq_false hc
  have hn500 : getV ((l.take 11).drop 9) ≤ 500 := by
    rcases Int.lt_or_le 500 (getV ((l.take 11).drop 9)) with h | h
    · exact absurd (Or.inl h) h3
    · exact h
  have ov : openV number l = if ∃ x ∈ l.drop (12 + (getV ((l.take 11).drop 9)).toNat), x ≠ 0 then (0, [], 2) else (l.getD 8 0, (l.take (12 + (getV ((l.take 11).drop 9)).toNat)).drop 12, 0) := by
    rw [openV, if_neg h0, if_neg h1, if_neg h2, if_neg h3]
  generalize getV ((l.take 11).drop 9) = n at hn hn500 ov
  obtain ⟨m, rfl⟩ : ∃ m : Nat, n = m := ⟨n.toNat, by omega⟩
  rw [wu32 _ (by omega)]
  rw [Int.toNat_natCast] at ov
  refine Rds.part hd (12 + m) 512 (by simp) (by rw [hlen, h512]; rfl) (by omega) (by omega) fun s5 l5 r5 _ => ?_
  rw [List.take_of_length_le (by omega)] at r5
  have ho := Own.start [] w.drew
  refine Own.new ho fun zb w2 ez sz ho => ?_
  have r5' : RdB S w2 s5 (l.drop (12 + m)) := r5.frame0 ho.fr
  refine bytes_Count_ok r5' (hB.drop _) (ho.cell (off := 0) 0 rfl rfl) fun c hcz => ?_
  have fd2 : Fr [] w w2 := fd.trans ho.fr
  have hl5 := r5.1
  refine cond_of (fun hc => ?_) (fun hc => ?_)
  · refine bad ?_ fd2
    have hne : ¬ ∀ x ∈ l.drop (12 + m), x = 0 := by
      rw [← hcz]
      intro e
      rw [e, hl5] at hc
      simp at hc
    rw [ov, if_pos]
    exact Classical.byContradiction fun hno => hne fun x hx => Classical.byContradiction fun hx0 => hno ⟨x, hx, hx0⟩
  · have hall : ∀ x ∈ l.drop (12 + m), x = 0 := by
      rw [← hcz]
      rw [hl5] at hc
      simpa using hc
    rw [if_neg (by rintro ⟨x, hx, h0⟩; exact h0 (hall x hx))] at ov
    have hd2 : RdB S w2.drew s l := (h.frame0 fd2).drew
    obtain ⟨_, b8, o8, ha8, _, cs8, T8, fr8, hb8, hc8⟩ := Rds.at hd2 8 g8
    have hcell : cs8[o8 + 8]? = some (.int .u8 (l.getD 8 0)) := by
      have := congrArg (·[0]?) hc8
      simpa using this
    refine idx_of ha8 ⟨by omega, by omega⟩ ?_
    have ecell : ∀ {w' : World}, w'.heap[b8]? = some (.cells cs8 T8 fr8) → w'.cell? ⟨b8, o8 + Int.toNat 8 * 1, none⟩ = some (.int .u8 (l.getD 8 0)) := fun hb => by
      rw [cell_of_blk hb]; exact hcell
    refine ld_of (c := .int .u8) (l.getD 8 0) (ecell hb8) ?_
    refine Rds.part hd2 12 (12 + m) rfl (by simp) (by omega) (by omega) fun s6 l6 r6 _ => ?_
    have lm : ((l.take (12 + m)).drop 12).length = m := by rw [List.length_drop, List.length_take]; omega
    refine bytes_Clone_ok r6 (by rw [lm]; omega) fun s7 B w3 hb7 f7 n7 _ _ => ?_
    refine held_one (ecell (by rw [f7.block b8 (lt_of_blk hb8) (by simp)]; exact hb8)) ?_
    have e1 : (w2.drew).heap.size = w2.heap.size := rfl
    have := hk s7 B w3 (by rw [ov]; exact hb7) (fd2.drew.trans f7) (fun b hb => by have := n7 b hb; have := fd2.size; omega)
    rw [ov] at this
    exact this

end Go.Proofs.YtmbcedengdoamaaGreatDoor
end

section
/- Pages: what is sealed opens. Conditions: those that stand in each line. -/
set_option linter.unusedVariables false
set_option linter.unusedSimpArgs false
namespace Go.Proofs.YtmbcedengdoamaaGreatDoor
open Go Go.Pt

theorem wu8 (x : Int) : IntKind.wrap .u8 x = x % 256 := by
  unfold IntKind.wrap
  have : (IntKind.u8.signed) = false := rfl
  simp only [this, Bool.false_and, Bool.false_eq_true, if_false]
  rfl

theorem or_low {r x : Int} (hr : 0 ≤ r ∧ r < 16777216) (hx : 0 ≤ x ∧ x < 256) : bits .or .u32 (IntKind.wrap .u32 (r * 2 ^ 8)) (IntKind.wrap .u32 x) = r * 256 + x := by
  rw [wu32 x (by omega), wu32 (r * 2 ^ 8) (by omega)]
  obtain ⟨a, rfl⟩ : ∃ a : Nat, r = a := ⟨r.toNat, by omega⟩
  obtain ⟨b, rfl⟩ : ∃ b : Nat, x = b := ⟨x.toNat, by omega⟩
  have e1 : ((a : Int) * 2 ^ 8) = ((2 ^ 8 * a : Nat) : Int) := by omega
  rw [e1]
  show IntKind.wrap .u32 ((BitVec.ofInt 32 ((2 ^ 8 * a : Nat) : Int) ||| BitVec.ofInt 32 (b : Int)).toNat : Nat) = _
  rw [BitVec.toNat_or, BitVec.ofInt_natCast, BitVec.ofInt_natCast, BitVec.toNat_ofNat, BitVec.toNat_ofNat, Nat.mod_eq_of_lt (show 2 ^ 8 * a < 2 ^ 32 by omega), Nat.mod_eq_of_lt (show b < 2 ^ 32 by omega), ← Nat.two_pow_add_eq_or_of_lt (show b < 2 ^ 8 by omega)]
  rw [wu32 _ (by omega)]
  omega

/-- The number of bytes, the highest first. -/
def beV (l : List Int) : Int := l.foldl (fun r x => r * 256 + x) 0

theorem getV_beV : ∀ {l : List Int}, IsB l → l.length ≤ 4 → getV l = beV l := by
  have key : ∀ (l : List Int) (r : Int) (k : Nat), IsB l → l.length ≤ k → k ≤ 4 → 0 ≤ r → r < 256 ^ (4 - k) →
      l.foldl (fun r x => bits .or .u32 (IntKind.wrap .u32 (r * 2 ^ 8)) (IntKind.wrap .u32 x)) r = l.foldl (fun r x => r * 256 + x) r := by
    intro l
    induction l with
    | nil => intros; rfl
    | cons x l ih =>
      intro r k hB hl hk h0 h1
      have hx := hB x (by simp)
      simp only [List.length_cons] at hl
      have hr : r < 16777216 := by
        have : (256 : Int) ^ (4 - k) ≤ 256 ^ 3 := by
          have : (4 - k) ≤ 3 := by omega
          match k, hk, hl with
          | 1, _, _ => decide
          | 2, _, _ => decide
          | 3, _, _ => decide
          | 4, _, _ => decide
        have e : (256 : Int) ^ 3 = 16777216 := by decide
        omega
      rw [List.foldl_cons, List.foldl_cons, or_low ⟨h0, hr⟩ hx]
      match k, hk, hl, h1 with
      | k + 1, hk, hl, h1 =>
        refine ih _ k (fun y hy => hB y (List.mem_cons_of_mem _ hy)) (by omega) (by omega) (by omega) ?_
        have e : 4 - k = (4 - (k + 1)) + 1 := by omega
        rw [e, Int.pow_succ]
        omega
  intro l hB hl
  exact key l 0 4 hB hl (by decide) (by decide) (by decide)

theorem byteAt_eq {n : Int} (h : 0 ≤ n) (j : Nat) (hj : j ≤ 3) : byteAt n j = n / 256 ^ j % 256 := by
  unfold byteAt
  rw [wu8, Int.fdiv_eq_ediv_of_nonneg _ (by exact Int.pow_nonneg (by decide))]
  match j, hj with
  | 0, _ => rfl
  | 1, _ => rfl
  | 2, _ => rfl
  | 3, _ => rfl

theorem be4 {n : Int} (h : 0 ≤ n) : be n 4 = [n / 16777216 % 256, n / 65536 % 256, n / 256 % 256, n % 256] := by
  have e : be n 4 = [byteAt n 3, byteAt n 2, byteAt n 1, byteAt n 0] := rfl
  rw [e, byteAt_eq h 3 (by decide), byteAt_eq h 2 (by decide), byteAt_eq h 1 (by decide), byteAt_eq h 0 (by decide)]
  simp

theorem be2 {n : Int} (h : 0 ≤ n) : be n 2 = [n / 256 % 256, n % 256] := by
  have e : be n 2 = [byteAt n 1, byteAt n 0] := rfl
  rw [e, byteAt_eq h 1 (by decide), byteAt_eq h 0 (by decide)]
  simp

theorem be_IsB (n : Int) (k : Nat) : IsB (be n k) := by
  intro x hx
  obtain ⟨i, _, rfl⟩ := List.mem_map.1 hx
  unfold byteAt
  rw [wu8]
  omega

theorem getV_be4 {n : Int} (h : 0 ≤ n ∧ n < 4294967296) : getV (be n 4) = n := by
  rw [getV_beV (be_IsB _ _) (by rw [be_len]; exact Nat.le_refl _), be4 h.1]
  show (((0 * 256 + _) * 256 + _) * 256 + _) * 256 + _ = n
  omega

theorem getV_be2 {n : Int} (h : 0 ≤ n ∧ n < 65536) : getV (be n 2) = n := by
  rw [getV_beV (be_IsB _ _) (by rw [be_len]; decide), be2 h.1]
  show (0 * 256 + _) * 256 + _ = n
  omega

theorem sumV_range (l : List Int) : 0 ≤ sumV l ∧ sumV l < 4294967296 := by
  unfold sumV moreV
  exact bits_u32_range _ _ _

theorem IsB.append {a b : List Int} (h : IsB a) (k : IsB b) : IsB (a ++ b) := fun x hx => by
  rcases List.mem_append.1 hx with h' | h'
  · exact h x h'
  · exact k x h'
theorem IsB.zs (n : Nat) : IsB (zs n) := fun x hx => by
  have := List.eq_of_mem_replicate hx
  omega
theorem IsB.one {x : Int} (h : 0 ≤ x ∧ x < 256) : IsB [x] := fun y hy => by simp at hy; subst hy; exact h

theorem restV_IsB {number kind : Int} {body : List Int} (hk : 0 ≤ kind ∧ kind < 256) (hb : IsB body) : IsB (restV number kind body) :=
  (((((be_IsB _ _).append (.one hk)).append (be_IsB _ _)).append (.one (by decide))).append hb).append (.zs _)
theorem sealV_IsB {number kind : Int} {body : List Int} (hk : 0 ≤ kind ∧ kind < 256) (hb : IsB body) : IsB (sealV number kind body) := (be_IsB _ _).append (restV_IsB hk hb)

theorem openV_sealV {number kind : Int} {body : List Int} (hn : 0 ≤ number ∧ number < 4294967296) (hl : body.length ≤ 500) : openV number (sealV number kind body) = (kind, body, 0) := by
  have hlen : IntKind.wrap .u32 (body.length : Int) = (body.length : Int) := wu32 _ (by omega)
  have e0 : sealV number kind body = be (sumV (restV number kind body)) 4 ++ (be number 4 ++ ([kind] ++ (be body.length 2 ++ ([0] ++ (body ++ zs (500 - body.length)))))) := by
    rw [sealV]
    conv => lhs; rhs; rw [restV]
    rw [hlen]
    simp only [List.append_assoc]
  have l4 := be_len (sumV (restV number kind body)) 4
  have e1 : (sealV number kind body).take 4 = be (sumV (restV number kind body)) 4 := by rw [sealV, List.take_append_of_le_length (by rw [be_len]; exact Nat.le_refl _), List.take_of_length_le (by rw [be_len]; exact Nat.le_refl _)]
  have e2 : (sealV number kind body).drop 4 = restV number kind body := by rw [sealV, List.drop_append_of_le_length (by rw [be_len]; exact Nat.le_refl _), List.drop_of_length_le (by rw [be_len]; exact Nat.le_refl _), List.nil_append]
  have b4 : ∀ n, ∃ a b c d, be n 4 = [a, b, c, d] := fun n => ⟨_, _, _, _, rfl⟩
  have b2 : ∀ n, ∃ a b, be n 2 = [a, b] := fun n => ⟨_, _, rfl⟩
  obtain ⟨a0, a1, a2, a3, ha⟩ := b4 (sumV (restV number kind body))
  obtain ⟨n0, n1, n2, n3, hnn⟩ := b4 number
  obtain ⟨l0, l1, hll⟩ := b2 body.length
  have e3 : sealV number kind body = a0 :: a1 :: a2 :: a3 :: n0 :: n1 :: n2 :: n3 :: kind :: l0 :: l1 :: 0 :: (body ++ zs (500 - body.length)) := by
    rw [e0, ha, hnn, hll]; rfl
  have g1 : getV ((sealV number kind body).take 4) = sumV ((sealV number kind body).drop 4) := by rw [e1, e2, getV_be4 (sumV_range _)]
  have g2 : getV (((sealV number kind body).take 8).drop 4) = number := by
    have : ((sealV number kind body).take 8).drop 4 = be number 4 := by rw [e3, hnn]; rfl
    rw [this, getV_be4 hn]
  have g3 : getV (((sealV number kind body).take 11).drop 9) = body.length := by
    have : ((sealV number kind body).take 11).drop 9 = be body.length 2 := by rw [e3, hll]; rfl
    rw [this, getV_be2 (by omega)]
  have g4 : (sealV number kind body).getD 11 0 = 0 := by rw [e3]; rfl
  have g5 : (sealV number kind body).getD 8 0 = kind := by rw [e3]; rfl
  have g6 : (sealV number kind body).drop (12 + body.length) = zs (500 - body.length) := by
    rw [e3, Nat.add_comm]
    show (body ++ zs (500 - body.length)).drop body.length = _
    rw [List.drop_append_of_le_length (Nat.le_refl _), List.drop_length, List.nil_append]
  have g7 : ((sealV number kind body).take (12 + body.length)).drop 12 = body := by
    rw [e3, Nat.add_comm]
    show (body ++ zs (500 - body.length)).take body.length = _
    rw [List.take_append_of_le_length (Nat.le_refl _), List.take_length]
  rw [openV, if_neg (by rw [sealV_len hl]; simp), if_neg (by rw [g1]; simp), if_neg (by rw [g2]; simp), g3, g4, if_neg (by simp; omega), Int.toNat_natCast, g6, if_neg, g5, g7]
  rintro ⟨x, hx, h0⟩
  exact h0 (List.eq_of_mem_replicate hx)

end Go.Proofs.YtmbcedengdoamaaGreatDoor
end

section
/- Rules for ranges over functions, for rows of many cells. Conditions: those that stand in each line. -/
set_option linter.unusedVariables false
namespace Go.Pt
open Go

variable {S : List Nat} {w0 w : World} {L : List (Nat × Obj)} {P : Program}

theorem putObj_upd (w : World) (b : Nat) (o : Obj) : w.putObj b o = upd w b o := rfl

/-- A range over a function: the iterator is called, whatever its yield does being known. -/
theorem Own.rng {v : Value} {pts : List Ty1} {body : ElR pts → (World → (World → Prop) → Prop) → (World → Prop) → (Nat → World → Prop) → World → Prop} {done : Nat → World → Prop} {jumps : List (Nat → World → Prop)} {f : FuncId} {lb : List Value} (h : Own S w0 w L) (hv : v = .func (.func f) #[] lb.toArray) (hb : bodyless P f = false)
    (k : ∀ (D l : Nat) (R B : Obj) (J E : Nat → Obj) (E0 : Obj) (w1 : World), l = w.heap.size + 1 → D = w.heap.size → Fr [] w w1 → Own S w0 w1 ((l, R) :: (D, .deferred (some [])) :: L) → yieldsBy P pts body l R B J →
      call P f (.func (.yield l) #[] #[] :: lb) [] w1 (fun _ W => (W.heap[l]? = some R ∧ done D (Pt.upd W l E0)) ∨ ∃ i k, jumps[i]? = some k ∧ W.heap[l]? = some (J i) ∧ k D (Pt.upd W l (E i)))) : Pt.rng P v pts body done jumps w := by
  refine ⟨f, lb, hv, hb, fun R B J E E0 hy => ?_⟩
  have h1 := h.alloc (.deferred (some []))
  have h2 := h1.alloc R
  rw [World.size_alloc] at h2
  exact k _ _ R B J E E0 _ rfl rfl (((Fr.refl [] w).alloc _).alloc _) h2 hy

/-- The end of a function in which a range over a function stood. -/
theorem Own.undefer {D : Nat} {K : World → Prop} (h : Own S w0 w L) (i : Nat) (hi : L[i]? = some (D, .deferred (some []))) (k : ∀ w', Own S w0 w' (L.set i (D, .deferred none)) → K w') : Pt.undefer D w K :=
  ⟨h.at hi, k _ (Own.upd h i hi)⟩

theorem callV_func {v : Value} {f : FuncId} {lb args : List Value} {ts : List Ty1} {K : ElR ts → World → Prop} (hv : v = .func (.func f) #[] lb.toArray) (hb : bodyless P f = false) (k : call P f (args ++ lb) ts w K) : callV P v args ts w K := by
  subst hv
  refine .inl ⟨f, args ++ lb, ?_, k⟩
  simp [Deferred.ofValue, invoke, callFunc_run hb]

theorem ldV_of {n : Nat} {a : Addr} {K : List Value → Prop} (x : List Value) (h1 : x.length = n) (h2 : cellsAt w a 0 x) (k : K x) : Pt.ldV n a w K := ⟨x, ⟨h1, h2⟩, k⟩
theorem ldV_blk {n b off : Nat} {cs : Array Value} {T : TypeId} {fr : Nat × Nat} {K : List Value → Prop} (hb : w.heap[b]? = some (.cells cs T fr)) (x : List Value) (h1 : x.length = n) (hx : (cs.toList.drop off).take n = x) (k : K x) : Pt.ldV n ⟨b, off, none⟩ w K :=
  ⟨x, ⟨h1, cellsAt_blk hb _ off 0 (by rw [h1]; exact hx)⟩, k⟩
theorem fld_of {c : Cell} {vs : List Value} {off : Nat} {K : c.El → Prop} (x : c.El) (h : vs[off]? = some (c.mk x)) (k : K x) : Pt.fld c vs off K := ⟨x, h, k⟩
theorem fldA_of {cs : List Cell} {vs : List Value} {off : Nat} {K : HL cs → Prop} (x : HL cs) (h : vs.extract off (off + cs.length) = HL.mk cs x) (k : K x) : Pt.fldA cs vs off K := ⟨x, h, k⟩
theorem s2a_of {a : Addr} {len cap n : Nat} {K : Addr → Prop} (h : n ≤ len) (k : K a) : s2a ⟨some a, len, cap⟩ n K := ⟨a, rfl, h, k⟩

/-- A new variable of many cells, at once filled. -/
theorem Own.newFill {t : TypeId} {vs : List Value} {n : Nat} {K : Nat → World → Prop} (h : Own S w0 w L) (hz : ((P.info? t).bind (·.zero)).map (fun z => z.cells.size) = some n) (hn : vs.length = n) (h1 : (vs.all Value.oneCell') = true)
    (k : ∀ b w', b = w.heap.size → Own S w0 w' ((b, .cells vs.toArray t (0, 0)) :: L) → K b w') : Pt.newZ P t w fun r w1 => chk (vs.length = n) (Pt.st ⟨r, 0, none⟩ vs w1 fun w2 => K r w2) := by
  obtain ⟨z, hz, hzs⟩ := Option.map_eq_some_iff.1 hz
  refine ⟨z, hz, hn, ?_⟩
  have h2 := h.alloc (.cells z.cells t)
  refine Own.st h2 0 rfl vs.toArray (splice_all (by omega)) h1 (Nat.ble_eq_true_of_le (by omega)) fun w' h3 _ => ?_
  exact k _ w' rfl h3

/-- A new variable of many cells. -/
theorem Own.newZ {t : TypeId} {zs : List Value} {K : Nat → World → Prop} (h : Own S w0 w L) (hz : ((P.info? t).bind (·.zero)).map (fun z => z.cells.toList) = some zs)
    (k : ∀ b w', b = w.heap.size → Own S w0 w' ((b, .cells zs.toArray t (0, 0)) :: L) → K b w') : Pt.newZ P t w K := by
  obtain ⟨z, hz, hzs⟩ := Option.map_eq_some_iff.1 hz
  refine ⟨z, hz, ?_⟩
  have h2 := h.alloc (.cells z.cells t)
  have e : zs.toArray = z.cells := by rw [← hzs]
  rw [← e] at h2 ⊢
  exact k _ _ rfl h2

/-! ### make, of elements of many cells -/
theorem mkCells_rep {zero : List Value} {k : Nat} (hk : zero.length = k) (n : Nat) : (mkCells (if n * k = 0 then [] else zero) (n * k)).toList = (List.replicate n zero).flatten := by
  by_cases h0 : n * k = 0
  · rw [if_pos h0, h0]
    rcases Nat.mul_eq_zero.1 h0 with h | h
    · subst h; simp [mkCells]
    · have : zero = [] := List.eq_nil_of_length_eq_zero (by omega)
      subst this
      simp [mkCells]
  · rw [if_neg h0]
    have hpos : 0 < k := Nat.pos_of_ne_zero fun e => h0 (by rw [e]; simp)
    apply List.ext_getElem?
    intro i
    have hlen : ∀ n, ((List.replicate n zero).flatten).length = n * k := by intro n; simp [hk]
    have key : ∀ n i, i < n * k → ((List.replicate n zero).flatten)[i]? = zero[i % k]? := by
      intro n
      induction n with
      | zero => intro i hi; simp at hi
      | succ n ih =>
        intro i hi
        rw [Nat.succ_mul] at hi
        rw [List.replicate_succ, List.flatten_cons]
        by_cases hik : i < k
        · rw [List.getElem?_append_left (by omega), Nat.mod_eq_of_lt hik]
        · rw [List.getElem?_append_right (by omega), hk, ih (i - k) (by omega)]
          congr 1
          exact (Nat.mod_eq_sub_mod (by omega)).symm
    have hl2 := hlen n
    have hsz : (mkCells zero (n * k)).toList.length = n * k := by simp [mkCells]
    by_cases hi : i < n * k
    · rw [key n i hi]
      have hlt : i % k < zero.length := by rw [hk]; exact Nat.mod_lt _ hpos
      have h1 : (mkCells zero (n * k)).toList[i]? = some (zero.toArray[i % zero.toArray.size]!) := by
        simp [mkCells, hi]
      rw [h1, List.getElem?_eq_getElem hlt]
      simp [hk, List.getElem?_eq_getElem hlt]
    · rw [List.getElem?_eq_none (by rw [hsz]; omega), List.getElem?_eq_none (by rw [hl2]; omega)]

theorem Own.mkN {el : TypeId} {zero : List Value} {size bytes : Nat} {l c : Int} {K : Sl → World → Prop} (h : Own S w0 w L) (hk : zero.length = size) (h0 : 0 ≤ l) (h1 : l ≤ c) (h2 : (bytes : Int) * c ≤ 2 ^ 48) (h3 : c ≤ 2 ^ 48)
    (k : ∀ b w', b = w.heap.size → Own S w0 w' ((b, .cells ((List.replicate c.toNat zero).flatten).toArray el (0, 0)) :: L) → K ⟨some ⟨b, 0, none⟩, l.toNat, c.toNat⟩ w') : mkS el zero size bytes l c w K := by
  refine ⟨⟨h0, h1, h2, h3⟩, ?_⟩
  have e := mkCells_rep hk c.toNat
  have e' : mkCells (if c.toNat * size = 0 then [] else zero) (c.toNat * size) = ((List.replicate c.toNat zero).flatten).toArray := by
    apply Array.ext'
    rw [e]
  rw [e']
  exact k _ _ rfl (h.alloc _)


/-- A new block: all that was there is as it was. -/
theorem Own.new' {o : Obj} {K : Nat → World → Prop} (h : Own S w0 w L) (k : ∀ b w', b = w.heap.size → Fr [] w w' → Own S w0 w' ((b, o) :: L) → K b w') : Pt.new o w K :=
  k _ _ rfl ((Fr.refl [] w).alloc o) (h.alloc o)

/-- A store: only that block turns. -/
theorem Own.st' {b off : Nat} {cs : Array Value} {T : TypeId} {vs : List Value} {K : World → Prop} (h : Own S w0 w L) (i : Nat) (hi : L[i]? = some (b, .cells cs T (0, 0))) (cs' : Array Value) (hcs : splice cs off vs = cs') (h1 : (vs.all Value.oneCell') = true) (hl : off + vs.length ≤ cs.size)
    (k : ∀ w', Own S w0 w' (L.set i (b, .cells cs' T (0, 0))) → Fr [b] w w' → K w') : Pt.st ⟨b, off, none⟩ vs w K :=
  st_blk (w := w) vs off 0 cs w K (h.at hi) h1 hl (k _ (by rw [Nat.add_zero, hcs]; exact Own.upd h i hi) (upd_fr' (lt_of_blk (h.at hi)) _))

/-- A store into a block that is known. -/
theorem st_fr {b off : Nat} {cs : Array Value} {T : TypeId} {vs : List Value} {K : World → Prop} (hb : w.heap[b]? = some (.cells cs T (0, 0))) (cs' : Array Value) (hcs : splice cs off vs = cs') (h1 : (vs.all Value.oneCell') = true) (hl : off + vs.length ≤ cs.size)
    (k : ∀ w', w'.heap[b]? = some (.cells cs' T (0, 0)) → Fr [b] w w' → K w') : Pt.st ⟨b, off, none⟩ vs w K :=
  st_blk (w := w) vs off 0 cs w K hb h1 hl (k _ (by rw [Nat.add_zero, hcs, heap_upd _ _ _ _ (lt_of_blk hb), if_pos rfl]) (upd_fr' (lt_of_blk hb) _))

/-- From here on: what is held may turn, all else is to stay. -/
theorem Own.rebase (h : Own S w0 w L) : Own (L.map (·.1)) w w L := ⟨h.blk, h.nodup, .refl _ _, fun p hp => .inl (List.mem_map_of_mem hp)⟩
theorem Own.rebaseS (h : Own S w0 w L) (T : List Nat) : Own (L.map (·.1) ++ T) w w L := ⟨h.blk, h.nodup, .refl _ _, fun p hp => .inl (List.mem_append_left _ (List.mem_map_of_mem hp))⟩
theorem Own.backS {w' : World} {T : List Nat} (h : Own S w0 w L) (hT : ∀ b ∈ T, b ∈ S ∨ w0.heap.size ≤ b) (f : Fr (L.map (·.1) ++ T) w w') : Fr S w0 w' :=
  h.fr.trans' f fun b hb => by
    rcases List.mem_append.1 hb with hb | hb
    · obtain ⟨p, hp, rfl⟩ := List.mem_map.1 hb
      exact h.own p hp
    · exact hT b hb
/-- What is held now, seen from the beginning again. -/
theorem Own.rejoin {w' : World} {T : List Nat} {L' : List (Nat × Obj)} (h : Own S w0 w L) (hT : ∀ b ∈ T, b ∈ S ∨ w0.heap.size ≤ b) (k : Own (L.map (·.1) ++ T) w w' L') : Own S w0 w' L' :=
  ⟨k.blk, k.nodup, h.backS hT k.fr, fun p hp => by
    rcases k.own p hp with hb | hb
    · rcases List.mem_append.1 hb with hb | hb
      · obtain ⟨q, hq, hqe⟩ := List.mem_map.1 hb
        rw [← hqe]; exact h.own q hq
      · exact hT _ hb
    · exact .inr (Nat.le_trans h.fr.size hb)⟩

/-- What came of a rebased row, seen from the beginning. -/
theorem Own.back {w' : World} {L' : List (Nat × Obj)} (h : Own S w0 w L) (f : Fr (L.map (·.1)) w w') : Fr S w0 w' :=
  h.fr.trans' f fun b hb => by
    obtain ⟨p, hp, rfl⟩ := List.mem_map.1 hb
    exact h.own p hp

def fieldsOf (P : Program) (t : TypeId) : Array Field := match P.underlying t with | some (.struct fs) => fs | _ => #[]

/-- A struct of two parts, built of both. -/
theorem run_build2 {t : TypeId} {z a b : Value} {o1 s0 s1 : Nat} (hz : (P.info? t).bind (·.zero) = some z) (hu : P.underlying t = some (.struct (fieldsOf P t))) (hpl : ∀ w, ((fieldsOf P t).mapM fun f => do pure (f.offset, ← sizeOf f.type) : Sem (Array (Nat × Nat))).run P w = .ok #[(0, s0), (o1, s1)] w)
    (ha : a.cells.size = s0) (hb : b.cells.size = s1) (ho : o1 = s0) (hs : z.cells.size = s0 + s1) (w : World) : (Instr.build t #[(0, a), (1, b)]).run P w = .ok (.agg (a.cells.toList ++ b.cells.toList).toArray) w := by
  have h1 := fill_put 0 a.cells z.cells
  have h2 := fill_put o1 b.cells (splice z.cells 0 a.cells.toList)
  have key : Instr.fill ((#[(0, s0), (o1, s1)] : Array (Nat × Nat))[·]?) z.cells [(0, a), (1, b)] = some (a.cells.toList ++ b.cells.toList).toArray := by
    have e0 : (#[(0, s0), (o1, s1)] : Array (Nat × Nat))[0]? = some (0, s0) := rfl
    have e1 : (#[(0, s0), (o1, s1)] : Array (Nat × Nat))[1]? = some (o1, s1) := rfl
    simp only [Instr.fill, e0, e1]
    have c1 : ¬ (decide (a.cells.size ≠ s0) || decide (0 + a.cells.size > z.cells.size)) = true := by simp [ha]; omega
    have c2 : ¬ (decide (b.cells.size ≠ s1) || decide (o1 + b.cells.size > (splice z.cells 0 a.cells.toList).size)) = true := by simp [hb, size_splice]; omega
    rw [if_neg c1, h1, if_neg c2, h2]
    congr 1
    apply Array.ext'
    rw [splice_toList _ _ _ (by rw [size_splice, Array.length_toList]; omega), splice_toList _ _ _ (by rw [Array.length_toList]; omega)]
    have hal : a.cells.toList.length = o1 := by rw [Array.length_toList]; omega
    simp only [List.take_zero, List.nil_append, Nat.zero_add]
    rw [List.take_append_of_le_length (by omega), List.take_of_length_le (by omega), List.drop_of_length_le (by simp; omega), List.append_nil]
  simp only [Instr.build, Sem.run_bind, run_zeroValue' hz, Result.andThen_ok, run_underlying hu, hpl, key, Sem.run_pure]

/-- l[i], as a row of cells. -/
theorem Rds.getV {α : Type} {enc : α → List Value} {k : Nat} {S : List Nat} {w : World} {s : Sl} {l : List α} (h : Rds enc k S w s l) (henc : ∀ x, (enc x).length = k) (n : Nat) {i : Int} {x : α} {K : List Value → Prop} (hi : i = n) (hx : l[n]? = some x) (kk : K (enc x)) : idx s i k fun a => Pt.ldV k a w K := by
  subst hi
  obtain ⟨hn, b, o, ha, _, cs, T, fr, hb, hc⟩ := h.at n hx
  refine idx_of ha ⟨by omega, by omega⟩ ?_
  rw [Int.toNat_natCast]
  exact ldV_blk hb _ (henc x) hc kk

/-- One element of a row that is one's own block, written over. -/
theorem splice_elem {α : Type} {enc : α → List Value} {k : Nat} (henc : ∀ x, (enc x).length = k) : ∀ (l : List α) (i : Nat) (x : α), i < l.length → splice (l.flatMap enc).toArray (i * k) (enc x) = ((l.set i x).flatMap enc).toArray := by
  intro l i x hi
  have hsplit : l = l.take i ++ l[i] :: l.drop (i + 1) := by rw [← List.drop_eq_getElem_cons hi, List.take_append_drop]
  have hset : l.set i x = l.take i ++ x :: l.drop (i + 1) := by rw [List.set_eq_take_append_cons_drop, if_pos hi]
  have hlen : ((l.take i).flatMap enc).length = i * k := by rw [flatMap_len henc, List.length_take, Nat.min_eq_left (by omega)]
  have e1 : l.flatMap enc = (l.take i).flatMap enc ++ enc l[i] ++ (l.drop (i + 1)).flatMap enc := by
    conv => lhs; rw [hsplit]
    rw [List.flatMap_append, List.flatMap_cons, List.append_assoc]
  have e2 : (l.set i x).flatMap enc = (l.take i).flatMap enc ++ enc x ++ (l.drop (i + 1)).flatMap enc := by
    rw [hset, List.flatMap_append, List.flatMap_cons, List.append_assoc]
  rw [e1, e2]
  generalize (l.take i).flatMap enc = A at hlen
  generalize hX : enc l[i] = X
  have hXl : X.length = (enc x).length := by rw [← hX, henc, henc]
  generalize (l.drop (i + 1)).flatMap enc = Z
  apply Array.ext'
  rw [splice_toList _ _ _ (by simp; omega)]
  rw [← hlen]
  have h1 : (A ++ X ++ Z).take A.length = A := by rw [List.append_assoc, List.take_append_of_le_length (Nat.le_refl _), List.take_of_length_le (Nat.le_refl _)]
  have h2 : (A ++ X ++ Z).drop (A.length + (enc x).length) = Z := by
    rw [← hXl, ← List.length_append, List.drop_append_of_le_length (Nat.le_refl _), List.drop_of_length_le (Nat.le_refl _), List.nil_append]
  rw [h1, h2]

end Go.Pt
end

section
/- The free list: Need, rises, put, get, Parse. Conditions: those that stand in each line. -/
set_option linter.unusedVariables false
set_option linter.unusedSimpArgs false
namespace Go.Proofs.YtmbcedengdoamaaGreatDoor
open Go Go.Pt
attribute [local irreducible] ld ldA ldV fld fldA newZ st new idx idxS idxA slc slcS slcP mkS chk nn call callV inv run runQ runU join loop held ext rng undefer s2a IntKind.wrap

/-- How many pages a list takes. -/
def needP (n : Nat) : Nat := if n = 0 then 0 else (n - 1) / 124 + 1

theorem FNeed_ok {n : Nat} {w : World} {K : Int → World → Prop} (hn : n ≤ 1000000) (hk : K (needP n) w) : call Tryz.prog 88 [.int .i64 n] [.one (.int .i64)] w K := by
  refine freelist_Need_of ?_
  unfold freelist_NeedF
  refine cond_of (fun hc => ?_) (fun hc => ?_)
  · have := of_decide_eq_true hc
    have h0 : n = 0 := by omega
    subst h0
    exact hk
  · have := of_decide_eq_false hc
    have h0 : n ≠ 0 := by omega
    rw [needP, if_neg h0] at hk
    rw [wi' ((n : Int) - 1) (by omega)]
    have e : Int.tdiv ((n : Int) - 1) 124 = (((n - 1) / 124 : Nat) : Int) := by
      rw [Int.tdiv_eq_ediv_of_nonneg (by omega)]
      omega
    rw [e, wi' (((n - 1) / 124 : Nat) : Int) (by omega), wi' ((((n - 1) / 124 : Nat) : Int) + 1) (by omega)]
    exact hk

def risesB : Int → List Int → Bool
  | _, [] => true
  | a, x :: r => decide (a < x) && risesB x r

theorem risesB_drop {a : Int} {l : List Int} : ∀ {i : Nat}, risesB a l = true → True := fun _ => trivial

theorem rises_ok {S : List Nat} {w : World} {s : Sl} {l : List Int} {K : Bool → World → Prop} (h : Rd S w s l) (hl : l.length ≤ 1000000) (hk : K (risesB 1 l) w) :
    call Tryz.prog 132 [.slice s.a s.len s.cap] [.one .bool] w K := by
  refine freelist_rises_of (l := s) ?_
  unfold freelist_risesF
  have hlen := h.1
  refine loop_ind (fun x w' => w' = w ∧ ∃ i : Nat, x.2 = i ∧ i ≤ l.length ∧ risesB x.1 (l.drop i) = risesB 1 l) (fun x _ => ((l.length : Int) - x.2).toNat) ⟨rfl, 0, rfl, by omega, by simp⟩ ?_
  rintro ⟨a, ii⟩ w' ⟨rfl, i, hi0, hi, hr⟩ X hX
  simp only at hi0 hr
  subst hi0
  refine cond_of (fun hc => ?_) (fun hc => ?_)
  · have hil : i < l.length := by have := of_decide_eq_true hc; omega
    refine Rd.at h i rfl (List.getElem?_eq_getElem hil) ?_
    rw [List.drop_eq_getElem_cons hil, risesB] at hr
    refine cond_of (fun hx => ?_) (fun hx => ?_)
    · have := of_decide_eq_true hx
      rw [show decide (a < l[i]) = false by rw [decide_eq_false_iff_not]; omega, Bool.false_and] at hr
      rw [← hr] at hk
      exact hk
    · have := of_decide_eq_false hx
      rw [show decide (a < l[i]) = true by rw [decide_eq_true_iff]; omega, Bool.true_and] at hr
      rw [wi' _ (by omega)]
      exact hX _ _ ⟨rfl, i + 1, by simp, by omega, hr⟩ (by dsimp only; omega)
  · have hil : i = l.length := by have := of_decide_eq_false hc; omega
    subst hil
    rw [List.drop_length] at hr
    rw [← hr] at hk
    exact hk

theorem byteAt0 (n : Int) : byteAt n 0 = IntKind.wrap .u8 n := by
  unfold byteAt
  have : Int.fdiv n (2 ^ min (8 * 0) 32) = n := by
    show Int.fdiv n (2 ^ 0) = n
    simp
  rw [this]

/-- Four bytes of a number, laid behind others. -/
theorem put4_core {w : World} {s : Sl} {l : List Int} {B : List Nat} {n : Int} {K : Sl → World → Prop} (h : BufB w s l B) (hl : l.length ≤ 1000000)
    (hk : ∀ s' B' w', BufB w' s' (l ++ be n 4) B' → Fr B w w' → (∀ b ∈ B', b ∈ B ∨ w.heap.size ≤ b) → K s' w') :
    new (.cells #[.int .u8 (IntKind.wrap .u8 (Int.fdiv n (2 ^ 24))), .int .u8 (IntKind.wrap .u8 (Int.fdiv n (2 ^ 16))), .int .u8 (IntKind.wrap .u8 (Int.fdiv n (2 ^ 8))), .int .u8 (IntKind.wrap .u8 n)] 5) w fun r w2 =>
      Pt.run [Ty1.one Cell.slice] ((Builtin.append_ #[22, 22] 22 #[.slice s.a s.len s.cap, .slice (some ⟨r, 0, none⟩) 4 4]).run Tryz.prog w2) fun s' w' => K s' w' := by
  obtain ⟨i5, hi, hz, hsz, hby⟩ := info5
  refine Own.new' (Own.start [] w) fun r w1 e1 f1 ho => ?_
  have hbe : be n 4 = [byteAt n 3, byteAt n 2, byteAt n 1, byteAt n 0] := rfl
  have hs1 := f1.size
  refine Buf.appSrc (ys := be n 4) (e := 5) (h.frame0 f1) encB_len (by kernel_rfl) hi hz hsz rfl (.ofSlice _ (e' := 5) (by kernel_rfl) _ 4 4 _ (by rw [flatMap_encB]; simp [be_len]) (fun j u hj => ?_) (fun u hu => ?_)) (be_len n 4).symm (by rw [hby]; omega) (by omega) fun s' B' w' g1 g2 g3 _ => ?_
  · rw [Addr.add_mk, cell_of_blk (ho.at (i := 0) rfl), Nat.zero_add]
    rw [flatMap_encB, hbe, byteAt0] at hj
    rw [List.getElem?_toArray]
    exact hj
  · rw [flatMap_encB] at hu
    obtain ⟨x, _, rfl⟩ := List.mem_map.1 hu
    rfl
  · refine hk s' B' w' g1 ((f1.mono (fun i hi _ => by cases hi)).trans' g2 (fun b hb => .inl hb)) (fun b hb => ?_)
    rcases g3 b hb with h | h
    · exact .inl h
    · exact .inr (by omega)

theorem fput_ok {w : World} {s : Sl} {l : List Int} {B : List Nat} {n : Int} {K : Sl → World → Prop} (h : BufB w s l B) (hl : l.length ≤ 1000000)
    (hk : ∀ s' B' w', BufB w' s' (l ++ be n 4) B' → Fr B w w' → (∀ b ∈ B', b ∈ B ∨ w.heap.size ≤ b) → K s' w') :
    call Tryz.prog 145 [.slice s.a s.len s.cap, .int .u32 n] [.one .slice] w K := by
  refine freelist_put_of (b := s) ?_
  unfold freelist_putF
  exact put4_core h hl hk

theorem or_add32 {A B : Int} (k : Nat) (hA : 0 ≤ A) (hm : A % 2 ^ k = 0) (hB : 0 ≤ B) (hBk : B < 2 ^ k) (hs : A + B < 4294967296) : bits .or .u32 A B = A + B := by
  obtain ⟨a, rfl⟩ : ∃ a : Nat, A = a := ⟨A.toNat, by omega⟩
  obtain ⟨b, rfl⟩ : ∃ b : Nat, B = b := ⟨B.toNat, by omega⟩
  have hm' : a % 2 ^ k = 0 := by
    have : ((a : Int) % ((2 ^ k : Nat) : Int)) = 0 := by rw [Int.natCast_pow]; exact hm
    omega
  have hb' : b < 2 ^ k := by
    have : (b : Int) < ((2 ^ k : Nat) : Int) := by rw [Int.natCast_pow]; exact hBk
    omega
  obtain ⟨q, rfl⟩ : ∃ q, a = 2 ^ k * q := ⟨a / 2 ^ k, by have := Nat.div_add_mod a (2 ^ k); omega⟩
  show IntKind.wrap .u32 ((BitVec.ofInt 32 ((2 ^ k * q : Nat) : Int) ||| BitVec.ofInt 32 (b : Int)).toNat : Nat) = _
  rw [BitVec.toNat_or, BitVec.ofInt_natCast, BitVec.ofInt_natCast, BitVec.toNat_ofNat, BitVec.toNat_ofNat, Nat.mod_eq_of_lt (show 2 ^ k * q < 2 ^ 32 by omega), Nat.mod_eq_of_lt (show b < 2 ^ 32 by omega), ← Nat.two_pow_add_eq_or_of_lt hb']
  rw [wu32 _ (by omega)]
  omega

def get4V (a b c d : Int) : Int := bits .or .u32 (bits .or .u32 (bits .or .u32 (IntKind.wrap .u32 (IntKind.wrap .u32 a * 2 ^ 24)) (IntKind.wrap .u32 (IntKind.wrap .u32 b * 2 ^ 16))) (IntKind.wrap .u32 (IntKind.wrap .u32 c * 2 ^ 8))) (IntKind.wrap .u32 d)

theorem get4V_eq {a b c d : Int} (ha : 0 ≤ a ∧ a < 256) (hb : 0 ≤ b ∧ b < 256) (hc : 0 ≤ c ∧ c < 256) (hd : 0 ≤ d ∧ d < 256) : get4V a b c d = ((a * 256 + b) * 256 + c) * 256 + d := by
  unfold get4V
  rw [wu32 a (by omega), wu32 b (by omega), wu32 c (by omega), wu32 d (by omega), wu32 (a * 2 ^ 24) (by omega), wu32 (b * 2 ^ 16) (by omega), wu32 (c * 2 ^ 8) (by omega)]
  rw [or_add32 (A := a * 2 ^ 24) (B := b * 2 ^ 16) 24 (by omega) (by omega) (by omega) (by omega) (by omega)]
  rw [or_add32 (B := c * 2 ^ 8) 16 (by omega) (by omega) (by omega) (by omega) (by omega)]
  rw [or_add32 (B := d) 8 (by omega) (by omega) (by omega) (by omega) (by omega)]
  omega

theorem be4_get4 {n : Int} (h : 0 ≤ n ∧ n < 4294967296) : get4V (n / 16777216 % 256) (n / 65536 % 256) (n / 256 % 256) (n % 256) = n := by
  rw [get4V_eq (by omega) (by omega) (by omega) (by omega)]
  omega

/-- The number of the first four bytes. -/
def first4 (l : List Int) : Int := get4V (l.getD 0 0) (l.getD 1 0) (l.getD 2 0) (l.getD 3 0)

theorem getD_some {l : List Int} {n : Nat} (h : n < l.length) : l[n]? = some (l.getD n 0) := by rw [List.getD_eq_getElem?_getD, List.getElem?_eq_getElem h]; rfl

theorem get4_core {S : List Nat} {w : World} {s : Sl} {l : List Int} {K : Int → World → Prop} (h : RdB S w s l) (hl : 4 ≤ l.length) (hk : K (first4 l) w) :
    (idx s 0 1 fun a => ld (.int .u8) a w fun x2 => idx s 1 1 fun a => ld (.int .u8) a w fun x4 => idx s 2 1 fun a => ld (.int .u8) a w fun x6 => idx s 3 1 fun a => ld (.int .u8) a w fun x8 => K (get4V x2 x4 x6 x8) w) := by
  refine RdB.at h 0 rfl (getD_some (by omega)) ?_
  refine RdB.at h 1 rfl (getD_some (by omega)) ?_
  refine RdB.at h 2 rfl (getD_some (by omega)) ?_
  refine RdB.at h 3 rfl (getD_some (by omega)) ?_
  exact hk

theorem fget_ok {S : List Nat} {w : World} {s : Sl} {l : List Int} {K : Int → World → Prop} (h : RdB S w s l) (hl : 4 ≤ l.length) (hk : K (first4 l) w.drew) : call Tryz.prog 131 [.slice s.a s.len s.cap] [.one (.int .u32)] w K := by
  refine freelist_get_of (b := s) ?_
  unfold freelist_getF
  exact get4_core (w := w.drew) h hl hk

end Go.Proofs.YtmbcedengdoamaaGreatDoor
end

section
/- The free list: Parse. Conditions: those that stand in each line. -/
set_option linter.unusedVariables false
set_option linter.unusedSimpArgs false
namespace Go.Proofs.YtmbcedengdoamaaGreatDoor
open Go Go.Pt
attribute [local irreducible] ld ldA ldV fld fldA newZ st new idx idxS idxA slc slcS slcP mkS chk nn call callV inv run runQ runU join loop held ext rng undefer s2a IntKind.wrap

theorem or_add64 {A B : Int} (k : Nat) (hA : 0 ≤ A) (hm : A % 2 ^ k = 0) (hB : 0 ≤ B) (hBk : B < 2 ^ k) (hs : A + B < 4294967296) : bits .or .i64 A B = A + B := by
  obtain ⟨a, rfl⟩ : ∃ a : Nat, A = a := ⟨A.toNat, by omega⟩
  obtain ⟨b, rfl⟩ : ∃ b : Nat, B = b := ⟨B.toNat, by omega⟩
  have hm' : a % 2 ^ k = 0 := by
    have : ((a : Int) % ((2 ^ k : Nat) : Int)) = 0 := by rw [Int.natCast_pow]; exact hm
    omega
  have hb' : b < 2 ^ k := by
    have : (b : Int) < ((2 ^ k : Nat) : Int) := by rw [Int.natCast_pow]; exact hBk
    omega
  obtain ⟨q, rfl⟩ : ∃ q, a = 2 ^ k * q := ⟨a / 2 ^ k, by have := Nat.div_add_mod a (2 ^ k); omega⟩
  show IntKind.wrap .i64 ((BitVec.ofInt 64 ((2 ^ k * q : Nat) : Int) ||| BitVec.ofInt 64 (b : Int)).toNat : Nat) = _
  rw [BitVec.toNat_or, BitVec.ofInt_natCast, BitVec.ofInt_natCast, BitVec.toNat_ofNat, BitVec.toNat_ofNat, Nat.mod_eq_of_lt (show 2 ^ k * q < 2 ^ 64 by omega), Nat.mod_eq_of_lt (show b < 2 ^ 64 by omega), ← Nat.two_pow_add_eq_or_of_lt hb']
  rw [wi' _ (by omega)]
  omega

def cntV (l : List Int) : Int := l.getD 4 0 * 256 + l.getD 5 0
def numsV (l : List Int) (n : Nat) : List Int := (List.range n).map fun i => first4 (l.drop (6 + 4 * i))
/-- What a page of a list says: the next one, the numbers, the error's number. -/
def parseV (l : List Int) : Int × List Int × Int :=
  if l.length < 6 then (0, [], 2) else
  if first4 l = 1 ∨ cntV l > 123 ∨ (l.length : Int) ≠ 6 + 4 * cntV l then (0, [], 2) else
  if risesB 1 (numsV l (cntV l).toNat) then (first4 l, numsV l (cntV l).toNat, 0) else (0, [], 2)

theorem FParse_ok {S : List Nat} {w : World} {s : Sl} {l : List Int} {K : Int × Sl × Int → World → Prop} (h : RdB S w s l) (hB : IsB l) (hl : l.length ≤ 100000)
    (hk : ∀ s' B w', BufU w' s' (parseV l).2.1 B → Fr [] w w' → (∀ b ∈ B, w.heap.size ≤ b) → K ((parseV l).1, s', (parseV l).2.2) w') :
    call Tryz.prog 105 [.slice s.a s.len s.cap] [.one (.int .u32), .one .slice, .one (.int .i64)] w K := by
  refine freelist_Parse_of (body := s) ?_
  unfold freelist_ParseF
  have hlen := h.1
  have bad : ∀ {e : Int} {w' : World}, parseV l = (0, [], e) → Fr [] w w' → K (0, ⟨none, 0, 0⟩, e) w' := by
    intro e w' he hf
    have := hk ⟨none, 0, 0⟩ [] w' (by rw [he]; exact .nil _ _ _) hf (by simp)
    rw [he] at this
    exact this
  refine cond_of (fun hc => ?_) (fun hc => ?_)
  · have := of_decide_eq_true hc
    exact bad (by rw [parseV, if_pos (by omega)]) (.refl _ _)
  have h6 : ¬ l.length < 6 := by have := of_decide_eq_false hc; omega
  have fd : Fr [] w w.drew := (Fr.refl _ _).drew
  have fdd : Fr [] w w.drew.drew := fd.drew
  obtain ⟨_, b4, o4, ha4, hS4, cs4, T4, fr4, hb4, hc4⟩ := Rds.at h 4 (getD_some (l := l) (n := 4) (by omega))
  obtain ⟨_, b5, o5, ha5, hS5, cs5, T5, fr5, hb5, hc5⟩ := Rds.at h 5 (getD_some (l := l) (n := 5) (by omega))
  have g4 : cs4[o4 + 4]? = some (.int .u8 (l.getD 4 0)) := by have := congrArg (·[0]?) hc4; simpa using this
  have g5 : cs5[o5 + 5]? = some (.int .u8 (l.getD 5 0)) := by have := congrArg (·[0]?) hc5; simpa using this
  have c4 : ∀ {w' : World}, Fr [] w w' → w'.cell? ⟨b4, o4 + Int.toNat 4 * 1, none⟩ = some (.int .u8 (l.getD 4 0)) := fun f => by
    rw [cell_of_blk (by rw [f.block b4 (lt_of_blk hb4) (by simp)]; exact hb4)]; exact g4
  have c5 : ∀ {w' : World}, Fr [] w w' → w'.cell? ⟨b5, o5 + Int.toNat 5 * 1, none⟩ = some (.int .u8 (l.getD 5 0)) := fun f => by
    rw [cell_of_blk (by rw [f.block b5 (lt_of_blk hb5) (by simp)]; exact hb5)]; exact g5
  refine idx_of ha4 ⟨by omega, by omega⟩ ?_
  refine ld_of (c := .int .u8) (l.getD 4 0) (c4 fd) ?_
  refine idx_of ha5 ⟨by omega, by omega⟩ ?_
  refine ld_of (c := .int .u8) (l.getD 5 0) (c5 fd) ?_
  refine fget_ok (w := w.drew) (S := S) h (by omega) ?_
  refine held_two (c5 fdd) (c4 fdd) ?_
  have r4 : 0 ≤ l.getD 4 0 ∧ l.getD 4 0 < 256 := hB _ (List.mem_of_getElem? (getD_some (l := l) (n := 4) (by omega)))
  have r5 : 0 ≤ l.getD 5 0 ∧ l.getD 5 0 < 256 := hB _ (List.mem_of_getElem? (getD_some (l := l) (n := 5) (by omega)))
  have ecnt : bits .or .i64 (IntKind.wrap .i64 (IntKind.wrap .i64 (l.getD 4 0) * 2 ^ 8)) (IntKind.wrap .i64 (l.getD 5 0)) = cntV l := by
    rw [wi' (l.getD 4 0) (by omega), wi' (l.getD 5 0) (by omega), wi' (l.getD 4 0 * 2 ^ 8) (by omega), or_add64 8 (by omega) (by omega) (by omega) (by omega) (by omega)]
    rfl
  have rcnt : 0 ≤ cntV l ∧ cntV l < 65536 := by unfold cntV; omega
  rw [ecnt]
  refine join_mid (fun b w' => b = decide (first4 l = 1 ∨ cntV l > 123 ∨ (l.length : Int) ≠ 6 + 4 * cntV l) ∧ w' = w.drew.drew) ?_ ?_
  · refine cond_of (fun hc => ?_) (fun hc => ?_)
    · exact ⟨by rw [decide_eq_true (Or.inl (by simpa using hc))], rfl⟩
    · have hc' : ¬ first4 l = 1 := by simpa using hc
      refine cond_of (fun hc2 => ?_) (fun hc2 => ?_)
      · exact ⟨by rw [decide_eq_true (Or.inr (Or.inl (of_decide_eq_true hc2)))], rfl⟩
      · have hc2' : ¬ cntV l > 123 := of_decide_eq_false hc2
        refine ⟨?_, rfl⟩
        rw [wi' (4 * cntV l) (by omega), wi' (6 + 4 * cntV l) (by omega), hlen]
        by_cases h3 : (l.length : Int) = 6 + 4 * cntV l <;> simp [hc', hc2', h3]
  rintro b w1 ⟨rfl, rfl⟩
  refine cond_of (fun hc => bad (by rw [parseV, if_neg h6, if_pos (of_decide_eq_true hc)]) fdd) (fun hc => ?_)
  have hok := of_decide_eq_false hc
  have hcnt : cntV l ≤ 123 := by
    rcases Int.lt_or_le 123 (cntV l) with h | h
    · exact absurd (Or.inr (Or.inl h)) hok
    · exact h
  have hlc : (l.length : Int) = 6 + 4 * cntV l := Classical.byContradiction fun h => hok (Or.inr (Or.inr h))
  have pv : parseV l = if risesB 1 (numsV l (cntV l).toNat) then (first4 l, numsV l (cntV l).toNat, 0) else (0, [], 2) := by rw [parseV, if_neg h6, if_neg hok]
  obtain ⟨n, hn⟩ : ∃ n : Nat, cntV l = n := ⟨(cntV l).toNat, by omega⟩
  rw [hn] at hcnt hlc pv ⊢
  rw [Int.toNat_natCast] at pv
  refine loop_ind (fun x w' => ∃ (i : Nat) (B : List Nat), x.2 = i ∧ i ≤ n ∧ BufU w' x.1 (numsV l i) B ∧ Fr [] w w' ∧ ∀ b ∈ B, w.heap.size ≤ b) (fun x _ => ((n : Int) - x.2).toNat)
    ⟨0, [], rfl, by omega, .nil _ _ _, fdd, by simp⟩ ?_
  rintro ⟨s1, ii⟩ w2 ⟨i, B, hi0, hi, hb, f2, n2⟩ X hX
  simp only at hi0 hb
  subst hi0
  refine cond_of (fun hc => ?_) (fun hc => ?_)
  · have hil : i < n := by have := of_decide_eq_true hc; omega
    rw [wi' (4 * (i : Int)) (by omega), wi' (6 + 4 * (i : Int)) (by omega)]
    have h2 : RdB S w2 s l := h.frame0 f2
    refine Rds.part h2 (6 + 4 * i) l.length (by simp) (by rw [hlen]; rfl) (by omega) (by omega) fun s3 l3 r3 _ => ?_
    rw [List.take_length] at r3
    refine fget_ok r3 (by rw [List.length_drop]; omega) ?_
    have f2d : Fr [] w w2.drew := f2.drew
    refine pushU (w := w2.drew) (B := B) hb (by simp [numsV]; omega) fun s4 B4 w4 g1 g2 g3 => ?_
    rw [wi' _ (by omega)]
    have hs2 := f2d.size
    refine hX _ _ ⟨i + 1, B4, by simp, by omega, ?_, f2d.trans' g2 (fun b hb => .inr (n2 b hb)), fun b hb => ?_⟩ (by dsimp only; omega)
    · have : numsV l (i + 1) = numsV l i ++ [first4 (l.drop (6 + 4 * i))] := by simp [numsV, List.range_succ]
      rw [this]; exact g1
    · rcases g3 b hb with h | h
      · exact n2 b h
      · omega
  · have hil : i = n := by have := of_decide_eq_false hc; omega
    subst hil
    refine rises_ok (S := []) (hb.rds encU_len (by simp)) (by simp [numsV]; omega) ?_
    refine cond_of (fun hr => ?_) (fun hr => ?_)
    · have hr' : ¬ risesB 1 (numsV l i) = true := by simpa using hr
      exact bad (by rw [pv, if_neg hr']) f2
    · have hr' : risesB 1 (numsV l i) = true := by simpa using hr
      have := hk s1 B w2 (by rw [pv, if_pos hr']; exact hb) f2 n2
      rw [pv, if_pos hr'] at this
      exact this

end Go.Proofs.YtmbcedengdoamaaGreatDoor
end

section
/- The free list: Bodies, over a range over the parts. Conditions: those that stand in each line. -/
set_option linter.unusedVariables false
set_option linter.unusedSimpArgs false
namespace Go.Proofs.YtmbcedengdoamaaGreatDoor
open Go Go.Pt
attribute [local irreducible] ld ldA ldV fld fldA newZ st new idx idxS idxA slc slcS slcP mkS chk nn call callV inv run runQ runU join loop held ext rng undefer s2a IntKind.wrap

def encS : Sl → List Value := fun s => [.slice s.a s.len s.cap]
theorem encS_len : ∀ x, (encS x).length = 1 := fun _ => rfl
theorem infoS : ∃ i, Tryz.prog.info? 22 = some i ∧ i.zero = some (.slice none 0 0) ∧ i.size = 1 ∧ i.bytes = 24 := info_of (by kernel_rfl)

/-- A row of rows of bytes. -/
def Bodies (S : List Nat) (w : World) (s : Sl) (ls : List (List Int)) (B : List Nat) : Prop :=
  ∃ sls : List Sl, Buf encS 1 w s sls B ∧ sls.length = ls.length ∧ ∀ (i : Nat) sl l, sls[i]? = some sl → ls[i]? = some l → RdB (S ++ B) w sl l

theorem Bodies.nil (S : List Nat) (w : World) : Bodies S w ⟨none, 0, 0⟩ [] [] := ⟨[], .nil _ _ _, rfl, fun i sl l h => by simp at h⟩
theorem Bodies.frame {S S' : List Nat} {w w' : World} {s : Sl} {ls : List (List Int)} {B : List Nat} (h : Bodies S w s ls B) (f : Fr S w w') (hS : ∀ b ∈ B, b ∉ S) (hS' : ∀ b ∈ S', b ∈ S ∨ w.heap.size ≤ b) : Bodies S' w' s ls B := by
  obtain ⟨sls, h1, h2, h3⟩ := h
  refine ⟨sls, h1.frame f hS, h2, fun i sl l hi hl => (h3 i sl l hi hl).frame (f.mono fun b hb _ => List.mem_append_left _ hb) fun b hb => ?_⟩
  rcases List.mem_append.1 hb with hb | hb
  · rcases hS' b hb with h | h
    · exact .inl (List.mem_append_left _ h)
    · exact .inr h
  · exact .inl (List.mem_append_right _ hb)
theorem Bodies.push {S : List Nat} {w : World} {s sl : Sl} {ls : List (List Int)} {B : List Nat} {l : List Int} {T : TypeId} {K : Sl → World → Prop} (h : Bodies S w s ls B) (hr : RdB (S ++ B) w sl l) (hl : ls.length ≤ 1000000)
    (kk : ∀ s' B' w', Bodies S w' s' (ls ++ [l]) B' → Fr B w w' → (∀ b ∈ B', b ∈ B ∨ w.heap.size ≤ b) → K s' w') :
    Pt.new (.cells #[.slice sl.a sl.len sl.cap] T) w fun r w1 => Pt.run [Ty1.one Cell.slice] ((Builtin.append_ #[198, 198] 198 #[.slice s.a s.len s.cap, .slice (some ⟨r, 0, none⟩) 1 1]).run Tryz.prog w1) K := by
  obtain ⟨i, hi, hz, hsz, hby⟩ := infoS
  obtain ⟨sls, h1, h2, h3⟩ := h
  refine Buf.push (e := 22) (x := sl) h1 encS_len (by simp [encS, Value.oneCell']) (by kernel_rfl) hi hz hsz rfl rfl (by rw [hby]; omega) (by omega) fun s' B' w' b' f' n' => ?_
  refine kk s' B' w' ⟨_, b', by simp [h2], fun j sj lj hj hlj => ?_⟩ f' n'
  have hw : ∀ b ∈ S ++ B', b ∈ S ++ B ∨ w.heap.size ≤ b := fun b hb => by
    rcases List.mem_append.1 hb with hb | hb
    · exact .inl (List.mem_append_left _ hb)
    · rcases n' b hb with h | h
      · exact .inl (List.mem_append_right _ h)
      · exact .inr h
  have hf : Fr (S ++ B) w w' := f'.mono fun b hb _ => List.mem_append_right _ hb
  by_cases hjl : j < sls.length
  · rw [List.getElem?_append_left hjl] at hj
    rw [List.getElem?_append_left (by omega)] at hlj
    exact (h3 j sj lj hj hlj).frame hf hw
  · by_cases hje : j = sls.length
    · subst hje
      rw [List.getElem?_append_right (Nat.le_refl _), Nat.sub_self] at hj
      rw [h2, List.getElem?_append_right (Nat.le_refl _), Nat.sub_self] at hlj
      simp at hj hlj
      subst hj hlj
      exact hr.frame hf hw
    · rw [List.getElem?_eq_none (by rw [List.length_append]; simp; omega)] at hj
      cases hj

def bodyV (next : Int) (c : List Int) : List Int := be next 4 ++ [IntKind.wrap .u8 (Int.fdiv c.length (2 ^ 8)), IntKind.wrap .u8 c.length] ++ c.flatMap (be · 4)
def bodiesL (numbers pages : List Int) (k : Nat) : List (List Int) := (List.range k).map fun i => bodyV (pages.getD (i + 1) 0) ((numbers.drop (123 * i)).take 123)
def bodiesV (numbers pages : List Int) : List (List Int) × Int :=
  if risesB 1 numbers = false ∨ numbers.length > 123 * pages.length then ([], 1) else if ∃ p ∈ pages, p < 2 then ([], 1) else (bodiesL numbers pages pages.length, 0)

theorem Parts_ok {w : World} {s : Sl} {n : Int} {K : Value → World → Prop} (hk : ∀ rp rl w', Fr [] w w' → (∀ S w0 L, Own S w0 w L → Own S w0 w' ((rp, .cells #[.int .i64 n] 3 (0, 0)) :: (rl, .cells #[.slice s.a s.len s.cap] 27 (0, 0)) :: L)) → K (.func (.func 167) #[] #[.pointer (some ⟨rp, 0, none⟩), .pointer (some ⟨rl, 0, none⟩)]) w') :
    call Tryz.prog 144 [.slice s.a s.len s.cap, .int .i64 n] [.one .any] w K := by
  refine freelist_parts_of (l := s) ?_
  unfold freelist_partsF
  refine Pt.new_of ?_
  refine Pt.new_of ?_
  exact hk _ _ _ (((Fr.refl [] w).alloc _).alloc _) fun S w0 L h => (h.alloc _).alloc _

theorem flatMap_be : ∀ l : List Int, (l.flatMap (be · 4)).length = l.length * 4
  | [] => rfl
  | x :: l => by rw [List.flatMap_cons, List.length_append, be_len, flatMap_be l, List.length_cons]; omega
theorem two_len (a b : Int) : ([a, b] : List Int).length = 2 := rfl

/-- One body: as the round builds it. -/
theorem FBodies_ok {S G : List Nat} {w : World} {sn sp : Sl} {numbers pages : List Int} {K : Sl × Int → World → Prop} (hn : Rd S w sn numbers) (hp : Rd S w sp pages) (hnl : numbers.length ≤ 100000) (hpl : pages.length ≤ 100000) (hG : ∀ b ∈ G, b < w.heap.size)
    (hk : ∀ s' B w', Bodies G w' s' (bodiesV numbers pages).1 B → Fr [] w w' → (∀ b ∈ B, w.heap.size ≤ b) → K (s', (bodiesV numbers pages).2) w') :
    call Tryz.prog 122 [.slice sn.a sn.len sn.cap, .slice sp.a sp.len sp.cap] [.one .slice, .one (.int .i64)] w K := by
  refine freelist_Bodies_of (numbers := sn) (pages := sp) ?_
  unfold freelist_BodiesF
  have hln := hn.1
  have hlp := hp.1
  have bad : ∀ {w' : World}, bodiesV numbers pages = ([], 1) → Fr [] w w' → K (⟨none, 0, 0⟩, 1) w' := by
    intro w' he hf
    have := hk ⟨none, 0, 0⟩ [] w' (by rw [he]; exact .nil _ _) hf (by simp)
    rw [he] at this
    exact this
  refine Own.new' (Own.start [] w) fun r1 w1 e1 f1 ho => ?_
  have hn1 : Rd S w1 sn numbers := hn.frame0 ho.fr
  have hp1 : Rd S w1 sp pages := hp.frame0 ho.fr
  refine join_mid (fun b w' => b = decide (risesB 1 numbers = false ∨ numbers.length > 123 * pages.length) ∧ w' = w1) ?_ ?_
  · refine rises_ok hn1 (by omega) ?_
    refine cond_of (fun hc => ?_) (fun hc => ?_)
    · have hr : risesB 1 numbers = false := by simpa using hc
      exact ⟨by rw [decide_eq_true (Or.inl hr)], rfl⟩
    · have hr : risesB 1 numbers = true := by simpa using hc
      refine Own.ld (c := .slice) ho 0 rfl sp rfl ⟨?_, rfl⟩
      rw [wi' (123 * (sp.len : Int)) (by omega), hln, hlp]
      have e : decide ((numbers.length : Int) > 123 * (pages.length : Int)) = decide (numbers.length > 123 * pages.length) := by
        by_cases h : numbers.length > 123 * pages.length
        · rw [decide_eq_true h, decide_eq_true]; omega
        · rw [decide_eq_false h, decide_eq_false]; omega
      rw [e]
      by_cases h : numbers.length > 123 * pages.length <;> simp [hr, h]
  rintro b w2 ⟨rfl, rfl⟩
  refine cond_of (fun hc => bad (by rw [bodiesV, if_pos (of_decide_eq_true hc)]) ho.fr) (fun hc => ?_)
  have hok := of_decide_eq_false hc
  refine Own.ld (c := .slice) ho 0 rfl sp rfl ?_
  refine loop_ind (fun x w' => w' = w2 ∧ ∃ i : Nat, x.2.2 = i ∧ i ≤ pages.length ∧ ∀ p ∈ pages.take i, ¬ p < 2) (fun x _ => ((pages.length : Int) - x.2.2).toNat) ⟨rfl, 0, rfl, by omega, by simp⟩ ?_
  rintro ⟨sx, ex, ii⟩ w3 ⟨rfl, i, hi0, hi, hall⟩ X hX
  simp only at hi0
  subst hi0
  dsimp only
  refine cond_of (fun hc => ?_) (fun hc => ?_)
  · have hil : i < pages.length := by have := of_decide_eq_true hc; omega
    refine Rd.at hp1 i rfl (List.getElem?_eq_getElem hil) ?_
    refine cond_of (fun hx => ?_) (fun hx => ?_)
    · exact bad (by rw [bodiesV, if_neg hok, if_pos ⟨pages[i], List.getElem_mem hil, of_decide_eq_true hx⟩]) ho.fr
    · rw [wi' _ (by omega)]
      refine hX _ _ ⟨rfl, i + 1, by simp, by omega, fun p hp => ?_⟩ (by dsimp only; omega)
      rw [List.take_succ_eq_append_getElem hil] at hp
      rcases List.mem_append.1 hp with hp | hp
      · exact hall p hp
      · simp at hp; subst hp; exact of_decide_eq_false hx
  have hil : i = pages.length := by have := of_decide_eq_false hc; omega
  subst hil
  rw [List.take_length] at hall
  have hbv : bodiesV numbers pages = (bodiesL numbers pages pages.length, 0) := by
    rw [bodiesV, if_neg hok, if_neg]
    rintro ⟨p, hp, h2⟩
    exact hall p hp h2
  rw [hbv] at hk
  refine Own.new' ho fun ro w4 eo fo ho => ?_
  refine Own.ld (c := .slice) ho 1 rfl sp rfl ?_
  refine Parts_ok fun rp rl w5 f5 hadd => ?_
  have ho5 := hadd _ _ _ ho
  refine Own.rng (lb := [.pointer (some ⟨rp, 0, none⟩), .pointer (some ⟨rl, 0, none⟩)]) ho5 rfl (by kernel_rfl) fun Dm l R Bz J E E0 w6 el eD f56 ho6 hy => ?_
  refine freelist_parts_c1_of ?_
  unfold freelist_parts_c1F
  refine Own.ld (c := .int .i64) ho6 2 rfl sp.len rfl ?_
  refine loop_ind (fun x w' => ∃ (j : Nat) (cl so : Sl) (Bo : List Nat), x = j ∧ j ≤ pages.length ∧ Rd [] w cl (numbers.drop (123 * j)) ∧ Bodies ([l, Dm, rp, rl, ro, r1] ++ G) w' so (bodiesL numbers pages j) Bo ∧ (∀ b ∈ Bo, w.heap.size ≤ b ∧ b ∉ [l, Dm, rp, rl, ro, r1]) ∧
      Own [] w w' [(l, R), (Dm, .deferred (some [])), (rp, .cells #[.int .i64 sp.len] 3 (0, 0)), (rl, .cells #[.slice cl.a cl.len cl.cap] 27 (0, 0)), (ro, .cells #[.slice so.a so.len so.cap] 198 (0, 0)), (r1, .cells #[.slice sp.a sp.len sp.cap] 27 (0, 0))]) (fun x _ => ((pages.length : Int) - x).toNat)
    ⟨0, sn, ⟨none, 0, 0⟩, [], rfl, by omega, hn.weak (fun b hb => by cases hb), .nil _ _, by simp, ho6⟩ ?_
  rintro x w7 ⟨j, cl, so, Bo, rfl, hj, hcl, hbod, hBo, ho7⟩ X hX
  have hBoG : ∀ b ∈ Bo, b ∉ [l, Dm, rp, rl, ro, r1] ++ G := fun b hb hm => by
    rcases List.mem_append.1 hm with hm | hm
    · exact (hBo b hb).2 hm
    · have := hG b hm; have := (hBo b hb).1; omega
  have hlc := hcl.1
  rw [List.length_drop] at hlc
  refine cond_of (fun hc => ?_) (fun hc => ?_)
  · have hjl : j < pages.length := by have := of_decide_eq_true hc; omega
    refine Own.ld (c := .slice) ho7 3 rfl cl rfl ?_
    refine Own.ld (c := .slice) ho7 3 rfl cl rfl ?_
    -- how many stand in this part
    obtain ⟨m, hm, hmle⟩ : ∃ m : Nat, (if (123 : Int) < (cl.len : Int) then 123 else (cl.len : Int)) = m ∧ m = Nat.min 123 cl.len := by
      by_cases h : 123 < cl.len
      · exact ⟨123, by rw [if_pos (by omega)]; rfl, (Nat.min_eq_left (by omega)).symm⟩
      · exact ⟨cl.len, by rw [if_neg (by omega)], (Nat.min_eq_right (by omega)).symm⟩
    rw [hm]
    have hm123 : m ≤ 123 := by rw [hmle]; exact Nat.min_le_left _ _
    have hmcl : m ≤ cl.len := by rw [hmle]; exact Nat.min_le_right _ _
    refine Rds.part hcl 0 m rfl rfl (by omega) (by rw [List.length_drop]; omega) fun cs hcsl hcs _ => ?_
    rw [List.drop_zero] at hcs
    have hchunk : (numbers.drop (123 * j)).take m = (numbers.drop (123 * j)).take 123 := by
      by_cases h : 123 < cl.len
      · rw [hmle]; congr 1; exact Nat.min_eq_left (by omega)
      · have : m = cl.len := by rw [hmle]; exact Nat.min_eq_right (by omega)
        rw [this, List.take_of_length_le (by rw [List.length_drop]; omega), List.take_of_length_le (by rw [List.length_drop]; omega)]
    generalize hch : (numbers.drop (123 * j)).take m = chunk at hcs hchunk
    have hcl3 : chunk.length = m := by rw [← hch, List.length_take, List.length_drop]; omega
    have hcs3 : cs.len = m := by omega
    refine hy ((j : Int), cs) w7 _ (ho7.at (i := 0) rfl) ?_
    dsimp only
    refine ⟨ho7.at (i := 0) rfl, ?_⟩
    have ho8 := ho7.upd (o' := Bz) 0 rfl
    have hbk := ho8.rebaseS []
    have hp8 : Rd [] (Pt.upd w7 l Bz) sp pages := (hp.weak (fun b hb => by cases hb)).frame0 ho8.fr
    have hbod8 : Bodies ([l, Dm, rp, rl, ro, r1] ++ G) (Pt.upd w7 l Bz) so (bodiesL numbers pages j) Bo := hbod.frame ((upd_fr' (lt_of_blk (ho7.at (i := 0) rfl)) Bz).mono fun b hb _ => by simp at hb; subst hb; simp) hBoG (fun b hb => .inl hb)
    have hBlt := hbod.choose_spec.1.lt
    refine join_mid (fun x w' => x = pages.getD (j + 1) 0 ∧ w' = Pt.upd w7 l Bz) ?_ ?_
    · refine Own.ld (c := .slice) hbk 5 rfl sp rfl ?_
      rw [wi' ((j : Int) + 1) (by omega)]
      refine cond_of (fun hc2 => ?_) (fun hc2 => ?_)
      · have h2 : j + 1 < pages.length := by have := of_decide_eq_true hc2; omega
        refine Own.ld (c := .slice) hbk 5 rfl sp rfl ?_
        refine Rd.at hp8 (j + 1) (by omega) (getD_some h2) ?_
        exact ⟨rfl, rfl⟩
      · have h2 : ¬ j + 1 < pages.length := by have := of_decide_eq_false hc2; omega
        exact ⟨by rw [List.getD_eq_getElem?_getD, List.getElem?_eq_none (by omega)]; rfl, rfl⟩
    rintro x w8 ⟨rfl, rfl⟩
    generalize hnx : pages.getD (j + 1) 0 = next
    have hW : (Pt.upd w7 l Bz).heap.size = w7.heap.size := size_upd _ _ _
    generalize hW8 : Pt.upd w7 l Bz = w8 at ho8 hbk hp8 hW hbod8
    have hcs8 : Rd [] w8 cs chunk := hcs.frame0 ho8.fr
    have hLlt : ∀ p ∈ [l, Dm, rp, rl, ro, r1], p < w8.heap.size := fun p hp => by
      have hlt := fun (k : Nat) (q : Nat × Obj) (hq : _[k]? = some q) => lt_of_blk (ho8.at (i := k) hq)
      simp only [List.mem_cons, List.not_mem_nil, or_false] at hp
      rcases hp with rfl | rfl | rfl | rfl | rfl | rfl
      · exact hlt 0 _ rfl
      · exact hlt 1 _ rfl
      · exact hlt 2 _ rfl
      · exact hlt 3 _ rfl
      · exact hlt 4 _ rfl
      · exact hlt 5 _ rfl
    obtain ⟨i5, hi5, hz5, hsz5, hby5⟩ := info5
    refine fput_ok (s := ⟨none, 0, 0⟩) (l := []) (B := []) (.nil _ _ _) (by simp) fun s9 B9 w9 b9 f9 n9 => ?_
    rw [List.nil_append] at b9
    have hbk := hbk.frame0 f9
    refine Own.new' hbk fun r2 w10 e10 f10 hbk => ?_
    have n9' : ∀ b ∈ B9, w8.heap.size ≤ b := fun b hb => by rcases n9 b hb with h | h; cases h; exact h
    refine Buf.appSrc (ys := [IntKind.wrap .u8 (Int.fdiv chunk.length (2 ^ 8)), IntKind.wrap .u8 chunk.length]) (e := 5) (b9.frame0 f10) encB_len (by kernel_rfl) hi5 hz5 hsz5 rfl (.ofSlice _ (e' := 5) (by kernel_rfl) _ 2 2 _ (by rw [flatMap_encB]; rfl) (fun q u hq => ?_) (fun u hu => ?_)) rfl (by rw [hby5, be_len]; decide) (by rw [be_len]; decide) fun s11 B11 w11 b11 f11 n11 _ => ?_
    · rw [Addr.add_mk, cell_of_blk (hbk.at (i := 0) rfl), Nat.zero_add, hcs3, ← hcl3]
      rw [flatMap_encB] at hq
      rw [List.getElem?_toArray]
      exact hq
    · rw [flatMap_encB] at hu
      obtain ⟨x, _, rfl⟩ := List.mem_map.1 hu
      rfl
    have hs9 := f9.size
    have hs10 := f10.size
    have hB9lt := b9.lt
    have hbk := (hbk.sub (List.sublist_cons_self _ _)).frame f11 (fun b hb => .inr (n9' b hb)) (fun p hp hb => by
      have h1 := hLlt p.1 (List.mem_map_of_mem (f := (·.1)) hp)
      have h2 := n9' _ hb
      omega)
    have n11' : ∀ b ∈ B11, w8.heap.size ≤ b := fun b hb => by rcases n11 b hb with h | h; exact n9' b h; omega
    refine loop_ind (fun x w' => ∃ (q : Nat) (Bq : List Nat), x.2 = q ∧ q ≤ m ∧ BufB w' x.1 (be next 4 ++ [IntKind.wrap .u8 (Int.fdiv chunk.length (2 ^ 8)), IntKind.wrap .u8 chunk.length] ++ (chunk.take q).flatMap (be · 4)) Bq ∧ (∀ b ∈ Bq, w8.heap.size ≤ b) ∧
        Own ([l, Dm, rp, rl, ro, r1] ++ []) w8 w' [(l, Bz), (Dm, .deferred (some [])), (rp, .cells #[.int .i64 sp.len] 3 (0, 0)), (rl, .cells #[.slice cl.a cl.len cl.cap] 27 (0, 0)), (ro, .cells #[.slice so.a so.len so.cap] 198 (0, 0)), (r1, .cells #[.slice sp.a sp.len sp.cap] 27 (0, 0))]) (fun x _ => ((m : Int) - x.2).toNat)
      ⟨0, B11, rfl, by omega, by simpa using b11, n11', hbk⟩ ?_
    rintro ⟨s12, qq⟩ w12 ⟨q, Bq, hq0, hqm, bq, nq, hq⟩ Y hY
    simp only at hq0 bq
    subst hq0
    dsimp only
    rw [hcs3]
    refine cond_of (fun hc3 => ?_) (fun hc3 => ?_)
    · have hqc : q < chunk.length := by have := of_decide_eq_true hc3; omega
      have hcs12 : Rd [] w12 cs chunk := hcs.frame0 (ho8.backS (T := []) (by simp) hq.fr)
      refine Rd.at hcs12 q rfl (List.getElem?_eq_getElem hqc) ?_
      have hbl : (be next 4 ++ [IntKind.wrap .u8 (Int.fdiv chunk.length (2 ^ 8)), IntKind.wrap .u8 chunk.length] ++ (chunk.take q).flatMap (be · 4)).length ≤ 1000000 := by
        rw [List.length_append, List.length_append, be_len, flatMap_be, List.length_take, two_len]; omega
      refine fput_ok bq hbl fun s13 B13 w13 b13 f13 n13 => ?_
      rw [wi' _ (by omega)]
      refine hY _ _ ⟨q + 1, B13, by simp, by omega, ?_, fun b hb => ?_, hq.frame f13 (fun b hb => .inr (nq b hb)) (fun p hp hb => ?_)⟩ (by dsimp only; omega)
      · rw [List.take_succ_eq_append_getElem hqc, List.flatMap_append, List.flatMap_singleton, ← List.append_assoc]
        exact b13
      · rcases n13 b hb with h | h
        · exact nq b h
        · exact Nat.le_trans hq.fr.size h
      · have h1 := hLlt p.1 (List.mem_map_of_mem (f := (·.1)) hp)
        have h2 := nq _ hb
        omega
    · have hqe : q = m := by have := of_decide_eq_false hc3; omega
      subst hqe
      rw [List.take_of_length_le (by omega)] at bq
      refine Own.ld (c := .slice) hq 4 rfl so rfl ?_
      have hrow : RdB (([l, Dm, rp, rl, ro, r1] ++ G) ++ Bo) w12 s12 (bodyV next chunk) := bq.rds encB_len fun b hb hm => by
        have h2 := nq _ hb
        rcases List.mem_append.1 hm with hm | hm
        · rcases List.mem_append.1 hm with hm | hm
          · have := hLlt b hm; omega
          · have := hG b hm; have := ho8.fr.size; omega
        · have := hBlt b hm; omega
      have hbod12 : Bodies ([l, Dm, rp, rl, ro, r1] ++ G) w12 so (bodiesL numbers pages j) Bo := hbod8.frame (hq.fr.mono fun b hb _ => by rw [List.append_nil] at hb; exact List.mem_append_left _ hb) hBoG (fun b hb => .inl hb)
      refine Bodies.push hbod12 hrow (by rw [bodiesL, List.length_map, List.length_range]; omega) fun s13 B13 w13 b13 f13 n13 => ?_
      have hqb := (ho8.rejoin (T := []) (by simp) hq).frame f13 (fun b hb => .inr (hBo b hb).1) (fun p hp hb => (hBo _ hb).2 (List.mem_map_of_mem (f := (·.1)) hp))
      refine Own.st' hqb 4 rfl _ rfl rfl (Nat.le_of_ble_eq_true rfl) fun w14 hqb f14 => ?_
      refine ⟨hqb.at (i := 0) rfl, ?_⟩
      have hqc := hqb.upd (o' := R) 0 rfl
      refine cond_false rfl ?_
      refine Own.ld (c := .slice) hqc 3 rfl cl rfl ?_
      refine Rds.part hcl q (numbers.drop (123 * j)).length rfl (by rw [List.length_drop]; show (cl.len : Int) = _; omega) (by rw [List.length_drop]; omega) (Nat.le_refl _) fun cr hcrl hcr _ => ?_
      refine Own.st' hqc 3 rfl _ rfl rfl (Nat.le_of_ble_eq_true rfl) fun w15 hqd f15 => ?_
      rw [wi' _ (by omega)]
      have hB13 : ∀ b ∈ B13, w.heap.size ≤ b ∧ b ∉ [l, Dm, rp, rl, ro, r1] := fun b hb => by
        rcases n13 b hb with h | h
        · exact hBo b h
        · have h1 := hq.fr.size
          refine ⟨?_, fun hm => ?_⟩
          · have := ho8.fr.size; omega
          · have := hLlt b hm; omega
      have ff : Fr [l, Dm, rp, rl, ro, r1] w13 w15 :=
        (f14.mono fun b hb _ => by simp at hb; subst hb; simp).trans' ((upd_fr' (lt_of_blk (hqb.at (i := 0) rfl)) R).mono (T := [l, Dm, rp, rl, ro, r1]) fun b hb _ => by simp at hb; subst hb; simp) (fun b hb => .inl hb) |>.trans' (f15.mono (T := [l, Dm, rp, rl, ro, r1]) fun b hb _ => by simp at hb; subst hb; simp) (fun b hb => .inl hb)
      have hbod15 := b13.frame (ff.mono fun b hb _ => List.mem_append_left _ hb) (fun b hb hm => by
        rcases List.mem_append.1 hm with hm | hm
        · exact (hB13 b hb).2 hm
        · have := hG b hm; have := (hB13 b hb).1; omega) (fun b hb => .inl hb)
      have hcr2 : ((numbers.drop (123 * j)).take (numbers.drop (123 * j)).length).drop q = numbers.drop (123 * (j + 1)) := by
        rw [List.take_length, List.drop_drop]
        by_cases h : 123 < cl.len
        · rw [show q = 123 by rw [hmle]; exact Nat.min_eq_left (by omega), Nat.mul_add]
        · have : q = cl.len := by rw [hmle]; exact Nat.min_eq_right (by omega)
          rw [List.drop_eq_nil_of_le (by omega), List.drop_eq_nil_of_le (by omega)]
      rw [hcr2] at hcr
      have hbl : bodiesL numbers pages (j + 1) = bodiesL numbers pages j ++ [bodyV next chunk] := by
        rw [bodiesL, List.range_succ, List.map_append, List.map_singleton, hnx, ← hchunk]; rfl
      refine hX _ _ ⟨j + 1, cr, s13, B13, by simp, by omega, hcr, by rw [hbl]; exact hbod15, hB13, hqd⟩ (by omega)
  · have hje : j = pages.length := by have := of_decide_eq_false hc; omega
    subst hje
    refine .inl ⟨ho7.at (i := 0) rfl, ?_⟩
    have ho8 := ho7.upd (o' := E0) 0 rfl
    refine Own.ld (c := .slice) ho8 4 rfl so rfl ?_
    refine Own.undefer ho8.rebase 1 rfl fun w13 hd => ?_
    have hb8 : Bodies ([l, Dm, rp, rl, ro, r1] ++ G) (Pt.upd w7 l E0) so (bodiesL numbers pages pages.length) Bo := hbod.frame ((upd_fr' (lt_of_blk (ho7.at (i := 0) rfl)) E0).mono fun b hb _ => by simp at hb; subst hb; simp) hBoG (fun b hb => .inl hb)
    exact hk so Bo w13 (hb8.frame (S' := G) (hd.fr.mono fun b hb _ => List.mem_append_left _ hb) hBoG (fun b hb => .inl (List.mem_append_right _ hb))) (ho8.back (L' := []) hd.fr) (fun b hb => (hBo b hb).1)

end Go.Proofs.YtmbcedengdoamaaGreatDoor
end

section
/- The readable forms of functions of the program, each shown to be what the evaluator gives: printed by a program of this claim (wip/tools). No condition. -/
set_option linter.unusedVariables false
set_option maxRecDepth 100000
namespace Go.Proofs.YtmbcedengdoamaaGreatDoor
open Go Go.Pt
@[reducible] def wcs1 : List Cell := [Cell.int IntKind.u32, Cell.int IntKind.u32, Cell.int IntKind.u32]

/-- cashbook.super.put -/
def super_putF (b : Sl) (n : Int) (K : Sl → World → Prop) (w : World) : Prop :=
  new (Obj.cells #[Value.int IntKind.u8 (IntKind.wrap IntKind.u8 (Int.fdiv n (2 ^ 24))), Value.int IntKind.u8 (IntKind.wrap IntKind.u8 (Int.fdiv n (2 ^ 16))), Value.int IntKind.u8 (IntKind.wrap IntKind.u8 (Int.fdiv n (2 ^ 8))), Value.int IntKind.u8 (IntKind.wrap IntKind.u8 n)] 5) w <|
  fun (r_1 : Nat) (w_2 : World) =>
  run [Ty1.one Cell.slice] ((Builtin.append_ (#[22, 22]) 22 (#[Value.slice b.a b.len b.cap, Value.slice (some { block := r_1, off := 0 }) 4 4])).run Tryz.prog w_2) <|
  fun (s_3 : Sl) (w_4 : World) =>
  K s_3 w_4
def super_putA : List Ann := [.n, .n]
theorem super_put_of {b : Sl} {n : Int} {w : World} {K : Sl → World → Prop} (hF : super_putF b n K w) : call Tryz.prog 146 [.slice b.a b.len b.cap, .int .u32 n] [.one .slice] w K :=
  calls_of_fnPt (an := super_putA) (ts := [.one .slice]) (args := [.slice b.a b.len b.cap, .int .u32 n]) Tryz.func146 (by kernel_rfl) ((show fnPt (std Tryz.prog) Tryz.prog Tryz.f146 super_putA [.one .slice] [.slice b.a b.len b.cap, .int .u32 n] K w = super_putF b n K w by kernel_rfl).mpr hF)

/-- cashbook.super.Write -/
def super_WriteF (s : List Value) (K : Sl → World → Prop) (w : World) : Prop :=
  new (Obj.cells (List.toArray s) 58) w <|
  fun (r_1 : Nat) (w_2 : World) =>
  ld (Cell.int IntKind.u64) ({ block := r_1, off := 0 }) (World.drew w_2) <|
  fun (x_3 : Int) =>
  ld (Cell.int IntKind.u64) ({ block := r_1, off := 0 }) (World.drew w_2) <|
  fun (x_4 : Int) =>
  call Tryz.prog 146 ([Value.slice none 0 0, Value.int IntKind.u32 (IntKind.wrap IntKind.u32 (Int.fdiv x_3 (2 ^ 32)))]) ([Ty1.one Cell.slice]) (World.drew w_2) <|
  fun (s_5 : Sl) (w_6 : World) =>
  held [fun (w_7 : Go.World) => World.cell? w_7 ({ block := r_1, off := 0 }) = some (Value.int IntKind.u64 x_4)] w_6 <|
  call Tryz.prog 146 ([Value.slice s_5.a s_5.len s_5.cap, Value.int IntKind.u32 (IntKind.wrap IntKind.u32 x_4)]) ([Ty1.one Cell.slice]) w_6 <|
  fun (s_8 : Sl) (w_9 : World) =>
  ld (Cell.int IntKind.u32) ({ block := r_1, off := 1 }) (World.drew w_9) <|
  fun (x_10 : Int) =>
  ld (Cell.int IntKind.u32) ({ block := r_1, off := 2 }) (World.drew w_9) <|
  fun (x_11 : Int) =>
  ld (Cell.int IntKind.u32) ({ block := r_1, off := 3 }) (World.drew w_9) <|
  fun (x_12 : Int) =>
  call Tryz.prog 146 ([Value.slice s_8.a s_8.len s_8.cap, Value.int IntKind.u32 x_10]) ([Ty1.one Cell.slice]) (World.drew w_9) <|
  fun (s_13 : Sl) (w_14 : World) =>
  held [fun (w_15 : Go.World) => World.cell? w_15 ({ block := r_1, off := 3 }) = some (Value.int IntKind.u32 x_12), fun (w_16 : Go.World) => World.cell? w_16 ({ block := r_1, off := 2 }) = some (Value.int IntKind.u32 x_11)] w_14 <|
  call Tryz.prog 146 ([Value.slice s_13.a s_13.len s_13.cap, Value.int IntKind.u32 x_11]) ([Ty1.one Cell.slice]) w_14 <|
  fun (s_17 : Sl) (w_18 : World) =>
  held [fun (w_19 : Go.World) => World.cell? w_19 ({ block := r_1, off := 3 }) = some (Value.int IntKind.u32 x_12)] w_18 <|
  call Tryz.prog 146 ([Value.slice s_17.a s_17.len s_17.cap, Value.int IntKind.u32 x_12]) ([Ty1.one Cell.slice]) w_18 <|
  fun (s_20 : Sl) (w_21 : World) =>
  ldV 24 ({ block := r_1, off := 4 }) w_21 <|
  fun (vs_22 : List Value) =>
  loop (Sl × Int) (fun (X_23 : Sl × Int → World → Prop) (t_24 : Sl × Int) (w_25 : World) =>
    cond (decide (t_24.snd < 8))
      (chk (0 ≤ t_24.snd ∧ t_24.snd < (↑8 : Int)) <|
      fldA (wcs1) vs_22 (Int.toNat t_24.snd * 3) <|
      fun (t_26 : Int × Int × Int) =>
      new (Obj.cells #[Value.int IntKind.u32 0, Value.int IntKind.u32 0, Value.int IntKind.u32 0] 42) w_25 <|
      fun (r_27 : Nat) (w_28 : World) =>
      st ({ block := r_27, off := 0 }) (HL.mk wcs1 t_26) w_28 <|
      fun (w_29 : World) =>
      ld (Cell.int IntKind.u32) ({ block := r_27, off := 0 }) (World.drew w_29) <|
      fun (x_30 : Int) =>
      ld (Cell.int IntKind.u32) ({ block := r_27, off := 1 }) (World.drew w_29) <|
      fun (x_31 : Int) =>
      ld (Cell.int IntKind.u32) ({ block := r_27, off := 2 }) (World.drew w_29) <|
      fun (x_32 : Int) =>
      call Tryz.prog 146 ([Value.slice t_24.fst.a t_24.fst.len t_24.fst.cap, Value.int IntKind.u32 x_30]) ([Ty1.one Cell.slice]) (World.drew w_29) <|
      fun (s_33 : Sl) (w_34 : World) =>
      held [fun (w_35 : Go.World) => World.cell? w_35 ({ block := r_27, off := 2 }) = some (Value.int IntKind.u32 x_32), fun (w_36 : Go.World) => World.cell? w_36 ({ block := r_27, off := 1 }) = some (Value.int IntKind.u32 x_31)] w_34 <|
      call Tryz.prog 146 ([Value.slice s_33.a s_33.len s_33.cap, Value.int IntKind.u32 x_31]) ([Ty1.one Cell.slice]) w_34 <|
      fun (s_37 : Sl) (w_38 : World) =>
      held [fun (w_39 : Go.World) => World.cell? w_39 ({ block := r_27, off := 2 }) = some (Value.int IntKind.u32 x_32)] w_38 <|
      call Tryz.prog 146 ([Value.slice s_37.a s_37.len s_37.cap, Value.int IntKind.u32 x_32]) ([Ty1.one Cell.slice]) w_38 <|
      fun (s_40 : Sl) (w_41 : World) =>
      X_23 ((s_40, IntKind.wrap IntKind.i64 (t_24.snd + 1))) w_41)
      (ld (Cell.int IntKind.u64) ({ block := r_1, off := 0 }) w_25 <|
      fun (x_42 : Int) =>
      call Tryz.prog 99 ([Value.int IntKind.u32 (IntKind.wrap IntKind.u32 (Int.tmod x_42 2)), Value.int IntKind.u8 1, Value.slice t_24.fst.a t_24.fst.len t_24.fst.cap]) ([Ty1.one Cell.slice, Ty1.one (Cell.int IntKind.i64)]) w_25 <|
      fun (t_43 : Sl × Int) (w_44 : World) =>
      K t_43.fst w_44)) ((s_20, 0)) w_21
def super_WriteA : List Ann := [.n, .n, .o [[0, 1, 2, 3, 5, 6, 7, 4, 8, 9]], .n, .o [[0, 1, 2, 4, 5, 7, 8, 3, 6, 9, 10]], .n, .n, .l [(3, .one .slice), (29, .one (.int .i64))], .n, .n, .n, .n, .o [[0, 1, 2, 4, 5, 7, 8, 3, 6, 9, 10]], .n, .n]
theorem super_Write_of {s : List Value} {w : World} {K : Sl → World → Prop} (hF : super_WriteF s K w) : call Tryz.prog 123 [.agg s.toArray] [.one .slice] w K :=
  calls_of_fnPt (an := super_WriteA) (ts := [.one .slice]) (args := [.agg s.toArray]) Tryz.func123 (by kernel_rfl) ((show fnPt (std Tryz.prog) Tryz.prog Tryz.f123 super_WriteA [.one .slice] [.agg s.toArray] K w = super_WriteF s K w by kernel_rfl).mpr hF)

/-- cashbook.super.parse -/
def super_parseF (b : Sl) (K : ((List Value)) → World → Prop) (w : World) : Prop :=
  new (Obj.cells #[Value.slice b.a b.len b.cap] 22) w <|
  fun (r_1 : Nat) (w_2 : World) =>
  newZ Tryz.prog 58 w_2 <|
  fun (r_3 : Nat) (w_4 : World) =>
  newZ Tryz.prog 58 w_4 <|
  fun (r_5 : Nat) (w_6 : World) =>
  callV Tryz.prog (Value.func (Fn.func 174) #[] #[Value.pointer (some { block := r_1, off := 0 })]) [] ([Ty1.one (Cell.int IntKind.u32)]) w_6 <|
  fun (x_7 : Int) (w_8 : World) =>
  st ({ block := r_5, off := 0 }) ([Value.int IntKind.u64 (IntKind.wrap IntKind.u64 (IntKind.wrap IntKind.u64 x_7 * 2 ^ 32))]) w_8 <|
  fun (w_9 : World) =>
  ld (Cell.int IntKind.u64) ({ block := r_5, off := 0 }) (World.drew w_9) <|
  fun (x_10 : Int) =>
  callV Tryz.prog (Value.func (Fn.func 174) #[] #[Value.pointer (some { block := r_1, off := 0 })]) [] ([Ty1.one (Cell.int IntKind.u32)]) (World.drew w_9) <|
  fun (x_11 : Int) (w_12 : World) =>
  held [fun (w_13 : Go.World) => World.cell? w_13 ({ block := r_5, off := 0 }) = some (Value.int IntKind.u64 x_10)] w_12 <|
  st ({ block := r_5, off := 0 }) ([Value.int IntKind.u64 (bits BinOp.or IntKind.u64 x_10 (IntKind.wrap IntKind.u64 x_11))]) w_12 <|
  fun (w_14 : World) =>
  callV Tryz.prog (Value.func (Fn.func 174) #[] #[Value.pointer (some { block := r_1, off := 0 })]) [] ([Ty1.one (Cell.int IntKind.u32)]) w_14 <|
  fun (x_15 : Int) (w_16 : World) =>
  st ({ block := r_5, off := 1 }) ([Value.int IntKind.u32 x_15]) w_16 <|
  fun (w_17 : World) =>
  callV Tryz.prog (Value.func (Fn.func 174) #[] #[Value.pointer (some { block := r_1, off := 0 })]) [] ([Ty1.one (Cell.int IntKind.u32)]) w_17 <|
  fun (x_18 : Int) (w_19 : World) =>
  st ({ block := r_5, off := 2 }) ([Value.int IntKind.u32 x_18]) w_19 <|
  fun (w_20 : World) =>
  callV Tryz.prog (Value.func (Fn.func 174) #[] #[Value.pointer (some { block := r_1, off := 0 })]) [] ([Ty1.one (Cell.int IntKind.u32)]) w_20 <|
  fun (x_21 : Int) (w_22 : World) =>
  st ({ block := r_5, off := 3 }) ([Value.int IntKind.u32 x_21]) w_22 <|
  fun (w_23 : World) =>
  loop (Int) (fun (X_24 : Int → World → Prop) (x_25 : Int) (w_26 : World) =>
    cond (decide (x_25 < 8))
      (chk (0 ≤ x_25 ∧ x_25 < (↑8 : Int)) <|
      callV Tryz.prog (Value.func (Fn.func 174) #[] #[Value.pointer (some { block := r_1, off := 0 })]) [] ([Ty1.one (Cell.int IntKind.u32)]) w_26 <|
      fun (x_27 : Int) (w_28 : World) =>
      st (Addr.add (Addr.add { block := r_5, off := 4 } (Int.toNat x_25 * 3)) 0) ([Value.int IntKind.u32 x_27]) w_28 <|
      fun (w_29 : World) =>
      callV Tryz.prog (Value.func (Fn.func 174) #[] #[Value.pointer (some { block := r_1, off := 0 })]) [] ([Ty1.one (Cell.int IntKind.u32)]) w_29 <|
      fun (x_30 : Int) (w_31 : World) =>
      st ({ block := (Addr.add (Addr.add { block := r_5, off := 0 } 4) (Int.toNat x_25 * 3)).block, off := (Addr.add (Addr.add { block := r_5, off := 0 } 4) (Int.toNat x_25 * 3)).off + 1 }) ([Value.int IntKind.u32 x_30]) w_31 <|
      fun (w_32 : World) =>
      callV Tryz.prog (Value.func (Fn.func 174) #[] #[Value.pointer (some { block := r_1, off := 0 })]) [] ([Ty1.one (Cell.int IntKind.u32)]) w_32 <|
      fun (x_33 : Int) (w_34 : World) =>
      st ({ block := (Addr.add (Addr.add { block := r_5, off := 0 } 4) (Int.toNat x_25 * 3)).block, off := (Addr.add (Addr.add { block := r_5, off := 0 } 4) (Int.toNat x_25 * 3)).off + 2 }) ([Value.int IntKind.u32 x_33]) w_34 <|
      fun (w_35 : World) =>
      X_24 (IntKind.wrap IntKind.i64 (x_25 + 1)) w_35)
      (ldV 28 ({ block := r_5, off := 0 }) w_26 <|
      fun (vs_36 : List Value) =>
      chk (List.length vs_36 = 28) <|
      st ({ block := r_3, off := 0 }) vs_36 w_26 <|
      fun (w_37 : World) =>
      ldV 28 ({ block := r_3, off := 0 }) w_37 <|
      fun (vs_38 : List Value) =>
      K vs_38 w_37)) 0 w_23
def super_parseA : List Ann := [.n, .n, .n, .n, .n, .o [[0, 1, 2, 3, 4, 5, 6, 7]], .n, .n, .n, .n, .n, .l [(29, .one (.int .i64))], .n, .n, .n, .n, .n, .n, .n, .n]
theorem super_parse_of {b : Sl} {w : World} {K : ((List Value)) → World → Prop} (hF : super_parseF b K w) : call Tryz.prog 158 [.slice b.a b.len b.cap] [.raw] w K :=
  calls_of_fnPt (an := super_parseA) (ts := [.raw]) (args := [.slice b.a b.len b.cap]) Tryz.func158 (by kernel_rfl) ((show fnPt (std Tryz.prog) Tryz.prog Tryz.f158 super_parseA [.raw] [.slice b.a b.len b.cap] K w = super_parseF b K w by kernel_rfl).mpr hF)

/-- cashbook.super.parse$1 -/
def super_parse_c1F (cap0 : Addr) (K : Int → World → Prop) (w : World) : Prop :=
  ld Cell.slice cap0 (World.drew w) <|
  fun (s_1 : Sl) =>
  idx s_1 0 1 <|
  fun (a_2 : Addr) =>
  ld (Cell.int IntKind.u8) a_2 (World.drew w) <|
  fun (x_3 : Int) =>
  ld Cell.slice cap0 (World.drew w) <|
  fun (s_4 : Sl) =>
  idx s_4 1 1 <|
  fun (a_5 : Addr) =>
  ld (Cell.int IntKind.u8) a_5 (World.drew w) <|
  fun (x_6 : Int) =>
  ld Cell.slice cap0 (World.drew w) <|
  fun (s_7 : Sl) =>
  idx s_7 2 1 <|
  fun (a_8 : Addr) =>
  ld (Cell.int IntKind.u8) a_8 (World.drew w) <|
  fun (x_9 : Int) =>
  ld Cell.slice cap0 (World.drew w) <|
  fun (s_10 : Sl) =>
  idx s_10 3 1 <|
  fun (a_11 : Addr) =>
  ld (Cell.int IntKind.u8) a_11 (World.drew w) <|
  fun (x_12 : Int) =>
  ld Cell.slice cap0 (World.drew w) <|
  fun (s_13 : Sl) =>
  slc s_13 (some 4) none none 1 <|
  fun (s_14 : Sl) =>
  st cap0 ([Value.slice s_14.a s_14.len s_14.cap]) (World.drew w) <|
  fun (w_15 : World) =>
  K (bits BinOp.or IntKind.u32 (bits BinOp.or IntKind.u32 (bits BinOp.or IntKind.u32 (IntKind.wrap IntKind.u32 (IntKind.wrap IntKind.u32 x_3 * 2 ^ 24)) (IntKind.wrap IntKind.u32 (IntKind.wrap IntKind.u32 x_6 * 2 ^ 16))) (IntKind.wrap IntKind.u32 (IntKind.wrap IntKind.u32 x_9 * 2 ^ 8))) (IntKind.wrap IntKind.u32 x_12)) w_15
def super_parse_c1A : List Ann := [.n, .n, .o [[0, 1, 2, 3, 4, 5, 6, 7, 8, 9, 10, 11, 12, 13, 14, 15, 16, 17, 18, 19, 20, 21, 22]], .n, .n]
theorem super_parse_c1_of {cap0 : Addr} {w : World} {K : Int → World → Prop} (hF : super_parse_c1F cap0 K w) : call Tryz.prog 174 [.pointer (some cap0)] [.one (.int .u32)] w K :=
  calls_of_fnPt (an := super_parse_c1A) (ts := [.one (.int .u32)]) (args := [.pointer (some cap0)]) Tryz.func174 (by kernel_rfl) ((show fnPt (std Tryz.prog) Tryz.prog Tryz.f174 super_parse_c1A [.one (.int .u32)] [.pointer (some cap0)] K w = super_parse_c1F cap0 K w by kernel_rfl).mpr hF)

/-- cashbook.super.Read -/
def super_ReadF (place : Int) (b : Sl) (K : ((List Value) × Int) → World → Prop) (w : World) : Prop :=
  newZ Tryz.prog 58 w <|
  fun (r_1 : Nat) (w_2 : World) =>
  join (Bool) (fun (X_3 : Bool → World → Prop) =>
    cond (!place == 0)
      (X_3 (!place == 1) w_2)
      (X_3 false w_2)) <|
  fun (b_4 : Bool) (w_5 : World) =>
  cond b_4
    (runQ [Ty1.raw] (fun (w_6 : Go.World) => (Instr.build 58 #[]).run Tryz.prog w_6) w_5 <|
    fun (vs_7 : List Value) =>
    chk (List.length vs_7 = 28) <|
    st ({ block := r_1, off := 0 }) vs_7 w_5 <|
    fun (w_8 : World) =>
    ldV 28 ({ block := r_1, off := 0 }) w_8 <|
    fun (vs_9 : List Value) =>
    K ((vs_9, 1)) w_8)
    (call Tryz.prog 85 ([Value.int IntKind.u32 (IntKind.wrap IntKind.u32 place), Value.slice b.a b.len b.cap]) ([Ty1.one (Cell.int IntKind.u8), Ty1.one Cell.slice, Ty1.one (Cell.int IntKind.i64)]) w_5 <|
    fun (t_10 : Int × Sl × Int) (w_11 : World) =>
    cond (!t_10.snd.snd == 0)
      (runQ [Ty1.raw] (fun (w_12 : Go.World) => (Instr.build 58 #[]).run Tryz.prog w_12) w_11 <|
      fun (vs_13 : List Value) =>
      chk (List.length vs_13 = 28) <|
      st ({ block := r_1, off := 0 }) vs_13 w_11 <|
      fun (w_14 : World) =>
      ldV 28 ({ block := r_1, off := 0 }) w_14 <|
      fun (vs_15 : List Value) =>
      K ((vs_15, t_10.snd.snd)) w_14)
      (join (Bool) (fun (X_16 : Bool → World → Prop) =>
        cond (!t_10.fst == 1)
          (X_16 true w_11)
          (X_16 (!(↑t_10.snd.fst.len : Int) == 116) w_11)) <|
      fun (b_17 : Bool) (w_18 : World) =>
      cond b_17
        (runQ [Ty1.raw] (fun (w_19 : Go.World) => (Instr.build 58 #[]).run Tryz.prog w_19) w_18 <|
        fun (vs_20 : List Value) =>
        chk (List.length vs_20 = 28) <|
        st ({ block := r_1, off := 0 }) vs_20 w_18 <|
        fun (w_21 : World) =>
        ldV 28 ({ block := r_1, off := 0 }) w_21 <|
        fun (vs_22 : List Value) =>
        K ((vs_22, 2)) w_21)
        (call Tryz.prog 158 ([Value.slice t_10.snd.fst.a t_10.snd.fst.len t_10.snd.fst.cap]) [Ty1.raw] w_18 <|
        fun (vs_23 : List Value) (w_24 : World) =>
        newZ Tryz.prog 58 w_24 <|
        fun (r_25 : Nat) (w_26 : World) =>
        chk (List.length vs_23 = 28) <|
        st ({ block := r_25, off := 0 }) vs_23 w_26 <|
        fun (w_27 : World) =>
        ld (Cell.int IntKind.u64) ({ block := r_25, off := 0 }) w_27 <|
        fun (x_28 : Int) =>
        cond (!Int.tmod x_28 2 == IntKind.wrap IntKind.u64 place)
          (runQ [Ty1.raw] (fun (w_29 : Go.World) => (Instr.build 58 #[]).run Tryz.prog w_29) w_27 <|
          fun (vs_30 : List Value) =>
          chk (List.length vs_30 = 28) <|
          st ({ block := r_1, off := 0 }) vs_30 w_27 <|
          fun (w_31 : World) =>
          ldV 28 ({ block := r_1, off := 0 }) w_31 <|
          fun (vs_32 : List Value) =>
          K ((vs_32, 2)) w_31)
          (ldV 28 ({ block := r_25, off := 0 }) w_27 <|
          fun (vs_33 : List Value) =>
          chk (List.length vs_33 = 28) <|
          st ({ block := r_1, off := 0 }) vs_33 w_27 <|
          fun (w_34 : World) =>
          ldV 28 ({ block := r_1, off := 0 }) w_34 <|
          fun (vs_35 : List Value) =>
          K ((vs_35, 0)) w_34))))
def super_ReadA : List Ann := [.n, .n, .j [(15, .one .bool)], .n, .n, .n, .n, .n, .n, .j [(35, .one .bool)], .n, .n, .n, .n, .n, .n]
theorem super_Read_of {place : Int} {b : Sl} {w : World} {K : ((List Value) × Int) → World → Prop} (hF : super_ReadF place b K w) : call Tryz.prog 130 [.int .i64 place, .slice b.a b.len b.cap] [.raw, .one (.int .i64)] w K :=
  calls_of_fnPt (an := super_ReadA) (ts := [.raw, .one (.int .i64)]) (args := [.int .i64 place, .slice b.a b.len b.cap]) Tryz.func130 (by kernel_rfl) ((show fnPt (std Tryz.prog) Tryz.prog Tryz.f130 super_ReadA [.raw, .one (.int .i64)] [.int .i64 place, .slice b.a b.len b.cap] K w = super_ReadF place b K w by kernel_rfl).mpr hF)

/-- cashbook.super.Newest -/
def super_NewestF (a : Sl) (b : Sl) (K : ((List Value) × Int) → World → Prop) (w : World) : Prop :=
  newZ Tryz.prog 58 w <|
  fun (r_1 : Nat) (w_2 : World) =>
  call Tryz.prog 130 ([Value.int IntKind.i64 0, Value.slice a.a a.len a.cap]) ([Ty1.raw, Ty1.one (Cell.int IntKind.i64)]) w_2 <|
  fun (t_3 : List Value × Int) (w_4 : World) =>
  newZ Tryz.prog 58 w_4 <|
  fun (r_5 : Nat) (w_6 : World) =>
  chk (List.length t_3.fst = 28) <|
  st ({ block := r_5, off := 0 }) t_3.fst w_6 <|
  fun (w_7 : World) =>
  call Tryz.prog 130 ([Value.int IntKind.i64 1, Value.slice b.a b.len b.cap]) ([Ty1.raw, Ty1.one (Cell.int IntKind.i64)]) w_7 <|
  fun (t_8 : List Value × Int) (w_9 : World) =>
  newZ Tryz.prog 58 w_9 <|
  fun (r_10 : Nat) (w_11 : World) =>
  chk (List.length t_8.fst = 28) <|
  st ({ block := r_10, off := 0 }) t_8.fst w_11 <|
  fun (w_12 : World) =>
  join (Bool) (fun (X_13 : Bool → World → Prop) =>
    cond (!t_3.snd == 0)
      (X_13 (!t_8.snd == 0) w_12)
      (X_13 false w_12)) <|
  fun (b_14 : Bool) (w_15 : World) =>
  cond b_14
    (runQ [Ty1.raw] (fun (w_16 : Go.World) => (Instr.build 58 #[]).run Tryz.prog w_16) w_15 <|
    fun (vs_17 : List Value) =>
    chk (List.length vs_17 = 28) <|
    st ({ block := r_1, off := 0 }) vs_17 w_15 <|
    fun (w_18 : World) =>
    ldV 28 ({ block := r_1, off := 0 }) w_18 <|
    fun (vs_19 : List Value) =>
    K ((vs_19, 5)) w_18)
    (join (Bool) (fun (X_20 : Bool → World → Prop) =>
      cond (!t_3.snd == 0)
        (X_20 true w_15)
        (cond (t_8.snd == 0)
          (ld (Cell.int IntKind.u64) ({ block := r_10, off := 0 }) w_15 <|
          fun (x_21 : Int) =>
          ld (Cell.int IntKind.u64) ({ block := r_5, off := 0 }) w_15 <|
          fun (x_22 : Int) =>
          X_20 (decide (x_21 > x_22)) w_15)
          (X_20 false w_15))) <|
    fun (b_23 : Bool) (w_24 : World) =>
    cond b_23
      (ldV 28 ({ block := r_10, off := 0 }) w_24 <|
      fun (vs_25 : List Value) =>
      chk (List.length vs_25 = 28) <|
      st ({ block := r_1, off := 0 }) vs_25 w_24 <|
      fun (w_26 : World) =>
      ldV 28 ({ block := r_1, off := 0 }) w_26 <|
      fun (vs_27 : List Value) =>
      K ((vs_27, 0)) w_26)
      (ldV 28 ({ block := r_5, off := 0 }) w_24 <|
      fun (vs_28 : List Value) =>
      chk (List.length vs_28 = 28) <|
      st ({ block := r_1, off := 0 }) vs_28 w_24 <|
      fun (w_29 : World) =>
      ldV 28 ({ block := r_1, off := 0 }) w_29 <|
      fun (vs_30 : List Value) =>
      K ((vs_30, 0)) w_29))
def super_NewestA : List Ann := [.n, .n, .n, .n, .j [(20, .one .bool)], .n, .j [(28, .one .bool)], .n, .n]
theorem super_Newest_of {a : Sl} {b : Sl} {w : World} {K : ((List Value) × Int) → World → Prop} (hF : super_NewestF a b K w) : call Tryz.prog 104 [.slice a.a a.len a.cap, .slice b.a b.len b.cap] [.raw, .one (.int .i64)] w K :=
  calls_of_fnPt (an := super_NewestA) (ts := [.raw, .one (.int .i64)]) (args := [.slice a.a a.len a.cap, .slice b.a b.len b.cap]) Tryz.func104 (by kernel_rfl) ((show fnPt (std Tryz.prog) Tryz.prog Tryz.f104 super_NewestA [.raw, .one (.int .i64)] [.slice a.a a.len a.cap, .slice b.a b.len b.cap] K w = super_NewestF a b K w by kernel_rfl).mpr hF)

end Go.Proofs.YtmbcedengdoamaaGreatDoor
end

section
/- The super: Write. Conditions: those that stand in each line. -/
set_option linter.unusedVariables false
set_option linter.unusedSimpArgs false
namespace Go.Proofs.YtmbcedengdoamaaGreatDoor
open Go Go.Pt
attribute [local irreducible] ld ldA ldV fld fldA newZ st new idx idxS idxA slc slcS slcP mkS chk nn call callV inv run runQ runU join loop held ext rng undefer s2a IntKind.wrap

/-- A super: its number, and 27 others: blocks, the list, how many are free, and three of each of eight roots. -/
def supV (q : Int) (t : List Int) : List Value := .int .u64 q :: t.map (Value.int .u32)
def superB (q : Int) (t : List Int) : List Int := be (IntKind.wrap .u32 (Int.fdiv q (2 ^ 32))) 4 ++ be (IntKind.wrap .u32 q) 4 ++ t.flatMap (be · 4)
theorem superB_len {q : Int} {t : List Int} (ht : t.length = 27) : (superB q t).length = 116 := by
  rw [superB, List.length_append, List.length_append, be_len, be_len, flatMap_be, ht]
theorem supV_len {q : Int} {t : List Int} (ht : t.length = 27) : (supV q t).length = 28 := by simp [supV, ht]
theorem supV_at {q : Int} {t : List Int} (n : Nat) (h : n < t.length) : (supV q t).toArray[n + 1]? = some (.int .u32 (t.getD n 0)) := by
  simp [supV, List.getD_eq_getElem?_getD, List.getElem?_eq_getElem h]
theorem supV_one (q : Int) (t : List Int) : ((supV q t).all Value.oneCell') = true := by
  rw [List.all_eq_true]
  intro v hv
  rcases List.mem_cons.1 hv with rfl | hv
  · rfl
  · obtain ⟨x, _, rfl⟩ := List.mem_map.1 hv; rfl

theorem buf_drew {α : Type} {enc : α → List Value} {k : Nat} {w : World} {s : Sl} {l : List α} {B : List Nat} (h : Buf enc k w s l B) : Buf enc k w.drew s l B := h

/-- Blocks that came later than a world, and are none of those that are held. -/
def Apart (w0 : World) (L : List (Nat × Obj)) (B : List Nat) : Prop := ∀ b ∈ B, w0.heap.size ≤ b ∧ b ∉ L.map (·.1)

theorem Apart.cons {w0 : World} {L : List (Nat × Obj)} {B : List Nat} {r : Nat} {o : Obj} (h : Apart w0 L B) (hr : r ∉ B) : Apart w0 ((r, o) :: L) B := fun b hb => ⟨(h b hb).1, fun hm => by
  rcases List.mem_cons.1 hm with rfl | hm
  · exact hr hb
  · exact (h b hb).2 hm⟩
theorem Apart.tail {w0 : World} {L : List (Nat × Obj)} {B : List Nat} {p : Nat × Obj} (h : Apart w0 (p :: L) B) : Apart w0 L B := fun b hb => ⟨(h b hb).1, fun hm => (h b hb).2 (List.mem_cons_of_mem _ hm)⟩

theorem drop3 {l : List Int} {j : Nat} (h : j + 3 ≤ l.length) : l.drop j = l.getD j 0 :: l.getD (j + 1) 0 :: l.getD (j + 2) 0 :: l.drop (j + 3) := by
  rw [List.drop_eq_getElem_cons (by omega), List.drop_eq_getElem_cons (i := j + 1) (by omega), List.drop_eq_getElem_cons (i := j + 1 + 1) (by omega)]
  simp only [List.getD_eq_getElem?_getD]
  rw [List.getElem?_eq_getElem (show j < l.length by omega), List.getElem?_eq_getElem (show j + 1 < l.length by omega), List.getElem?_eq_getElem (show j + 2 < l.length by omega)]
  rfl
theorem take3 {l : List Int} {j : Nat} (h : j + 3 ≤ l.length) : l.take (j + 3) = l.take j ++ [l.getD j 0, l.getD (j + 1) 0, l.getD (j + 2) 0] := by
  rw [List.take_add, drop3 h]
  rfl
theorem ext3 {l : List Int} {j : Nat} (h : j + 3 ≤ l.length) : (l.map (Value.int .u32)).extract j (j + 3) = [.int .u32 (l.getD j 0), .int .u32 (l.getD (j + 1) 0), .int .u32 (l.getD (j + 2) 0)] := by
  rw [List.extract_eq_take_drop, ← List.map_drop, drop3 h, show j + 3 - j = 3 by omega]
  rfl

theorem sput_ok {w0 w : World} {L : List (Nat × Obj)} {s : Sl} {l : List Int} {B : List Nat} {n : Int} {K : Sl → World → Prop} (ho : Own [] w0 w L) (h : BufB w s l B) (hB : Apart w0 L B) (hl : l.length ≤ 1000000)
    (hk : ∀ s' B' w', Own [] w0 w' L → BufB w' s' (l ++ be n 4) B' → Apart w0 L B' → K s' w') :
    call Tryz.prog 146 [.slice s.a s.len s.cap, .int .u32 n] [.one .slice] w K := by
  refine super_put_of (b := s) ?_
  unfold super_putF
  refine put4_core h hl fun s' B' w' b' f' n' => ?_
  refine hk s' B' w' (ho.frame f' (fun b hb => .inr (hB b hb).1) (fun p hp hb => (hB _ hb).2 (List.mem_map_of_mem hp))) b' fun b hb => ?_
  rcases n' b hb with h1 | h1
  · exact hB b h1
  · refine ⟨Nat.le_trans ho.fr.size h1, fun hm => ?_⟩
    obtain ⟨p, hp, rfl⟩ := List.mem_map.1 hm
    have := lt_of_blk (ho.blk p hp)
    omega

theorem SWrite_ok {w : World} {q : Int} {t : List Int} {K : Sl → World → Prop} (hv : Hv w) (ht : t.length = 27)
    (hk : ∀ b T w', w'.heap[b]? = some (.cells (bytesA (sealV (IntKind.wrap .u32 (Int.tmod q 2)) 1 (superB q t))) T (0, 0)) → Fr [] w w' → w.heap.size ≤ b → K ⟨some ⟨b, 0, none⟩, 512, 512⟩ w') :
    call Tryz.prog 123 [.agg (supV q t).toArray] [.one .slice] w K := by
  refine super_Write_of (s := supV q t) ?_
  unfold super_WriteF
  refine Own.new' (Own.start [] w) fun r1 w1 e1 f1 ho => ?_
  have c0 : (supV q t).toArray[0]? = some (.int .u64 q) := rfl
  have cn := fun n (h : n < 27) => supV_at (q := q) (t := t) n (by omega)
  refine Own.ld (c := .int .u64) ho.drew 0 rfl q c0 ?_
  refine Own.ld (c := .int .u64) ho.drew 0 rfl q c0 ?_
  refine sput_ok (s := ⟨none, 0, 0⟩) (l := []) (B := []) ho.drew (.nil _ _ _) (fun b hb => by cases hb) (by simp) fun s5 B5 w6 ho b5 n5 => ?_
  refine held_one (ho.cell (off := 0) 0 rfl c0) ?_
  refine sput_ok ho b5 n5 (by simp [be_len]) fun s8 B8 w9 ho b8 n8 => ?_
  refine Own.ld (c := .int .u32) ho.drew 0 rfl (t.getD 0 0) (cn 0 (by decide)) ?_
  refine Own.ld (c := .int .u32) ho.drew 0 rfl (t.getD 1 0) (cn 1 (by decide)) ?_
  refine Own.ld (c := .int .u32) ho.drew 0 rfl (t.getD 2 0) (cn 2 (by decide)) ?_
  refine sput_ok ho.drew (buf_drew b8) n8 (by simp [be_len]) fun s13 B13 w14 ho b13 n13 => ?_
  refine held_two (ho.cell (off := 3) 0 rfl (cn 2 (by decide))) (ho.cell (off := 2) 0 rfl (cn 1 (by decide))) ?_
  refine sput_ok ho b13 n13 (by simp [be_len]) fun s17 B17 w18 ho b17 n17 => ?_
  refine held_one (ho.cell (off := 3) 0 rfl (cn 2 (by decide))) ?_
  refine sput_ok ho b17 n17 (by simp [be_len]) fun s20 B20 w21 ho b20 n20 => ?_
  have hr : ((supV q t).toArray.toList.drop 4).take 24 = (t.drop 3).map (Value.int .u32) := by
    show (List.drop 3 (t.map (Value.int .u32))).take 24 = _
    rw [List.map_drop, List.take_of_length_le (by rw [List.length_drop, List.length_map, ht]; decide)]
  refine ldV_blk (ho.at (i := 0) rfl) ((t.drop 3).map (Value.int .u32)) (by rw [List.length_map, List.length_drop, ht]) hr ?_
  have hl3 : (t.drop 3).length = 24 := by rw [List.length_drop, ht]
  have ht3 : t = [t.getD 0 0, t.getD 1 0, t.getD 2 0] ++ t.drop 3 := by
    have := drop3 (l := t) (j := 0) (by omega)
    rw [List.drop_zero] at this
    exact this
  have base : [] ++ be (IntKind.wrap .u32 (Int.fdiv q (2 ^ 32))) 4 ++ be (IntKind.wrap .u32 q) 4 ++ be (t.getD 0 0) 4 ++ be (t.getD 1 0) 4 ++ be (t.getD 2 0) 4 = be (IntKind.wrap .u32 (Int.fdiv q (2 ^ 32))) 4 ++ be (IntKind.wrap .u32 q) 4 ++ [t.getD 0 0, t.getD 1 0, t.getD 2 0].flatMap (be · 4) := by
    simp
  rw [base] at b20
  refine loop_ind (fun x w' => ∃ (i : Nat) (B : List Nat), x.2 = i ∧ i ≤ 8 ∧ BufB w' x.1 (be (IntKind.wrap .u32 (Int.fdiv q (2 ^ 32))) 4 ++ be (IntKind.wrap .u32 q) 4 ++ [t.getD 0 0, t.getD 1 0, t.getD 2 0].flatMap (be · 4) ++ ((t.drop 3).take (3 * i)).flatMap (be · 4)) B ∧ Own [] w w' [(r1, .cells (supV q t).toArray 58 (0, 0))] ∧ Apart w [(r1, .cells (supV q t).toArray 58 (0, 0))] B) (fun x _ => (8 - x.2).toNat)
    ⟨0, B20, rfl, by omega, by simpa using b20, ho, n20⟩ ?_
  rintro ⟨s, ii⟩ w2 ⟨i, B, hi0, hi8, bb, ho, nb⟩ X hX
  simp only at hi0 bb
  subst hi0
  dsimp only
  have hlen : (be (IntKind.wrap .u32 (Int.fdiv q (2 ^ 32))) 4 ++ be (IntKind.wrap .u32 q) 4 ++ [t.getD 0 0, t.getD 1 0, t.getD 2 0].flatMap (be · 4) ++ ((t.drop 3).take (3 * i)).flatMap (be · 4)).length ≤ 200 := by
    rw [List.length_append, List.length_append, List.length_append, be_len, be_len, flatMap_be, flatMap_be, List.length_take, hl3]
    show 4 + 4 + 3 * 4 + _ ≤ 200
    omega
  refine cond_of (fun hc => ?_) (fun hc => ?_)
  · have hi : i < 8 := by have := of_decide_eq_true hc; omega
    refine chk_of ⟨by omega, by omega⟩ ?_
    have h3 : 3 * i + 3 ≤ (t.drop 3).length := by omega
    refine fldA_of ((t.drop 3).getD (3 * i) 0, (t.drop 3).getD (3 * i + 1) 0, (t.drop 3).getD (3 * i + 2) 0) ?_ ?_
    · have := ext3 h3
      rw [show Int.toNat (i : Int) * 3 = 3 * i by simp; omega]
      exact this
    refine Own.new' ho fun r2 w3 e3 f3 ho2 => ?_
    refine Own.st' ho2 0 rfl _ rfl rfl (Nat.le_of_ble_eq_true rfl) fun w4 ho2 f4 => ?_
    have hlt := bb.lt
    have hr2 : r2 ∉ B := fun hb => by have := hlt _ hb; omega
    have bb := (bb.frame0 f3).frame f4 (fun b hb hm => by simp only [List.mem_singleton] at hm; subst hm; exact hr2 hb)
    refine Own.ld (c := .int .u32) ho2.drew 0 rfl ((t.drop 3).getD (3 * i) 0) rfl ?_
    refine Own.ld (c := .int .u32) ho2.drew 0 rfl ((t.drop 3).getD (3 * i + 1) 0) rfl ?_
    refine Own.ld (c := .int .u32) ho2.drew 0 rfl ((t.drop 3).getD (3 * i + 2) 0) rfl ?_
    refine sput_ok ho2.drew (buf_drew bb) (nb.cons hr2) (by omega) fun s5 B5 w5 ho2 b5 n5 => ?_
    refine held_two (ho2.cell (off := 2) 0 rfl rfl) (ho2.cell (off := 1) 0 rfl rfl) ?_
    refine sput_ok ho2 b5 n5 (by rw [List.length_append, be_len]; omega) fun s6 B6 w6 ho2 b6 n6 => ?_
    refine held_one (ho2.cell (off := 2) 0 rfl rfl) ?_
    refine sput_ok ho2 b6 n6 (by rw [List.length_append, List.length_append, be_len, be_len]; omega) fun s7 B7 w7 ho2 b7 n7 => ?_
    rw [wi' _ (by omega)]
    refine hX _ _ ⟨i + 1, B7, by simp, by omega, ?_, ho2.sub (List.sublist_cons_self _ _), n7.tail⟩ (by dsimp only; omega)
    rw [show 3 * (i + 1) = 3 * i + 3 by omega, take3 h3, List.flatMap_append]
    have e : ([(t.drop 3).getD (3 * i) 0, (t.drop 3).getD (3 * i + 1) 0, (t.drop 3).getD (3 * i + 2) 0] : List Int).flatMap (be · 4) = be ((t.drop 3).getD (3 * i) 0) 4 ++ be ((t.drop 3).getD (3 * i + 1) 0) 4 ++ be ((t.drop 3).getD (3 * i + 2) 0) 4 := by simp
    rw [e]
    simpa only [List.append_assoc] using b7
  · obtain rfl : i = 8 := by have := of_decide_eq_false hc; omega
    rw [List.take_of_length_le (by omega), List.append_assoc, ← List.flatMap_append, ← ht3] at bb
    refine Own.ld (c := .int .u64) ho 0 rfl q c0 ?_
    have hb := bb.rds (S := []) encB_len (by simp)
    refine seal_ok hb (hv.frame0 ho.fr) (by show (superB q t).length ≤ _; rw [superB_len ht]; decide) (fun h => ?_) fun _ b T w5 h5 f5 n5 => ?_
    · have h' : 500 < (superB q t).length := h
      rw [superB_len ht] at h'
      exact absurd h' (by decide)
    · exact hk b T w5 h5 (ho.fr.trans' f5 (by simp)) (Nat.le_trans ho.fr.size n5)

end Go.Proofs.YtmbcedengdoamaaGreatDoor
end

section
/- The super: parse. Conditions: those that stand in each line. -/
set_option linter.unusedVariables false
set_option linter.unusedSimpArgs false
namespace Go.Proofs.YtmbcedengdoamaaGreatDoor
open Go Go.Pt
attribute [local irreducible] ld ldA ldV fld fldA newZ st new idx idxS idxA slc slcS slcP mkS chk nn call callV inv run runQ runU join loop held ext rng undefer s2a IntKind.wrap

/-- The next four bytes: the closure's cell then has the rest. -/
theorem next_ok {w0 w : World} {L : List (Nat × Obj)} {r : Nat} {s : Sl} {l : List Int} {K : Int → World → Prop} (ho : Own [] w0 w L) (i : Nat) (hi : L[i]? = some (r, .cells #[.slice s.a s.len s.cap] 22 (0, 0))) (h : RdB [] w0 s l) (hl : 4 ≤ l.length)
    (hk : ∀ s' w', RdB [] w0 s' (l.drop 4) → Own [] w0 w' (L.set i (r, .cells #[.slice s'.a s'.len s'.cap] 22 (0, 0))) → K (first4 l) w') :
    callV Tryz.prog (.func (.func 174) #[] #[.pointer (some ⟨r, 0, none⟩)]) [] [.one (.int .u32)] w K := by
  refine callV_func (lb := [.pointer (some ⟨r, 0, none⟩)]) rfl (by kernel_rfl) ?_
  refine super_parse_c1_of ?_
  unfold super_parse_c1F
  have hd := ho.drew
  have hw : RdB [] w.drew s l := h.frame0 hd.fr
  refine Own.ld (c := .slice) hd i hi s rfl ?_
  refine RdB.at hw 0 rfl (getD_some (by omega)) ?_
  refine Own.ld (c := .slice) hd i hi s rfl ?_
  refine RdB.at hw 1 rfl (getD_some (by omega)) ?_
  refine Own.ld (c := .slice) hd i hi s rfl ?_
  refine RdB.at hw 2 rfl (getD_some (by omega)) ?_
  refine Own.ld (c := .slice) hd i hi s rfl ?_
  refine RdB.at hw 3 rfl (getD_some (by omega)) ?_
  refine Own.ld (c := .slice) hd i hi s rfl ?_
  refine Rds.drop h 4 rfl hl (by omega) fun s' h' => ?_
  refine Own.st hd i hi _ rfl rfl rfl fun w' ho' _ => ?_
  exact hk s' w' h' ho'

def parseQ (l : List Int) : Int := bits .or .u64 (IntKind.wrap .u64 (IntKind.wrap .u64 (first4 l) * 2 ^ 32)) (IntKind.wrap .u64 (first4 (l.drop 4)))
def parseT (l : List Int) : List Int := (List.range 27).map fun i => first4 (l.drop (8 + 4 * i))
theorem parseT_len (l : List Int) : (parseT l).length = 27 := by simp [parseT]

/-- The first n of the numbers, the others zero. -/
def supN (q : Int) (f : Nat → Int) (n : Nat) : Array Value := (supV q ((List.range n).map f ++ zs (27 - n))).toArray

theorem splice_sup {q x y : Int} {A Z : List Int} : splice (supV q (A ++ x :: Z)).toArray (A.length + 1) [.int .u32 y] = (supV q (A ++ y :: Z)).toArray := by
  apply Array.ext'
  have := splice_parts (.int .u64 q :: A.map (Value.int .u32)) [Value.int .u32 x] [Value.int .u32 y] (Z.map (Value.int .u32)) rfl
  rw [splice_toList _ _ _ (by simp [supV])]
  simpa [supV] using this
theorem supN_step {q : Int} {f : Nat → Int} {n : Nat} (h : n < 27) : splice (supN q f n) (n + 1) [.int .u32 (f n)] = supN q f (n + 1) := by
  have hz : zs (27 - n) = 0 :: zs (27 - (n + 1)) := by rw [show 27 - n = (27 - (n + 1)) + 1 by omega]; rfl
  have := splice_sup (q := q) (x := 0) (y := f n) (A := (List.range n).map f) (Z := zs (27 - (n + 1)))
  rw [List.length_map, List.length_range] at this
  rw [supN, hz, this, supN, List.range_succ, List.map_append, List.append_assoc]
  rfl
theorem supN_q {q q' : Int} {f : Nat → Int} {n : Nat} : splice (supN q f n) 0 [.int .u64 q'] = supN q' f n := by
  apply Array.ext'
  rw [splice_toList _ _ _ (by simp [supN, supV])]
  simp [supN, supV]
theorem supN_size {q : Int} {f : Nat → Int} {n : Nat} (h : n ≤ 27) : (supN q f n).size = 28 := by
  simp [supN, supV, zs_len]; omega
theorem supN_done {q : Int} {f : Nat → Int} : supN q f 27 = (supV q ((List.range 27).map f)).toArray := by
  show (supV q ((List.range 27).map f ++ [])).toArray = _
  rw [List.append_nil]

theorem SParse_ok {S : List Nat} {w : World} {s : Sl} {l : List Int} {K : List Value → World → Prop} (h : RdB S w s l) (hl : l.length = 116)
    (hk : ∀ w', Fr [] w w' → K (supV (parseQ l) (parseT l)) w') :
    call Tryz.prog 158 [.slice s.a s.len s.cap] [.raw] w K := by
  refine super_parse_of (b := s) ?_
  unfold super_parseF
  have h0 : RdB [] w s l := h.weak (by simp)
  have hz : ((Tryz.prog.info? 58).bind (·.zero)).map (fun z => z.cells.toList) = some (supV 0 (zs 27)) := by kernel_rfl
  refine Own.new' (Own.start [] w) fun r1 w1 e1 f1 ho => ?_
  refine Own.newZ ho hz fun r3 w2 e3 ho => ?_
  refine Own.newZ ho hz fun r5 w3 e5 ho => ?_
  refine next_ok ho 2 rfl h0 (by omega) fun s1 w4 h1 ho => ?_
  have st0 : ∀ (q : Int), (supV q (zs 27)).toArray = supN q (fun i => first4 (l.drop (8 + 4 * i))) 0 := fun q => rfl
  refine Own.st' ho 0 rfl (supN (IntKind.wrap .u64 (IntKind.wrap .u64 (first4 l) * 2 ^ 32)) (fun i => first4 (l.drop (8 + 4 * i))) 0) ?_ rfl ?_ fun w5 ho _ => ?_
  · rw [st0 0]; exact supN_q
  · exact Nat.le_of_ble_eq_true rfl
  refine Own.ld (c := .int .u64) ho.drew 0 rfl (IntKind.wrap .u64 (IntKind.wrap .u64 (first4 l) * 2 ^ 32)) rfl ?_
  refine next_ok ho.drew 2 rfl h1 (by rw [List.length_drop]; omega) fun s2 w6 h2 ho => ?_
  refine held_one (ho.cell (off := 0) 0 rfl rfl) ?_
  refine Own.st' ho 0 rfl (supN (parseQ l) (fun i => first4 (l.drop (8 + 4 * i))) 0) supN_q rfl (Nat.le_of_ble_eq_true rfl) fun w7 ho _ => ?_
  rw [List.drop_drop] at h2
  refine next_ok ho 2 rfl h2 (by rw [List.length_drop]; omega) fun s3 w8 h3 ho => ?_
  refine Own.st' ho 0 rfl (supN (parseQ l) (fun i => first4 (l.drop (8 + 4 * i))) 1) (supN_step (by decide)) rfl (by show 1 + 1 ≤ _; rw [supN_size (by decide)]; decide) fun w9 ho _ => ?_
  rw [List.drop_drop] at h3
  refine next_ok ho 2 rfl h3 (by rw [List.length_drop]; omega) fun s4 w10 h4 ho => ?_
  refine Own.st' ho 0 rfl (supN (parseQ l) (fun i => first4 (l.drop (8 + 4 * i))) 2) (supN_step (by decide)) rfl (by show 2 + 1 ≤ _; rw [supN_size (by decide)]; decide) fun w11 ho _ => ?_
  rw [List.drop_drop] at h4
  refine next_ok ho 2 rfl h4 (by rw [List.length_drop]; omega) fun s5 w12 h5 ho => ?_
  refine Own.st' ho 0 rfl (supN (parseQ l) (fun i => first4 (l.drop (8 + 4 * i))) 3) (supN_step (by decide)) rfl (by show 3 + 1 ≤ _; rw [supN_size (by decide)]; decide) fun w13 ho _ => ?_
  rw [List.drop_drop] at h5
  refine loop_ind (fun x w' => ∃ (i : Nat) (sx : Sl), x = i ∧ i ≤ 8 ∧ RdB [] w sx (l.drop (20 + 12 * i)) ∧
      Own [] w w' [(r5, .cells (supN (parseQ l) (fun i => first4 (l.drop (8 + 4 * i))) (3 + 3 * i)) 58 (0, 0)), (r3, .cells (supV 0 (zs 27)).toArray 58 (0, 0)), (r1, .cells #[.slice sx.a sx.len sx.cap] 22 (0, 0))]) (fun x _ => (8 - x).toNat)
    ⟨0, s5, rfl, by omega, h5, ho⟩ ?_
  rintro x w14 ⟨i, sx, rfl, hi8, hx, ho⟩ X hX
  refine cond_of (fun hc => ?_) (fun hc => ?_)
  · have hi : i < 8 := by have := of_decide_eq_true hc; omega
    refine chk_of ⟨by omega, by omega⟩ ?_
    simp only [Addr.add_mk]
    have hti : Int.toNat (i : Int) = i := by omega
    refine next_ok ho 2 rfl hx (by rw [List.length_drop]; omega) fun s6 w15 h6 ho => ?_
    show Pt.st ⟨r5, 4 + Int.toNat (i : Int) * 3 + 0, none⟩ _ _ _
    refine Own.st' ho 0 rfl (supN (parseQ l) (fun i => first4 (l.drop (8 + 4 * i))) (3 + 3 * i + 1)) ?_ rfl ?_ fun w16 ho _ => ?_
    · rw [show 20 + 12 * i = 8 + 4 * (3 + 3 * i) by omega, show 4 + Int.toNat (i : Int) * 3 + 0 = (3 + 3 * i) + 1 by omega]
      exact supN_step (f := fun i => first4 (l.drop (8 + 4 * i))) (by omega)
    · rw [supN_size (by omega)]; show _ + 1 ≤ 28; omega
    rw [List.drop_drop] at h6
    refine next_ok ho 2 rfl h6 (by rw [List.length_drop]; omega) fun s7 w17 h7 ho => ?_
    show Pt.st ⟨r5, 0 + 4 + Int.toNat (i : Int) * 3 + 1, none⟩ _ _ _
    refine Own.st' ho 0 rfl (supN (parseQ l) (fun i => first4 (l.drop (8 + 4 * i))) (3 + 3 * i + 2)) ?_ rfl ?_ fun w18 ho _ => ?_
    · rw [show 20 + 12 * i + 4 = 8 + 4 * (3 + 3 * i + 1) by omega]
      show splice _ (0 + 4 + Int.toNat (i : Int) * 3 + 1) _ = _
      rw [show 0 + 4 + Int.toNat (i : Int) * 3 + 1 = (3 + 3 * i + 1) + 1 by omega]
      exact supN_step (f := fun i => first4 (l.drop (8 + 4 * i))) (by omega)
    · rw [supN_size (by omega)]; show 0 + 4 + Int.toNat (i : Int) * 3 + 1 + 1 ≤ 28; omega
    rw [List.drop_drop] at h7
    refine next_ok ho 2 rfl h7 (by rw [List.length_drop]; omega) fun s8 w19 h8 ho => ?_
    show Pt.st ⟨r5, 0 + 4 + Int.toNat (i : Int) * 3 + 2, none⟩ _ _ _
    refine Own.st' ho 0 rfl (supN (parseQ l) (fun i => first4 (l.drop (8 + 4 * i))) (3 + 3 * i + 3)) ?_ rfl ?_ fun w20 ho _ => ?_
    · rw [show 20 + 12 * i + 4 + 4 = 8 + 4 * (3 + 3 * i + 2) by omega]
      show splice _ (0 + 4 + Int.toNat (i : Int) * 3 + 2) _ = _
      rw [show 0 + 4 + Int.toNat (i : Int) * 3 + 2 = (3 + 3 * i + 2) + 1 by omega]
      exact supN_step (f := fun i => first4 (l.drop (8 + 4 * i))) (by omega)
    · rw [supN_size (by omega)]; show 0 + 4 + Int.toNat (i : Int) * 3 + 2 + 1 ≤ 28; omega
    rw [List.drop_drop] at h8
    rw [wi' _ (by omega)]
    refine hX _ _ ⟨i + 1, s8, by simp, by omega, ?_, ?_⟩ (by omega)
    · rw [show 20 + 12 * (i + 1) = 20 + 12 * i + 4 + 4 + 4 by omega]; exact h8
    · rw [show 3 + 3 * (i + 1) = 3 + 3 * i + 3 by omega]; exact ho
  · obtain rfl : i = 8 := by have := of_decide_eq_false hc; omega
    rw [show 3 + 3 * 8 = 27 from rfl, supN_done] at ho
    refine ldV_blk (ho.at (i := 0) rfl) (supV (parseQ l) (parseT l)) (supV_len (parseT_len l)) (by rw [List.drop_zero]; exact List.take_of_length_le (Nat.le_of_eq (supV_len (parseT_len l)))) ?_
    refine chk_of (supV_len (parseT_len l)) ?_
    refine Own.st' ho 1 rfl (supV (parseQ l) (parseT l)).toArray ?_ (supV_one _ _) ?_ fun w15 ho _ => ?_
    · apply Array.ext'
      rw [splice_toList _ _ _ (by rw [supV_len (parseT_len l)]; decide), supV_len (parseT_len l), List.take_zero, List.nil_append, List.drop_of_length_le (by decide), List.append_nil]
    · rw [supV_len (parseT_len l)]; decide
    refine ldV_blk (ho.at (i := 1) rfl) (supV (parseQ l) (parseT l)) (supV_len (parseT_len l)) (by rw [List.drop_zero]; exact List.take_of_length_le (Nat.le_of_eq (supV_len (parseT_len l)))) ?_
    exact hk w15 ho.fr

end Go.Proofs.YtmbcedengdoamaaGreatDoor
end

section
/- The super: Read, Newest. Conditions: those that stand in each line. -/
set_option linter.unusedVariables false
set_option linter.unusedSimpArgs false
namespace Go.Proofs.YtmbcedengdoamaaGreatDoor
open Go Go.Pt
attribute [local irreducible] ld ldA ldV fld fldA newZ st new idx idxS idxA slc slcS slcP mkS chk nn call callV inv run runQ runU join loop held ext rng undefer s2a IntKind.wrap

theorem zs27 : (zs 27).length = 27 := rfl
theorem supZ : ((Tryz.prog.info? 58).bind (·.zero)).map (fun z => z.cells.toList) = some (supV 0 (zs 27)) := by kernel_rfl

theorem run_build0 {P : Program} {t : TypeId} {z : Value} {offs : Array (Nat × Nat)} (hz : (P.info? t).bind (·.zero) = some z) (hu : P.underlying t = some (.struct (fieldsOf P t))) (hpl : ∀ w, ((fieldsOf P t).mapM fun f => do pure (f.offset, ← sizeOf f.type) : Sem (Array (Nat × Nat))).run P w = .ok offs w) (w : World) :
    (Instr.build t #[]).run P w = .ok (.agg z.cells) w := by
  simp only [Instr.build, Sem.run_bind, run_zeroValue' hz, Result.andThen_ok, run_underlying hu, hpl, Instr.fill, Sem.run_pure]

theorem zeroSup {w : World} {K : List Value → Prop} (k : K (supV 0 (zs 27))) : runQ [Ty1.raw] (fun w' => (Instr.build 58 #[]).run Tryz.prog w') w K := by
  obtain ⟨z, hz, hzs⟩ := Option.map_eq_some_iff.1 supZ
  refine runQ_of (ts := [Ty1.raw]) (supV 0 (zs 27)) ?_ k
  have := run_build0 (P := Tryz.prog) (t := 58) (offs := #[(0, 1), (1, 1), (2, 1), (3, 1), (4, 24)]) hz (by kernel_rfl) (fun w => by kernel_rfl) w
  rw [this]
  show Result.ok (Value.agg z.cells) w = .ok (Value.agg (supV 0 (zs 27)).toArray) w
  rw [← hzs]

theorem splice_all {cs : Array Value} {vs : List Value} (h : vs.length = cs.size) : splice cs 0 vs = vs.toArray := by
  apply Array.ext'
  rw [splice_toList _ _ _ (by omega), List.take_zero, List.nil_append, List.drop_of_length_le (by rw [Array.length_toList]; omega), List.append_nil]

theorem supV_size {q : Int} {t : List Int} (ht : t.length = 27) : (supV q t).toArray.size = 28 := by rw [List.size_toArray]; exact supV_len ht

theorem ldSup {w : World} {r : Nat} {q : Int} {t : List Int} {T : TypeId} {fr : Nat × Nat} {K : List Value → Prop} (hb : w.heap[r]? = some (.cells (supV q t).toArray T fr)) (ht : t.length = 27) (k : K (supV q t)) : ldV 28 ⟨r, 0, none⟩ w K :=
  ldV_blk hb (supV q t) (supV_len ht) (by rw [List.drop_zero, List.take_of_length_le (Nat.le_of_eq (supV_len ht))]) k

/-- A super laid into a variable. -/
theorem putSup {w0 w : World} {L : List (Nat × Obj)} {r : Nat} {q q0 : Int} {t t0 : List Int} {T : TypeId} {K : World → Prop} (ho : Own [] w0 w L) (i : Nat) (hi : L[i]? = some (r, .cells (supV q0 t0).toArray T (0, 0))) (h0 : t0.length = 27) (ht : t.length = 27)
    (hk : ∀ w', Own [] w0 w' (L.set i (r, .cells (supV q t).toArray T (0, 0))) → K w') : chk ((supV q t).length = 28) (st ⟨r, 0, none⟩ (supV q t) w K) := by
  refine chk_of (supV_len ht) ?_
  refine Own.st' ho i hi (supV q t).toArray (splice_all (by rw [supV_size h0, supV_len ht])) (supV_one _ _) (by rw [supV_size h0, supV_len ht]; decide) fun w' ho' _ => hk w' ho'
theorem retSup {w0 w : World} {L : List (Nat × Obj)} {r : Nat} {q q0 : Int} {t t0 : List Int} {T : TypeId} {K : List Value → World → Prop} (ho : Own [] w0 w L) (i : Nat) (hi : L[i]? = some (r, .cells (supV q0 t0).toArray T (0, 0))) (h0 : t0.length = 27) (ht : t.length = 27)
    (hk : ∀ w', Fr [] w0 w' → K (supV q t) w') : chk ((supV q t).length = 28) (st ⟨r, 0, none⟩ (supV q t) w fun w' => ldV 28 ⟨r, 0, none⟩ w' fun vs => K vs w') := by
  refine putSup ho i hi h0 ht fun w' ho' => ?_
  have hil : i < L.length := by
    rcases Nat.lt_or_ge i L.length with h | h
    · exact h
    · rw [List.getElem?_eq_none h] at hi; cases hi
  exact ldSup (ho'.at (i := i) (by rw [List.getElem?_set_self hil])) ht (hk w' ho'.fr)

abbrev Sup := Int × List Int
def supZero : Sup := (0, zs 27)
def readSV (place : Int) (l : List Int) : Sup × Int :=
  if (openV place l).2.2 ≠ 0 then (supZero, (openV place l).2.2)
  else if (openV place l).1 ≠ 1 ∨ (openV place l).2.1.length ≠ 116 then (supZero, 2)
  else if Int.tmod (parseQ (openV place l).2.1) 2 ≠ place then (supZero, 2)
  else ((parseQ (openV place l).2.1, parseT (openV place l).2.1), 0)
theorem readSV_len (place : Int) (l : List Int) : (readSV place l).1.2.length = 27 := by
  unfold readSV
  split <;> (try rfl)
  split <;> (try rfl)
  split <;> rfl
def newestV (a b : List Int) : Sup × Int :=
  if (readSV 0 a).2 ≠ 0 ∧ (readSV 1 b).2 ≠ 0 then (supZero, 5)
  else if (readSV 0 a).2 ≠ 0 ∨ ((readSV 1 b).2 = 0 ∧ (readSV 1 b).1.1 > (readSV 0 a).1.1) then ((readSV 1 b).1, 0)
  else ((readSV 0 a).1, 0)
theorem newestV_len (a b : List Int) : (newestV a b).1.2.length = 27 := by
  unfold newestV
  split <;> (try rfl)
  split <;> exact readSV_len _ _

theorem SRead_ok {S : List Nat} {w : World} {s : Sl} {l : List Int} {place : Int} {K : List Value × Int → World → Prop} (h : RdB S w s l) (hv : Hv w) (hB : IsB l) (hl : l.length ≤ 100000) (hp : place = 0 ∨ place = 1)
    (hk : ∀ w', Fr [] w w' → K (supV (readSV place l).1.1 (readSV place l).1.2, (readSV place l).2) w') :
    call Tryz.prog 130 [.int .i64 place, .slice s.a s.len s.cap] [.raw, .one (.int .i64)] w K := by
  refine super_Read_of (place := place) (b := s) ?_
  unfold super_ReadF
  refine Own.newZ (Own.start [] w) supZ fun r1 w1 e1 ho => ?_
  have hpw : IntKind.wrap .u32 place = place := by rcases hp with rfl | rfl <;> kernel_rfl
  have hpq : IntKind.wrap .u64 place = place := by rcases hp with rfl | rfl <;> kernel_rfl
  rw [hpw, hpq]
  refine join_mid (fun b w' => b = false ∧ w' = w1) ?_ ?_
  · rcases hp with rfl | rfl
    · exact cond_false rfl ⟨rfl, rfl⟩
    · exact cond_true rfl ⟨rfl, rfl⟩
  rintro b w2 ⟨rfl, rfl⟩
  refine cond_false rfl ?_
  have bad : ∀ {e : Int} {w' : World}, readSV place l = (supZero, e) → Fr [] w w' → K (supV 0 (zs 27), e) w' := by
    intro e w' he hf
    have := hk w' hf
    rw [he] at this
    exact this
  refine open_ok (h.frame0 ho.fr) (hv.frame0 ho.fr) hB hl fun s3 B3 w3 b3 f3 n3 => ?_
  have ho := ho.frame0 f3
  refine cond_of (fun hc => ?_) (fun hc => ?_)
  · have he : (openV place l).2.2 ≠ 0 := by simpa using hc
    refine zeroSup ?_
    refine retSup ho 0 rfl rfl rfl fun w4 f4 => ?_
    exact bad (by rw [readSV, if_pos he]) f4
  have he : ¬ (openV place l).2.2 ≠ 0 := by simpa using hc
  refine join_mid (fun b w' => b = decide ((openV place l).1 ≠ 1 ∨ (openV place l).2.1.length ≠ 116) ∧ w' = w3) ?_ ?_
  · refine cond_of (fun hc => ?_) (fun hc => ?_)
    · have h1 : (openV place l).1 ≠ 1 := by simpa using hc
      exact ⟨by simp [h1], rfl⟩
    · have h1 : (openV place l).1 = 1 := by simpa using hc
      have hbl : s3.len = (openV place l).2.1.length := b3.len
      refine ⟨?_, rfl⟩
      dsimp only
      rw [hbl]
      by_cases hx : (openV place l).2.1.length = 116
      · rw [hx]; simp [h1]
      · have : ¬ (((openV place l).2.1.length : Int) = 116) := by omega
        simp [h1, hx, this]
  rintro b w4 ⟨rfl, rfl⟩
  refine cond_of (fun hc => ?_) (fun hc => ?_)
  · refine zeroSup ?_
    refine retSup ho 0 rfl rfl rfl fun w5 f5 => ?_
    exact bad (by rw [readSV, if_neg he, if_pos (of_decide_eq_true hc)]) f5
  have hk2 := of_decide_eq_false hc
  have hb116 : (openV place l).2.1.length = 116 := by
    rcases Nat.decEq (openV place l).2.1.length 116 with h | h
    · exact absurd (Or.inr h) hk2
    · exact h
  have hr3 := b3.rds (S := []) encB_len (by simp)
  refine SParse_ok hr3 hb116 fun w5 f5 => ?_
  have ho := ho.frame0 f5
  refine Own.newZ ho supZ fun r6 w6 e6 ho => ?_
  refine putSup ho 0 rfl rfl (parseT_len _) fun w7 ho => ?_
  refine Own.ld (c := .int .u64) ho 0 rfl (parseQ (openV place l).2.1) rfl ?_
  refine cond_of (fun hc => ?_) (fun hc => ?_)
  · have hq : Int.tmod (parseQ (openV place l).2.1) 2 ≠ place := by simpa using hc
    refine zeroSup ?_
    refine retSup ho 1 rfl rfl rfl fun w8 f8 => ?_
    exact bad (by rw [readSV, if_neg he, if_neg hk2, if_pos hq]) f8
  · have hq : ¬ Int.tmod (parseQ (openV place l).2.1) 2 ≠ place := by simpa using hc
    refine ldSup (ho.at (i := 0) rfl) (parseT_len _) ?_
    refine retSup ho 1 rfl rfl (parseT_len _) fun w8 f8 => ?_
    have := hk w8 f8
    rw [readSV, if_neg he, if_neg hk2, if_neg hq] at this
    exact this

theorem SNewest_ok {S : List Nat} {w : World} {sa sb : Sl} {a b : List Int} {K : List Value × Int → World → Prop} (ha : RdB S w sa a) (hb : RdB S w sb b) (hv : Hv w) (hBa : IsB a) (hBb : IsB b) (hla : a.length ≤ 100000) (hlb : b.length ≤ 100000)
    (hk : ∀ w', Fr [] w w' → K (supV (newestV a b).1.1 (newestV a b).1.2, (newestV a b).2) w') :
    call Tryz.prog 104 [.slice sa.a sa.len sa.cap, .slice sb.a sb.len sb.cap] [.raw, .one (.int .i64)] w K := by
  refine super_Newest_of (a := sa) (b := sb) ?_
  unfold super_NewestF
  refine Own.newZ (Own.start [] w) supZ fun r1 w1 e1 ho => ?_
  refine SRead_ok (ha.frame0 ho.fr) (hv.frame0 ho.fr) hBa hla (.inl rfl) fun w2 f2 => ?_
  have ho := ho.frame0 f2
  refine Own.newZ ho supZ fun r3 w3 e3 ho => ?_
  refine putSup ho 0 rfl rfl (readSV_len _ _) fun w4 ho => ?_
  refine SRead_ok (hb.frame0 ho.fr) (hv.frame0 ho.fr) hBb hlb (.inr rfl) fun w5 f5 => ?_
  have ho := ho.frame0 f5
  refine Own.newZ ho supZ fun r6 w6 e6 ho => ?_
  refine putSup ho 0 rfl rfl (readSV_len _ _) fun w7 ho => ?_
  refine join_mid (fun c w' => c = decide ((readSV 0 a).2 ≠ 0 ∧ (readSV 1 b).2 ≠ 0) ∧ w' = w7) ?_ ?_
  · refine cond_of (fun hc => ?_) (fun hc => ?_)
    · have h1 : (readSV 0 a).2 ≠ 0 := by simpa using hc
      refine ⟨?_, rfl⟩
      by_cases h2 : (readSV 1 b).2 = 0 <;> simp [h1, h2]
    · have h1 : (readSV 0 a).2 = 0 := by simpa using hc
      exact ⟨by simp [h1], rfl⟩
  rintro c w8 ⟨rfl, rfl⟩
  refine cond_of (fun hc => ?_) (fun hc => ?_)
  · refine zeroSup ?_
    refine retSup ho 2 rfl rfl rfl fun w9 f9 => ?_
    have := hk w9 f9
    rw [newestV, if_pos (of_decide_eq_true hc)] at this
    exact this
  have hn := of_decide_eq_false hc
  refine join_mid (fun c w' => c = decide ((readSV 0 a).2 ≠ 0 ∨ ((readSV 1 b).2 = 0 ∧ (readSV 1 b).1.1 > (readSV 0 a).1.1)) ∧ w' = w8) ?_ ?_
  · refine cond_of (fun hc => ?_) (fun hc => ?_)
    · have h1 : (readSV 0 a).2 ≠ 0 := by simpa using hc
      exact ⟨by simp [h1], rfl⟩
    · have h1 : (readSV 0 a).2 = 0 := by simpa using hc
      refine cond_of (fun hc => ?_) (fun hc => ?_)
      · have h2 : (readSV 1 b).2 = 0 := by simpa using hc
        refine Own.ld (c := .int .u64) ho 0 rfl (readSV 1 b).1.1 rfl ?_
        refine Own.ld (c := .int .u64) ho 1 rfl (readSV 0 a).1.1 rfl ?_
        refine ⟨?_, rfl⟩
        by_cases h3 : (readSV 1 b).1.1 > (readSV 0 a).1.1 <;> simp [h1, h2, h3]
      · have h2 : (readSV 1 b).2 ≠ 0 := by simpa using hc
        exact ⟨by simp [h1, h2], rfl⟩
  rintro c w9 ⟨rfl, rfl⟩
  refine cond_of (fun hc => ?_) (fun hc => ?_)
  · refine ldSup (ho.at (i := 0) rfl) (readSV_len _ _) ?_
    refine retSup ho 2 rfl rfl (readSV_len _ _) fun w10 f10 => ?_
    have := hk w10 f10
    rw [newestV, if_neg hn, if_pos (of_decide_eq_true hc)] at this
    exact this
  · refine ldSup (ho.at (i := 1) rfl) (readSV_len _ _) ?_
    refine retSup ho 2 rfl rfl (readSV_len _ _) fun w10 f10 => ?_
    have := hk w10 f10
    rw [newestV, if_neg hn, if_neg (of_decide_eq_false hc)] at this
    exact this

end Go.Proofs.YtmbcedengdoamaaGreatDoor
end

section
/- The readable forms of functions of the program, each shown to be what the evaluator gives: printed by a program of this claim (wip/tools). No condition. -/
set_option linter.unusedVariables false
set_option maxRecDepth 100000
namespace Go.Proofs.YtmbcedengdoamaaGreatDoor
open Go Go.Pt
@[reducible] def gcs1 : List Cell := [Cell.int IntKind.u32, Cell.int IntKind.u32, Cell.int IntKind.u32]

/-- slices.AppendSeq   uint32,uint32  -/
def slices_AppendSeqF (s : Sl) (seq : Value) (K : Sl → World → Prop) (w : World) : Prop :=
  new (Obj.cells #[Value.slice s.a s.len s.cap] 27) w <|
  fun (r_1 : Nat) (w_2 : World) =>
  rng Tryz.prog seq [Ty1.one (Cell.int IntKind.u32)] (fun (x_3 : Int) (X_4 : World → (World → Prop) → Prop) (X_5 : World → Prop) (X_6 : Nat → World → Prop) (w_7 : World) =>
    X_4 w_7 <|
    fun (w_8 : World) =>
    ld Cell.slice ({ block := r_1, off := 0 }) w_8 <|
    fun (s_9 : Sl) =>
    new (Obj.cells #[Value.int IntKind.u32 x_3] 29) w_8 <|
    fun (r_10 : Nat) (w_11 : World) =>
    run [Ty1.one Cell.slice] ((Builtin.append_ (#[27, 27]) 27 (#[Value.slice s_9.a s_9.len s_9.cap, Value.slice (some { block := r_10, off := 0 }) 1 1])).run Tryz.prog w_11) <|
    fun (s_12 : Sl) (w_13 : World) =>
    st ({ block := r_1, off := 0 }) ([Value.slice s_12.a s_12.len s_12.cap]) w_13 <|
    fun (w_14 : World) =>
    X_5 w_14)
  (fun (r_15 : Nat) (w_16 : World) =>
    ld Cell.slice ({ block := r_1, off := 0 }) w_16 <|
    fun (s_17 : Sl) =>
    undefer r_15 w_16 <|
    fun (w_18 : World) =>
    K s_17 w_18)
  [] w_2
def slices_AppendSeqA : List Ann := [.n, .n, .n, .r [.one (.int .u32)], .n]
theorem slices_AppendSeq_of {s : Sl} {seq : Value} {w : World} {K : Sl → World → Prop} (hF : slices_AppendSeqF s seq K w) : call Tryz.prog 139 [.slice s.a s.len s.cap, seq] [.one .slice] w K :=
  calls_of_fnPtS (an := slices_AppendSeqA) (ts := [.one .slice]) (args := [.slice s.a s.len s.cap, seq]) Tryz.func139 (by kernel_rfl) ((show fnPtS (std Tryz.prog) Tryz.prog Tryz.f139 slices_AppendSeqA [.one .slice] [.slice s.a s.len s.cap, seq] K w = slices_AppendSeqF s seq K w by kernel_rfl).mpr hF)

/-- slices.Collect uint32  -/
def slices_CollectF (seq : Value) (K : Sl → World → Prop) (w : World) : Prop :=
  call Tryz.prog 139 ([Value.slice none 0 0, seq]) ([Ty1.one Cell.slice]) w <|
  fun (s_1 : Sl) (w_2 : World) =>
  K s_1 w_2
def slices_CollectA : List Ann := [.n, .n]
theorem slices_Collect_of {seq : Value} {w : World} {K : Sl → World → Prop} (hF : slices_CollectF seq K w) : call Tryz.prog 116 [seq] [.one .slice] w K :=
  calls_of_fnPt (an := slices_CollectA) (ts := [.one .slice]) (args := [seq]) Tryz.func116 (by kernel_rfl) ((show fnPt (std Tryz.prog) Tryz.prog Tryz.f116 slices_CollectA [.one .slice] [seq] K w = slices_CollectF seq K w by kernel_rfl).mpr hF)

/-- slices.Sorted uint32  -/
def slices_SortedF (seq : Value) (K : Sl → World → Prop) (w : World) : Prop :=
  call Tryz.prog 116 [seq] ([Ty1.one Cell.slice]) w <|
  fun (s_1 : Sl) (w_2 : World) =>
  call Tryz.prog 91 ([Value.slice s_1.a s_1.len s_1.cap]) [] w_2 <|
  fun (x_3 : PUnit) (w_4 : World) =>
  K s_1 w_4
def slices_SortedA : List Ann := [.n, .n, .n, .n]
theorem slices_Sorted_of {seq : Value} {w : World} {K : Sl → World → Prop} (hF : slices_SortedF seq K w) : call Tryz.prog 83 [seq] [.one .slice] w K :=
  calls_of_fnPt (an := slices_SortedA) (ts := [.one .slice]) (args := [seq]) Tryz.func83 (by kernel_rfl) ((show fnPt (std Tryz.prog) Tryz.prog Tryz.f83 slices_SortedA [.one .slice] [seq] K w = slices_SortedF seq K w by kernel_rfl).mpr hF)

/-- slices.Contains   uint32,uint32  -/
def slices_ContainsF (s : Sl) (v : Int) (K : Bool → World → Prop) (w : World) : Prop :=
  call Tryz.prog 128 ([Value.slice s.a s.len s.cap, Value.int IntKind.u32 v]) ([Ty1.one (Cell.int IntKind.i64)]) w <|
  fun (x_1 : Int) (w_2 : World) =>
  K (decide (x_1 ≥ 0)) w_2
def slices_ContainsA : List Ann := [.n, .n]
theorem slices_Contains_of {s : Sl} {v : Int} {w : World} {K : Bool → World → Prop} (hF : slices_ContainsF s v K w) : call Tryz.prog 95 [.slice s.a s.len s.cap, .int .u32 v] [.one .bool] w K :=
  calls_of_fnPt (an := slices_ContainsA) (ts := [.one .bool]) (args := [.slice s.a s.len s.cap, .int .u32 v]) Tryz.func95 (by kernel_rfl) ((show fnPt (std Tryz.prog) Tryz.prog Tryz.f95 slices_ContainsA [.one .bool] [.slice s.a s.len s.cap, .int .u32 v] K w = slices_ContainsF s v K w by kernel_rfl).mpr hF)

/-- slices.Index   uint32,uint32  -/
def slices_IndexF (s : Sl) (v : Int) (K : Int → World → Prop) (w : World) : Prop :=
  loop (Int) (fun (X_1 : Int → World → Prop) (x_2 : Int) (w_3 : World) =>
    cond (decide (x_2 < (↑s.len : Int)))
      (idx s x_2 1 <|
      fun (a_4 : Addr) =>
      ld (Cell.int IntKind.u32) a_4 w_3 <|
      fun (x_5 : Int) =>
      cond (v == x_5)
        (K x_2 w_3)
        (X_1 (IntKind.wrap IntKind.i64 (x_2 + 1)) w_3))
      (K (-1) w_3)) 0 w
def slices_IndexA : List Ann := [.n, .n, .n, .l [(8, .one (.int .i64))], .n, .n, .n, .n, .n, .n, .n]
theorem slices_Index_of {s : Sl} {v : Int} {w : World} {K : Int → World → Prop} (hF : slices_IndexF s v K w) : call Tryz.prog 128 [.slice s.a s.len s.cap, .int .u32 v] [.one (.int .i64)] w K :=
  calls_of_fnPt (an := slices_IndexA) (ts := [.one (.int .i64)]) (args := [.slice s.a s.len s.cap, .int .u32 v]) Tryz.func128 (by kernel_rfl) ((show fnPt (std Tryz.prog) Tryz.prog Tryz.f128 slices_IndexA [.one (.int .i64)] [.slice s.a s.len s.cap, .int .u32 v] K w = slices_IndexF s v K w by kernel_rfl).mpr hF)

/-- maps.Keys map uint32 cashbook.pager.leaf,uint32,cashbook.pager.leaf  -/
def maps_KeysF (m : Option Nat) (K : Value → World → Prop) (w : World) : Prop :=
  new (Obj.cells #[Value.map m] 96) w <|
  fun (r_1 : Nat) (w_2 : World) =>
  K (Value.func (Fn.func 117) #[] #[Value.pointer (some { block := r_1, off := 0 })]) w_2
def maps_KeysA : List Ann := [.n, .n]
theorem maps_Keys_of {m : Option Nat} {w : World} {K : Value → World → Prop} (hF : maps_KeysF m K w) : call Tryz.prog 84 [.map m] [.one .any] w K :=
  calls_of_fnPt (an := maps_KeysA) (ts := [.one .any]) (args := [.map m]) Tryz.func84 (by kernel_rfl) ((show fnPt (std Tryz.prog) Tryz.prog Tryz.f84 maps_KeysA [.one .any] [.map m] K w = maps_KeysF m K w by kernel_rfl).mpr hF)

/-- maps.Keys map uint32 cashbook.pager.leaf,uint32,cashbook.pager.leaf $1 -/
def maps_Keys_c1F (yield : Value) (cap0 : Addr) (K : Unit → World → Prop) (w : World) : Prop :=
  ld Cell.map cap0 w <|
  fun (p_1 : Option Nat) =>
  run [Ty1.one Cell.any] ((Instr.range 96 (Value.map p_1)).run Tryz.prog w) <|
  fun (v_2 : Value) (w_3 : World) =>
  loop (PUnit) (fun (X_4 : PUnit → World → Prop) (x_5 : PUnit) (w_6 : World) =>
    nxt ((Instr.next v_2 false 0).run Tryz.prog w_6)
      (fun (w_7 : World) =>
        K () w_7)
      (fun (v_8 : Value) (v_9 : Value) (w_10 : World) =>
        ent ((Instr.entry v_2).run Tryz.prog w_10) <|
        fun (v_11 : Value) (v_12 : Value) (w_13 : World) =>
        callV Tryz.prog yield [v_11] ([Ty1.one Cell.bool]) w_13 <|
        fun (b_14 : Bool) (w_15 : World) =>
        cond (!b_14)
          (K () w_15)
          (X_4 () w_15))) () w_3
def maps_Keys_c1A : List Ann := [.n, .l [], .n, .n, .n, .n]
theorem maps_Keys_c1_of {yield : Value} {cap0 : Addr} {w : World} {K : Unit → World → Prop} (hF : maps_Keys_c1F yield cap0 K w) : call Tryz.prog 117 [yield, .pointer (some cap0)] [] w K :=
  calls_of_fnPt (an := maps_Keys_c1A) (ts := []) (args := [yield, .pointer (some cap0)]) Tryz.func117 (by kernel_rfl) ((show fnPt (std Tryz.prog) Tryz.prog Tryz.f117 maps_Keys_c1A [] [yield, .pointer (some cap0)] K w = maps_Keys_c1F yield cap0 K w by kernel_rfl).mpr hF)

/-- maps.Clone map uint32 cashbook.pager.leaf,uint32,cashbook.pager.leaf  -/
def maps_CloneF (m : Option Nat) (K : ((Option Nat)) → World → Prop) (w : World) : Prop :=
  cond (Option.isNone m)
    (K none w)
    (ext Tryz.prog 160 ([Value.iface 96 (Value.map m)]) ([Ty1.one Cell.any]) w <|
    fun (v_1 : Value) (w_2 : World) =>
    runQ [Ty1.one Cell.map] (fun (w_3 : Go.World) => (Instr.typeAssert v_1 20 96 false).run Tryz.prog w_3) w_2 <|
    fun (p_4 : Option Nat) =>
    K p_4 w_2)
def maps_CloneA : List Ann := [.n, .n, .n, .n, .n]
theorem maps_Clone_of {m : Option Nat} {w : World} {K : ((Option Nat)) → World → Prop} (hF : maps_CloneF m K w) : call Tryz.prog 137 [.map m] [.one .map] w K :=
  calls_of_fnPt (an := maps_CloneA) (ts := [.one .map]) (args := [.map m]) Tryz.func137 (by kernel_rfl) ((show fnPt (std Tryz.prog) Tryz.prog Tryz.f137 maps_CloneA [.one .map] [.map m] K w = maps_CloneF m K w by kernel_rfl).mpr hF)

/-- cashbook.pager.Format -/
def pager_FormatF (d : Option Addr) (K : Int → World → Prop) (w : World) : Prop :=
  loop (Int) (fun (X_1 : Int → World → Prop) (x_2 : Int) (w_3 : World) =>
    cond (decide (x_2 < 2))
      (mkS 5 ([Value.int IntKind.u8 0]) 1 1 512 512 w_3 <|
      fun (s_4 : Sl) (w_5 : World) =>
      call Tryz.prog 28 ([Value.pointer d, Value.int IntKind.i64 x_2, Value.slice s_4.a s_4.len s_4.cap]) ([Ty1.one (Cell.int IntKind.i64)]) w_5 <|
      fun (x_6 : Int) (w_7 : World) =>
      cond (!x_6 == 0)
        (K x_6 w_7)
        (X_1 (IntKind.wrap IntKind.i64 (x_2 + 1)) w_7))
      (call Tryz.prog 87 ([Value.pointer d]) ([Ty1.one (Cell.int IntKind.i64)]) w_3 <|
      fun (x_8 : Int) (w_9 : World) =>
      cond (!x_8 == 0)
        (K x_8 w_9)
        (loop (Sl × Int) (fun (X_10 : Sl × Int → World → Prop) (t_11 : Sl × Int) (w_12 : World) =>
          call Tryz.prog 63 ([Value.pointer d]) ([Ty1.one (Cell.int IntKind.i64)]) w_12 <|
          fun (x_13 : Int) (w_14 : World) =>
          cond (decide (t_11.snd < x_13))
            (new (Obj.cells #[Value.int IntKind.u32 (IntKind.wrap IntKind.u32 t_11.snd)] 29) w_14 <|
            fun (r_15 : Nat) (w_16 : World) =>
            run [Ty1.one Cell.slice] ((Builtin.append_ (#[27, 27]) 27 (#[Value.slice t_11.fst.a t_11.fst.len t_11.fst.cap, Value.slice (some { block := r_15, off := 0 }) 1 1])).run Tryz.prog w_16) <|
            fun (s_17 : Sl) (w_18 : World) =>
            X_10 ((s_17, IntKind.wrap IntKind.i64 (t_11.snd + 1))) w_18)
            (call Tryz.prog 88 ([Value.int IntKind.i64 (↑t_11.fst.len : Int)]) ([Ty1.one (Cell.int IntKind.i64)]) w_14 <|
            fun (x_19 : Int) (w_20 : World) =>
            slc t_11.fst (some x_19) none none 1 <|
            fun (s_21 : Sl) =>
            slc t_11.fst none (some x_19) none 1 <|
            fun (s_22 : Sl) =>
            call Tryz.prog 89 ([Value.pointer d, Value.slice s_21.a s_21.len s_21.cap, Value.slice s_22.a s_22.len s_22.cap]) ([Ty1.one (Cell.int IntKind.i64)]) (World.drew w_20) <|
            fun (x_23 : Int) (w_24 : World) =>
            cond (!x_23 == 0)
              (K x_23 w_24)
              (call Tryz.prog 63 ([Value.pointer d]) ([Ty1.one (Cell.int IntKind.i64)]) w_24 <|
              fun (x_25 : Int) (w_26 : World) =>
              runQ [Ty1.raw] (fun (w_27 : Go.World) => (Instr.build 58 (#[(0, Value.int IntKind.u64 1), (1, Value.int IntKind.u32 (IntKind.wrap IntKind.u32 x_25)), (2, Value.int IntKind.u32 2), (3, Value.int IntKind.u32 (IntKind.wrap IntKind.u32 (IntKind.wrap IntKind.i64 ((↑t_11.fst.len : Int) - x_19))))])).run Tryz.prog w_27) w_26 <|
              fun (vs_28 : List Value) =>
              call Tryz.prog 90 ([Value.pointer d, Value.agg (List.toArray vs_28)]) ([Ty1.one (Cell.int IntKind.i64)]) w_26 <|
              fun (x_29 : Int) (w_30 : World) =>
              K x_29 w_30))) (({ a := none, len := 0, cap := 0 }, 2)) w_9))) 0 w
def pager_FormatA : List Ann := [.n, .n, .n, .l [(10, .one (.int .i64))], .n, .n, .n, .n, .n, .n, .n, .n, .n, .n, .n, .n, .n, .n, .l [(6, .one .slice), (7, .one (.int .i64))], .n, .n, .n, .n, .n, .n, .o [[0, 1, 2, 3, 4, 5, 6, 7, 8]], .n, .n, .n]
theorem pager_Format_of {d : Option Addr} {w : World} {K : Int → World → Prop} (hF : pager_FormatF d K w) : call Tryz.prog 39 [.pointer d] [.one (.int .i64)] w K :=
  calls_of_fnPt (an := pager_FormatA) (ts := [.one (.int .i64)]) (args := [.pointer d]) Tryz.func39 (by kernel_rfl) ((show fnPt (std Tryz.prog) Tryz.prog Tryz.f39 pager_FormatA [.one (.int .i64)] [.pointer d] K w = pager_FormatF d K w by kernel_rfl).mpr hF)

/-- cashbook.pager.newest -/
def pager_newestF (d : Option Addr) (K : ((List Value) × Int) → World → Prop) (w : World) : Prop :=
  newZ Tryz.prog 58 w <|
  fun (r_1 : Nat) (w_2 : World) =>
  call Tryz.prog 19 ([Value.pointer d, Value.int IntKind.i64 0]) ([Ty1.one Cell.slice, Ty1.one (Cell.int IntKind.i64)]) w_2 <|
  fun (t_3 : Sl × Int) (w_4 : World) =>
  cond (!t_3.snd == 0)
    (runQ [Ty1.raw] (fun (w_5 : Go.World) => (Instr.build 58 #[]).run Tryz.prog w_5) w_4 <|
    fun (vs_6 : List Value) =>
    chk (List.length vs_6 = 28) <|
    st ({ block := r_1, off := 0 }) vs_6 w_4 <|
    fun (w_7 : World) =>
    ldV 28 ({ block := r_1, off := 0 }) w_7 <|
    fun (vs_8 : List Value) =>
    K ((vs_8, t_3.snd)) w_7)
    (call Tryz.prog 19 ([Value.pointer d, Value.int IntKind.i64 1]) ([Ty1.one Cell.slice, Ty1.one (Cell.int IntKind.i64)]) w_4 <|
    fun (t_9 : Sl × Int) (w_10 : World) =>
    cond (!t_9.snd == 0)
      (runQ [Ty1.raw] (fun (w_11 : Go.World) => (Instr.build 58 #[]).run Tryz.prog w_11) w_10 <|
      fun (vs_12 : List Value) =>
      chk (List.length vs_12 = 28) <|
      st ({ block := r_1, off := 0 }) vs_12 w_10 <|
      fun (w_13 : World) =>
      ldV 28 ({ block := r_1, off := 0 }) w_13 <|
      fun (vs_14 : List Value) =>
      K ((vs_14, t_9.snd)) w_13)
      (call Tryz.prog 104 ([Value.slice t_3.fst.a t_3.fst.len t_3.fst.cap, Value.slice t_9.fst.a t_9.fst.len t_9.fst.cap]) ([Ty1.raw, Ty1.one (Cell.int IntKind.i64)]) w_10 <|
      fun (t_15 : List Value × Int) (w_16 : World) =>
      chk (List.length t_15.fst = 28) <|
      st ({ block := r_1, off := 0 }) t_15.fst w_16 <|
      fun (w_17 : World) =>
      ldV 28 ({ block := r_1, off := 0 }) w_17 <|
      fun (vs_18 : List Value) =>
      K ((vs_18, t_15.snd)) w_17))
def pager_newestA : List Ann := [.n, .n, .n, .n, .n, .n, .n, .n, .n, .n]
theorem pager_newest_of {d : Option Addr} {w : World} {K : ((List Value) × Int) → World → Prop} (hF : pager_newestF d K w) : call Tryz.prog 62 [.pointer d] [.raw, .one (.int .i64)] w K :=
  calls_of_fnPt (an := pager_newestA) (ts := [.raw, .one (.int .i64)]) (args := [.pointer d]) Tryz.func62 (by kernel_rfl) ((show fnPt (std Tryz.prog) Tryz.prog Tryz.f62 pager_newestA [.raw, .one (.int .i64)] [.pointer d] K w = pager_newestF d K w by kernel_rfl).mpr hF)

/-- cashbook.pager.Open -/
def pager_OpenF (d : Option Addr) (K : ((Option Addr) × Int) → World → Prop) (w : World) : Prop :=
  call Tryz.prog 62 ([Value.pointer d]) ([Ty1.raw, Ty1.one (Cell.int IntKind.i64)]) w <|
  fun (t_1 : List Value × Int) (w_2 : World) =>
  newZ Tryz.prog 58 w_2 <|
  fun (r_3 : Nat) (w_4 : World) =>
  chk (List.length t_1.fst = 28) <|
  st ({ block := r_3, off := 0 }) t_1.fst w_4 <|
  fun (w_5 : World) =>
  cond (!t_1.snd == 0)
    (K ((none, t_1.snd)) w_5)
    (ldV 28 ({ block := r_3, off := 0 }) w_5 <|
    fun (vs_6 : List Value) =>
    runQ [Ty1.raw] (fun (w_7 : Go.World) => (Instr.build 100 (#[(0, Value.pointer d), (1, Value.agg (List.toArray vs_6))])).run Tryz.prog w_7) w_5 <|
    fun (vs_8 : List Value) =>
    new (Obj.cells (List.toArray vs_8) 100) w_5 <|
    fun (r_9 : Nat) (w_10 : World) =>
    join (Bool) (fun (X_11 : Bool → World → Prop) =>
      ld (Cell.int IntKind.u32) ({ block := r_3, off := 1 }) (World.drew w_10) <|
      fun (x_12 : Int) =>
      call Tryz.prog 63 ([Value.pointer d]) ([Ty1.one (Cell.int IntKind.i64)]) (World.drew w_10) <|
      fun (x_13 : Int) (w_14 : World) =>
      held [fun (w_15 : Go.World) => World.cell? w_15 ({ block := r_3, off := 1 }) = some (Value.int IntKind.u32 x_12)] w_14 <|
      cond (!x_12 == IntKind.wrap IntKind.u32 x_13)
        (X_11 true w_14)
        (call Tryz.prog 64 ([Value.pointer (some { block := r_9, off := 0 })]) ([Ty1.one Cell.bool]) w_14 <|
        fun (b_16 : Bool) (w_17 : World) =>
        X_11 (!b_16) w_17)) <|
    fun (b_18 : Bool) (w_19 : World) =>
    cond b_18
      (K ((none, 2)) w_19)
      (call Tryz.prog 58 ([Value.pointer (some { block := r_9, off := 0 })]) [] w_19 <|
      fun (x_20 : PUnit) (w_21 : World) =>
      K ((some { block := r_9, off := 0 }, 0)) w_21))
def pager_OpenA : List Ann := [.n, .n, .n, .n, .n, .n, .n, .j [(29, .one .bool)], .o [[0, 1, 2, 3, 4, 5, 6, 7, 8, 9, 10]], .n, .n, .n]
theorem pager_Open_of {d : Option Addr} {w : World} {K : ((Option Addr) × Int) → World → Prop} (hF : pager_OpenF d K w) : call Tryz.prog 24 [.pointer d] [.one .ptr, .one (.int .i64)] w K :=
  calls_of_fnPt (an := pager_OpenA) (ts := [.one .ptr, .one (.int .i64)]) (args := [.pointer d]) Tryz.func24 (by kernel_rfl) ((show fnPt (std Tryz.prog) Tryz.prog Tryz.f24 pager_OpenA [.one .ptr, .one (.int .i64)] [.pointer d] K w = pager_OpenF d K w by kernel_rfl).mpr hF)

/-- cashbook.pager.Pager.load -/
def pager_Pager_loadF (p : Option Addr) (K : Bool → World → Prop) (w : World) : Prop :=
  new (Obj.map #[] 0) w <|
  fun (r_1 : Nat) (w_2 : World) =>
  nn p <|
  fun (a_3 : Addr) =>
  ld (Cell.int IntKind.u32) ({ block := (Addr.add a_3 1).block, off := (Addr.add a_3 1).off + 2 }) w_2 <|
  fun (x_4 : Int) =>
  loop (Int) (fun (X_5 : Int → World → Prop) (x_6 : Int) (w_7 : World) =>
    cond (!x_6 == 0)
      (join (Bool) (fun (X_8 : Bool → World → Prop) =>
        cond (decide (x_6 < 2))
          (X_8 true w_7)
          (nn p <|
          fun (a_9 : Addr) =>
          ld (Cell.int IntKind.u32) ({ block := (Addr.add a_9 1).block, off := (Addr.add a_9 1).off + 1 }) w_7 <|
          fun (x_10 : Int) =>
          cond (decide (x_6 ≥ x_10))
            (X_8 true w_7)
            (runQ [Ty1.one (Cell.int IntKind.i64)] (fun (w_11 : Go.World) => (Instr.lookup 170 (Value.map (some r_1)) (Value.int IntKind.u32 x_6) false).run Tryz.prog w_11) w_7 <|
            fun (x_12 : Int) =>
            X_8 (decide (x_12 > 0)) w_7))) <|
      fun (b_13 : Bool) (w_14 : World) =>
      cond b_13
        (K false w_14)
        (runU ((Instr.mapUpdate 170 (Value.map (some r_1)) (Value.int IntKind.u32 x_6) (Value.int IntKind.i64 1)).run Tryz.prog w_14) <|
        fun (w_15 : World) =>
        nn p <|
        fun (a_16 : Addr) =>
        ld Cell.ptr a_16 w_15 <|
        fun (p_17 : Option Addr) =>
        call Tryz.prog 19 ([Value.pointer p_17, Value.int IntKind.i64 (IntKind.wrap IntKind.i64 x_6)]) ([Ty1.one Cell.slice, Ty1.one (Cell.int IntKind.i64)]) w_15 <|
        fun (t_18 : Sl × Int) (w_19 : World) =>
        cond (!t_18.snd == 0)
          (K false w_19)
          (call Tryz.prog 85 ([Value.int IntKind.u32 x_6, Value.slice t_18.fst.a t_18.fst.len t_18.fst.cap]) ([Ty1.one (Cell.int IntKind.u8), Ty1.one Cell.slice, Ty1.one (Cell.int IntKind.i64)]) w_19 <|
          fun (t_20 : Int × Sl × Int) (w_21 : World) =>
          join (Bool) (fun (X_22 : Bool → World → Prop) =>
            cond (!t_20.snd.snd == 0)
              (X_22 true w_21)
              (X_22 (!t_20.fst == 2) w_21)) <|
          fun (b_23 : Bool) (w_24 : World) =>
          cond b_23
            (K false w_24)
            (call Tryz.prog 105 ([Value.slice t_20.snd.fst.a t_20.snd.fst.len t_20.snd.fst.cap]) ([Ty1.one (Cell.int IntKind.u32), Ty1.one Cell.slice, Ty1.one (Cell.int IntKind.i64)]) w_24 <|
            fun (t_25 : Int × Sl × Int) (w_26 : World) =>
            cond (!t_25.snd.snd == 0)
              (K false w_26)
              (nn p <|
              fun (a_27 : Addr) =>
              ld Cell.slice ({ block := a_27.block, off := a_27.off + 29 }) (World.drew w_26) <|
              fun (s_28 : Sl) =>
              nn p <|
              fun (a_29 : Addr) =>
              ld Cell.slice ({ block := a_29.block, off := a_29.off + 30 }) (World.drew w_26) <|
              fun (s_30 : Sl) =>
              new (Obj.cells #[Value.int IntKind.u32 x_6] 29) (World.drew w_26) <|
              fun (r_31 : Nat) (w_32 : World) =>
              held [fun (w_33 : Go.World) => World.cell? w_33 ({ block := a_29.block, off := a_29.off + 30 }) = some (Value.slice s_30.a s_30.len s_30.cap), fun (w_34 : Go.World) => World.cell? w_34 ({ block := a_27.block, off := a_27.off + 29 }) = some (Value.slice s_28.a s_28.len s_28.cap)] w_32 <|
              run [Ty1.one Cell.slice] ((Builtin.append_ (#[27, 27]) 27 (#[Value.slice s_28.a s_28.len s_28.cap, Value.slice (some { block := r_31, off := 0 }) 1 1])).run Tryz.prog w_32) <|
              fun (s_35 : Sl) (w_36 : World) =>
              held [fun (w_37 : Go.World) => World.cell? w_37 ({ block := a_29.block, off := a_29.off + 30 }) = some (Value.slice s_30.a s_30.len s_30.cap)] w_36 <|
              run [Ty1.one Cell.slice] ((Builtin.append_ (#[27, 27]) 27 (#[Value.slice s_30.a s_30.len s_30.cap, Value.slice t_25.snd.fst.a t_25.snd.fst.len t_25.snd.fst.cap])).run Tryz.prog w_36) <|
              fun (s_38 : Sl) (w_39 : World) =>
              nn p <|
              fun (a_40 : Addr) =>
              st ({ block := a_40.block, off := a_40.off + 29 }) ([Value.slice s_35.a s_35.len s_35.cap]) w_39 <|
              fun (w_41 : World) =>
              nn p <|
              fun (a_42 : Addr) =>
              st ({ block := a_42.block, off := a_42.off + 30 }) ([Value.slice s_38.a s_38.len s_38.cap]) w_41 <|
              fun (w_43 : World) =>
              X_5 t_25.fst w_43)))))
      (nn p <|
      fun (a_44 : Addr) =>
      ld Cell.slice ({ block := a_44.block, off := a_44.off + 30 }) w_7 <|
      fun (s_45 : Sl) =>
      loop (Int × Int) (fun (X_46 : Int × Int → World → Prop) (t_47 : Int × Int) (w_48 : World) =>
        cond (decide (t_47.snd < (↑s_45.len : Int)))
          (idx s_45 t_47.snd 1 <|
          fun (a_49 : Addr) =>
          ld (Cell.int IntKind.u32) a_49 w_48 <|
          fun (x_50 : Int) =>
          join (Bool) (fun (X_51 : Bool → World → Prop) =>
            cond (decide (x_50 ≤ t_47.fst))
              (X_51 true w_48)
              (nn p <|
              fun (a_52 : Addr) =>
              ld (Cell.int IntKind.u32) ({ block := (Addr.add a_52 1).block, off := (Addr.add a_52 1).off + 1 }) w_48 <|
              fun (x_53 : Int) =>
              cond (decide (x_50 ≥ x_53))
                (X_51 true w_48)
                (runQ [Ty1.one (Cell.int IntKind.i64)] (fun (w_54 : Go.World) => (Instr.lookup 170 (Value.map (some r_1)) (Value.int IntKind.u32 x_50) false).run Tryz.prog w_54) w_48 <|
                fun (x_55 : Int) =>
                X_51 (decide (x_55 > 0)) w_48))) <|
          fun (b_56 : Bool) (w_57 : World) =>
          cond b_56
            (K false w_57)
            (X_46 ((x_50, IntKind.wrap IntKind.i64 (t_47.snd + 1))) w_57))
          (nn p <|
          fun (a_58 : Addr) =>
          ld Cell.slice ({ block := a_58.block, off := a_58.off + 30 }) (World.drew w_48) <|
          fun (s_59 : Sl) =>
          nn p <|
          fun (a_60 : Addr) =>
          ld (Cell.int IntKind.u32) ({ block := (Addr.add a_60 1).block, off := (Addr.add a_60 1).off + 3 }) (World.drew w_48) <|
          fun (x_61 : Int) =>
          K ((↑s_59.len : Int) == IntKind.wrap IntKind.i64 x_61) (World.drew w_48))) ((0, 0)) w_7)) x_4 w_2
def pager_Pager_loadA : List Ann := [.n, .n, .n, .n, .l [(4, .one (.int .u32))], .n, .n, .n, .j [(38, .one .bool)], .n, .n, .n, .n, .n, .n, .n, .n, .j [(65, .one .bool)], .n, .n, .n, .n, .n, .n, .o [[0, 1, 2, 3, 4, 5, 6, 9, 10, 11, 12, 13, 7, 8, 14, 15, 16, 17, 18, 19, 20]], .n, .n, .n, .l [(11, .one (.int .u32)), (99, .one (.int .i64))], .n, .n, .n, .n, .n, .j [(120, .one .bool)], .n, .n, .o [[0, 1, 2, 3, 4, 5, 6, 7, 8, 9, 10, 11, 12]]]
theorem pager_Pager_load_of {p : Option Addr} {w : World} {K : Bool → World → Prop} (hF : pager_Pager_loadF p K w) : call Tryz.prog 64 [.pointer p] [.one .bool] w K :=
  calls_of_fnPt (an := pager_Pager_loadA) (ts := [.one .bool]) (args := [.pointer p]) Tryz.func64 (by kernel_rfl) ((show fnPt (std Tryz.prog) Tryz.prog Tryz.f64 pager_Pager_loadA [.one .bool] [.pointer p] K w = pager_Pager_loadF p K w by kernel_rfl).mpr hF)

/-- cashbook.pager.Pager.begin -/
def pager_Pager_beginF (p : Option Addr) (K : Unit → World → Prop) (w : World) : Prop :=
  nn p <|
  fun (a_1 : Addr) =>
  ld (Cell.int IntKind.i64) ({ block := a_1.block, off := a_1.off + 31 }) w <|
  fun (x_2 : Int) =>
  nn p <|
  fun (a_3 : Addr) =>
  st ({ block := a_3.block, off := a_3.off + 31 }) ([Value.int IntKind.i64 (IntKind.wrap IntKind.i64 (x_2 + 1))]) w <|
  fun (w_4 : World) =>
  (nn p <|
  fun (a_5 : Addr) =>
  ldV 24 ({ block := (Addr.add a_5 1).block, off := (Addr.add a_5 1).off + 4 }) (World.drew w_4) <|
  fun (vs_6 : List Value) =>
  call Tryz.prog 100 [] ([Ty1.one Cell.ptr]) (World.drew w_4) <|
  fun (p_7 : Option Addr) (w_8 : World) =>
  held [fun (w_9 : Go.World) => Go.Pt.cellsAt w_9 ({ block := (Addr.add a_5 1).block, off := (Addr.add a_5 1).off + 4 }) 0 vs_6] w_8 <|
  call Tryz.prog 100 [] ([Ty1.one Cell.ptr]) w_8 <|
  fun (p_10 : Option Addr) (w_11 : World) =>
  held [fun (w_12 : Go.World) => Go.Pt.cellsAt w_12 ({ block := (Addr.add a_5 1).block, off := (Addr.add a_5 1).off + 4 }) 0 vs_6] w_11 <|
  new (Obj.map #[] 0) w_11 <|
  fun (r_13 : Nat) (w_14 : World) =>
  held [fun (w_15 : Go.World) => Go.Pt.cellsAt w_15 ({ block := (Addr.add a_5 1).block, off := (Addr.add a_5 1).off + 4 }) 0 vs_6] w_14 <|
  runQ [Ty1.raw] (fun (w_16 : Go.World) => (Instr.build 98 (#[(0, Value.pointer p_7), (1, Value.pointer p_10), (2, Value.map (some r_13)), (3, Value.agg (List.toArray vs_6))])).run Tryz.prog w_16) w_14 <|
  fun (vs_17 : List Value) =>
  nn p <|
  fun (a_18 : Addr) =>
  chk (List.length vs_17 = 27) <|
  st ({ block := a_18.block, off := a_18.off + 33 }) vs_17 w_14 <|
  fun (w_19 : World) =>
  nn p <|
  fun (a_20 : Addr) =>
  ld Cell.slice ({ block := a_20.block, off := a_20.off + 30 }) w_19 <|
  fun (s_21 : Sl) =>
  loop (Int) (fun (X_22 : Int → World → Prop) (x_23 : Int) (w_24 : World) =>
    cond (decide (x_23 < (↑s_21.len : Int)))
      (idx s_21 x_23 1 <|
      fun (a_25 : Addr) =>
      ld (Cell.int IntKind.u32) a_25 w_24 <|
      fun (x_26 : Int) =>
      nn p <|
      fun (a_27 : Addr) =>
      ld Cell.ptr ({ block := a_27.block, off := a_27.off + 33 }) w_24 <|
      fun (p_28 : Option Addr) =>
      call Tryz.prog 44 ([Value.pointer p_28, Value.int IntKind.u32 x_26]) ([Ty1.one Cell.bool]) w_24 <|
      fun (b_29 : Bool) (w_30 : World) =>
      X_22 (IntKind.wrap IntKind.i64 (x_23 + 1)) w_30)
      (K () w_24)) 0 w_19) ∧
  ((nn p <|
  fun (a_31 : Addr) =>
  ldV 24 ({ block := (Addr.add a_31 1).block, off := (Addr.add a_31 1).off + 4 }) (World.drew w_4) <|
  fun (vs_32 : List Value) =>
  call Tryz.prog 100 [] ([Ty1.one Cell.ptr]) (World.drew w_4) <|
  fun (p_33 : Option Addr) (w_34 : World) =>
  held [fun (w_35 : Go.World) => Go.Pt.cellsAt w_35 ({ block := (Addr.add a_31 1).block, off := (Addr.add a_31 1).off + 4 }) 0 vs_32] w_34 <|
  new (Obj.map #[] 0) w_34 <|
  fun (r_36 : Nat) (w_37 : World) =>
  held [fun (w_38 : Go.World) => Go.Pt.cellsAt w_38 ({ block := (Addr.add a_31 1).block, off := (Addr.add a_31 1).off + 4 }) 0 vs_32] w_37 <|
  call Tryz.prog 100 [] ([Ty1.one Cell.ptr]) w_37 <|
  fun (p_39 : Option Addr) (w_40 : World) =>
  held [fun (w_41 : Go.World) => Go.Pt.cellsAt w_41 ({ block := (Addr.add a_31 1).block, off := (Addr.add a_31 1).off + 4 }) 0 vs_32] w_40 <|
  runQ [Ty1.raw] (fun (w_42 : Go.World) => (Instr.build 98 (#[(0, Value.pointer p_33), (1, Value.pointer p_39), (2, Value.map (some r_36)), (3, Value.agg (List.toArray vs_32))])).run Tryz.prog w_42) w_40 <|
  fun (vs_43 : List Value) =>
  nn p <|
  fun (a_44 : Addr) =>
  chk (List.length vs_43 = 27) <|
  st ({ block := a_44.block, off := a_44.off + 33 }) vs_43 w_40 <|
  fun (w_45 : World) =>
  nn p <|
  fun (a_46 : Addr) =>
  ld Cell.slice ({ block := a_46.block, off := a_46.off + 30 }) w_45 <|
  fun (s_47 : Sl) =>
  loop (Int) (fun (X_48 : Int → World → Prop) (x_49 : Int) (w_50 : World) =>
    cond (decide (x_49 < (↑s_47.len : Int)))
      (idx s_47 x_49 1 <|
      fun (a_51 : Addr) =>
      ld (Cell.int IntKind.u32) a_51 w_50 <|
      fun (x_52 : Int) =>
      nn p <|
      fun (a_53 : Addr) =>
      ld Cell.ptr ({ block := a_53.block, off := a_53.off + 33 }) w_50 <|
      fun (p_54 : Option Addr) =>
      call Tryz.prog 44 ([Value.pointer p_54, Value.int IntKind.u32 x_52]) ([Ty1.one Cell.bool]) w_50 <|
      fun (b_55 : Bool) (w_56 : World) =>
      X_48 (IntKind.wrap IntKind.i64 (x_49 + 1)) w_56)
      (K () w_50)) 0 w_45) ∧
  (nn p <|
  fun (a_57 : Addr) =>
  ldV 24 ({ block := (Addr.add a_57 1).block, off := (Addr.add a_57 1).off + 4 }) (World.drew w_4) <|
  fun (vs_58 : List Value) =>
  new (Obj.map #[] 0) (World.drew w_4) <|
  fun (r_59 : Nat) (w_60 : World) =>
  held [fun (w_61 : Go.World) => Go.Pt.cellsAt w_61 ({ block := (Addr.add a_57 1).block, off := (Addr.add a_57 1).off + 4 }) 0 vs_58] w_60 <|
  call Tryz.prog 100 [] ([Ty1.one Cell.ptr]) w_60 <|
  fun (p_62 : Option Addr) (w_63 : World) =>
  held [fun (w_64 : Go.World) => Go.Pt.cellsAt w_64 ({ block := (Addr.add a_57 1).block, off := (Addr.add a_57 1).off + 4 }) 0 vs_58] w_63 <|
  call Tryz.prog 100 [] ([Ty1.one Cell.ptr]) w_63 <|
  fun (p_65 : Option Addr) (w_66 : World) =>
  held [fun (w_67 : Go.World) => Go.Pt.cellsAt w_67 ({ block := (Addr.add a_57 1).block, off := (Addr.add a_57 1).off + 4 }) 0 vs_58] w_66 <|
  runQ [Ty1.raw] (fun (w_68 : Go.World) => (Instr.build 98 (#[(0, Value.pointer p_62), (1, Value.pointer p_65), (2, Value.map (some r_59)), (3, Value.agg (List.toArray vs_58))])).run Tryz.prog w_68) w_66 <|
  fun (vs_69 : List Value) =>
  nn p <|
  fun (a_70 : Addr) =>
  chk (List.length vs_69 = 27) <|
  st ({ block := a_70.block, off := a_70.off + 33 }) vs_69 w_66 <|
  fun (w_71 : World) =>
  nn p <|
  fun (a_72 : Addr) =>
  ld Cell.slice ({ block := a_72.block, off := a_72.off + 30 }) w_71 <|
  fun (s_73 : Sl) =>
  loop (Int) (fun (X_74 : Int → World → Prop) (x_75 : Int) (w_76 : World) =>
    cond (decide (x_75 < (↑s_73.len : Int)))
      (idx s_73 x_75 1 <|
      fun (a_77 : Addr) =>
      ld (Cell.int IntKind.u32) a_77 w_76 <|
      fun (x_78 : Int) =>
      nn p <|
      fun (a_79 : Addr) =>
      ld Cell.ptr ({ block := a_79.block, off := a_79.off + 33 }) w_76 <|
      fun (p_80 : Option Addr) =>
      call Tryz.prog 44 ([Value.pointer p_80, Value.int IntKind.u32 x_78]) ([Ty1.one Cell.bool]) w_76 <|
      fun (b_81 : Bool) (w_82 : World) =>
      X_74 (IntKind.wrap IntKind.i64 (x_75 + 1)) w_82)
      (K () w_76)) 0 w_71))
def pager_Pager_beginA : List Ann := [.n, .n, .o [[0, 4, 5, 6, 7, 8, 1, 2, 3, 9, 10, 11, 12], [0, 4, 5, 6, 7, 8, 1, 3, 2, 9, 10, 11, 12], [0, 4, 5, 6, 7, 8, 3, 1, 2, 9, 10, 11, 12]], .n, .l [(28, .one (.int .i64))], .n, .n, .n, .n]
theorem pager_Pager_begin_of {p : Option Addr} {w : World} {K : Unit → World → Prop} (hF : pager_Pager_beginF p K w) : call Tryz.prog 58 [.pointer p] [] w K :=
  calls_of_fnPt (an := pager_Pager_beginA) (ts := []) (args := [.pointer p]) Tryz.func58 (by kernel_rfl) ((show fnPt (std Tryz.prog) Tryz.prog Tryz.f58 pager_Pager_beginA [] [.pointer p] K w = pager_Pager_beginF p K w by kernel_rfl).mpr hF)

/-- cashbook.pager.Pager.Seq -/
def pager_Pager_SeqF (p : Option Addr) (K : Int → World → Prop) (w : World) : Prop :=
  nn p <|
  fun (a_1 : Addr) =>
  ld (Cell.int IntKind.u64) ({ block := a_1.block, off := a_1.off + 1 }) w <|
  fun (x_2 : Int) =>
  K x_2 w
def pager_Pager_SeqA : List Ann := [.n, .n]
theorem pager_Pager_Seq_of {p : Option Addr} {w : World} {K : Int → World → Prop} (hF : pager_Pager_SeqF p K w) : call Tryz.prog 25 [.pointer p] [.one (.int .u64)] w K :=
  calls_of_fnPt (an := pager_Pager_SeqA) (ts := [.one (.int .u64)]) (args := [.pointer p]) Tryz.func25 (by kernel_rfl) ((show fnPt (std Tryz.prog) Tryz.prog Tryz.f25 pager_Pager_SeqA [.one (.int .u64)] [.pointer p] K w = pager_Pager_SeqF p K w by kernel_rfl).mpr hF)

/-- cashbook.pager.Pager.Blocks -/
def pager_Pager_BlocksF (p : Option Addr) (K : Int → World → Prop) (w : World) : Prop :=
  nn p <|
  fun (a_1 : Addr) =>
  ld (Cell.int IntKind.u32) ({ block := (Addr.add a_1 1).block, off := (Addr.add a_1 1).off + 1 }) w <|
  fun (x_2 : Int) =>
  K (IntKind.wrap IntKind.i64 x_2) w
def pager_Pager_BlocksA : List Ann := [.n, .n]
theorem pager_Pager_Blocks_of {p : Option Addr} {w : World} {K : Int → World → Prop} (hF : pager_Pager_BlocksF p K w) : call Tryz.prog 86 [.pointer p] [.one (.int .i64)] w K :=
  calls_of_fnPt (an := pager_Pager_BlocksA) (ts := [.one (.int .i64)]) (args := [.pointer p]) Tryz.func86 (by kernel_rfl) ((show fnPt (std Tryz.prog) Tryz.prog Tryz.f86 pager_Pager_BlocksA [.one (.int .i64)] [.pointer p] K w = pager_Pager_BlocksF p K w by kernel_rfl).mpr hF)

/-- cashbook.pager.Pager.Root -/
def pager_Pager_RootF (p : Option Addr) (t : Int) (K : ((Int × Int × Int)) → World → Prop) (w : World) : Prop :=
  new (Obj.cells #[Value.int IntKind.u32 0, Value.int IntKind.u32 0, Value.int IntKind.u32 0] 42) w <|
  fun (r_1 : Nat) (w_2 : World) =>
  join (Bool) (fun (X_3 : Bool → World → Prop) =>
    cond (decide (t < 0))
      (X_3 true w_2)
      (X_3 (decide (t ≥ 8)) w_2)) <|
  fun (b_4 : Bool) (w_5 : World) =>
  cond b_4
    (st ({ block := r_1, off := 0 }) ([Value.int IntKind.u32 0, Value.int IntKind.u32 0, Value.int IntKind.u32 0]) w_5 <|
    fun (w_6 : World) =>
    ldA (gcs1) ({ block := r_1, off := 0 }) w_6 <|
    fun (t_7 : Int × Int × Int) =>
    K t_7 w_6)
    (nn p <|
    fun (a_8 : Addr) =>
    chk (0 ≤ t ∧ t < (↑8 : Int)) <|
    ldA (gcs1) (Addr.add { block := (Addr.add a_8 33).block, off := (Addr.add a_8 33).off + 3 } (Int.toNat t * 3)) w_5 <|
    fun (t_9 : Int × Int × Int) =>
    st ({ block := r_1, off := 0 }) (HL.mk gcs1 t_9) w_5 <|
    fun (w_10 : World) =>
    ldA (gcs1) ({ block := r_1, off := 0 }) w_10 <|
    fun (t_11 : Int × Int × Int) =>
    K t_11 w_10)
def pager_Pager_RootA : List Ann := [.n, .n, .j [(10, .one .bool)], .n, .n]
theorem pager_Pager_Root_of {p : Option Addr} {t : Int} {w : World} {K : ((Int × Int × Int)) → World → Prop} (hF : pager_Pager_RootF p t K w) : call Tryz.prog 46 [.pointer p, .int .i64 t] [.agg [.int .u32, .int .u32, .int .u32]] w K :=
  calls_of_fnPt (an := pager_Pager_RootA) (ts := [.agg [.int .u32, .int .u32, .int .u32]]) (args := [.pointer p, .int .i64 t]) Tryz.func46 (by kernel_rfl) ((show fnPt (std Tryz.prog) Tryz.prog Tryz.f46 pager_Pager_RootA [.agg [.int .u32, .int .u32, .int .u32]] [.pointer p, .int .i64 t] K w = pager_Pager_RootF p t K w by kernel_rfl).mpr hF)

/-- cashbook.pager.Pager.SetRoot -/
def pager_Pager_SetRootF (p : Option Addr) (t : Int) (r0 : Int) (r1 : Int) (r2 : Int) (K : Int → World → Prop) (w : World) : Prop :=
  new (Obj.cells #[Value.int IntKind.u32 r0, Value.int IntKind.u32 r1, Value.int IntKind.u32 r2] 42) w <|
  fun (r_1 : Nat) (w_2 : World) =>
  nn p <|
  fun (a_3 : Addr) =>
  ld Cell.bool ({ block := a_3.block, off := a_3.off + 32 }) w_2 <|
  fun (b_4 : Bool) =>
  cond b_4
    (K 7 w_2)
    (join (Bool) (fun (X_5 : Bool → World → Prop) =>
      cond (decide (t < 0))
        (X_5 true w_2)
        (X_5 (decide (t ≥ 8)) w_2)) <|
    fun (b_6 : Bool) (w_7 : World) =>
    cond b_6
      (K 4 w_7)
      (ldA (gcs1) ({ block := r_1, off := 0 }) (World.drew w_7) <|
      fun (t_8 : Int × Int × Int) =>
      nn p <|
      fun (a_9 : Addr) =>
      chk (0 ≤ t ∧ t < (↑8 : Int)) <|
      st (Addr.add { block := (Addr.add a_9 33).block, off := (Addr.add a_9 33).off + 3 } (Int.toNat t * 3)) (HL.mk gcs1 t_8) (World.drew w_7) <|
      fun (w_10 : World) =>
      K 0 w_10))
def pager_Pager_SetRootA : List Ann := [.n, .n, .n, .n, .j [(12, .one .bool)], .n, .n, .o [[0, 1, 2, 3, 4, 5, 6, 7]], .n]
theorem pager_Pager_SetRoot_of {p : Option Addr} {t : Int} {r0 : Int} {r1 : Int} {r2 : Int} {w : World} {K : Int → World → Prop} (hF : pager_Pager_SetRootF p t r0 r1 r2 K w) : call Tryz.prog 53 [.pointer p, .int .i64 t, .agg #[.int .u32 r0, .int .u32 r1, .int .u32 r2]] [.one (.int .i64)] w K :=
  calls_of_fnPt (an := pager_Pager_SetRootA) (ts := [.one (.int .i64)]) (args := [.pointer p, .int .i64 t, .agg #[.int .u32 r0, .int .u32 r1, .int .u32 r2]]) Tryz.func53 (by kernel_rfl) ((show fnPt (std Tryz.prog) Tryz.prog Tryz.f53 pager_Pager_SetRootA [.one (.int .i64)] [.pointer p, .int .i64 t, .agg #[.int .u32 r0, .int .u32 r1, .int .u32 r2]] K w = pager_Pager_SetRootF p t r0 r1 r2 K w by kernel_rfl).mpr hF)

/-- cashbook.pager.Pager.used -/
def pager_Pager_usedF (p : Option Addr) (n : Int) (K : Bool → World → Prop) (w : World) : Prop :=
  join (Bool) (fun (X_1 : Bool → World → Prop) =>
    cond (decide (n < 2))
      (X_1 true w)
      (nn p <|
      fun (a_2 : Addr) =>
      ld (Cell.int IntKind.u32) ({ block := (Addr.add a_2 1).block, off := (Addr.add a_2 1).off + 1 }) w <|
      fun (x_3 : Int) =>
      cond (decide (n ≥ x_3))
        (X_1 true w)
        (nn p <|
        fun (a_4 : Addr) =>
        ld Cell.slice ({ block := a_4.block, off := a_4.off + 29 }) w <|
        fun (s_5 : Sl) =>
        call Tryz.prog 95 ([Value.slice s_5.a s_5.len s_5.cap, Value.int IntKind.u32 n]) ([Ty1.one Cell.bool]) w <|
        fun (b_6 : Bool) (w_7 : World) =>
        cond b_6
          (X_1 true w_7)
          (nn p <|
          fun (a_8 : Addr) =>
          ld Cell.ptr ({ block := a_8.block, off := a_8.off + 33 }) w_7 <|
          fun (p_9 : Option Addr) =>
          call Tryz.prog 93 ([Value.pointer p_9, Value.int IntKind.u32 n]) ([Ty1.one Cell.bool]) w_7 <|
          fun (b_10 : Bool) (w_11 : World) =>
          cond b_10
            (X_1 true w_11)
            (nn p <|
            fun (a_12 : Addr) =>
            ld Cell.ptr ({ block := (Addr.add a_12 33).block, off := (Addr.add a_12 33).off + 1 }) w_11 <|
            fun (p_13 : Option Addr) =>
            call Tryz.prog 93 ([Value.pointer p_13, Value.int IntKind.u32 n]) ([Ty1.one Cell.bool]) w_11 <|
            fun (b_14 : Bool) (w_15 : World) =>
            X_1 b_14 w_15))))) <|
  fun (b_16 : Bool) (w_17 : World) =>
  cond b_16
    (K false w_17)
    (nn p <|
    fun (a_18 : Addr) =>
    ld Cell.map ({ block := (Addr.add a_18 33).block, off := (Addr.add a_18 33).off + 2 }) w_17 <|
    fun (p_19 : Option Nat) =>
    runQ [Ty1.agg [Cell.int IntKind.u8, Cell.slice], Ty1.one Cell.bool] (fun (w_20 : Go.World) => (Instr.lookup 96 (Value.map p_19) (Value.int IntKind.u32 n) true).run Tryz.prog w_20) w_17 <|
    fun (t_21 : (Int × Sl) × Bool) =>
    new (Obj.cells #[Value.int IntKind.u8 0, Value.slice none 0 0] 105) w_17 <|
    fun (r_22 : Nat) (w_23 : World) =>
    st ({ block := r_22, off := 0 }) ([Value.int IntKind.u8 t_21.fst.fst, Value.slice t_21.fst.snd.a t_21.fst.snd.len t_21.fst.snd.cap]) w_23 <|
    fun (w_24 : World) =>
    K (!t_21.snd) w_24)
def pager_Pager_usedA : List Ann := [.n, .n, .j [(43, .one .bool)], .n, .n, .n]
theorem pager_Pager_used_of {p : Option Addr} {n : Int} {w : World} {K : Bool → World → Prop} (hF : pager_Pager_usedF p n K w) : call Tryz.prog 45 [.pointer p, .int .u32 n] [.one .bool] w K :=
  calls_of_fnPt (an := pager_Pager_usedA) (ts := [.one .bool]) (args := [.pointer p, .int .u32 n]) Tryz.func45 (by kernel_rfl) ((show fnPt (std Tryz.prog) Tryz.prog Tryz.f45 pager_Pager_usedA [.one .bool] [.pointer p, .int .u32 n] K w = pager_Pager_usedF p n K w by kernel_rfl).mpr hF)

/-- cashbook.pager.Pager.Read -/
def pager_Pager_ReadF (p : Option Addr) (n : Int) (K : (Int × Sl × Int) → World → Prop) (w : World) : Prop :=
  nn p <|
  fun (a_1 : Addr) =>
  ld Cell.bool ({ block := a_1.block, off := a_1.off + 32 }) w <|
  fun (b_2 : Bool) =>
  cond b_2
    (K ((0, { a := none, len := 0, cap := 0 }, 7)) w)
    (nn p <|
    fun (a_3 : Addr) =>
    ld Cell.map ({ block := (Addr.add a_3 33).block, off := (Addr.add a_3 33).off + 2 }) w <|
    fun (p_4 : Option Nat) =>
    runQ [Ty1.agg [Cell.int IntKind.u8, Cell.slice], Ty1.one Cell.bool] (fun (w_5 : Go.World) => (Instr.lookup 96 (Value.map p_4) (Value.int IntKind.u32 n) true).run Tryz.prog w_5) w <|
    fun (t_6 : (Int × Sl) × Bool) =>
    new (Obj.cells #[Value.int IntKind.u8 0, Value.slice none 0 0] 105) w <|
    fun (r_7 : Nat) (w_8 : World) =>
    st ({ block := r_7, off := 0 }) ([Value.int IntKind.u8 t_6.fst.fst, Value.slice t_6.fst.snd.a t_6.fst.snd.len t_6.fst.snd.cap]) w_8 <|
    fun (w_9 : World) =>
    cond t_6.snd
      (ld (Cell.int IntKind.u8) ({ block := r_7, off := 0 }) (World.drew w_9) <|
      fun (x_10 : Int) =>
      ld Cell.slice ({ block := r_7, off := 1 }) (World.drew w_9) <|
      fun (s_11 : Sl) =>
      call Tryz.prog 42 ([Value.slice s_11.a s_11.len s_11.cap]) ([Ty1.one Cell.slice]) (World.drew w_9) <|
      fun (s_12 : Sl) (w_13 : World) =>
      held [fun (w_14 : Go.World) => World.cell? w_14 ({ block := r_7, off := 0 }) = some (Value.int IntKind.u8 x_10)] w_13 <|
      K ((x_10, s_12, 0)) w_13)
      (call Tryz.prog 45 ([Value.pointer p, Value.int IntKind.u32 n]) ([Ty1.one Cell.bool]) w_9 <|
      fun (b_15 : Bool) (w_16 : World) =>
      cond (!b_15)
        (K ((0, { a := none, len := 0, cap := 0 }, 10)) w_16)
        (nn p <|
        fun (a_17 : Addr) =>
        ld Cell.ptr a_17 w_16 <|
        fun (p_18 : Option Addr) =>
        call Tryz.prog 19 ([Value.pointer p_18, Value.int IntKind.i64 (IntKind.wrap IntKind.i64 n)]) ([Ty1.one Cell.slice, Ty1.one (Cell.int IntKind.i64)]) w_16 <|
        fun (t_19 : Sl × Int) (w_20 : World) =>
        cond (!t_19.snd == 0)
          (K ((0, { a := none, len := 0, cap := 0 }, t_19.snd)) w_20)
          (call Tryz.prog 85 ([Value.int IntKind.u32 n, Value.slice t_19.fst.a t_19.fst.len t_19.fst.cap]) ([Ty1.one (Cell.int IntKind.u8), Ty1.one Cell.slice, Ty1.one (Cell.int IntKind.i64)]) w_20 <|
          fun (t_21 : Int × Sl × Int) (w_22 : World) =>
          K t_21 w_22))))
def pager_Pager_ReadA : List Ann := [.n, .n, .n, .n, .n, .n, .n, .n, .o [[0, 1, 2, 3, 4, 5, 6, 7]], .n, .n, .n, .n, .n, .n, .n, .n]
theorem pager_Pager_Read_of {p : Option Addr} {n : Int} {w : World} {K : (Int × Sl × Int) → World → Prop} (hF : pager_Pager_ReadF p n K w) : call Tryz.prog 35 [.pointer p, .int .u32 n] [.one (.int .u8), .one .slice, .one (.int .i64)] w K :=
  calls_of_fnPt (an := pager_Pager_ReadA) (ts := [.one (.int .u8), .one .slice, .one (.int .i64)]) (args := [.pointer p, .int .u32 n]) Tryz.func35 (by kernel_rfl) ((show fnPt (std Tryz.prog) Tryz.prog Tryz.f35 pager_Pager_ReadA [.one (.int .u8), .one .slice, .one (.int .i64)] [.pointer p, .int .u32 n] K w = pager_Pager_ReadF p n K w by kernel_rfl).mpr hF)

/-- cashbook.pager.Pager.Make -/
def pager_Pager_MakeF (p : Option Addr) (kind : Int) (body : Sl) (K : (Int × Int) → World → Prop) (w : World) : Prop :=
  nn p <|
  fun (a_1 : Addr) =>
  ld Cell.bool ({ block := a_1.block, off := a_1.off + 32 }) w <|
  fun (b_2 : Bool) =>
  cond b_2
    (K ((0, 7)) w)
    (cond (decide ((↑body.len : Int) > 500))
      (K ((0, 3)) w)
      (nn p <|
      fun (a_3 : Addr) =>
      ld Cell.ptr ({ block := a_3.block, off := a_3.off + 33 }) w <|
      fun (p_4 : Option Addr) =>
      call Tryz.prog 41 ([Value.pointer p_4]) ([Ty1.one (Cell.int IntKind.u32), Ty1.one Cell.bool]) w <|
      fun (t_5 : Int × Bool) (w_6 : World) =>
      cond (!t_5.snd)
        (K ((0, 6)) w_6)
        (nn p <|
        fun (a_7 : Addr) =>
        ld Cell.map ({ block := (Addr.add a_7 33).block, off := (Addr.add a_7 33).off + 2 }) (World.drew w_6) <|
        fun (p_8 : Option Nat) =>
        call Tryz.prog 42 ([Value.slice body.a body.len body.cap]) ([Ty1.one Cell.slice]) (World.drew w_6) <|
        fun (s_9 : Sl) (w_10 : World) =>
        held [fun (w_11 : Go.World) => World.cell? w_11 ({ block := (Addr.add a_7 33).block, off := (Addr.add a_7 33).off + 2 }) = some (Value.map p_8)] w_10 <|
        runU ((Instr.mapUpdate 96 (Value.map p_8) (Value.int IntKind.u32 t_5.fst) (Value.agg #[Value.int IntKind.u8 kind, Value.slice s_9.a s_9.len s_9.cap])).run Tryz.prog w_10) <|
        fun (w_12 : World) =>
        K ((t_5.fst, 0)) w_12)))
def pager_Pager_MakeA : List Ann := [.n, .n, .n, .n, .n, .n, .n, .n, .n, .n, .n, .o [[0, 1, 2, 3, 4, 5, 6, 7, 8, 9, 10]], .n]
theorem pager_Pager_Make_of {p : Option Addr} {kind : Int} {body : Sl} {w : World} {K : (Int × Int) → World → Prop} (hF : pager_Pager_MakeF p kind body K w) : call Tryz.prog 10 [.pointer p, .int .u8 kind, .slice body.a body.len body.cap] [.one (.int .u32), .one (.int .i64)] w K :=
  calls_of_fnPt (an := pager_Pager_MakeA) (ts := [.one (.int .u32), .one (.int .i64)]) (args := [.pointer p, .int .u8 kind, .slice body.a body.len body.cap]) Tryz.func10 (by kernel_rfl) ((show fnPt (std Tryz.prog) Tryz.prog Tryz.f10 pager_Pager_MakeA [.one (.int .u32), .one (.int .i64)] [.pointer p, .int .u8 kind, .slice body.a body.len body.cap] K w = pager_Pager_MakeF p kind body K w by kernel_rfl).mpr hF)

/-- cashbook.pager.Pager.Put -/
def pager_Pager_PutF (p : Option Addr) (n : Int) (kind : Int) (body : Sl) (K : Int → World → Prop) (w : World) : Prop :=
  nn p <|
  fun (a_1 : Addr) =>
  ld Cell.bool ({ block := a_1.block, off := a_1.off + 32 }) w <|
  fun (b_2 : Bool) =>
  cond b_2
    (K 7 w)
    (nn p <|
    fun (a_3 : Addr) =>
    ld Cell.map ({ block := (Addr.add a_3 33).block, off := (Addr.add a_3 33).off + 2 }) w <|
    fun (p_4 : Option Nat) =>
    runQ [Ty1.agg [Cell.int IntKind.u8, Cell.slice], Ty1.one Cell.bool] (fun (w_5 : Go.World) => (Instr.lookup 96 (Value.map p_4) (Value.int IntKind.u32 n) true).run Tryz.prog w_5) w <|
    fun (t_6 : (Int × Sl) × Bool) =>
    new (Obj.cells #[Value.int IntKind.u8 0, Value.slice none 0 0] 105) w <|
    fun (r_7 : Nat) (w_8 : World) =>
    st ({ block := r_7, off := 0 }) ([Value.int IntKind.u8 t_6.fst.fst, Value.slice t_6.fst.snd.a t_6.fst.snd.len t_6.fst.snd.cap]) w_8 <|
    fun (w_9 : World) =>
    cond (!t_6.snd)
      (K 10 w_9)
      (cond (decide ((↑body.len : Int) > 500))
        (K 3 w_9)
        (nn p <|
        fun (a_10 : Addr) =>
        ld Cell.map ({ block := (Addr.add a_10 33).block, off := (Addr.add a_10 33).off + 2 }) (World.drew w_9) <|
        fun (p_11 : Option Nat) =>
        call Tryz.prog 42 ([Value.slice body.a body.len body.cap]) ([Ty1.one Cell.slice]) (World.drew w_9) <|
        fun (s_12 : Sl) (w_13 : World) =>
        held [fun (w_14 : Go.World) => World.cell? w_14 ({ block := (Addr.add a_10 33).block, off := (Addr.add a_10 33).off + 2 }) = some (Value.map p_11)] w_13 <|
        runU ((Instr.mapUpdate 96 (Value.map p_11) (Value.int IntKind.u32 n) (Value.agg #[Value.int IntKind.u8 kind, Value.slice s_12.a s_12.len s_12.cap])).run Tryz.prog w_13) <|
        fun (w_15 : World) =>
        K 0 w_15)))
def pager_Pager_PutA : List Ann := [.n, .n, .n, .n, .n, .n, .n, .n, .n, .n, .n, .n, .o [[0, 1, 2, 3, 4, 5, 6, 7, 8, 9, 10]], .n]
theorem pager_Pager_Put_of {p : Option Addr} {n : Int} {kind : Int} {body : Sl} {w : World} {K : Int → World → Prop} (hF : pager_Pager_PutF p n kind body K w) : call Tryz.prog 49 [.pointer p, .int .u32 n, .int .u8 kind, .slice body.a body.len body.cap] [.one (.int .i64)] w K :=
  calls_of_fnPt (an := pager_Pager_PutA) (ts := [.one (.int .i64)]) (args := [.pointer p, .int .u32 n, .int .u8 kind, .slice body.a body.len body.cap]) Tryz.func49 (by kernel_rfl) ((show fnPt (std Tryz.prog) Tryz.prog Tryz.f49 pager_Pager_PutA [.one (.int .i64)] [.pointer p, .int .u32 n, .int .u8 kind, .slice body.a body.len body.cap] K w = pager_Pager_PutF p n kind body K w by kernel_rfl).mpr hF)

/-- cashbook.pager.Pager.Drop -/
def pager_Pager_DropF (p : Option Addr) (n : Int) (K : Int → World → Prop) (w : World) : Prop :=
  nn p <|
  fun (a_1 : Addr) =>
  ld Cell.bool ({ block := a_1.block, off := a_1.off + 32 }) w <|
  fun (b_2 : Bool) =>
  cond b_2
    (K 7 w)
    (nn p <|
    fun (a_3 : Addr) =>
    ld Cell.map ({ block := (Addr.add a_3 33).block, off := (Addr.add a_3 33).off + 2 }) w <|
    fun (p_4 : Option Nat) =>
    runQ [Ty1.agg [Cell.int IntKind.u8, Cell.slice], Ty1.one Cell.bool] (fun (w_5 : Go.World) => (Instr.lookup 96 (Value.map p_4) (Value.int IntKind.u32 n) true).run Tryz.prog w_5) w <|
    fun (t_6 : (Int × Sl) × Bool) =>
    new (Obj.cells #[Value.int IntKind.u8 0, Value.slice none 0 0] 105) w <|
    fun (r_7 : Nat) (w_8 : World) =>
    st ({ block := r_7, off := 0 }) ([Value.int IntKind.u8 t_6.fst.fst, Value.slice t_6.fst.snd.a t_6.fst.snd.len t_6.fst.snd.cap]) w_8 <|
    fun (w_9 : World) =>
    cond t_6.snd
      (nn p <|
      fun (a_10 : Addr) =>
      ld Cell.map ({ block := (Addr.add a_10 33).block, off := (Addr.add a_10 33).off + 2 }) w_9 <|
      fun (p_11 : Option Nat) =>
      run [] ((Builtin.delete_ (#[96, 29]) 0 (#[Value.map p_11, Value.int IntKind.u32 n])).run Tryz.prog w_9) <|
      fun (x_12 : PUnit) (w_13 : World) =>
      nn p <|
      fun (a_14 : Addr) =>
      ld Cell.ptr ({ block := a_14.block, off := a_14.off + 33 }) w_13 <|
      fun (p_15 : Option Addr) =>
      call Tryz.prog 44 ([Value.pointer p_15, Value.int IntKind.u32 n]) ([Ty1.one Cell.bool]) w_13 <|
      fun (b_16 : Bool) (w_17 : World) =>
      K 0 w_17)
      (call Tryz.prog 45 ([Value.pointer p, Value.int IntKind.u32 n]) ([Ty1.one Cell.bool]) w_9 <|
      fun (b_18 : Bool) (w_19 : World) =>
      cond (!b_18)
        (K 10 w_19)
        (nn p <|
        fun (a_20 : Addr) =>
        ld Cell.ptr ({ block := (Addr.add a_20 33).block, off := (Addr.add a_20 33).off + 1 }) w_19 <|
        fun (p_21 : Option Addr) =>
        call Tryz.prog 44 ([Value.pointer p_21, Value.int IntKind.u32 n]) ([Ty1.one Cell.bool]) w_19 <|
        fun (b_22 : Bool) (w_23 : World) =>
        K 0 w_23)))
def pager_Pager_DropA : List Ann := [.n, .n, .n, .n, .n, .n, .n, .n, .n, .n, .n, .n, .n, .n, .n]
theorem pager_Pager_Drop_of {p : Option Addr} {n : Int} {w : World} {K : Int → World → Prop} (hF : pager_Pager_DropF p n K w) : call Tryz.prog 13 [.pointer p, .int .u32 n] [.one (.int .i64)] w K :=
  calls_of_fnPt (an := pager_Pager_DropA) (ts := [.one (.int .i64)]) (args := [.pointer p, .int .u32 n]) Tryz.func13 (by kernel_rfl) ((show fnPt (std Tryz.prog) Tryz.prog Tryz.f13 pager_Pager_DropA [.one (.int .i64)] [.pointer p, .int .u32 n] K w = pager_Pager_DropF p n K w by kernel_rfl).mpr hF)

/-- cashbook.pager.Pager.plan -/
def pager_Pager_planF (p : Option Addr) (K : (Sl × Sl × Bool) → World → Prop) (w : World) : Prop :=
  nn p <|
  fun (a_1 : Addr) =>
  ld Cell.ptr ({ block := a_1.block, off := a_1.off + 33 }) w <|
  fun (p_2 : Option Addr) =>
  call Tryz.prog 40 ([Value.pointer p_2]) ([Ty1.one Cell.slice]) w <|
  fun (s_3 : Sl) (w_4 : World) =>
  nn p <|
  fun (a_5 : Addr) =>
  ld Cell.ptr ({ block := (Addr.add a_5 33).block, off := (Addr.add a_5 33).off + 1 }) (World.drew w_4) <|
  fun (p_6 : Option Addr) =>
  nn p <|
  fun (a_7 : Addr) =>
  ld Cell.slice ({ block := a_7.block, off := a_7.off + 29 }) (World.drew w_4) <|
  fun (s_8 : Sl) =>
  call Tryz.prog 40 ([Value.pointer p_6]) ([Ty1.one Cell.slice]) (World.drew w_4) <|
  fun (s_9 : Sl) (w_10 : World) =>
  held [fun (w_11 : Go.World) => World.cell? w_11 ({ block := a_7.block, off := a_7.off + 29 }) = some (Value.slice s_8.a s_8.len s_8.cap)] w_10 <|
  run [Ty1.one Cell.slice] ((Builtin.append_ (#[27, 27]) 27 (#[Value.slice s_9.a s_9.len s_9.cap, Value.slice s_8.a s_8.len s_8.cap])).run Tryz.prog w_10) <|
  fun (s_12 : Sl) (w_13 : World) =>
  call Tryz.prog 88 ([Value.int IntKind.i64 (IntKind.wrap IntKind.i64 ((↑s_3.len : Int) + (↑s_12.len : Int)))]) ([Ty1.one (Cell.int IntKind.i64)]) w_13 <|
  fun (x_14 : Int) (w_15 : World) =>
  cond (decide (x_14 > (↑s_3.len : Int)))
    (K (({ a := none, len := 0, cap := 0 }, { a := none, len := 0, cap := 0 }, false)) w_15)
    (slc s_3 (some x_14) none none 1 <|
    fun (s_16 : Sl) =>
    run [Ty1.one Cell.slice] ((Builtin.append_ (#[27, 27]) 27 (#[Value.slice s_12.a s_12.len s_12.cap, Value.slice s_16.a s_16.len s_16.cap])).run Tryz.prog w_15) <|
    fun (s_17 : Sl) (w_18 : World) =>
    call Tryz.prog 91 ([Value.slice s_17.a s_17.len s_17.cap]) [] w_18 <|
    fun (x_19 : PUnit) (w_20 : World) =>
    slc s_3 none (some x_14) (some x_14) 1 <|
    fun (s_21 : Sl) =>
    K ((s_21, s_17, true)) w_20)
def pager_Pager_planA : List Ann := [.n, .n, .n, .o [[0, 1, 2, 3, 4, 6, 7, 8, 9, 5, 10, 11]], .n, .n, .n, .n, .n, .n, .n]
theorem pager_Pager_plan_of {p : Option Addr} {w : World} {K : (Sl × Sl × Bool) → World → Prop} (hF : pager_Pager_planF p K w) : call Tryz.prog 56 [.pointer p] [.one .slice, .one .slice, .one .bool] w K :=
  calls_of_fnPt (an := pager_Pager_planA) (ts := [.one .slice, .one .slice, .one .bool]) (args := [.pointer p]) Tryz.func56 (by kernel_rfl) ((show fnPt (std Tryz.prog) Tryz.prog Tryz.f56 pager_Pager_planA [.one .slice, .one .slice, .one .bool] [.pointer p] K w = pager_Pager_planF p K w by kernel_rfl).mpr hF)

/-- cashbook.pager.Pager.Commit -/
def pager_Pager_CommitF (p : Option Addr) (K : Int → World → Prop) (w : World) : Prop :=
  nn p <|
  fun (a_1 : Addr) =>
  ld Cell.bool ({ block := a_1.block, off := a_1.off + 32 }) w <|
  fun (b_2 : Bool) =>
  cond b_2
    (K 7 w)
    (join (Bool) (fun (X_3 : Bool → World → Prop) =>
      nn p <|
      fun (a_4 : Addr) =>
      ld Cell.map ({ block := (Addr.add a_4 33).block, off := (Addr.add a_4 33).off + 2 }) (World.drew w) <|
      fun (p_5 : Option Nat) =>
      runQ [Ty1.one (Cell.int IntKind.i64)] (fun (w_6 : Go.World) => (Builtin.len_ #[96] 3 (#[Value.map p_5])).run Tryz.prog w_6) (World.drew w) <|
      fun (x_7 : Int) =>
      cond (x_7 == 0)
        (nn p <|
        fun (a_8 : Addr) =>
        ld Cell.ptr ({ block := (Addr.add a_8 33).block, off := (Addr.add a_8 33).off + 1 }) (World.drew w) <|
        fun (p_9 : Option Addr) =>
        call Tryz.prog 43 ([Value.pointer p_9]) ([Ty1.one (Cell.int IntKind.i64)]) (World.drew w) <|
        fun (x_10 : Int) (w_11 : World) =>
        cond (x_10 == 0)
          (nn p <|
          fun (a_12 : Addr) =>
          ldV 24 ({ block := (Addr.add a_12 33).block, off := (Addr.add a_12 33).off + 3 }) w_11 <|
          fun (vs_13 : List Value) =>
          nn p <|
          fun (a_14 : Addr) =>
          ldV 24 ({ block := (Addr.add a_14 1).block, off := (Addr.add a_14 1).off + 4 }) w_11 <|
          fun (vs_15 : List Value) =>
          runQ [Ty1.one Cell.bool] (fun (w_16 : Go.World) => (do eqGuard BinOp.eql 43 (Operand.tmp 33) (Operand.tmp 38) (Value.agg (List.toArray vs_13)) (Value.agg (List.toArray vs_15)); binOp BinOp.eql 43 (Value.agg (List.toArray vs_13)) (Value.agg (List.toArray vs_15))).run Tryz.prog w_16) w_11 <|
          fun (b_17 : Bool) =>
          X_3 b_17 w_11)
          (X_3 false w_11))
        (X_3 false (World.drew w))) <|
    fun (b_18 : Bool) (w_19 : World) =>
    cond b_18
      (K 0 w_19)
      (call Tryz.prog 56 ([Value.pointer p]) ([Ty1.one Cell.slice, Ty1.one Cell.slice, Ty1.one Cell.bool]) w_19 <|
      fun (t_20 : Sl × Sl × Bool) (w_21 : World) =>
      cond (!t_20.snd.snd)
        (K 6 w_21)
        (nn p <|
        fun (a_22 : Addr) =>
        ld (Cell.int IntKind.u64) ({ block := a_22.block, off := a_22.off + 1 }) (World.drew w_21) <|
        fun (x_23 : Int) =>
        nn p <|
        fun (a_24 : Addr) =>
        ld (Cell.int IntKind.u32) ({ block := (Addr.add a_24 1).block, off := (Addr.add a_24 1).off + 1 }) (World.drew w_21) <|
        fun (x_25 : Int) =>
        nn p <|
        fun (a_26 : Addr) =>
        ldV 24 ({ block := (Addr.add a_26 33).block, off := (Addr.add a_26 33).off + 3 }) (World.drew w_21) <|
        fun (vs_27 : List Value) =>
        runQ [Ty1.raw] (fun (w_28 : Go.World) => (Instr.build 58 (#[(0, Value.int IntKind.u64 (IntKind.wrap IntKind.u64 (x_23 + 1))), (1, Value.int IntKind.u32 x_25), (3, Value.int IntKind.u32 (IntKind.wrap IntKind.u32 (↑t_20.snd.fst.len : Int))), (4, Value.agg (List.toArray vs_27))])).run Tryz.prog w_28) (World.drew w_21) <|
        fun (vs_29 : List Value) =>
        newZ Tryz.prog 58 (World.drew w_21) <|
        fun (r_30 : Nat) (w_31 : World) =>
        held [fun (w_32 : Go.World) => Go.Pt.cellsAt w_32 ({ block := (Addr.add a_26 33).block, off := (Addr.add a_26 33).off + 3 }) 0 vs_27, fun (w_33 : Go.World) => World.cell? w_33 ({ block := (Addr.add a_24 1).block, off := (Addr.add a_24 1).off + 1 }) = some (Value.int IntKind.u32 x_25), fun (w_34 : Go.World) => World.cell? w_34 ({ block := a_22.block, off := a_22.off + 1 }) = some (Value.int IntKind.u64 x_23)] w_31 <|
        chk (List.length vs_29 = 28) <|
        st ({ block := r_30, off := 0 }) vs_29 w_31 <|
        fun (w_35 : World) =>
        join (PUnit) (fun (X_36 : PUnit → World → Prop) =>
          cond (decide ((↑t_20.fst.len : Int) > 0))
            (idx t_20.fst 0 1 <|
            fun (a_37 : Addr) =>
            ld (Cell.int IntKind.u32) a_37 w_35 <|
            fun (x_38 : Int) =>
            st ({ block := r_30, off := 2 }) ([Value.int IntKind.u32 x_38]) w_35 <|
            fun (w_39 : World) =>
            X_36 () w_39)
            (X_36 () w_35)) <|
        fun (x_40 : PUnit) (w_41 : World) =>
        ldV 28 ({ block := r_30, off := 0 }) w_41 <|
        fun (vs_42 : List Value) =>
        call Tryz.prog 57 ([Value.pointer p, Value.slice t_20.fst.a t_20.fst.len t_20.fst.cap, Value.slice t_20.snd.fst.a t_20.snd.fst.len t_20.snd.fst.cap, Value.agg (List.toArray vs_42)]) ([Ty1.one (Cell.int IntKind.i64)]) w_41 <|
        fun (x_43 : Int) (w_44 : World) =>
        cond (!x_43 == 0)
          (runQ [Ty1.raw] (fun (w_45 : Go.World) => (Instr.build 100 (#[(5, Value.bool true)])).run Tryz.prog w_45) w_44 <|
          fun (vs_46 : List Value) =>
          nn p <|
          fun (a_47 : Addr) =>
          chk (List.length vs_46 = 60) <|
          st a_47 vs_46 w_44 <|
          fun (w_48 : World) =>
          call Tryz.prog 58 ([Value.pointer p]) [] w_48 <|
          fun (x_49 : PUnit) (w_50 : World) =>
          K x_43 w_50)
          (ldV 28 ({ block := r_30, off := 0 }) w_44 <|
          fun (vs_51 : List Value) =>
          nn p <|
          fun (a_52 : Addr) =>
          chk (List.length vs_51 = 28) <|
          st ({ block := a_52.block, off := a_52.off + 1 }) vs_51 w_44 <|
          fun (w_53 : World) =>
          nn p <|
          fun (a_54 : Addr) =>
          st ({ block := a_54.block, off := a_54.off + 29 }) ([Value.slice t_20.fst.a t_20.fst.len t_20.fst.cap]) w_53 <|
          fun (w_55 : World) =>
          nn p <|
          fun (a_56 : Addr) =>
          st ({ block := a_56.block, off := a_56.off + 30 }) ([Value.slice t_20.snd.fst.a t_20.snd.fst.len t_20.snd.fst.cap]) w_55 <|
          fun (w_57 : World) =>
          call Tryz.prog 58 ([Value.pointer p]) [] w_57 <|
          fun (x_58 : PUnit) (w_59 : World) =>
          K 0 w_59))))
def pager_Pager_CommitA : List Ann := [.n, .n, .n, .n, .n, .j [(40, .one .bool)], .o [[0, 1, 2, 3, 4, 5, 6, 7, 8, 9, 10, 11, 12, 13, 14, 15, 16, 17, 18, 19, 20, 21, 22, 23, 24, 25, 26, 27, 28]], .n, .n, .n, .n, .n, .n, .o [[0, 1, 2, 3, 4, 5, 6, 7, 8, 9, 10, 11, 12, 13, 14, 15, 16, 17, 18, 19, 20, 21]], .j [], .n, .n, .n, .n, .n, .n, .n, .n, .n, .n]
theorem pager_Pager_Commit_of {p : Option Addr} {w : World} {K : Int → World → Prop} (hF : pager_Pager_CommitF p K w) : call Tryz.prog 20 [.pointer p] [.one (.int .i64)] w K :=
  calls_of_fnPt (an := pager_Pager_CommitA) (ts := [.one (.int .i64)]) (args := [.pointer p]) Tryz.func20 (by kernel_rfl) ((show fnPt (std Tryz.prog) Tryz.prog Tryz.f20 pager_Pager_CommitA [.one (.int .i64)] [.pointer p] K w = pager_Pager_CommitF p K w by kernel_rfl).mpr hF)

/-- cashbook.pager.Pager.flush -/
def pager_Pager_flushF (p : Option Addr) (pages : Sl) (named : Sl) (next : List Value) (K : Int → World → Prop) (w : World) : Prop :=
  new (Obj.cells (List.toArray next) 58) w <|
  fun (r_1 : Nat) (w_2 : World) =>
  call Tryz.prog 34 ([Value.pointer p]) ([Ty1.one Cell.slice]) w_2 <|
  fun (s_3 : Sl) (w_4 : World) =>
  loop (Int) (fun (X_5 : Int → World → Prop) (x_6 : Int) (w_7 : World) =>
    cond (decide (x_6 < (↑s_3.len : Int)))
      (idx s_3 x_6 1 <|
      fun (a_8 : Addr) =>
      ld (Cell.int IntKind.u32) a_8 w_7 <|
      fun (x_9 : Int) =>
      nn p <|
      fun (a_10 : Addr) =>
      ld Cell.map ({ block := (Addr.add a_10 33).block, off := (Addr.add a_10 33).off + 2 }) (World.drew w_7) <|
      fun (p_11 : Option Nat) =>
      runQ [Ty1.agg [Cell.int IntKind.u8, Cell.slice]] (fun (w_12 : Go.World) => (Instr.lookup 96 (Value.map p_11) (Value.int IntKind.u32 x_9) false).run Tryz.prog w_12) (World.drew w_7) <|
      fun (t_13 : Int × Sl) =>
      nn p <|
      fun (a_14 : Addr) =>
      ld Cell.map ({ block := (Addr.add a_14 33).block, off := (Addr.add a_14 33).off + 2 }) (World.drew w_7) <|
      fun (p_15 : Option Nat) =>
      runQ [Ty1.agg [Cell.int IntKind.u8, Cell.slice]] (fun (w_16 : Go.World) => (Instr.lookup 96 (Value.map p_15) (Value.int IntKind.u32 x_9) false).run Tryz.prog w_16) (World.drew w_7) <|
      fun (t_17 : Int × Sl) =>
      call Tryz.prog 99 ([Value.int IntKind.u32 x_9, Value.int IntKind.u8 t_13.fst, Value.slice t_17.snd.a t_17.snd.len t_17.snd.cap]) ([Ty1.one Cell.slice, Ty1.one (Cell.int IntKind.i64)]) (World.drew w_7) <|
      fun (t_18 : Sl × Int) (w_19 : World) =>
      nn p <|
      fun (a_20 : Addr) =>
      ld Cell.ptr a_20 w_19 <|
      fun (p_21 : Option Addr) =>
      call Tryz.prog 28 ([Value.pointer p_21, Value.int IntKind.i64 (IntKind.wrap IntKind.i64 x_9), Value.slice t_18.fst.a t_18.fst.len t_18.fst.cap]) ([Ty1.one (Cell.int IntKind.i64)]) w_19 <|
      fun (x_22 : Int) (w_23 : World) =>
      cond (!x_22 == 0)
        (K x_22 w_23)
        (X_5 (IntKind.wrap IntKind.i64 (x_6 + 1)) w_23))
      (nn p <|
      fun (a_24 : Addr) =>
      ld Cell.ptr a_24 w_7 <|
      fun (p_25 : Option Addr) =>
      call Tryz.prog 89 ([Value.pointer p_25, Value.slice named.a named.len named.cap, Value.slice pages.a pages.len pages.cap]) ([Ty1.one (Cell.int IntKind.i64)]) w_7 <|
      fun (x_26 : Int) (w_27 : World) =>
      cond (!x_26 == 0)
        (K x_26 w_27)
        (nn p <|
        fun (a_28 : Addr) =>
        ld Cell.ptr a_28 (World.drew w_27) <|
        fun (p_29 : Option Addr) =>
        ldV 28 ({ block := r_1, off := 0 }) (World.drew w_27) <|
        fun (vs_30 : List Value) =>
        call Tryz.prog 90 ([Value.pointer p_29, Value.agg (List.toArray vs_30)]) ([Ty1.one (Cell.int IntKind.i64)]) (World.drew w_27) <|
        fun (x_31 : Int) (w_32 : World) =>
        K x_31 w_32))) 0 w_4
def pager_Pager_flushA : List Ann := [.n, .n, .n, .l [(18, .one (.int .i64))], .n, .n, .n, .n, .n, .o [[0, 1, 2, 3, 4, 5, 6, 7, 8, 9, 10, 11, 12, 13, 14, 15, 16, 17, 18, 19, 20, 21, 22]], .n, .n, .n, .n, .n, .n, .n, .n, .o [[0, 1, 2, 3, 4, 5, 6]]]
theorem pager_Pager_flush_of {p : Option Addr} {pages : Sl} {named : Sl} {next : List Value} {w : World} {K : Int → World → Prop} (hF : pager_Pager_flushF p pages named next K w) : call Tryz.prog 57 [.pointer p, .slice pages.a pages.len pages.cap, .slice named.a named.len named.cap, .agg next.toArray] [.one (.int .i64)] w K :=
  calls_of_fnPt (an := pager_Pager_flushA) (ts := [.one (.int .i64)]) (args := [.pointer p, .slice pages.a pages.len pages.cap, .slice named.a named.len named.cap, .agg next.toArray]) Tryz.func57 (by kernel_rfl) ((show fnPt (std Tryz.prog) Tryz.prog Tryz.f57 pager_Pager_flushA [.one (.int .i64)] [.pointer p, .slice pages.a pages.len pages.cap, .slice named.a named.len named.cap, .agg next.toArray] K w = pager_Pager_flushF p pages named next K w by kernel_rfl).mpr hF)

/-- cashbook.pager.Pager.Abort -/
def pager_Pager_AbortF (p : Option Addr) (K : Unit → World → Prop) (w : World) : Prop :=
  call Tryz.prog 58 ([Value.pointer p]) [] w <|
  fun (x_1 : PUnit) (w_2 : World) =>
  K () w_2
def pager_Pager_AbortA : List Ann := []
theorem pager_Pager_Abort_of {p : Option Addr} {w : World} {K : Unit → World → Prop} (hF : pager_Pager_AbortF p K w) : call Tryz.prog 68 [.pointer p] [] w K :=
  calls_of_fnPt (an := pager_Pager_AbortA) (ts := []) (args := [.pointer p]) Tryz.func68 (by kernel_rfl) ((show fnPt (std Tryz.prog) Tryz.prog Tryz.f68 pager_Pager_AbortA [] [.pointer p] K w = pager_Pager_AbortF p K w by kernel_rfl).mpr hF)

/-- cashbook.pager.Pager.Save -/
def pager_Pager_SaveF (p : Option Addr) (K : ((Option Addr)) → World → Prop) (w : World) : Prop :=
  nn p <|
  fun (a_1 : Addr) =>
  ld Cell.bool ({ block := a_1.block, off := a_1.off + 32 }) w <|
  fun (b_2 : Bool) =>
  cond b_2
    (K none w)
    (nn p <|
    fun (a_3 : Addr) =>
    ld (Cell.int IntKind.i64) ({ block := a_3.block, off := a_3.off + 31 }) (World.drew w) <|
    fun (x_4 : Int) =>
    nn p <|
    fun (a_5 : Addr) =>
    ldV 27 ({ block := a_5.block, off := a_5.off + 33 }) (World.drew w) <|
    fun (vs_6 : List Value) =>
    call Tryz.prog 111 ([Value.agg (List.toArray vs_6)]) [Ty1.raw] (World.drew w) <|
    fun (vs_7 : List Value) (w_8 : World) =>
    held [fun (w_9 : Go.World) => World.cell? w_9 ({ block := a_3.block, off := a_3.off + 31 }) = some (Value.int IntKind.i64 x_4)] w_8 <|
    runQ [Ty1.raw] (fun (w_10 : Go.World) => (Instr.build 193 (#[(0, Value.pointer p), (1, Value.int IntKind.i64 x_4), (2, Value.agg (List.toArray vs_7))])).run Tryz.prog w_10) w_8 <|
    fun (vs_11 : List Value) =>
    new (Obj.cells (List.toArray vs_11) 193) w_8 <|
    fun (r_12 : Nat) (w_13 : World) =>
    K (some { block := r_12, off := 0 }) w_13)
def pager_Pager_SaveA : List Ann := [.n, .n, .n, .n, .n, .o [[0, 1, 2, 3, 4, 5, 6, 7, 8, 9, 10, 11, 12]]]
theorem pager_Pager_Save_of {p : Option Addr} {w : World} {K : ((Option Addr)) → World → Prop} (hF : pager_Pager_SaveF p K w) : call Tryz.prog 70 [.pointer p] [.one .ptr] w K :=
  calls_of_fnPt (an := pager_Pager_SaveA) (ts := [.one .ptr]) (args := [.pointer p]) Tryz.func70 (by kernel_rfl) ((show fnPt (std Tryz.prog) Tryz.prog Tryz.f70 pager_Pager_SaveA [.one .ptr] [.pointer p] K w = pager_Pager_SaveF p K w by kernel_rfl).mpr hF)

/-- cashbook.pager.Pager.Back -/
def pager_Pager_BackF (p : Option Addr) (m : Option Addr) (K : Int → World → Prop) (w : World) : Prop :=
  nn p <|
  fun (a_1 : Addr) =>
  ld Cell.bool ({ block := a_1.block, off := a_1.off + 32 }) w <|
  fun (b_2 : Bool) =>
  cond b_2
    (K 7 w)
    (join (Bool) (fun (X_3 : Bool → World → Prop) =>
      cond (Option.isNone m)
        (X_3 true (World.drew w))
        (nn m <|
        fun (a_4 : Addr) =>
        ld Cell.ptr a_4 (World.drew w) <|
        fun (p_5 : Option Addr) =>
        runQ [Ty1.one Cell.bool] (fun (w_6 : Go.World) => (do eqGuard BinOp.neq 24 (Operand.tmp 17) (Operand.tmp 18) (Value.pointer p_5) (Value.pointer p); binOp BinOp.neq 24 (Value.pointer p_5) (Value.pointer p)).run Tryz.prog w_6) (World.drew w) <|
        fun (b_7 : Bool) =>
        cond b_7
          (X_3 true (World.drew w))
          (nn m <|
          fun (a_8 : Addr) =>
          ld (Cell.int IntKind.i64) ({ block := a_8.block, off := a_8.off + 1 }) (World.drew w) <|
          fun (x_9 : Int) =>
          nn p <|
          fun (a_10 : Addr) =>
          ld (Cell.int IntKind.i64) ({ block := a_10.block, off := a_10.off + 31 }) (World.drew w) <|
          fun (x_11 : Int) =>
          X_3 (!x_9 == x_11) (World.drew w)))) <|
    fun (b_12 : Bool) (w_13 : World) =>
    cond b_12
      (K 10 w_13)
      (nn m <|
      fun (a_14 : Addr) =>
      ldV 27 ({ block := a_14.block, off := a_14.off + 2 }) w_13 <|
      fun (vs_15 : List Value) =>
      call Tryz.prog 111 ([Value.agg (List.toArray vs_15)]) [Ty1.raw] w_13 <|
      fun (vs_16 : List Value) (w_17 : World) =>
      nn p <|
      fun (a_18 : Addr) =>
      chk (List.length vs_16 = 27) <|
      st ({ block := a_18.block, off := a_18.off + 33 }) vs_16 w_17 <|
      fun (w_19 : World) =>
      K 0 w_19))
def pager_Pager_BackA : List Ann := [.n, .n, .n, .n, .j [(10, .one .bool)], .o [[0, 1, 2, 3, 4, 5, 6, 7, 8, 9, 10, 11, 12, 13, 14, 15, 16, 17, 18, 19, 20, 21]], .n, .n, .n]
theorem pager_Pager_Back_of {p : Option Addr} {m : Option Addr} {w : World} {K : Int → World → Prop} (hF : pager_Pager_BackF p m K w) : call Tryz.prog 71 [.pointer p, .pointer m] [.one (.int .i64)] w K :=
  calls_of_fnPt (an := pager_Pager_BackA) (ts := [.one (.int .i64)]) (args := [.pointer p, .pointer m]) Tryz.func71 (by kernel_rfl) ((show fnPt (std Tryz.prog) Tryz.prog Tryz.f71 pager_Pager_BackA [.one (.int .i64)] [.pointer p, .pointer m] K w = pager_Pager_BackF p m K w by kernel_rfl).mpr hF)

/-- cashbook.pager.Pager.Room -/
def pager_Pager_RoomF (p : Option Addr) (K : Int → World → Prop) (w : World) : Prop :=
  nn p <|
  fun (a_1 : Addr) =>
  ld Cell.ptr ({ block := a_1.block, off := a_1.off + 33 }) w <|
  fun (p_2 : Option Addr) =>
  call Tryz.prog 43 ([Value.pointer p_2]) ([Ty1.one (Cell.int IntKind.i64)]) w <|
  fun (x_3 : Int) (w_4 : World) =>
  K x_3 w_4
def pager_Pager_RoomA : List Ann := [.n, .n]
theorem pager_Pager_Room_of {p : Option Addr} {w : World} {K : Int → World → Prop} (hF : pager_Pager_RoomF p K w) : call Tryz.prog 11 [.pointer p] [.one (.int .i64)] w K :=
  calls_of_fnPt (an := pager_Pager_RoomA) (ts := [.one (.int .i64)]) (args := [.pointer p]) Tryz.func11 (by kernel_rfl) ((show fnPt (std Tryz.prog) Tryz.prog Tryz.f11 pager_Pager_RoomA [.one (.int .i64)] [.pointer p] K w = pager_Pager_RoomF p K w by kernel_rfl).mpr hF)

/-- cashbook.pager.Pager.Free -/
def pager_Pager_FreeF (p : Option Addr) (K : Sl → World → Prop) (w : World) : Prop :=
  nn p <|
  fun (a_1 : Addr) =>
  ld Cell.ptr ({ block := a_1.block, off := a_1.off + 33 }) w <|
  fun (p_2 : Option Addr) =>
  call Tryz.prog 40 ([Value.pointer p_2]) ([Ty1.one Cell.slice]) w <|
  fun (s_3 : Sl) (w_4 : World) =>
  K s_3 w_4
def pager_Pager_FreeA : List Ann := [.n, .n]
theorem pager_Pager_Free_of {p : Option Addr} {w : World} {K : Sl → World → Prop} (hF : pager_Pager_FreeF p K w) : call Tryz.prog 9 [.pointer p] [.one .slice] w K :=
  calls_of_fnPt (an := pager_Pager_FreeA) (ts := [.one .slice]) (args := [.pointer p]) Tryz.func9 (by kernel_rfl) ((show fnPt (std Tryz.prog) Tryz.prog Tryz.f9 pager_Pager_FreeA [.one .slice] [.pointer p] K w = pager_Pager_FreeF p K w by kernel_rfl).mpr hF)

/-- cashbook.pager.Pager.Lists -/
def pager_Pager_ListsF (p : Option Addr) (K : Sl → World → Prop) (w : World) : Prop :=
  nn p <|
  fun (a_1 : Addr) =>
  ld Cell.slice ({ block := a_1.block, off := a_1.off + 29 }) w <|
  fun (s_2 : Sl) =>
  call Tryz.prog 82 ([Value.slice s_2.a s_2.len s_2.cap]) ([Ty1.one Cell.slice]) w <|
  fun (s_3 : Sl) (w_4 : World) =>
  K s_3 w_4
def pager_Pager_ListsA : List Ann := [.n, .n]
theorem pager_Pager_Lists_of {p : Option Addr} {w : World} {K : Sl → World → Prop} (hF : pager_Pager_ListsF p K w) : call Tryz.prog 32 [.pointer p] [.one .slice] w K :=
  calls_of_fnPt (an := pager_Pager_ListsA) (ts := [.one .slice]) (args := [.pointer p]) Tryz.func32 (by kernel_rfl) ((show fnPt (std Tryz.prog) Tryz.prog Tryz.f32 pager_Pager_ListsA [.one .slice] [.pointer p] K w = pager_Pager_ListsF p K w by kernel_rfl).mpr hF)

/-- cashbook.pager.Pager.Deferred -/
def pager_Pager_DeferredF (p : Option Addr) (K : Sl → World → Prop) (w : World) : Prop :=
  nn p <|
  fun (a_1 : Addr) =>
  ld Cell.ptr ({ block := (Addr.add a_1 33).block, off := (Addr.add a_1 33).off + 1 }) w <|
  fun (p_2 : Option Addr) =>
  call Tryz.prog 40 ([Value.pointer p_2]) ([Ty1.one Cell.slice]) w <|
  fun (s_3 : Sl) (w_4 : World) =>
  K s_3 w_4
def pager_Pager_DeferredA : List Ann := [.n, .n]
theorem pager_Pager_Deferred_of {p : Option Addr} {w : World} {K : Sl → World → Prop} (hF : pager_Pager_DeferredF p K w) : call Tryz.prog 33 [.pointer p] [.one .slice] w K :=
  calls_of_fnPt (an := pager_Pager_DeferredA) (ts := [.one .slice]) (args := [.pointer p]) Tryz.func33 (by kernel_rfl) ((show fnPt (std Tryz.prog) Tryz.prog Tryz.f33 pager_Pager_DeferredA [.one .slice] [.pointer p] K w = pager_Pager_DeferredF p K w by kernel_rfl).mpr hF)

/-- cashbook.pager.Pager.Fresh -/
def pager_Pager_FreshF (p : Option Addr) (K : Sl → World → Prop) (w : World) : Prop :=
  nn p <|
  fun (a_1 : Addr) =>
  ld Cell.map ({ block := (Addr.add a_1 33).block, off := (Addr.add a_1 33).off + 2 }) w <|
  fun (p_2 : Option Nat) =>
  call Tryz.prog 84 ([Value.map p_2]) ([Ty1.one Cell.any]) w <|
  fun (v_3 : Value) (w_4 : World) =>
  call Tryz.prog 83 [v_3] ([Ty1.one Cell.slice]) w_4 <|
  fun (s_5 : Sl) (w_6 : World) =>
  K s_5 w_6
def pager_Pager_FreshA : List Ann := [.n, .n]
theorem pager_Pager_Fresh_of {p : Option Addr} {w : World} {K : Sl → World → Prop} (hF : pager_Pager_FreshF p K w) : call Tryz.prog 34 [.pointer p] [.one .slice] w K :=
  calls_of_fnPt (an := pager_Pager_FreshA) (ts := [.one .slice]) (args := [.pointer p]) Tryz.func34 (by kernel_rfl) ((show fnPt (std Tryz.prog) Tryz.prog Tryz.f34 pager_Pager_FreshA [.one .slice] [.pointer p] K w = pager_Pager_FreshF p K w by kernel_rfl).mpr hF)

/-- cashbook.pager.work.copied -/
def pager_work_copiedF (w_ : List Value) (K : ((List Value)) → World → Prop) (w : World) : Prop :=
  new (Obj.cells (List.toArray w_) 98) w <|
  fun (r_1 : Nat) (w_2 : World) =>
  newZ Tryz.prog 98 w_2 <|
  fun (r_3 : Nat) (w_4 : World) =>
  ld Cell.ptr ({ block := r_1, off := 0 }) (World.drew w_4) <|
  fun (p_5 : Option Addr) =>
  ld Cell.ptr ({ block := r_1, off := 1 }) (World.drew w_4) <|
  fun (p_6 : Option Addr) =>
  ld Cell.map ({ block := r_1, off := 2 }) (World.drew w_4) <|
  fun (p_7 : Option Nat) =>
  call Tryz.prog 136 ([Value.pointer p_5]) ([Ty1.one Cell.ptr]) (World.drew w_4) <|
  fun (p_8 : Option Addr) (w_9 : World) =>
  held [fun (w_10 : Go.World) => World.cell? w_10 ({ block := r_1, off := 2 }) = some (Value.map p_7), fun (w_11 : Go.World) => World.cell? w_11 ({ block := r_1, off := 1 }) = some (Value.pointer p_6)] w_9 <|
  call Tryz.prog 136 ([Value.pointer p_6]) ([Ty1.one Cell.ptr]) w_9 <|
  fun (p_12 : Option Addr) (w_13 : World) =>
  held [fun (w_14 : Go.World) => World.cell? w_14 ({ block := r_1, off := 2 }) = some (Value.map p_7)] w_13 <|
  call Tryz.prog 137 ([Value.map p_7]) ([Ty1.one Cell.map]) w_13 <|
  fun (p_15 : Option Nat) (w_16 : World) =>
  st ({ block := r_1, off := 0 }) ([Value.pointer p_8]) w_16 <|
  fun (w_17 : World) =>
  st ({ block := r_1, off := 1 }) ([Value.pointer p_12]) w_17 <|
  fun (w_18 : World) =>
  st ({ block := r_1, off := 2 }) ([Value.map p_15]) w_18 <|
  fun (w_19 : World) =>
  ldV 27 ({ block := r_1, off := 0 }) w_19 <|
  fun (vs_20 : List Value) =>
  chk (List.length vs_20 = 27) <|
  st ({ block := r_3, off := 0 }) vs_20 w_19 <|
  fun (w_21 : World) =>
  ldV 27 ({ block := r_3, off := 0 }) w_21 <|
  fun (vs_22 : List Value) =>
  K vs_22 w_21
def pager_work_copiedA : List Ann := [.n, .n, .o [[0, 1, 3, 4, 6, 7, 2, 9, 5, 8, 10, 11, 12, 13, 14]], .n]
theorem pager_work_copied_of {w_ : List Value} {w : World} {K : ((List Value)) → World → Prop} (hF : pager_work_copiedF w_ K w) : call Tryz.prog 111 [.agg w_.toArray] [.raw] w K :=
  calls_of_fnPt (an := pager_work_copiedA) (ts := [.raw]) (args := [.agg w_.toArray]) Tryz.func111 (by kernel_rfl) ((show fnPt (std Tryz.prog) Tryz.prog Tryz.f111 pager_work_copiedA [.raw] [.agg w_.toArray] K w = pager_work_copiedF w_ K w by kernel_rfl).mpr hF)

/-- cashbook.pager.spread -/
def pager_spreadF (d : Option Addr) (numbers : Sl) (pages : Sl) (K : Int → World → Prop) (w : World) : Prop :=
  call Tryz.prog 122 ([Value.slice numbers.a numbers.len numbers.cap, Value.slice pages.a pages.len pages.cap]) ([Ty1.one Cell.slice, Ty1.one (Cell.int IntKind.i64)]) w <|
  fun (t_1 : Sl × Int) (w_2 : World) =>
  cond (!t_1.snd == 0)
    (K t_1.snd w_2)
    (loop (Int) (fun (X_3 : Int → World → Prop) (x_4 : Int) (w_5 : World) =>
      cond (decide (x_4 < (↑t_1.fst.len : Int)))
        (idx t_1.fst x_4 1 <|
        fun (a_6 : Addr) =>
        ld Cell.slice a_6 w_5 <|
        fun (s_7 : Sl) =>
        idx pages x_4 1 <|
        fun (a_8 : Addr) =>
        ld (Cell.int IntKind.u32) a_8 w_5 <|
        fun (x_9 : Int) =>
        call Tryz.prog 99 ([Value.int IntKind.u32 x_9, Value.int IntKind.u8 2, Value.slice s_7.a s_7.len s_7.cap]) ([Ty1.one Cell.slice, Ty1.one (Cell.int IntKind.i64)]) w_5 <|
        fun (t_10 : Sl × Int) (w_11 : World) =>
        idx pages x_4 1 <|
        fun (a_12 : Addr) =>
        ld (Cell.int IntKind.u32) a_12 w_11 <|
        fun (x_13 : Int) =>
        call Tryz.prog 28 ([Value.pointer d, Value.int IntKind.i64 (IntKind.wrap IntKind.i64 x_13), Value.slice t_10.fst.a t_10.fst.len t_10.fst.cap]) ([Ty1.one (Cell.int IntKind.i64)]) w_11 <|
        fun (x_14 : Int) (w_15 : World) =>
        cond (!x_14 == 0)
          (K x_14 w_15)
          (X_3 (IntKind.wrap IntKind.i64 (x_4 + 1)) w_15))
        (call Tryz.prog 87 ([Value.pointer d]) ([Ty1.one (Cell.int IntKind.i64)]) w_5 <|
        fun (x_16 : Int) (w_17 : World) =>
        K x_16 w_17)) 0 w_2)
def pager_spreadA : List Ann := [.n, .n, .n, .n, .n, .n, .n, .l [(25, .one (.int .i64))], .n, .n, .n, .n, .n, .n, .n, .n, .n]
theorem pager_spread_of {d : Option Addr} {numbers : Sl} {pages : Sl} {w : World} {K : Int → World → Prop} (hF : pager_spreadF d numbers pages K w) : call Tryz.prog 89 [.pointer d, .slice numbers.a numbers.len numbers.cap, .slice pages.a pages.len pages.cap] [.one (.int .i64)] w K :=
  calls_of_fnPt (an := pager_spreadA) (ts := [.one (.int .i64)]) (args := [.pointer d, .slice numbers.a numbers.len numbers.cap, .slice pages.a pages.len pages.cap]) Tryz.func89 (by kernel_rfl) ((show fnPt (std Tryz.prog) Tryz.prog Tryz.f89 pager_spreadA [.one (.int .i64)] [.pointer d, .slice numbers.a numbers.len numbers.cap, .slice pages.a pages.len pages.cap] K w = pager_spreadF d numbers pages K w by kernel_rfl).mpr hF)

/-- cashbook.pager.seal -/
def pager_sealF (d : Option Addr) (s : List Value) (K : Int → World → Prop) (w : World) : Prop :=
  new (Obj.cells (List.toArray s) 58) w <|
  fun (r_1 : Nat) (w_2 : World) =>
  ld (Cell.int IntKind.u64) ({ block := r_1, off := 0 }) (World.drew w_2) <|
  fun (x_3 : Int) =>
  ldV 28 ({ block := r_1, off := 0 }) (World.drew w_2) <|
  fun (vs_4 : List Value) =>
  call Tryz.prog 123 ([Value.agg (List.toArray vs_4)]) ([Ty1.one Cell.slice]) (World.drew w_2) <|
  fun (s_5 : Sl) (w_6 : World) =>
  held [fun (w_7 : Go.World) => World.cell? w_7 ({ block := r_1, off := 0 }) = some (Value.int IntKind.u64 x_3)] w_6 <|
  call Tryz.prog 28 ([Value.pointer d, Value.int IntKind.i64 (IntKind.wrap IntKind.i64 (Int.tmod x_3 2)), Value.slice s_5.a s_5.len s_5.cap]) ([Ty1.one (Cell.int IntKind.i64)]) w_6 <|
  fun (x_8 : Int) (w_9 : World) =>
  cond (!x_8 == 0)
    (K x_8 w_9)
    (call Tryz.prog 87 ([Value.pointer d]) ([Ty1.one (Cell.int IntKind.i64)]) w_9 <|
    fun (x_10 : Int) (w_11 : World) =>
    K x_10 w_11)
def pager_sealA : List Ann := [.n, .n, .n, .o [[0, 1, 2, 3, 4, 5, 6, 7, 8]], .n, .n, .n]
theorem pager_seal_of {d : Option Addr} {s : List Value} {w : World} {K : Int → World → Prop} (hF : pager_sealF d s K w) : call Tryz.prog 90 [.pointer d, .agg s.toArray] [.one (.int .i64)] w K :=
  calls_of_fnPt (an := pager_sealA) (ts := [.one (.int .i64)]) (args := [.pointer d, .agg s.toArray]) Tryz.func90 (by kernel_rfl) ((show fnPt (std Tryz.prog) Tryz.prog Tryz.f90 pager_sealA [.one (.int .i64)] [.pointer d, .agg s.toArray] K w = pager_sealF d s K w by kernel_rfl).mpr hF)

end Go.Proofs.YtmbcedengdoamaaGreatDoor
end

section
/- Maps whose entries' stamps rise; ranges over a map. Conditions: those that stand in each line. -/
set_option linter.unusedVariables false
set_option linter.unusedSimpArgs false
set_option linter.unusedSectionVars false
namespace Go.Pt
open Go

section
variable {α : Type} [DecidableEq α] {P : Program} {w : World} {kt : TypeId} {kv : α → Value}

/-- Block b is a map with the pairs f; its entries' stamps rise. -/
def MapS (kv : α → Value) (w : World) (b : Nat) (f : List (α × Value)) : Prop :=
  ∃ es c, w.heap[b]? = some (.map es c) ∧ Ents kv es.toList f ∧ (es.toList.map (·.born)).Pairwise (· < ·) ∧ ∀ e ∈ es.toList, e.born < c
theorem MapS.at {b : Nat} {f : List (α × Value)} (h : MapS kv w b f) : MapAt kv w b f := by
  obtain ⟨es, c, hb, he, _⟩ := h
  exact ⟨es, c, hb, he⟩
theorem MapS.frame {w' : World} {b : Nat} {S : List Nat} {f : List (α × Value)} (h : MapS kv w b f) (k : Fr S w w') (h1 : b ∉ S) : MapS kv w' b f := by
  obtain ⟨es, c, hb, he⟩ := h
  exact ⟨es, c, by rw [k.block b (lt_of_blk hb) h1]; exact hb, he⟩
theorem MapS.lt {b : Nat} {f : List (α × Value)} (h : MapS kv w b f) : b < w.heap.size := by
  obtain ⟨es, c, hb, _⟩ := h
  exact lt_of_blk hb
theorem MapS.empty {b : Nat} (hb : w.heap[b]? = some (.map #[] 0)) : MapS kv w b [] := ⟨#[], 0, hb, rfl, by simp, by simp⟩

theorem MapS.new {t et : TypeId} {v : Value} (ht : P.underlying t = some (.map kt et)) (K : KeyOk P kt kv) {b : Nat} {f : List (α × Value)} (h : MapS kv w b f) (x : α) (hx : posOf x f = none) :
    ∃ o, (Instr.mapUpdate t (.map (some b)) (kv x) v).run P w = .ok () (upd w b o) ∧ MapS kv (upd w b o) b (f ++ [(x, v)]) := by
  obtain ⟨es, c, hb, he, hs, hc⟩ := h
  refine ⟨.map (es.push ⟨kv x, v, c⟩) (c + 1), ?_, es.push ⟨kv x, v, c⟩, c + 1, ?_, ?_, ?_, ?_⟩
  · simp [Instr.mapUpdate, run_underlying ht, Go.MapKept.run_getObj_map hb, K.check, run_findKey K he, hx, Go.MapKept.run_setObj_map _ hb]
    rfl
  · rw [heap_upd _ _ _ _ (lt_of_blk hb), if_pos rfl]
  · simp only [Ents] at he ⊢
    simp [he]
  · rw [Array.toList_push, List.map_append, List.pairwise_append]
    refine ⟨hs, by simp, fun a ha b hb' => ?_⟩
    obtain ⟨e, he', rfl⟩ := List.mem_map.1 ha
    simp at hb'
    subst hb'
    exact hc e he'
  · intro e he'
    rw [Array.toList_push] at he'
    rcases List.mem_append.1 he' with h1 | h1
    · exact Nat.lt_succ_of_lt (hc e h1)
    · simp at h1; subst h1; exact Nat.lt_succ_self _

theorem MapS.del {t et ty : TypeId} (ht : P.underlying t = some (.map kt et)) (K : KeyOk P kt kv) {b : Nat} {f : List (α × Value)} (h : MapS kv w b f) (x : α) :
    ∃ o, (Builtin.delete_ #[t, kt] ty #[.map (some b), kv x]).run P w = .ok (.tuple #[]) (upd w b o) ∧ MapS kv (upd w b o) b (match posOf x f with | some q => f.eraseIdx q.1 | none => f) := by
  obtain ⟨es, c, hb, he, hs, hc⟩ := h
  cases hp : posOf x f with
  | none =>
    refine ⟨.map es c, ?_, es, c, ?_, he, hs, hc⟩
    · simp [Builtin.delete_, run_underlying ht, Go.MapKept.run_getObj_map hb, K.check, run_findKey K he, hp, Go.MapKept.run_setObj_map _ hb]
      rfl
    · rw [heap_upd _ _ _ _ (lt_of_blk hb), if_pos rfl]
  | some q =>
    have h1 : (es.eraseIdxIfInBounds q.1).toList = es.toList.eraseIdx q.1 := by simp
    refine ⟨.map (es.eraseIdxIfInBounds q.1) c, ?_, es.eraseIdxIfInBounds q.1, c, ?_, ?_, ?_, ?_⟩
    · simp [Builtin.delete_, run_underlying ht, Go.MapKept.run_getObj_map hb, K.check, run_findKey K he, hp, Go.MapKept.run_setObj_map _ hb]
      rfl
    · rw [heap_upd _ _ _ _ (lt_of_blk hb), if_pos rfl]
    · rw [h1]
      simp only [Ents] at he ⊢
      rw [map_erase, he, ← map_erase]
    · rw [h1, map_erase]
      exact hs.sublist (List.eraseIdx_sublist _ _)
    · rw [h1]
      exact fun e he' => hc e (List.mem_of_mem_eraseIdx he')

/-- The range begins. -/
theorem run_range {t et : TypeId} (ht : P.underlying t = some (.map kt et)) {b : Nat} {es : Array MapEntry} {c : Nat} (hb : w.heap[b]? = some (.map es c)) :
    (Instr.range t (.map (some b))).run P w = .ok (.pointer (some ⟨w.heap.size, 0, none⟩)) (w.alloc (.mapIter (some b) c #[] c)) :=
  run_range_map w t kt et b es c ht hb

/-- A step: none is left, or one that was not there yet. -/
theorem nxt_of {b it c : Nat} {es : Array MapEntry} {seen : Array Nat} {ty : TypeId} {Ke : World → Prop} {Ks : Value → Value → World → Prop} (hb : w.heap[b]? = some (.map es c)) (hi : w.heap[it]? = some (.mapIter (some b) c seen c)) (hc : ∀ e ∈ es.toList, e.born < c)
    (ke : (∀ e ∈ es.toList, e.born ∈ seen.toList) → Ke w)
    (ks : ∀ e ∈ es.toList, e.born ∉ seen.toList → ∀ w', Same w w' → Ks e.key e.val (upd w' it (.mapIter (some b) c (seen.push e.born) c))) :
    nxt ((Instr.next (.pointer (some ⟨it, 0, none⟩)) false ty).run P w) Ke Ks := by
  have htest : (!seen.isEmpty && !es.isEmpty && es.all (fun x => decide (x.born ≥ c))) = false := next_test_false seen es c c hc (Nat.le_refl _)
  have hlt := lt_of_blk hi
  let L := leftOf es seen
  have hmem : ∀ x ∈ L.toList, x ∈ es.toList ∧ x.born ∉ seen.toList := by
    intro x hx
    have : x ∈ es.toList.filter (fun e => !seen.contains e.born) := by simpa [L, leftOf] using hx
    have h2 := List.mem_filter.1 this
    exact ⟨h2.1, by simpa using h2.2⟩
  have e1 : L.filter (fun x => decide (x.born < c)) = L := by
    apply Array.toList_inj.1
    rw [Array.toList_filter]
    exact List.filter_eq_self.2 fun x hx => decide_eq_true (hc x (hmem x hx).1)
  have e2 : L.filter (fun x => decide (x.born ≥ c)) = #[] := by
    apply Array.toList_inj.1
    rw [Array.toList_filter]
    exact List.filter_eq_nil_iff.2 fun x hx => by have := hc x (hmem x hx).1; simp; omega
  have hL : es.filter (fun e => !seen.contains e.born) = L := rfl
  have hsz : ∀ x ∈ es.toList, x.born ∉ seen.toList → x ∈ L.toList := fun x hx hn => by
    have : x ∈ es.toList.filter (fun e => !seen.contains e.born) := List.mem_filter.2 ⟨hx, by simpa using hn⟩
    simpa [L, leftOf] using this
  clear_value L
  unfold nxt
  by_cases h0 : L.size = 0
  · left
    have hE : L = #[] := Array.eq_empty_of_size_eq_zero h0
    refine ⟨w, ?_, ke fun e he => Classical.byContradiction fun hn => ?_⟩
    · simp only [Instr.next, getObj, Sem.run_bind, Sem.run, hi, hb, Result.andThen, htest, Bool.false_eq_true, if_false, hL, e1, e2, Array.append_empty]
      subst hE
      simp [choose, Sem.run, Question.forced]
    · have := hsz e he hn
      rw [hE] at this
      simp at this
  · right
    have hne : L.isEmpty = false := by simp [Array.isEmpty, h0]
    have hch : ∃ (j : Nat) (w1 : World), j < L.size ∧ Same w w1 ∧ (choose (Question.mapNext L.size)).run P w = .ok j w1 := by
      by_cases hf : L.size ≤ 1
      · exact ⟨0, w, by omega, .refl _, by simp [choose, Sem.run, Question.forced, hf]⟩
      · exact ⟨_, w.drew, Nat.mod_lt _ (by omega), (Same.refl w).drew, by
          simp only [choose, Sem.run, Question.forced, decide_eq_true_eq, hf, if_false, Question.cut]
          rfl⟩
    obtain ⟨j, w1, hj, hal, hrun⟩ := hch
    have hmj := hmem L[j] (by simp)
    have hi1 : w1.heap[it]? = some (.mapIter (some b) c seen c) := by rw [hal.heap]; exact hi
    refine ⟨_, _, _, ?_, ks L[j] hmj.1 hmj.2 w1 hal⟩
    simp only [Instr.next, getObj, Sem.run_bind, Sem.run, hi, hb, Result.andThen, htest, Bool.false_eq_true, if_false, hL, e1, e2, Array.append_empty, hne, Array.empty_append, Array.size_map, hrun, Array.getElem?_map, Array.getElem?_eq_getElem hj, Option.map_some, setObj, hi1]
    rfl

/-- The entry that the range stands at. -/
theorem ent_of {b it c s : Nat} {es : Array MapEntry} {seen : Array Nat} {e : MapEntry} {K : Value → Value → World → Prop} (hb : w.heap[b]? = some (.map es c)) (hi : w.heap[it]? = some (.mapIter (some b) s (seen.push e.born) c)) (he : e ∈ es.toList) (hs : (es.toList.map (·.born)).Pairwise (· < ·))
    (k : K e.key e.val w) : ent ((Instr.entry (.pointer (some ⟨it, 0, none⟩))).run P w) K := by
  have hn : (es.toList.map (·.born)).Nodup := hs.imp (fun h => Nat.ne_of_lt h)
  refine ⟨e.key, e.val, w, ?_, k⟩
  have hf : es.find? (·.born == e.born) = some e := by rw [← Array.find?_toList]; exact find_born e es.toList hn he
  simp [Instr.entry, getObj, Sem.run, hi, hb, hf, Result.andThen]
end

end Go.Pt
end
