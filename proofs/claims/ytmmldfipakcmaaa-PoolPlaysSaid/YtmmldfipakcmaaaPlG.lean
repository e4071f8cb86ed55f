/- The four laws of the pool return true, over slices that are read. Conditions: those that stand in each line. -/
import Derived.Test.YtmmldfipakcmaaaPlF
set_option linter.unusedVariables false
set_option linter.unusedSimpArgs false
namespace Go.Proofs.Ytmmldfipakcmaaa
open Go Go.Pt Go.Sort
attribute [local irreducible] ld ldA st new idx idxS idxA slc slcS slcP mkS chk nn call callV inv run runQ runU join loop held IntKind.wrap

abbrev opC : List Cell := [.int .u8, .int .u32]
abbrev OpsAt (w : World) (s : Sl) (l : List (Int × Int)) : Prop := Rds (α := Int × Int) (HL.mk opC) 2 [] w s l

theorem rd_blk {S : List Nat} {w : World} {b n cap : Nat} {d : Array Int} {T : TypeId} {fr : Nat × Nat} (hb : w.heap[b]? = some (.cells (u32s d) T fr)) (hn : n ≤ d.size) (hc : n ≤ cap) (hS : b ∉ S) : Rd S w ⟨some ⟨b, 0, none⟩, n, cap⟩ (d.toList.take n) := by
  refine ⟨by rw [List.length_take, Array.length_toList]; exact (Nat.min_eq_left hn).symm, hc, .inr ⟨b, 0, _, T, _, rfl, hb, hS, fun i x hx => ?_⟩⟩
  have hi := (List.getElem?_eq_some_iff.1 hx).1
  rw [List.length_take, Array.length_toList] at hi
  have hil : i < n := Nat.lt_of_lt_of_le hi (Nat.min_le_left _ _)
  have hid : i < d.size := Nat.lt_of_lt_of_le hi (Nat.min_le_right _ _)
  have hx' := get_take (d := d) rfl hil hn
  rw [hx'] at hx
  rw [Nat.zero_add, Nat.mul_one]
  have hc : (u32s d)[i]? = some (.int .u32 x) := by
    unfold u32s
    rw [Array.getElem?_map]
    rw [← Option.some.inj hx]
    simp [hid]
  apply List.ext_getElem?
  intro j
  rw [List.getElem?_take, List.getElem?_drop]
  match j with
  | 0 => simpa using hc
  | j + 1 => simp

theorem told_rd {S : List Nat} {w w' : World} {s : Sl} {l : List Int} (h : Told w w' s l) (hS : ∀ b ∈ S, b < w.heap.size) : Rd S w' s l := by
  rcases h with ⟨rfl, rfl⟩ | ⟨b, d, T, cap, rfl, hb, hd, hc, ht, hbw⟩
  · exact .nil _ _ _ _
  · have := rd_blk (S := S) (n := l.length) (cap := cap) hb hd hc (fun hm => by have := hS b hm; omega)
    rw [ht] at this
    exact this

theorem stepTurn {w : World} {pb : Nat} {F : List Nat} (G : List Nat) {l : List Int} {s ops : Sl} {os : List (Int × Int)} {K : Sl × Bool → World → Prop} (i : Nat) {o : Int × Int} (ho : OpsAt w ops os) (hx : os[i]? = some o) (h : PoolAt w pb F l) (hs : Rd (F ++ G) w s l) (hG : ∀ b ∈ G, b < w.heap.size) (hl : l.length ≤ 100000)
    (hk : ∀ F' s' w', PoolAt w' pb F' (stepL o.1 o.2 l) → Rd (F' ++ G) w' s' (stepL o.1 o.2 l) → Fr F w w' → (∀ b ∈ F', b ∈ F ∨ w.heap.size ≤ b) → K (s', true) w') :
    idx ops i 2 fun a => ldA opC a w fun t => new (.cells #[.int .u8 0, .int .u32 0] 46) w fun r w1 => st ⟨r, 0, none⟩ [.int .u8 t.1, .int .u32 t.2] w1 fun w2 => ldA opC ⟨r, 0, none⟩ w2 fun t' =>
      call Try.prog 18 [.pointer (some ⟨pb, 0, none⟩), .slice s.a s.len s.cap, .agg #[.int .u8 t'.1, .int .u32 t'.2]] [.one .slice, .one .bool] w2 K := by
  refine Rds.getA (cl := opC) ho i (y := o) rfl hx rfl rfl ?_
  refine Own.new (Own.start [] w) fun r w1 e1 s1 hw => ?_
  refine Own.st hw 0 rfl _ rfl rfl rfl fun w2 hw s2 => ?_
  refine Own.ldA hw (cl := opC) 0 rfl o rfl ?_
  have hsz := hw.fr.size
  refine step_ok G (h.frame hw.fr (fun _ _ h => by cases h)) (hs.frame0 hw.fr) (fun b hb => by have := hG b hb; omega) hl fun F' s' w' g1 g2 g3 g4 => ?_
  exact hk F' s' w' g1 g2 ((hw.fr.mono (fun i hi _ => by cases hi)).trans g3) (fun b hb => by rcases g4 b hb with h | h; exact .inl h; exact .inr (by omega))

def runL (os : List (Int × Int)) (l : List Int) : List Int := os.foldl (fun l o => stepL o.1 o.2 l) l

theorem runL_len : ∀ (os : List (Int × Int)) (l : List Int), (runL os l).length ≤ l.length + os.length
  | [], l => by simp [runL]
  | o :: os, l => by
    have h1 := stepL_len o.1 o.2 l
    have h2 := runL_len os (stepL o.1 o.2 l)
    simp only [runL, List.foldl_cons, List.length_cons] at h2 ⊢
    omega

theorem runL_succ {os : List (Int × Int)} {i : Nat} (hi : i < os.length) (l : List Int) : runL (os.take (i + 1)) l = stepL os[i].1 os[i].2 (runL (os.take i) l) := by
  rw [List.take_succ_eq_append_getElem hi, runL, List.foldl_append]; rfl

theorem PoolPlays_ok {w : World} {ops : Sl} {os : List (Int × Int)} {K : Bool → World → Prop} (ho : OpsAt w ops os) (hk : ∀ w', Fr [] w w' → K true w') :
    call Try.prog 5 [.slice ops.a ops.len ops.cap] [.one .bool] w K := by
  refine cashbooklaw08_PoolPlays_of (ops := ops) ?_
  unfold cashbooklaw08_PoolPlaysF
  have hlen := ho.1
  refine cond_of (fun hc => ?_) (fun hc => ?_)
  · exact fixed08_ok fun w' f => hk w' f
  have hle : os.length ≤ 200 := by have := of_decide_eq_false hc; omega
  refine New_ok fun pb F0 w0 h0 f0 n0 => ?_
  refine cond_false rfl ?_
  refine loop_ind (fun x w' => ∃ (i : Nat) (F : List Nat), x.2 = i ∧ i ≤ os.length ∧ PoolAt w' pb F (runL (os.take i) []) ∧ Rd (F ++ []) w' x.1 (runL (os.take i) []) ∧ Fr [] w w' ∧ ∀ b ∈ F, w.heap.size ≤ b) (fun x _ => ((os.length : Int) - x.2).toNat)
    ⟨0, F0, rfl, by omega, h0, .nil _ _ _ _, f0, n0⟩ ?_
  rintro ⟨s, ii⟩ w2 ⟨i, F, hi0, hi, h2, hs, f2, n2⟩ X hX
  simp only at hi0 hs
  subst hi0
  have hL := runL_len (os.take i) []
  rw [List.length_take, List.length_nil] at hL
  refine cond_of (fun hc => ?_) (fun hc => ?_)
  · have hil : i < os.length := by have := of_decide_eq_true hc; omega
    refine stepTurn [] i (ho.frame0 f2) (List.getElem?_eq_getElem hil) h2 hs (by simp) (by omega) fun F3 s3 w3 h3 g3 f3 n3 => ?_
    rw [← runL_succ hil] at h3 g3
    refine join_mid (fun b w' => b = false ∧ w' = w3) ?_ ?_
    · refine cond_false rfl ?_
      refine Len_ok' h3 ⟨?_, rfl⟩
      rw [g3.1]; simp
    · rintro b w' ⟨rfl, rfl⟩
      refine cond_false rfl ?_
      rw [wi _ (by omega)]
      exact hX _ _ ⟨i + 1, F3, by simp, by omega, h3, g3, f2.trans' f3 (fun b hb => .inr (n2 b hb)), new_of n2 f2.size n3⟩ (by dsimp only; omega)
  · have hil : i = os.length := by have := of_decide_eq_false hc; omega
    refine fixed08_ok fun w3 f3 => ?_
    refine cond_true rfl ?_
    have h3 := h2.frame f3 (fun _ _ h => by cases h)
    have g3 := hs.frame0 f3
    refine List_ok h3 (by omega) fun s4 w4 t4 f4 => ?_
    refine RSame_ok (told_rd (S := []) t4 (by simp)) (g3.frame0 f4) (by omega) fun w5 f5 => ?_
    exact hk w5 (((f2.trans f3).trans f4).same f5)

/-- A row of operations, whose answers are not looked at. -/
theorem opsLoop_ok {w : World} {pb : Nat} {F : List Nat} (G : List Nat) {l : List Int} {s ops : Sl} {os : List (Int × Int)} {E : Sl × Int → World → Prop} (ho : OpsAt w ops os) (h : PoolAt w pb F l) (hs : Rd (F ++ G) w s l) (hG : ∀ b ∈ G, b < w.heap.size) (hF : ∀ b ∈ F, b < w.heap.size) (hl : l.length + os.length ≤ 1000) {w00 : World} (f00 : Fr [] w00 w) (hF00 : ∀ b ∈ F, w00.heap.size ≤ b) (ho00 : OpsAt w00 ops os)
    (hk : ∀ F' s' n w', PoolAt w' pb F' (runL os l) → Rd (F' ++ G) w' s' (runL os l) → Fr F w w' → (∀ b ∈ F', b ∈ F ∨ w.heap.size ≤ b) → E (s', n) w') :
    loop (Sl × Int) (fun X t w => cond (decide (t.2 < (ops.len : Int)))
      (idx ops t.2 2 fun a => ldA opC a w fun t9 => new (.cells #[.int .u8 0, .int .u32 0] 46) w fun r w1 => st ⟨r, 0, none⟩ [.int .u8 t9.1, .int .u32 t9.2] w1 fun w2 => ldA opC ⟨r, 0, none⟩ w2 fun t' =>
        call Try.prog 18 [.pointer (some ⟨pb, 0, none⟩), .slice t.1.a t.1.len t.1.cap, .agg #[.int .u8 t'.1, .int .u32 t'.2]] [.one .slice, .one .bool] w2 fun t17 w18 => X (t17.1, IntKind.wrap .i64 (t.2 + 1)) w18)
      (E t w)) (s, 0) w := by
  have hlen := ho.1
  refine loop_ind (fun x w' => ∃ (i : Nat) (F' : List Nat), x.2 = i ∧ i ≤ os.length ∧ PoolAt w' pb F' (runL (os.take i) l) ∧ Rd (F' ++ G) w' x.1 (runL (os.take i) l) ∧ Fr F w w' ∧ ∀ b ∈ F', b ∈ F ∨ w.heap.size ≤ b) (fun x _ => ((os.length : Int) - x.2).toNat)
    ⟨0, F, rfl, by omega, h, hs, .refl _ _, fun b hb => .inl hb⟩ ?_
  rintro ⟨s1, ii⟩ w2 ⟨i, F', hi0, hi, h2, g2, f2, n2⟩ X hX
  simp only at hi0 g2
  subst hi0
  have hL := runL_len (os.take i) l
  rw [List.length_take] at hL
  have hsz := f2.size
  refine cond_of (fun hc => ?_) (fun hc => ?_)
  · have hil : i < os.length := by have := of_decide_eq_true hc; omega
    have ho2 : OpsAt w2 ops os := ho00.frame0 (f00.trans' f2 fun b hb => .inr (hF00 b hb))
    refine stepTurn G i ho2 (List.getElem?_eq_getElem hil) h2 g2 (fun b hb => by have := hG b hb; omega) (by omega) fun F3 s3 w3 h3 g3 f3 n3 => ?_
    rw [← runL_succ hil] at h3 g3
    rw [wi _ (by omega)]
    refine hX _ _ ⟨i + 1, F3, by simp, by omega, h3, g3, f2.trans' f3 n2, fun b hb => ?_⟩ (by dsimp only; omega)
    rcases n3 b hb with h' | h'
    · exact n2 b h'
    · exact .inr (by omega)
  · have hil : i = os.length := by have := of_decide_eq_false hc; omega
    subst hil
    rw [List.take_length] at h2 g2
    exact hk F' s1 _ w2 h2 g2 f2 n2

theorem PoolCopies_ok {w : World} {ops more other : Sl} {os ms ot : List (Int × Int)} {K : Bool → World → Prop} (ho : OpsAt w ops os) (hm : OpsAt w more ms) (ht : OpsAt w other ot) (hk : ∀ w', Fr [] w w' → K true w') :
    call Try.prog 8 [.slice ops.a ops.len ops.cap, .slice more.a more.len more.cap, .slice other.a other.len other.cap] [.one .bool] w K := by
  refine cashbooklaw08_PoolCopies_of (ops := ops) (more := more) (other := other) ?_
  unfold cashbooklaw08_PoolCopiesF
  have hlo := ho.1
  have hlm := hm.1
  have hlt := ht.1
  refine join_mid (fun b w' => w' = w ∧ (b = false → os.length ≤ 100 ∧ ms.length ≤ 100 ∧ ot.length ≤ 100)) ?_ ?_
  · refine cond_of (fun hc => ⟨rfl, by simp⟩) (fun hc => ?_)
    have h1 := of_decide_eq_false hc
    refine cond_of (fun hc => ⟨rfl, by simp⟩) (fun hc => ?_)
    have h2 := of_decide_eq_false hc
    refine ⟨rfl, fun hc => ?_⟩
    have h3 := of_decide_eq_false hc
    omega
  rintro b w' ⟨rfl, hb⟩
  refine cond_of (fun hc => fixed08_ok fun w' f => hk w' f) (fun hc => ?_)
  obtain ⟨h1, h2, h3⟩ := hb hc
  refine New_ok fun pb F0 w0 p0 f0 n0 => ?_
  refine cond_false rfl ?_
  refine opsLoop_ok [] (ho.frame0 f0) p0 (.nil _ _ _ _) (by simp) p0.lt (by simp; omega) f0 n0 ho fun F1 s1 i1 w1 p1 g1 f1 n1 => ?_
  have e1 := f0.trans' f1 fun b hb => .inr (n0 b hb)
  have m1 := new_of n0 f0.size n1
  have l1 := runL_len os []
  rw [List.length_nil] at l1
  refine Copy_ok p1 (by omega) fun qb F2 w2 q2 f2 n2 => ?_
  refine cond_false rfl ?_
  have e2 := e1.trans f2
  have p2 := p1.frame f2 (fun _ _ h => by cases h)
  have q2lt := q2.lt
  have p1lt := p1.lt
  have s1r : Rd (F1 ++ F2) w2 s1 (runL os []) := by
    have : Rd (F1 ++ F2) w1 s1 (runL os []) := g1.weak fun b hb => by
      rcases List.mem_append.1 hb with hb | hb
      · exact .inl (by simpa using hb)
      · exact .inr (n2 b hb)
    exact this.frame0 f2
  refine opsLoop_ok F2 (hm.frame0 e2) p2 s1r q2lt p2.lt (by omega) e2 m1 hm fun F3 s3 i3 w3 p3 g3 f3 n3 => ?_
  have e3 := e2.trans' f3 fun b hb => .inr (m1 b hb)
  have dis : ∀ b ∈ F2, b ∉ F1 := fun b hb hb' => by have := n2 b hb; have := p1lt b hb'; omega
  have q3 := q2.frame f3 dis
  have hsz2 := f2.size
  have hsz3 := f3.size
  have hsze1 := e1.size
  have m2 : ∀ b ∈ F2, w'.heap.size ≤ b := fun b hb => by have := n2 b hb; omega
  have dis3 : ∀ b ∈ F3, b ∉ F2 := fun b hb hb' => by
    rcases n3 b hb with h | h
    · exact dis b hb' h
    · have := q2lt b hb'; omega
  have s13 : Rd (F2 ++ F3) w3 s1 (runL os []) := by
    have : Rd (F1 ++ F2) w3 s1 (runL os []) := s1r.frame (f3.mono (fun i hi _ => List.mem_append_left _ hi)) (fun b hb => .inl hb)
    refine (s1r.frame (S' := F2 ++ F3) (f3.mono (fun i hi _ => List.mem_append_left _ hi)) fun b hb => ?_)
    rcases List.mem_append.1 hb with hb | hb
    · exact .inl (List.mem_append_right _ hb)
    · rcases n3 b hb with h | h
      · exact .inl (List.mem_append_left _ h)
      · exact .inr h
  have l3 := runL_len ms (runL os [])
  refine opsLoop_ok F3 (ht.frame0 e3) q3 s13 p3.lt q3.lt (by omega) e3 m2 ht fun F4 s4 i4 w4 q4 g4 f4 n4 => ?_
  have e4 := e3.trans' f4 fun b hb => .inr (m2 b hb)
  have l4 := runL_len ot (runL os [])
  have p4 := p3.frame f4 dis3
  have s3r : Rd F3 w4 s3 (runL ms (runL os [])) := by
    have : Rd (F3 ++ F2) w4 s3 (runL ms (runL os [])) := g3.frame (f4.mono (fun i hi _ => List.mem_append_right _ hi)) (fun b hb => .inl hb)
    exact this.weak fun b hb => .inl (List.mem_append_left _ hb)
  refine fixed08_ok fun w5 f5 => ?_
  refine cond_true rfl ?_
  refine List_ok (p4.frame f5 (fun _ _ h => by cases h)) (by omega) fun s6 w6 t6 f6 => ?_
  refine RSame_ok (told_rd (S := []) t6 (by simp)) ((s3r.frame0 f5).frame0 f6) (by omega) fun w7 f7 => ?_
  refine cond_true rfl ?_
  have f47 : Fr [] w4 w7 := (f5.trans f6).same f7
  refine List_ok (q4.frame f47 (fun _ _ h => by cases h)) (by omega) fun s8 w8 t8 f8 => ?_
  refine RSame_ok (told_rd (S := []) t8 (by simp)) ((g4.frame0 f47).frame0 f8) (by omega) fun w9 f9 => ?_
  exact hk w9 (((e4.trans f47).trans f8).same f9)

def Wr (w w' : World) (s : Sl) : Prop := s.len = 0 ∨ ∃ b d T, s.a = some ⟨b, 0, none⟩ ∧ w'.heap[b]? = some (.cells (u32s d) T (0, 0)) ∧ s.len ≤ d.size ∧ w.heap.size ≤ b ∧ s.len ≤ 10000000

theorem told_wr {w w' : World} {s : Sl} {l : List Int} (h : Told w w' s l) (hl : l.length ≤ 10000000) : Wr w w' s := by
  rcases h with ⟨rfl, rfl⟩ | ⟨b, d, T, cap, rfl, hb, hd, hc, ht, hbw⟩
  · exact .inl rfl
  · exact .inr ⟨b, d, T, rfl, hb, hd, hbw, hl⟩

theorem PoolOwn_ok {w : World} {ops : Sl} {os : List (Int × Int)} {by_ : Int} {K : Bool → World → Prop} (ho : OpsAt w ops os) (hk : ∀ w', Fr [] w w' → K true w') :
    call Try.prog 7 [.slice ops.a ops.len ops.cap, .int .u32 by_] [.one .bool] w K := by
  refine cashbooklaw08_PoolOwn_of (ops := ops) (by_ := by_) ?_
  unfold cashbooklaw08_PoolOwnF
  have hlen := ho.1
  refine cond_of (fun hc => ?_) (fun hc => ?_)
  · exact fixed08_ok fun w' f => hk w' f
  have hle : os.length ≤ 100 := by have := of_decide_eq_false hc; omega
  refine New_ok fun pb F0 w0 h0 f0 n0 => ?_
  refine cond_false rfl ?_
  refine loop_ind (fun x w' => ∃ (i : Nat) (F : List Nat), x.2 = i ∧ i ≤ os.length ∧ PoolAt w' pb F (runL (os.take i) []) ∧ Rd (F ++ []) w' x.1 (runL (os.take i) []) ∧ Fr [] w w' ∧ ∀ b ∈ F, w.heap.size ≤ b) (fun x _ => ((os.length : Int) - x.2).toNat)
    ⟨0, F0, rfl, by omega, h0, .nil _ _ _ _, f0, n0⟩ ?_
  rintro ⟨s, ii⟩ w2 ⟨i, F, hi0, hi, h2, hs, f2, n2⟩ X hX
  simp only at hi0 hs
  subst hi0
  have hL := runL_len (os.take i) []
  rw [List.length_take, List.length_nil] at hL
  refine cond_of (fun hc => ?_) (fun hc => ?_)
  · have hil : i < os.length := by have := of_decide_eq_true hc; omega
    refine stepTurn [] i (ho.frame0 f2) (List.getElem?_eq_getElem hil) h2 hs (by simp) (by omega) fun F3 s3 w3 h3 g3 f3 n3 => ?_
    rw [← runL_succ hil] at h3 g3
    have hL3 := runL_len (os.take (i + 1)) []
    rw [List.length_take, List.length_nil] at hL3
    refine List_ok h3 (by omega) fun s4 w4 t4 f4 => ?_
    have f03 := f2.trans' f3 (fun b hb => .inr (n2 b hb))
    have n03 := new_of n2 f2.size n3
    -- the told numbers are written over
    refine loop_ind (fun x w' => ∃ (j : Nat), x = j ∧ j ≤ s4.len ∧ Wr w3 w' s4 ∧ Fr [] w3 w') (fun x _ => ((s4.len : Int) - x).toNat) ⟨0, rfl, by omega, told_wr t4 (by omega), f4⟩ ?_
    rintro x w5 ⟨j, rfl, hj, t5, f5⟩ X2 hX2
    refine cond_of (fun hc => ?_) (fun hc => ?_)
    · have hjl : j < s4.len := by have := of_decide_eq_true hc; omega
      rcases t5 with h0 | ⟨b, d, T, ha, hb, hd, hbw, hd2⟩
      · omega
      have hjd : j < d.size := by omega
      refine idx_of ha ⟨by omega, by omega⟩ ?_
      have hcj : (u32s d)[0 + (j : Int).toNat * 1]? = some (.int .u32 d[j]!) := by
        rw [Int.toNat_natCast, Nat.zero_add, Nat.mul_one]
        unfold u32s
        rw [Array.getElem?_map]
        simp [hjd]
      refine ld_blk (c := .int .u32) hb d[j]! hcj ?_
      refine idx_of ha ⟨by omega, by omega⟩ ?_
      have hown : Own [] w3 w5 [(b, .cells (u32s d) T (0, 0))] := ⟨by simpa using hb, by simp, f5, fun p hp => by simp at hp; subst hp; exact .inr hbw⟩
      refine Own.st hown 0 rfl (u32s (d.setIfInBounds j (IntKind.wrap .u32 (d[j]! + by_)))) ?_ rfl (Nat.ble_eq_true_of_le (by rw [u32s_size]; simp; omega)) fun w6 hw6 _ => ?_
      · rw [Int.toNat_natCast, Nat.zero_add, Nat.mul_one]
        exact u32s_set _ _ _
      rw [wi _ (by omega)]
      exact hX2 _ _ ⟨j + 1, by simp, by omega, .inr ⟨b, _, T, ha, hw6.at (i := 0) rfl, by simpa using hd, hbw, by simpa using hd2⟩, hw6.fr⟩ (by omega)
    · rw [wi _ (by omega)]
      refine hX _ _ ⟨i + 1, F3, by simp, by omega, h3.frame f5 (fun _ _ h => by cases h), g3.frame0 f5, f03.trans f5, n03⟩ (by dsimp only; omega)
  · have hil : i = os.length := by have := of_decide_eq_false hc; omega
    refine fixed08_ok fun w3 f3 => ?_
    refine cond_true rfl ?_
    have h3 := h2.frame f3 (fun _ _ h => by cases h)
    have g3 := hs.frame0 f3
    refine List_ok h3 (by omega) fun s4 w4 t4 f4 => ?_
    refine RSame_ok (told_rd (S := []) t4 (by simp)) (g3.frame0 f4) (by omega) fun w5 f5 => ?_
    exact hk w5 (((f2.trans f3).trans f4).same f5)

end Go.Proofs.Ytmmldfipakcmaaa
