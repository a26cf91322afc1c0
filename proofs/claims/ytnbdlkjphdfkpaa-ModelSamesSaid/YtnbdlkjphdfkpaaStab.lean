/- model.Stable: what it computes. No conditions. -/
import Derived.Test.YtnbdlkjphdfkpaaH1
import Derived.Maps.OwnSet
import Derived.Maps.OwnOps
import Derived.Maps.RangeWalk
import Derived.Maps.Ext
import Derived.Deep.RegionHeld3
import Derived.Carry
import Derived.Laws.Rows
import Derived.Lib.Hide
import Derived.Outline
namespace Go.Proofs.Ytnbdlkjphdfkpaa
open Go Go.RowKit H Go.Proofs.YtnbdlkjphdfkpaaW.PrintWords

/-- How many offsets a batch takes. -/
def szOf (b : S41) : Int := if b.f6 = true then 1 else (b.f8.length : Int)
/-- Where a batch ends. -/
def toOf (b : S41) : Int := wrap64 (b.f0 + szOf b)

theorem i64_wrap (n : Int) : IntKind.i64.wrap n = wrap64 n := by
  unfold wrap64 IntKind.wrap
  simp [IntKind.signed, IntKind.bits]
  split <;> omega

/-- Where a producer's open transaction begins, behind one batch more. -/
def opn (p : Int) (s : Option Int) (b : S41) : Option Int :=
  if b.f2 = p then (if b.f6 = true then none else if b.f5 = true then some (match s with | none => b.f0 | some a => if b.f0 < a then b.f0 else a) else s) else s

/-- Where a producer's open transaction begins. -/
def opens (bs : List S41) (p : Int) : Option Int := bs.foldl (opn p) none

theorem opens_take (l : List S41) (k : Nat) (b : S41) (p : Int) (h : l[k]? = some b) : opens (l.take (k + 1)) p = opn p (opens (l.take k) p) b := by
  rw [List.take_add_one, h]
  simp [opens]

/-- The map holds where the open transactions begin. -/
def Sem (D : DataW Unit) (bs : List S41) : Prop :=
  ∀ p, (opens bs p = none → Maps.has D (.int .u64 p) = false) ∧ (∀ a, opens bs p = some a → Maps.has D (.int .u64 p) = true ∧ ∀ zd, D.atKey (.int .u64 p) zd = .lit (.int .i64 a))

theorem key_ne {p q : Int} (h : p ≠ q) : Lit.int .u64 p ≠ Lit.int .u64 q := fun e => h (by injection e)

section
variable {D : DataW Unit} {bs cs : List S41} {b : S41}

theorem sem_ctl (h : Sem D bs) (hT : ∀ p, opens cs p = opn p (opens bs p) b) (h6 : b.f6 = true) : Sem (D.del (.int .u64 b.f2)) cs := by
  intro p
  rw [hT p]
  unfold opn
  by_cases hp : b.f2 = p
  · subst hp
    rw [if_pos rfl, if_pos h6]
    exact ⟨fun _ => Maps.has_del_same, fun a ha => by cases ha⟩
  · rw [if_neg hp, Maps.has_del_other (key_ne (fun e => hp e.symm))]
    refine ⟨(h p).1, fun a ha => ⟨((h p).2 a ha).1, fun zd => ?_⟩⟩
    rw [Maps.atKey_del_other (key_ne (fun e => hp e.symm))]
    exact ((h p).2 a ha).2 zd

theorem sem_put (h : Sem D bs) (hT : ∀ p, opens cs p = opn p (opens bs p) b) (hm : Maps.IsMap D) (h6 : b.f6 = false) (h5 : b.f5 = true) {c : Int} (hat : D.atKey (.int .u64 b.f2) (.lit (.int .i64 0)) = .lit (.int .i64 c))
    (hc : Maps.has D (.int .u64 b.f2) = false ∨ b.f0 < c) : Sem (D.put (.int .u64 b.f2) (.lit (.int .i64 b.f0))) cs := by
  intro p
  rw [hT p]
  unfold opn
  by_cases hp : b.f2 = p
  · subst hp
    rw [if_pos rfl, if_neg (by simp [h6]), if_pos h5, Maps.has_put_same hm (show WideAt.IsKeyLit (.int .u64 b.f2) from trivial)]
    refine ⟨fun e => (by cases e), fun a ha => ⟨rfl, fun zd => ?_⟩⟩
    rw [Maps.atKey_put_same hm (show WideAt.IsKeyLit (.int .u64 b.f2) from trivial)]
    have ha := Option.some.inj ha
    cases ho : opens bs b.f2 with
    | none => rw [ho] at ha; rw [← ha]
    | some a0 =>
      rw [ho] at ha
      have := ((h b.f2).2 a0 ho).2 (.lit (.int .i64 0))
      rw [hat] at this
      injection this with this
      injection this with _ this
      subst this
      rcases hc with hc | hc
      · rw [((h b.f2).2 _ ho).1] at hc; cases hc
      · dsimp only at ha
        rw [if_pos hc] at ha
        rw [← ha]
  · rw [if_neg hp, Maps.has_put_other (key_ne (fun e => hp e.symm))]
    refine ⟨(h p).1, fun a ha => ⟨((h p).2 a ha).1, fun zd => ?_⟩⟩
    rw [Maps.atKey_put_other (key_ne (fun e => hp e.symm))]
    exact ((h p).2 a ha).2 zd

theorem sem_plain (h : Sem D bs) (hT : ∀ p, opens cs p = opn p (opens bs p) b) (h6 : b.f6 = false) (h5 : b.f5 = false) : Sem D cs := by
  intro p
  rw [hT p]
  have : opn p (opens bs p) b = opens bs p := by unfold opn; simp [h6, h5]
  rw [this]
  exact h p

theorem sem_later (h : Sem D bs) (hT : ∀ p, opens cs p = opn p (opens bs p) b) (h6 : b.f6 = false) (h5 : b.f5 = true) {c : Int} (hat : D.atKey (.int .u64 b.f2) (.lit (.int .i64 0)) = .lit (.int .i64 c))
    (hh : Maps.has D (.int .u64 b.f2) = true) (hc : ¬ b.f0 < c) : Sem D cs := by
  intro p
  rw [hT p]
  unfold opn
  by_cases hp : b.f2 = p
  · subst hp
    rw [if_pos rfl, if_neg (by simp [h6]), if_pos h5]
    cases ho : opens bs b.f2 with
    | none => rw [(h b.f2).1 ho] at hh; cases hh
    | some a0 =>
      have := ((h b.f2).2 a0 ho).2 (.lit (.int .i64 0))
      rw [hat] at this
      injection this with this
      injection this with _ this
      subst this
      dsimp only
      rw [if_neg hc]
      exact ⟨fun e => (by cases e), fun a ha => (h b.f2).2 a (by rw [ho]; exact ha)⟩
  · rw [if_neg hp]
    exact h p
end

theorem owns_below {w w' : World} {k : TypeId} {R : Value → Option (DataW Unit × List MemPlace)} {b n B : Nat} {D : DataW Unit} (h : w.ownsMap Try.prog k R b n D) (hb : Below B w w') (hB : b < B) : w'.ownsMap Try.prog k R b n D := by
  obtain ⟨es, clock, h1, h2⟩ := h
  exact ⟨es, clock, (hb.block b hB).trans h1, h2⟩

theorem law35 : Maps.Keyed Try.prog 35 := Maps.int_keyed Try.underlying35
theorem zero3 (w : World) : (zeroValue 3).run Try.prog w = .ok (.int .i64 0) w := by kernel_rfl

theorem size_calls (b : S41) (A8 : Option Addr) (c8 : Nat) (w : World) (hi : (Kd.slice 5 (Kd.int .u8)).C w A8 b.f8.length b.f8) (hl : b.f8.length ≤ c8) :
    Calls Try.prog 22 #[.agg #[.int .i64 b.f0, .int .i64 b.f1, .int .u64 b.f2, .int .i64 b.f3, .int .i64 b.f4, .bool b.f5, .bool b.f6, .bool b.f7, .slice A8 b.f8.length c8]] w fun e w' => e = .returned (.int .i64 (szOf b)) ∧ Below w.heap.size w w' :=
  batch_Size.calls b.f0 b.f1 b.f2 b.f3 b.f4 b.f5 b.f6 b.f7 A8 c8 b.f8 _ w hi hl (by unfold batch_Size.f szOf; split <;> rfl)

/-- A batch in a box of its own. -/
def BatchIn (w : World) (B : Nat) (b : S41) (A8 : Option Addr) (c8 : Nat) : Prop :=
  w.heap[B]? = some (.cells #[.int .i64 b.f0, .int .i64 b.f1, .int .u64 b.f2, .int .i64 b.f3, .int .i64 b.f4, .bool b.f5, .bool b.f6, .bool b.f7, .slice A8 b.f8.length c8] 41 (0, 0))

theorem BatchIn.cells {w : World} {B : Nat} {b : S41} {A8 : Option Addr} {c8 : Nat} (h : BatchIn w B b A8 c8) :
    w.cell? ⟨B, 0, none⟩ = some (.int .i64 b.f0) ∧ w.cell? ⟨B, 1, none⟩ = some (.int .i64 b.f1) ∧ w.cell? ⟨B, 2, none⟩ = some (.int .u64 b.f2) ∧ w.cell? ⟨B, 3, none⟩ = some (.int .i64 b.f3) ∧ w.cell? ⟨B, 4, none⟩ = some (.int .i64 b.f4) ∧
      w.cell? ⟨B, 5, none⟩ = some (.bool b.f5) ∧ w.cell? ⟨B, 6, none⟩ = some (.bool b.f6) ∧ w.cell? ⟨B, 7, none⟩ = some (.bool b.f7) ∧ w.cell? ⟨B, 8, none⟩ = some (.slice A8 b.f8.length c8) := by
  unfold BatchIn at h
  simp [World.cell?, h]

theorem cut_at {l : List S41} {high : Int} {k : Nat} (h : ∀ b ∈ l.take k, toOf b ≤ high) (hk : l.length ≤ k ∨ ∃ h : k < l.length, high < toOf l[k]) : l.takeWhile (fun b => decide (toOf b ≤ high)) = l.take k := by
  conv => lhs; rw [← List.take_append_drop k l]
  rw [List.takeWhile_append_of_pos (by intro b hb; simpa using h b hb)]
  rcases hk with hk | ⟨hk, hh⟩
  · rw [List.drop_eq_nil_of_le hk]; simp
  · rw [List.drop_eq_getElem_cons hk, List.takeWhile_cons_of_neg (by simpa using hh), List.append_nil]

/-- What Stable hands back. -/
def StabIs (pre : List S41) (v : Int) : Prop :=
  v ≤ (pre.getLast?.map toOf).getD 0 ∧ (∀ p a, opens pre p = some a → v ≤ a) ∧ (v = (pre.getLast?.map toOf).getD 0 ∨ ∃ p, opens pre p = some v)

set_option maxRecDepth 100000 in
set_option maxHeartbeats 4000000 in
theorem stable_walk (A : Option Addr) (c : Nat) (l : List S41) (high : Int) (w0 : World) (hr : Kd.C k41 w0 A l.length l) (hc : l.length ≤ c) (hmax : l.length < maxLen) (hwf : ∀ b ∈ l, (Lit.int .u64 b.f2).wf = true ∧ (Lit.int .i64 b.f0).wf = true) :
    Calls Try.prog 15 #[.slice A l.length c, .int .i64 high] w0 fun e w' => ∃ v, e = .returned (.int .i64 v) ∧ StabIs (l.takeWhile (fun b => decide (toOf b ≤ high))) v ∧ Below w0.heap.size w0 w' := by
  have hmm := @run_makeMap Try.prog
  have HC := Lib.hid hr
  clear hr
  go_enter Try.func15, Try.ntmps15
  go_wp2
  go_loopw [6, 17] (fun e i wr => ∃ (k : Nat) (D : DataW Unit), k ≤ l.length ∧ i = .int .i64 k ∧ e = .int .i64 (((l.take k).getLast?.map toOf).getD 0) ∧ (∀ b ∈ l.take k, toOf b ≤ high) ∧ Sem D (l.take k) ∧ wr.ownsMap Try.prog 35 (plainElem Try.prog 3) w0.heap.size k D ∧ Below w0.heap.size w0 wr)
    (fun _ i _ => l.length - (intOf i).toNat)
  case atStart => exact ⟨0, .map [], Nat.zero_le _, rfl, rfl, by simp, fun p => ⟨fun _ => rfl, fun a h => by cases h⟩, World.ownsMap_made _ _ _ _, (Below.refl _ _).alloc (Nat.le_refl _) _⟩
  case round =>
    obtain ⟨k, D, hk, rfl, rfl, hbl, hsem, hown, hB⟩ := hrel
    have hcase : (¬ k < l.length) ∨ (∃ h : k < l.length, high < toOf l[k]) ∨ (∃ h : k < l.length, ¬ high < toOf l[k]) := by
      by_cases h : k < l.length
      · by_cases h2 : high < toOf l[k]
        · exact .inr (.inl ⟨h, h2⟩)
        · exact .inr (.inr ⟨h, h2⟩)
      · exact .inl h
    rcases hcase with hlt | ⟨hlt, hhi⟩ | ⟨hlt, hhi⟩
    case' inl =>
      have hpre := cut_at hbl (.inl (by omega))
      have hd : ¬ ((k : Int) < l.length) := by omega
      clear hlt
      go_wp2_with (first | (at_range; refine wpList_range_own _ rfl _ 54 rfl 35 3 law35 Try.underlying54 _ w0.heap.size k D rfl hown ?_; intro wq hrg0 hg0 hs0) | go_in)
    case' inr.inl =>
      have hpre := cut_at hbl (.inr ⟨hlt, hhi⟩)
      obtain ⟨ad, A8, c8, rfl, x0, x1, x2, x3, x4, x5, x6, x7, x8, hl8, hi8⟩ := at_T41 HC.out (k : Int) (by omega) (by omega)
      rw [Int.toNat_natCast] at x0 x1 x2 x3 x4 x5 x6 x7 x8
      have hb : rd_T41 l (k : Int) = l[k] := by simp [rd_T41, List.getD, hlt]
      rw [hb] at x0 x1 x2 x3 x4 x5 x6 x7 x8 hl8 hi8
      have HT := Lib.hid (fun p => opens_take l k _ p (List.getElem?_eq_getElem hlt))
      have HTK := Lib.hid (List.take_succ_eq_append_getElem hlt)
      have hbm := hwf _ (List.getElem_mem hlt)
      generalize l[k] = b at *
      have hlx := fun {v : Value} (a : Addr) (h : w0.cell? a = some v) => (hB.cell (World.block_lt_of_cell? w0 a h)).trans h
      replace x0 := hlx _ x0
      replace x1 := hlx _ x1
      replace x2 := hlx _ x2
      replace x3 := hlx _ x3
      replace x4 := hlx _ x4
      replace x5 := hlx _ x5
      replace x6 := hlx _ x6
      replace x7 := hlx _ x7
      replace x8 := hlx _ x8
      replace hi8 := Kd.C_below hi8 hB
      clear hlx hb
      have hbx : BatchIn (wr.alloc (.cells #[.int .i64 b.f0, .int .i64 b.f1, .int .u64 b.f2, .int .i64 b.f3, .int .i64 b.f4, .bool b.f5, .bool b.f6, .bool b.f7, .slice A8 b.f8.length c8] 41)) wr.heap.size b A8 c8 := heap_alloc_new wr _
      have HBX := Lib.hid hbx
      have hwr := hB.size
      go_wp2
      clear hbx
      go_region_held3 (fun w' => w'.cell? ⟨wr.heap.size, 0, none⟩ = some (.int .i64 b.f0) ∧ w'.cell? ⟨wr.heap.size, 1, none⟩ = some (.int .i64 b.f1) ∧ w'.cell? ⟨wr.heap.size, 2, none⟩ = some (.int .u64 b.f2) ∧ w'.cell? ⟨wr.heap.size, 3, none⟩ = some (.int .i64 b.f3) ∧ w'.cell? ⟨wr.heap.size, 4, none⟩ = some (.int .i64 b.f4) ∧
          w'.cell? ⟨wr.heap.size, 5, none⟩ = some (.bool b.f5) ∧ w'.cell? ⟨wr.heap.size, 6, none⟩ = some (.bool b.f6) ∧ w'.cell? ⟨wr.heap.size, 7, none⟩ = some (.bool b.f7) ∧ w'.cell? ⟨wr.heap.size, 8, none⟩ = some (.slice A8 b.f8.length c8))
        (first | exact HBX.out.cells | exact BatchIn.cells (b := b) ((hb2.block _ (by simp)).trans HBX.out)) (first | (go_at_call 22; refine (size_calls b A8 c8 _ (Kd.C_drew (Kd.C_alloc hi8 _)) hl8).mono ?_; rintro e w2 ⟨rfl, hb2⟩))
      have hw2 : Below w0.heap.size w0 w2 := ((hB.alloc hwr _).drew).trans (hb2.mono (by simp; omega))
      have hown2 : w2.ownsMap Try.prog 35 (plainElem Try.prog 3) w0.heap.size k D := owns_below (hown.alloc _).drew hb2 (by have := hown.lt; simp; omega)
      have hd : high < IntKind.i64.wrap (b.f0 + szOf b) := by rw [i64_wrap]; exact hhi
      clear hi8 HBX hwr hb2 hown hB x0 x1 x2 x3 x4 x5 x6 x7 x8 hl8
      have hown := hown2
      have hB := hw2
      clear hown2 hw2
      go_wp2_with (first | (at_range; refine wpList_range_own _ rfl _ 54 rfl 35 3 law35 Try.underlying54 _ w0.heap.size k D rfl hown ?_; intro wq hrg0 hg0 hs0) | go_in)
      clear HC hbm
      generalize w2 = wr at *
    case inr.inr =>
      obtain ⟨ad, A8, c8, rfl, x0, x1, x2, x3, x4, x5, x6, x7, x8, hl8, hi8⟩ := at_T41 HC.out (k : Int) (by omega) (by omega)
      rw [Int.toNat_natCast] at x0 x1 x2 x3 x4 x5 x6 x7 x8
      have hb : rd_T41 l (k : Int) = l[k] := by simp [rd_T41, List.getD, hlt]
      rw [hb] at x0 x1 x2 x3 x4 x5 x6 x7 x8 hl8 hi8
      have HT := Lib.hid (fun p => opens_take l k _ p (List.getElem?_eq_getElem hlt))
      have HTK := Lib.hid (List.take_succ_eq_append_getElem hlt)
      have hbm := hwf _ (List.getElem_mem hlt)
      generalize l[k] = b at *
      have hlx := fun {v : Value} (a : Addr) (h : w0.cell? a = some v) => (hB.cell (World.block_lt_of_cell? w0 a h)).trans h
      replace x0 := hlx _ x0
      replace x1 := hlx _ x1
      replace x2 := hlx _ x2
      replace x3 := hlx _ x3
      replace x4 := hlx _ x4
      replace x5 := hlx _ x5
      replace x6 := hlx _ x6
      replace x7 := hlx _ x7
      replace x8 := hlx _ x8
      replace hi8 := Kd.C_below hi8 hB
      clear hlx hb
      have hbx : BatchIn (wr.alloc (.cells #[.int .i64 b.f0, .int .i64 b.f1, .int .u64 b.f2, .int .i64 b.f3, .int .i64 b.f4, .bool b.f5, .bool b.f6, .bool b.f7, .slice A8 b.f8.length c8] 41)) wr.heap.size b A8 c8 := heap_alloc_new wr _
      have HBX := Lib.hid hbx
      have hwr := hB.size
      go_wp2
      clear hbx
      go_region_held3 (fun w' => w'.cell? ⟨wr.heap.size, 0, none⟩ = some (.int .i64 b.f0) ∧ w'.cell? ⟨wr.heap.size, 1, none⟩ = some (.int .i64 b.f1) ∧ w'.cell? ⟨wr.heap.size, 2, none⟩ = some (.int .u64 b.f2) ∧ w'.cell? ⟨wr.heap.size, 3, none⟩ = some (.int .i64 b.f3) ∧ w'.cell? ⟨wr.heap.size, 4, none⟩ = some (.int .i64 b.f4) ∧
          w'.cell? ⟨wr.heap.size, 5, none⟩ = some (.bool b.f5) ∧ w'.cell? ⟨wr.heap.size, 6, none⟩ = some (.bool b.f6) ∧ w'.cell? ⟨wr.heap.size, 7, none⟩ = some (.bool b.f7) ∧ w'.cell? ⟨wr.heap.size, 8, none⟩ = some (.slice A8 b.f8.length c8))
        (first | exact HBX.out.cells | exact BatchIn.cells (b := b) ((hb2.block _ (by simp)).trans HBX.out)) (first | (go_at_call 22; refine (size_calls b A8 c8 _ (Kd.C_drew (Kd.C_alloc hi8 _)) hl8).mono ?_; rintro e w2 ⟨rfl, hb2⟩))
      have hw2 : Below w0.heap.size w0 w2 := ((hB.alloc hwr _).drew).trans (hb2.mono (by simp; omega))
      have hown2 : w2.ownsMap Try.prog 35 (plainElem Try.prog 3) w0.heap.size k D := owns_below (hown.alloc _).drew hb2 (by have := hown.lt; simp; omega)
      have hd : ¬ high < IntKind.i64.wrap (b.f0 + szOf b) := by rw [i64_wrap]; exact Int.not_lt.2 hhi
      have hkey := Maps.keyOf_int_mk Try.underlying35 hbm.1
      have hb3 : BatchIn w2 wr.heap.size b A8 c8 := (hb2.block _ (by simp)).trans HBX.out
      obtain ⟨y0, y1, y2, y3, y4, y5, y6, y7, y8⟩ := hb3.cells
      clear hi8 HBX hown hB x0 x1 x2 x3 x4 x5 x6 x7 x8 hl8
      have close : ∀ (D' : DataW Unit) (w3 : World), w3.ownsMap Try.prog 35 (plainElem Try.prog 3) w0.heap.size (k + 1) D' → Sem D' (l.take (k + 1)) → Below w0.heap.size w0 w3 →
          (∃ (k_1 : Nat) (D : DataW Unit), k_1 ≤ l.length ∧ Value.int .i64 (wrap64 (k + 1)) = .int .i64 k_1 ∧ Value.int .i64 (wrap64 (b.f0 + szOf b)) = .int .i64 (((l.take k_1).getLast?.map toOf).getD 0) ∧ (∀ b ∈ l.take k_1, toOf b ≤ high) ∧ Sem D (l.take k_1) ∧ w3.ownsMap Try.prog 35 (plainElem Try.prog 3) w0.heap.size k_1 D ∧ Below w0.heap.size w0 w3) := by
        intro D' w3 ho hs hb
        have hkm : l.length < 9223372036854775807 := by unfold maxLen at hmax; omega
        refine ⟨k + 1, D', hlt, by rw [IntWalk.wrap64_in _ (by omega)]; rfl, ?_, ?_, hs, ho, hb⟩
        · rw [HTK.out]; simp; rfl
        · rw [HTK.out]
          intro x hx
          rcases List.mem_append.1 hx with hx | hx
          · exact hbl x hx
          · obtain rfl : x = b := by simpa using hx
            exact hhi
      have turnB : ∀ w3, w2.mapTurned w3 w0.heap.size → Below w0.heap.size w0 w3 := fun w3 ht => hw2.grown ht.grown hw2.size (fun j hj => by cases hj; exact Nat.le_refl _)
      have hCl := Lib.hid close
      have hTB := Lib.hid turnB
      clear close turnB
      have hlen : l.length - (k + 1) < l.length - k := by omega
      by_cases h6 : b.f6 = true
      · rw [h6] at y6
        go_wp2_with (first | (at_delete; refine wpList_delete_own _ rfl _ _ 54 35 rfl 3 law35 Try.underlying54 _ w0.heap.size k D rfl hown2 _ _ rfl hkey ?_; intro w3 hown3 hturn3))
        exact ⟨hCl.out _ _ (hown3.mono (Nat.le_succ _)) (sem_ctl hsem HT.out h6) (hTB.out _ hturn3), by rw [show wrap64 ((k : Int) + 1) = ((k + 1 : Nat) : Int) by rw [IntWalk.wrap64_in _ (by unfold maxLen at hmax; omega)]; rfl]; simp only [intOf, Int.toNat_natCast]; exact hlen⟩
      · have h6' : b.f6 = false := by simpa using h6
        rw [h6'] at y6
        by_cases h5 : b.f5 = true
        · rw [h5] at y5
          by_cases hh : Maps.has D (.int .u64 b.f2) = true
          · go_wp2_with (first | (at_lookup; have _still := hown2; refine wpList_lookup_own_ok_int _ rfl _ _ 54 rfl 35 3 .i64 law35 Try.underlying54 Try.underlying3 (zero3 _) w0.heap.size k D rfl hown2 _ _ rfl hkey ?_; intro c7 hat hwc; rw [hh]) | (at_mapUpdate; refine wpList_mapUpdate_in _ rfl _ _ _ 54 rfl 35 3 law35 Try.underlying54 (plainElem Try.prog 3) w0.heap.size k D rfl hown2 (by omega) _ _ _ rfl rfl hkey _ [] (plainElem_int Try.underlying3 hbm.2) ?_; intro w3 hown3 hturn3))
            all_goals first | exact ⟨hCl.out _ _ hown3 (sem_put hsem HT.out hown2.isMap h6' h5 hat (.inr (by assumption))) (hTB.out _ hturn3), by rw [show wrap64 ((k : Int) + 1) = ((k + 1 : Nat) : Int) by rw [IntWalk.wrap64_in _ (by unfold maxLen at hmax; omega)]; rfl]; simp only [intOf, Int.toNat_natCast]; exact hlen⟩ | exact ⟨hCl.out _ _ (hown2.mono (Nat.le_succ _)) (sem_later hsem HT.out h6' h5 hat hh (by omega)) hw2, by rw [show wrap64 ((k : Int) + 1) = ((k + 1 : Nat) : Int) by rw [IntWalk.wrap64_in _ (by unfold maxLen at hmax; omega)]; rfl]; simp only [intOf, Int.toNat_natCast]; exact hlen⟩
          · have hh' : Maps.has D (.int .u64 b.f2) = false := by simpa using hh
            go_wp2_with (first | (at_lookup; have _still := hown2; refine wpList_lookup_own_ok_int _ rfl _ _ 54 rfl 35 3 .i64 law35 Try.underlying54 Try.underlying3 (zero3 _) w0.heap.size k D rfl hown2 _ _ rfl hkey ?_; intro c7 hat hwc; rw [hh']) | (at_mapUpdate; refine wpList_mapUpdate_in _ rfl _ _ _ 54 rfl 35 3 law35 Try.underlying54 (plainElem Try.prog 3) w0.heap.size k D rfl hown2 (by omega) _ _ _ rfl rfl hkey _ [] (plainElem_int Try.underlying3 hbm.2) ?_; intro w3 hown3 hturn3))
            exact ⟨hCl.out _ _ hown3 (sem_put hsem HT.out hown2.isMap h6' h5 hat (.inl hh')) (hTB.out _ hturn3), by rw [show wrap64 ((k : Int) + 1) = ((k + 1 : Nat) : Int) by rw [IntWalk.wrap64_in _ (by unfold maxLen at hmax; omega)]; rfl]; simp only [intOf, Int.toNat_natCast]; exact hlen⟩
        · have h5' : b.f5 = false := by simpa using h5
          rw [h5'] at y5
          go_wp2_with (first | (at_lookup; have _still := hown2; refine wpList_lookup_own_ok_int _ rfl _ _ 54 rfl 35 3 .i64 law35 Try.underlying54 Try.underlying3 (zero3 _) w0.heap.size k D rfl hown2 _ _ rfl hkey ?_; intro c7 hat hwc))
          exact ⟨hCl.out _ _ (hown2.mono (Nat.le_succ _)) (sem_plain hsem HT.out h6' h5') hw2, by rw [show wrap64 ((k : Int) + 1) = ((k + 1 : Nat) : Int) by rw [IntWalk.wrap64_in _ (by unfold maxLen at hmax; omega)]; rfl]; simp only [intOf, Int.toNat_natCast]; exact hlen⟩
    all_goals
      try go_frame
      have hlt9 := hown.lt
      have hBq : Below w0.heap.size w0 wq := hB.grown hg0 hB.size (fun j hj => by cases hj)
      generalize wr.heap.size = r at *
      go_loopw [6] (fun e wr => ∃ (left : Lit → Bool) (cnt : Nat) (v : Int), e = .int .i64 v ∧ wr.ranges Try.prog 35 (plainElem Try.prog 3) w0.heap.size r k D left cnt ∧ v ≤ (((l.take k).getLast?.map toOf).getD 0) ∧
          (∀ p a, opens (l.take k) p = some a → left (.int .u64 p) = false → v ≤ a) ∧ (v = (((l.take k).getLast?.map toOf).getD 0) ∨ ∃ p, opens (l.take k) p = some v) ∧ Below w0.heap.size w0 wr)
        (fun _ wr => wr.rangeLeft w0.heap.size r)
      case atStart => exact ⟨_, _, _, rfl, hrg0, Int.le_refl _, fun p a ha hl => (by rw [((hsem p).2 a ha).1] at hl; cases hl), .inl rfl, hBq⟩
      case round =>
        obtain ⟨left, cnt, v, rfl, hrg, hv1, hv2, hv3, hBr⟩ := hrel
        go_wp2_with (first | (at_next; refine wpList_next_ranges_ii _ rfl _ rfl 35 3 .u64 .i64 law35 Try.underlying35 Try.underlying3 w0.heap.size r k _ _ _ rfl hrg ?_ ?_) | go_in)
        · intro hc0 hl0
          go_wp2
          go_ret
          exact ⟨_, rfl, by rw [hpre]; exact ⟨hv1, fun p a ha => hv2 p a ha (hl0 _), hv3⟩, hBr⟩
        · intro x c9 w1 cnt1 hwx hwc hlx hat hrg1 hlt1 hg1 hs1 hen
          have hopen : opens (l.take k) x = some c9 := by
            cases ho : opens (l.take k) x with
            | none =>
              have h0 := Maps.atKey_of_not_has ((hsem x).1 ho) (.lit (.int .i64 (c9 + 1)) : DataW Unit)
              rw [hat] at h0
              injection h0 with h0
              injection h0 with _ h0
              omega
            | some a =>
              have h0 := ((hsem x).2 a ho).2 (.lit (.int .i64 0))
              rw [hat] at h0
              injection h0 with h0
              injection h0 with _ h0
              rw [h0]
          go_wp2
          go_roundw
          case rel =>
            refine ⟨_, cnt1, _, rfl, hrg1, ?_, ?_, ?_, hBr.grown hg1 hBr.size (fun j hj => by cases hj; omega)⟩
            · split <;> omega
            · intro p a ha hl
              by_cases hp : left (.int .u64 p) = false
              · have := hv2 p a ha hp
                split <;> omega
              · have hp' : left (.int .u64 p) = true := by simpa using hp
                by_cases hpx : p = x
                · subst hpx
                  rw [hopen] at ha
                  obtain rfl := Option.some.inj ha
                  split <;> omega
                · rw [hp', Maps.sameKey_ne (key_ne hpx)] at hl
                  cases hl
            · split
              · exact .inr ⟨x, hopen⟩
              · exact hv3
          case measure => rw [hrg1.left_eq, hrg.left_eq]; exact hlt1

/-- model.Stable: what it computes. -/
theorem stable_calls (A : Option Addr) (c : Nat) (l : List S41) (high : Int) (w0 : World) (hr : Kd.C k41 w0 A l.length l) (hc : l.length ≤ c) (hmax : l.length < maxLen) (hwf : ∀ b ∈ l, (Lit.int .u64 b.f2).wf = true ∧ (Lit.int .i64 b.f0).wf = true) :
    Calls Try.prog 15 #[.slice A l.length c, .int .i64 high] w0 fun e w' => ∃ v, e = .returned (.int .i64 v) ∧ StabIs (l.takeWhile (fun b => decide (toOf b ≤ high))) v ∧ Below w0.heap.size w0 w' :=
  stable_walk A c l high w0 hr hc hmax hwf
end Go.Proofs.Ytnbdlkjphdfkpaa
