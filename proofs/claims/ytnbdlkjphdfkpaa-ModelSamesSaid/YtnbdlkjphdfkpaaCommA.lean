/- model.Committed, plain: what the loop holds; laws on groups that the kit's texts lack. No conditions. -/
import Derived.Test.YtnbdlkjphdfkpaaStab
import Derived.Maps.GroupsBeside
import Derived.Laws.OwnMore
namespace Go.Proofs.Ytnbdlkjphdfkpaa
open Go Go.RowKit H Go.Proofs.YtnbdlkjphdfkpaaW.PrintWords
open Go.ChangeShapes (lits)
open Go.ChangeMaps Go.MapKept
open Go.WideElems (Fit rd rg pl rd_val elemAt rd_key rg_of)

/-- A slice's datum: nil, or its numbers. -/
def DG (d : DataW Unit) (zs : List Int) : Prop := (d = .nil ∧ zs = []) ∨ d = .slice (lits .i64 zs) []

theorem DG.unique {d : DataW Unit} {zs ys : List Int} (h : DG d zs) (h' : DG d ys) : zs = ys := by
  rcases h with ⟨rfl, rfl⟩ | rfl
  · rcases h' with ⟨_, rfl⟩ | h'
    · rfl
    · cases h'
  · rcases h' with ⟨h', _⟩ | h'
    · cases h'
    · injection h' with h'
      exact (List.map_inj_right (fun a b hab => by injection hab with hab; injection hab)).1 h'

/-- The places of a producer's batches that are open, behind k batches. -/
def grp (l : List S41) (p : Int) : Nat → List Int
  | 0 => []
  | k + 1 => match l[k]? with
    | some b => if b.f2 = p then (if b.f6 = true then [] else if b.f5 = true then grp l p k ++ [(k : Int)] else grp l p k) else grp l p k
    | none => grp l p k

theorem grp_mem (l : List S41) (p : Int) (k : Nat) : ∀ z ∈ grp l p k, 0 ≤ z ∧ z < k := by
  induction k with
  | zero => intro z hz; simp [grp] at hz
  | succ k ih =>
    have ih' : ∀ z ∈ grp l p k, 0 ≤ z ∧ z < ((k + 1 : Nat) : Int) := fun z hz => ⟨(ih z hz).1, by have := (ih z hz).2; omega⟩
    intro z hz
    unfold grp at hz
    split at hz
    · split at hz
      · split at hz
        · simp at hz
        · split at hz
          · rcases List.mem_append.1 hz with hz | hz
            · exact ih' z hz
            · obtain rfl : z = (k : Int) := by simpa using hz
              omega
          · exact ih' z hz
      · exact ih' z hz
    · exact ih' z hz

/-- Every place of a list is set. -/
def setAll (es : List Bool) (ks : List Int) (v : Bool) : List Bool := ks.foldl (fun es k => es.set k.toNat v) es

theorem setAll_len (es : List Bool) (ks : List Int) (v : Bool) : (setAll es ks v).length = es.length := by
  induction ks generalizing es with
  | nil => rfl
  | cons z ks ih => exact (ih _).trans (by simp)

theorem setAll_snoc (es : List Bool) (ks : List Int) (z : Int) (v : Bool) : setAll es (ks ++ [z]) v = (setAll es ks v).set z.toNat v := by simp [setAll]

/-- Which batches are committed, behind k batches. -/
def ends (l : List S41) : Nat → List Bool
  | 0 => List.replicate l.length false
  | k + 1 => match l[k]? with
    | some b => if b.f6 = true then setAll (ends l k) (grp l b.f2 k) b.f7 else if b.f5 = true then ends l k else (ends l k).set k true
    | none => ends l k

theorem ends_len (l : List S41) (k : Nat) : (ends l k).length = l.length := by
  induction k with
  | zero => simp [ends]
  | succ k ih =>
    unfold ends
    split
    · split
      · rw [setAll_len, ih]
      · split
        · exact ih
        · rw [List.length_set, ih]
    · exact ih

theorem ends_ctl {l : List S41} {k : Nat} {b : S41} (hb : l[k]? = some b) (h6 : b.f6 = true) : ends l (k + 1) = setAll (ends l k) (grp l b.f2 k) b.f7 := by
  conv => lhs; unfold ends
  rw [hb]
  simp [h6]
theorem ends_txn {l : List S41} {k : Nat} {b : S41} (hb : l[k]? = some b) (h6 : b.f6 = false) (h5 : b.f5 = true) : ends l (k + 1) = ends l k := by
  conv => lhs; unfold ends
  rw [hb]
  simp [h6, h5]
theorem ends_plain {l : List S41} {k : Nat} {b : S41} (hb : l[k]? = some b) (h6 : b.f6 = false) (h5 : b.f5 = false) : ends l (k + 1) = (ends l k).set k true := by
  conv => lhs; unfold ends
  rw [hb]
  simp [h6, h5]

/-- The map holds the places that are open. -/
def SemG (l : List S41) (D : DataW Unit) (k : Nat) : Prop := ∀ p, DG (D.atKey (.int .u64 p) .nil) (grp l p k)

section
variable {l : List S41} {D : DataW Unit} {k : Nat} {b : S41}

theorem semg_put {d : DataW Unit} {zs : List Int} (h : SemG l D k) (hm : Maps.IsMap D) (hb : l[k]? = some b) (hd : DG d zs) (hz : zs = if b.f6 = true then [] else grp l b.f2 k ++ [(k : Int)]) (h5 : b.f6 = true ∨ b.f5 = true) : SemG l (D.put (.int .u64 b.f2) d) (k + 1) := by
  intro p
  have hg : grp l p (k + 1) = if b.f2 = p then (if b.f6 = true then [] else if b.f5 = true then grp l p k ++ [(k : Int)] else grp l p k) else grp l p k := by
    conv => lhs; unfold grp
    rw [hb]
  rw [hg]
  by_cases hp : b.f2 = p
  · subst hp
    rw [if_pos rfl, Maps.atKey_put_same hm (show WideAt.IsKeyLit (.int .u64 b.f2) from trivial)]
    subst hz
    rcases h5 with h6 | h5
    · rw [if_pos h6] at hd ⊢; exact hd
    · by_cases h6 : b.f6 = true
      · rw [if_pos h6] at hd ⊢; exact hd
      · rw [if_neg h6] at hd ⊢; rw [if_pos h5]; exact hd
  · rw [if_neg hp, Maps.atKey_put_other (key_ne (fun e => hp e.symm))]
    exact h p

theorem semg_same (h : SemG l D k) (hb : l[k]? = some b) (h6 : b.f6 = false) (h5 : b.f5 = false) : SemG l D (k + 1) := by
  intro p
  have hg : grp l p (k + 1) = grp l p k := by
    conv => lhs; unfold grp
    rw [hb]
    simp [h6, h5]
  rw [hg]
  exact h p
end

section
variable {P : Program} {k t E e : TypeId} {q : IntKind} {base b n : Nat} {D : DataW Unit} {w w' : World} {key : Value} {kl : Lit}

theorem grown_of_below (h : Below w.heap.size w w') : w.grownBy w' none := ⟨h.os, h.tape, h.output, h.size, fun k hk _ => h.block k hk⟩

theorem groups_grown (h : w.ownsGroups P k base e q b n D) (hg : w.grownBy w' none) : w'.ownsGroups P k base e q b n D :=
  h.kept hg (by simp) (fun es clock _ x _ => by cases x.val.ownBlock <;> simp)

/-- The groups take nil at a key. -/
theorem groups_nil (h : w.ownsGroups P k base e q b n D) (K : Maps.Keyed P k) (ht : P.underlying t = some (.map k E)) (hn : n < maxLen) (hkey : keyOf P k key = some kl) : w.groupBack P t k base e q b n D key kl (.slice none 0 0) := by
  obtain ⟨es, clock, hb, F, hs, rfl, hbb, hlen, hap⟩ := h
  exact groups_back K ht hb F hs hn hbb hlen hap hkey (fun x _ _ => by cases x.val.ownBlock <;> simp [Value.ownBlock]) (by simp [Value.ownBlock])

theorem groups_mono (h : w.ownsGroups P k base e q b n D) {m : Nat} (hm : n ≤ m) : w.ownsGroups P k base e q b m D := by
  obtain ⟨es, clock, hb, F, hs, hD, hbb, hlen, hap⟩ := h
  exact ⟨es, clock, hb, F, Nat.le_trans hs hm, hD, hbb, fun x hx zs ho => Nat.le_trans (hlen x hx zs ho) hm, hap⟩

theorem groups_isMap (h : w.ownsGroups P k base e q b n D) : Maps.IsMap D := by
  obtain ⟨es, clock, hb, F, hs, rfl, _⟩ := h
  exact ⟨_, rfl⟩

/-- What a look-up hands back hangs on the map's block alone. -/
theorem look_same {R : Value → Option (DataW Unit × List MemPlace)} {es : Array MapEntry} {clock : Nat} (K : Maps.Keyed P k) (ht : P.underlying t = some (.map k E)) {z v : Value} (hz : (zeroValue E).run P w = .ok z w) (hz' : (zeroValue E).run P w' = .ok z w')
    (hb : w.heap[b]? = some (.map es clock)) (hb' : w'.heap[b]? = some (.map es clock)) (F : Fit P k R es clock) (hkey : keyOf P k key = some kl)
    (hrun : (Instr.lookup t (.map (some b)) key false).run P w = .ok v w) : (Instr.lookup t (.map (some b)) key false).run P w' = .ok v w' := by
  rcases Maps.fit_look false K ht hz hb F hkey with ⟨h1, h2, _⟩ | ⟨e0, y, h1, h2, h3, _⟩
  · rcases Maps.fit_look false K ht hz' hb' F hkey with ⟨g1, _, _⟩ | ⟨e1, y1, g1, g2, _⟩
    · rw [hrun] at h1
      injection h1 with h1
      rw [g1, h1]
    · exact absurd g2 (h2 e1 g1)
  · rcases Maps.fit_look false K ht hz' hb' F hkey with ⟨_, g2, _⟩ | ⟨e1, y1, g1, g2, g3, _⟩
    · exact absurd h2 (g2 e0 h1)
    · have he : e0 = e1 := by
        have hap := Maps.fit_apart K F
        rw [List.pairwise_map] at hap
        obtain ⟨i, hi, rfl⟩ := List.getElem_of_mem h1
        obtain ⟨j, hj, rfl⟩ := List.getElem_of_mem g1
        have hk : ∀ (x : MapEntry), x ∈ es.toList → x.key = key → (rg P k R x).1 = kl := fun x hx hxk => by
          obtain ⟨y, hy⟩ := F.reads x hx
          have := rd_key hy
          rw [hxk, hkey] at this
          rw [rg_of hy]
          exact (Option.some.inj this).symm
        have e1 := (hk _ (List.getElem_mem hi) h2).trans (hk _ (List.getElem_mem hj) g2).symm
        rcases Nat.lt_trichotomy i j with hij | rfl | hij
        · exact absurd e1 (List.pairwise_iff_getElem.1 hap i j hi hj hij)
        · rfl
        · exact absurd e1.symm (List.pairwise_iff_getElem.1 hap j i hj hi hij)
      subst he
      rw [hrun] at h3
      injection h3 with h3
      rw [g3, h3]
end

/-- One record of a batch. -/
def recOf (b : S41) (i : Nat) : S37 := ⟨wrap64 (b.f0 + i), b.f2, strOfNums (b.f8.getD i [])⟩
/-- The first records of a batch. -/
def recs (b : S41) (n : Nat) : List S37 := (List.range n).map (recOf b)

theorem recs_succ (b : S41) (n : Nat) : recs b (n + 1) = recs b n ++ [recOf b n] := by simp [recs, List.range_succ]

/-- The records of the first batches, of those that are committed. -/
def upto (l : List S41) (es : List Bool) : Nat → List S37
  | 0 => []
  | k + 1 => upto l es k ++ (match l[k]? with | some b => if es.getD k false = true then recs b b.f8.length else [] | none => [])

theorem upto_yes {l : List S41} {es : List Bool} {k : Nat} {b : S41} (hb : l[k]? = some b) (h : es.getD k false = true) : upto l es (k + 1) = upto l es k ++ recs b b.f8.length := by
  conv => lhs; unfold upto
  rw [hb]
  simp only [h, if_true]

theorem upto_no {l : List S41} {es : List Bool} {k : Nat} {b : S41} (hb : l[k]? = some b) (h : es.getD k false = false) : upto l es (k + 1) = upto l es k := by
  conv => lhs; unfold upto
  rw [hb]
  show _ ++ (if es.getD k false = true then _ else _) = _
  rw [if_neg (by rw [h]; exact Bool.false_ne_true), List.append_nil]

theorem upto_mono (l : List S41) (es : List Bool) {i j : Nat} (h : i ≤ j) : (upto l es i).length ≤ (upto l es j).length := by
  induction j with
  | zero => obtain rfl : i = 0 := by omega
            exact Nat.le_refl _
  | succ j ih =>
    rcases Nat.lt_or_ge i (j + 1) with h1 | h1
    · refine Nat.le_trans (ih (by omega)) ?_
      rw [upto, List.length_append]
      omega
    · obtain rfl : i = j + 1 := by omega
      exact Nat.le_refl _

/-- A record's cells. -/
def cells37 (x : S37) : List Value := [.int .i64 x.f0, .int .u64 x.f1, .string x.f2]
end Go.Proofs.Ytnbdlkjphdfkpaa
