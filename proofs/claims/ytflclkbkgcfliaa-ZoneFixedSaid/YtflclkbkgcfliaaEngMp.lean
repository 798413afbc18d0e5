/- Maps whose keys are integers or strings: look-ups and stores, by the list of their entries. -/
import Derived.Test.YtflclkbkgcfliaaEngB
namespace Go.Eng
open Go.RowKit

def getK {α : Type} (m : List (Key × α)) (k : Key) (d : α) : α := ((m.find? (fun p => p.1 = k)).map (·.2)).getD d
def updK {α : Type} (m : List (Key × α)) (k : Key) (v : α) : List (Key × α) :=
  match m with
  | [] => [(k, v)]
  | p :: r => if p.1 = k then (k, v) :: r else p :: updK r k v
def MC.upd (c : MC) (k : Key) (v : Value) : Option MC :=
  match c, v with
  | .ints kd q m, .int q' n => if q' = q then some (.ints kd q (updK m k n)) else none
  | .bools kd m, .bool x => some (.bools kd (updK m k x))
  | _, _ => none
def kdesc : Bool → TypeDesc
  | true => .int .i64
  | false => .string

theorem Key.val_inj {a b : Key} (h : a.val = b.val) : a = b := by
  cases a <;> cases b <;> simp [Key.val] at h <;> simp [h]
theorem Key.isKey {a : Key} {kd : Bool} (h : a.isI = kd) : MapKept.IsKey (kdesc kd) a.val := by
  subst h; cases a <;> simp [Key.isI, kdesc, Key.val, MapKept.IsKey]

theorem updK_map {α β : Type} (f : α → β) (m : List (Key × α)) (k : Key) (v : α) : (updK m k v).map (fun p => (p.1, f p.2)) = updK (m.map fun p => (p.1, f p.2)) k (f v) := by
  induction m with
  | nil => simp [updK]
  | cons p r ih =>
    simp only [updK, List.map_cons]
    split <;> simp [ih]
theorem MC.upd_ents {c c' : MC} {k : Key} {v : Value} (h : c.upd k v = some c') : c'.ents = updK c.ents k v ∧ c'.kd = c.kd := by
  unfold MC.upd at h
  split at h
  · split at h
    · rename_i hq; subst hq
      injection h with h; subst h
      exact ⟨updK_map _ _ _ _, rfl⟩
    · cases h
  · injection h with h; subst h
    exact ⟨updK_map _ _ _ _, rfl⟩
  · cases h
theorem updK_none {α : Type} {m : List (Key × α)} {k : Key} (v : α) (h : ∀ p ∈ m, p.1 ≠ k) : updK m k v = m ++ [(k, v)] := by
  induction m with
  | nil => rfl
  | cons p r ih =>
    simp only [updK]
    rw [if_neg (h p (by simp)), ih (fun q hq => h q (by simp [hq]))]; rfl
theorem updK_at {α : Type} {m : List (Key × α)} {k : Key} {u : α} (v : α) (hn : (m.map (·.1)).Nodup) {j : Nat} (hj : m[j]? = some (k, u)) : updK m k v = m.set j (k, v) := by
  induction m generalizing j with
  | nil => simp at hj
  | cons p r ih =>
    simp only [List.map_cons, List.nodup_cons] at hn
    cases j with
    | zero => simp at hj; subst hj; simp [updK]
    | succ j =>
      simp at hj
      have hne : p.1 ≠ k := fun e => hn.1 (by rw [e]; exact List.mem_map.2 ⟨(k, u), List.mem_of_getElem? hj, rfl⟩)
      simp [updK, hne, ih hn.2 hj]
theorem mem_updK {α : Type} {m : List (Key × α)} {k : Key} {v : α} {p : Key × α} (h : p ∈ updK m k v) : p = (k, v) ∨ p ∈ m := by
  induction m with
  | nil => simp [updK] at h; exact .inl h
  | cons q r ih =>
    simp only [updK] at h
    split at h
    · rcases List.mem_cons.1 h with h | h
      · exact .inl h
      · exact .inr (by simp [h])
    · rcases List.mem_cons.1 h with h | h
      · exact .inr (by simp [h])
      · rcases ih h with h | h
        · exact .inl h
        · exact .inr (by simp [h])
theorem getK_none {α : Type} {m : List (Key × α)} {k : Key} (d : α) (h : ∀ p ∈ m, p.1 ≠ k) : getK m k d = d := by
  unfold getK
  rw [List.find?_eq_none.2 (fun p hp => by simpa using h p hp)]; rfl
theorem getK_at {α : Type} {m : List (Key × α)} {k : Key} {u : α} (d : α) (hn : (m.map (·.1)).Nodup) (h : (k, u) ∈ m) : getK m k d = u := by
  induction m with
  | nil => cases h
  | cons p r ih =>
    simp only [List.map_cons, List.nodup_cons] at hn
    rcases List.mem_cons.1 h with h | h
    · subst h; simp [getK]
    · have hne : p.1 ≠ k := fun e => hn.1 (by rw [e]; exact List.mem_map.2 ⟨(k, u), h, rfl⟩)
      have := ih hn.2 h
      simpa [getK, hne] using this

section
variable {P : Program} {w : World} {b : Nat} {c : MC} {kt : TypeId}

theorem ents_keys {es : Array MapEntry} {clock : Nat} (hl : es.toList.map (fun e => (e.key, e.val)) = c.ents.map (fun p => (p.1.val, p.2))) (hs : MapKept.Stamped es clock) : (c.ents.map (·.1)).Nodup := by
  have h1 : (es.toList.map (·.key)) = (c.ents.map (·.1)).map Key.val := by
    have := congrArg (List.map (·.1)) hl
    simpa [List.map_map, Function.comp_def] using this
  have h2 := hs.2.2
  rw [h1] at h2
  exact (List.nodup_iff_pairwise_ne.1 h2).of_map Key.val (fun a b h e => h (by rw [e]))

theorem find_ent {es : Array MapEntry} (hk : P.underlying kt = some (kdesc c.kd)) (hl : es.toList.map (fun e => (e.key, e.val)) = c.ents.map (fun p => (p.1.val, p.2))) (hw : ∀ p ∈ c.ents, p.1.isI = c.kd) (key : Key) (hkey : key.isI = c.kd) :
    ((Instr.findKey kt key.val es.toList).run P w = .ok none w ∧ (∀ p ∈ c.ents, p.1 ≠ key) ∧ ∀ e ∈ es.toList, e.key ≠ key.val) ∨ ∃ j e, (Instr.findKey kt key.val es.toList).run P w = .ok (some (j, e.val)) w ∧ es.toList[j]? = some e ∧ e.key = key.val ∧ c.ents[j]? = some (key, e.val) := by
  have hks : ∀ y ∈ es.toList, MapKept.IsKey (kdesc c.kd) y.key := fun y hy => by
    have : (y.key, y.val) ∈ c.ents.map (fun p => (p.1.val, p.2)) := hl ▸ List.mem_map.2 ⟨y, hy, rfl⟩
    obtain ⟨p, hp, he⟩ := List.mem_map.1 this
    simp only [Prod.mk.injEq] at he
    rw [← he.1]; exact Key.isKey (hw p hp)
  rcases MapKept.findNow_spec (Key.isKey hkey) es.toList 0 hks with ⟨h1, h2⟩ | ⟨j, e0, h1, h2, h3⟩
  · refine .inl ⟨MapKept.run_findKey hk h1, fun p hp e => ?_, h2⟩
    have : (p.1.val, p.2) ∈ es.toList.map (fun e => (e.key, e.val)) := hl ▸ List.mem_map.2 ⟨p, hp, rfl⟩
    obtain ⟨y, hy, he⟩ := List.mem_map.1 this
    simp only [Prod.mk.injEq] at he
    exact h2 y hy (by rw [he.1, e])
  · refine .inr ⟨j, e0, by simpa using MapKept.run_findKey hk h1, h2, h3, ?_⟩
    have h4 : (c.ents.map (fun p => (p.1.val, p.2)))[j]? = some (e0.key, e0.val) := by rw [← hl, List.getElem?_map, h2]; rfl
    rw [List.getElem?_map] at h4
    cases hc : c.ents[j]? with
    | none => rw [hc] at h4; cases h4
    | some p =>
      rw [hc] at h4
      simp at h4
      have := Key.val_inj (h4.1.trans h3)
      rw [← this, ← h4.2]

/-- m[k]. -/
theorem map_look {t e : TypeId} (h : MapAt w b c) (ht : P.underlying t = some (.map kt e)) (hk : P.underlying kt = some (kdesc c.kd)) {z : Value} (hz : (zeroValue e).run P w = .ok z w) (key : Key) (hkey : key.isI = c.kd) :
    (Instr.lookup t (.map (some b)) key.val false).run P w = .ok (getK c.ents key z) w := by
  obtain ⟨es, clock, hb, hl, hs, _, hw⟩ := h
  have hnd := ents_keys hl hs
  rcases find_ent (w := w) hk hl (fun p hp => (hw p hp).2.1) key hkey with ⟨h1, h2, _⟩ | ⟨j, e0, h1, _, _, h2⟩
  · simp [Instr.lookup, run_underlying ht, MapKept.run_getObj_map hb, MapKept.run_checkKey hk (Key.isKey hkey), h1, hz, Result.andThen, getK_none z h2]
  · simp [Instr.lookup, run_underlying ht, MapKept.run_getObj_map hb, MapKept.run_checkKey hk (Key.isKey hkey), h1, Result.andThen, getK_at z hnd (List.mem_of_getElem? h2)]

/-- m[k] = v. -/
theorem map_upd {t e : TypeId} (h : MapAt w b c) (ht : P.underlying t = some (.map kt e)) (hk : P.underlying kt = some (kdesc c.kd)) (key : Key) (hkey : key.isI = c.kd) (hkw : key.wf) {v : Value} (hv : vwf v) {c' : MC} (hc : c.upd key v = some c') (hn : c.ents.length < 9223372036854775807) :
    ∃ o, (Instr.mapUpdate t (.map (some b)) key.val v).run P w = .ok () { w with heap := w.heap.setIfInBounds b o } ∧ MapAt { w with heap := w.heap.setIfInBounds b o } b c' := by
  obtain ⟨es, clock, hb, hl, hs, hsz, hw⟩ := h
  have hnd := ents_keys hl hs
  have hlen : es.size = c.ents.length := by have := congrArg List.length hl; simpa using this
  have hlt := (Array.getElem?_eq_some_iff.1 hb).1
  obtain ⟨he, hkd⟩ := MC.upd_ents hc
  have hwn : ∀ p ∈ c'.ents, p.1.wf ∧ p.1.isI = c'.kd ∧ vwf p.2 := fun p hp => by
    rw [he] at hp
    rw [hkd]
    rcases mem_updK hp with rfl | hp
    · exact ⟨hkw, hkey, hv⟩
    · exact hw p hp
  rcases find_ent (w := w) hk hl (fun p hp => (hw p hp).2.1) key hkey with ⟨h1, h2, h3⟩ | ⟨j, e0, h1, h2, h3, h4⟩
  · refine ⟨.map (es.push ⟨key.val, v, clock⟩) (clock + 1), ?_, es.push ⟨key.val, v, clock⟩, clock + 1, by simp [hlt], ?_, ?_, by simp; omega, hwn⟩
    · simp [Instr.mapUpdate, run_underlying ht, MapKept.run_getObj_map hb, MapKept.run_checkKey hk (Key.isKey hkey), h1, MapKept.run_setObj_map _ hb, Result.andThen]
    · rw [he, updK_none v h2, Array.toList_push, List.map_append, hl]; simp
    · exact MapKept.stamped_push hs h3
  · have hj : es[j]? = some e0 := by simpa using h2
    have hlist : (es.modify j (fun e' => { e' with key := key.val, val := v })).toList = es.toList.set j { e0 with key := key.val, val := v } := by
      rw [Array.toList_modify, ChangeMaps.modify_eq_set _ _ _ _ h2]
    refine ⟨.map (es.modify j (fun e' => { e' with key := key.val, val := v })) clock, ?_, es.modify j (fun e' => { e' with key := key.val, val := v }), clock, by simp [hlt], ?_, ?_, by simpa using hsz, hwn⟩
    · simp [Instr.mapUpdate, run_underlying ht, MapKept.run_getObj_map hb, MapKept.run_checkKey hk (Key.isKey hkey), h1, hj, h3, MapKept.run_keyThatStays (Key.isKey hkey), MapKept.run_setObj_map _ hb, Result.andThen]
    · rw [he, updK_at v hnd h4, hlist, List.map_set, hl, List.map_set]
    · exact MapKept.stamped_modify hs _ _ (fun _ _ => rfl) (fun e' _ he' => by rw [hj] at he'; cases he'; exact h3.symm)
end
end Go.Eng
