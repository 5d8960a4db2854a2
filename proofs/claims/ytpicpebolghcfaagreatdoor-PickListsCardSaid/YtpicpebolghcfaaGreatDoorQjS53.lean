/- Plain laws of layer 22: a number's one record has one word; canonical words. -/
import Derived.Test.YtpicpebolghcfaaGreatDoorQjInv
import Derived.Test.YtpicpebolghcfaaGreatDoorQjW9r

namespace Go.Proofs.YtpicpebolghcfaaGreatDoor
open Go.RowKit
set_option linter.unusedVariables false

theorem number_bd {k : Int} (h : numberB k = true) : 1 ≤ k ∧ k ≤ 14 := by
  unfold numberB at h
  exact of_decide_eq_true h

theorem view_scalar {fs : List FieldD} {bs : List UInt8} {v : ViewD} (hv : v ∈ (viewsV fs bs).1) {i : Nat} {f : FieldD} (hi : v.field = (i : Nat)) (hf : fs[i]? = some f) (hr : v.run = false) (hn : numberB f.kind = true) :
    stepN f.kind (valueO bs v) = ((valueO bs v).length, 0) ∧ 1 ≤ (valueO bs v).length := by
  obtain ⟨h1, h2⟩ := viewsV_each fs bs v hv
  have hb := view_bd hv
  have hk := number_bd hn
  have hw : wireI f.kind = (v.r.w : Int) := by
    rcases seenV_find fs v.r with ⟨_, hs⟩ | ⟨k, g, _, hg, _, _, hs⟩
    · rw [hs] at h2
      have := congrArg (fun x : ViewD × Nat => x.1.field) h2
      simp only at this
      omega
    · rw [hs] at h2
      by_cases hc : (g.rep && numberB g.kind && v.r.w == 2) = true
      · rw [if_pos hc] at h2
        have := congrArg (fun x : ViewD × Nat => x.1.run) h2
        simp only at this
        rw [hr] at this
        cases this
      · rw [if_neg hc] at h2
        by_cases hd : kindB g.kind = true ∧ wireI g.kind = (v.r.w : Int)
        · rw [if_pos hd] at h2
          have := congrArg (fun x : ViewD × Nat => x.1.field) h2
          simp only at this
          have hki : k = i := by omega
          subst hki
          rw [hf] at hg
          cases hg
          exact hd.2
        · rw [if_neg hd] at h2
          have := congrArg Prod.snd h2
          simp at this
  have hh := span_head h1
  have hsp : valueO bs v = (spanB bs v.r.f v.r.t).drop (v.r.a - v.r.f) := by
    unfold valueO spanB
    rw [List.drop_drop, show v.r.f + (v.r.a - v.r.f) = v.r.a by omega]
  have hsl := spanB_length bs (a := v.r.f) (t := v.r.t) (by omega)
  generalize spanB bs v.r.f v.r.t = sp at *
  rcases headV_cases sp with ⟨C, hC, h0, _⟩ | ⟨T, V, N, a, g, _, hz, hle, hN, hh2⟩
  · rw [hC] at hh
    have := congrArg (fun x : Nat × Nat × Nat × Nat × Nat => x.2.2.2.2) hh
    simp only at this
    omega
  · rw [hh] at hh2
    simp only [Prod.mk.injEq] at hh2
    obtain ⟨_, rfl, e3, e4, _⟩ := hh2
    have hvl : (valueO bs v).length = g := by rw [hsp, List.length_drop, e3]; omega
    unfold sizeV at hz
    unfold wireI at hw
    by_cases h8 : f.kind ≤ 8
    · rw [if_pos h8] at hw
      have hV : v.r.w = 0 := by omega
      rw [if_pos hV] at hz
      simp only [Prod.mk.injEq] at hz
      obtain ⟨rfl, hg, hc⟩ := hz
      rw [Nat.add_zero] at e3
      rw [e3] at hsp
      rw [← hsp] at hg hc
      have hbd := readV_bd (valueO bs v)
      have := hbd.2.2.2.2.1 hc
      unfold stepN
      rw [if_pos (by omega), hg, hc]
      exact ⟨by rw [hvl], by omega⟩
    · rw [if_neg h8] at hw
      by_cases h11 : f.kind ≤ 11
      · rw [if_pos h11] at hw
        have hV : v.r.w = 5 := by omega
        rw [hV] at hz
        simp at hz
        obtain ⟨rfl, rfl⟩ := hz
        unfold stepN
        rw [if_neg (by omega), if_pos (by omega), if_neg (by omega)]
        exact ⟨by rw [hvl], by omega⟩
      · rw [if_neg h11, if_pos (by omega)] at hw
        have hV : v.r.w = 1 := by omega
        rw [hV] at hz
        simp at hz
        obtain ⟨rfl, rfl⟩ := hz
        unfold stepN
        rw [if_neg (by omega), if_neg (by omega), if_neg (by omega)]
        exact ⟨by rw [hvl], by omega⟩

theorem vals_one {k : Int} {b : List UInt8} (hk : numberB k = true) (h : stepN k b = (b.length, 0)) (hl : 1 ≤ b.length) : valsV k b = [(b, 0)] := by
  unfold valsV
  rw [if_neg (by rw [hk]; simp)]
  obtain ⟨n, hn⟩ : ∃ n, b.length = n + 1 := ⟨b.length - 1, by omega⟩
  rw [hn]
  unfold valsF
  have hb : b ≠ [] := fun e => by rw [e] at hl; simp at hl
  rw [if_neg hb, h, if_pos rfl, List.take_of_length_le (Nat.le_refl _), List.drop_of_length_le (Nat.le_refl _)]
  cases n <;> simp [valsF]

theorem words_one {k : Int} {b : List UInt8} (hk : numberB k = true) (h : stepN k b = (b.length, 0)) (hl : 1 ≤ b.length) : wordsV k b = ([(readS k b).1], 0) := by
  have hv := vals_one hk h hl
  have hc : codeV k b = 0 := by unfold codeV; rw [hv]; rfl
  unfold wordsV
  rw [hc, if_pos rfl, hv]
  rfl

theorem piece_word {fs : List FieldD} {bs : List UInt8} {x : Int} {f : FieldD} (hf : fs.find? (numP x) = some f) (hrep : f.rep = false) (hn : numberB f.kind = true) : ∀ b ∈ piecesN fs bs x, ∃ w, wordsV f.kind b = ([w], 0) := by
  intro b hb
  unfold piecesN at hb
  obtain ⟨v, hv, rfl⟩ := List.mem_map.1 hb
  obtain ⟨hv1, hv2⟩ := List.mem_filter.1 hv
  have hx : (v.r.n : Int) = x := by unfold ofP at hv2; simpa using hv2
  obtain ⟨h1, h2⟩ := viewsV_each fs bs v hv1
  rcases seenV_find fs v.r with ⟨hno, _⟩ | ⟨k, g, hg, hk, _, _, hs⟩
  · rw [hx, hf] at hno
    cases hno
  · rw [hx, hf] at hg
    cases hg
    rw [hs] at h2
    rw [if_neg (by rw [hrep]; simp)] at h2
    by_cases hd : kindB f.kind = true ∧ wireI f.kind = (v.r.w : Int)
    · rw [if_pos hd] at h2
      have e1 := congrArg (fun x : ViewD × Nat => x.1.field) h2
      have e2 := congrArg (fun x : ViewD × Nat => x.1.run) h2
      simp only at e1 e2
      obtain ⟨s1, s2⟩ := view_scalar hv1 e1.symm hk e2.symm hn
      exact ⟨_, words_one hn s1 s2⟩
    · rw [if_neg hd] at h2
      have := congrArg Prod.snd h2
      simp at this

theorem pieceW_word {S : List MsgD} {f : FieldD} (hrep : f.rep = false) (hn : numberB f.kind = true) : ∀ {way : List Int} {m : Nat} {bs : List UInt8}, OnWay S m way f → ∀ b ∈ piecesW S m bs way, ∃ w, wordsV f.kind b = ([w], 0)
  | _, m, bs, .last (n := n) h, b, hb => by
    unfold fieldAt at h
    rcases hM : S[m]? with _ | M
    · rw [hM] at h; cases h
    · rw [hM] at h
      unfold piecesW fieldsOf at hb
      rw [if_pos rfl, hM] at hb
      exact piece_word h hrep hn b hb
  | _, m, bs, .step (n := n) (l := l) h hk hr t, b, hb => by
    unfold piecesW at hb
    rw [if_neg t.ne, h] at hb
    exact pieceW_word hrep hn t b hb

end Go.Proofs.YtpicpebolghcfaaGreatDoor
