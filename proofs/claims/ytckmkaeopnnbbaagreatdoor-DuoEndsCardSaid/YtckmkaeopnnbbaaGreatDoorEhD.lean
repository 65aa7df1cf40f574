/- Plain Lean: the locks of the package duo come to an end by even picks. No program in sight. -/
import Derived.Test.YtckmkaeopnnbbaaGreatDoorGt
import Derived.Test.YtckmkaeopnnbbaaGreatDoorEnP
import Derived.Test.YtckmkaeopnnbbaaGreatDoorEnJ
import Derived.Test.YtckmkaeopnnbbaaGreatDoorDoK
import Derived.Test.YtckmkaeopnnbbaaGreatDoorTqW
set_option linter.unusedVariables false
set_option linter.unusedSimpArgs false
namespace Go.Proofs.YtckmkaeopnnbbaaGreatDoor.As.T

/-- What the law asks of even picks. -/
def EndsOk (codes : List (List Ins)) (mem : List Int) (room T R : Nat) : Prop := ∀ (w0 : Nat) (ws : List (Nat × Nat)), 4 * T ≤ w0 → ∀ q, ∃ s', Ts.run codes (ts0 (mem0 mem) room T) (turnsN (evenP T w0 ws (20 * w0)) q) = some s' ∧ (∃ i, oneF s'.evs = some i) ∧ (endedTo s' T = true → s'.mem.getD 0 0 = wr32 ((T : Int) * R)) ∧ (50 * (T + 1) * (sizeC codes T + 10) / 20 < q → endedTo s' T = true)
theorem ended_of {s : Ts} {T : Nat} (hs : ∀ t, t < T → ∃ th, s.ths[t]? = some th ∧ (th.st = 0 ∨ th.st = 2)) (hd : ∀ t, t < T → (s.th t).st ≠ 0 ∧ s.buf t = []) : endedTo s T = true := by
  unfold endedTo
  rw [List.all_eq_true]
  intro t ht
  have ht := List.mem_range.1 ht
  obtain ⟨th, h1, h2⟩ := hs t ht
  obtain ⟨h3, h4⟩ := hd t ht
  have e : s.th t = th := by unfold Ts.th; rw [h1]; rfl
  rw [e] at h3
  have h5 : th.st = 2 := by rcases h2 with h | h; exact absurd h h3; exact h
  unfold endedT
  rw [h1, h4]
  show (!(th.st == 0) && !(th.st == 1) && decide (([] : List (Nat × Int)).length = 0)) = true
  rw [h5]; rfl
theorem flat_rep {α : Type} (ls : List (List α)) : ∀ q : Nat, ((List.replicate q ls).flatten).flatten = (List.replicate q ls.flatten).flatten
  | 0 => rfl
  | q + 1 => by rw [List.replicate_succ, List.flatten_cons, List.flatten_append, flat_rep ls q, List.replicate_succ, List.flatten_cons]
theorem len_rep {α : Type} (ls : List α) : ∀ q : Nat, ((List.replicate q ls).flatten).length = q * ls.length
  | 0 => by simp
  | q + 1 => by rw [List.replicate_succ, List.flatten_cons, List.length_append, len_rep ls q, Nat.succ_mul]; omega
theorem mem_rep {α : Type} {ls : List α} {x : α} : ∀ q : Nat, x ∈ (List.replicate q ls).flatten → x ∈ ls
  | 0, h => by simp at h
  | q + 1, h => by
    rw [List.replicate_succ, List.flatten_cons] at h
    rcases List.mem_append.1 h with h | h
    · exact h
    · exact mem_rep q h
theorem ends_of {X : Lad} {codes : List (List Ins)} {J : Ts → Prop} {mem : List Int} {room R : Nat} (H : X.Fit codes J) (hJ0 : J (ts0 (mem0 mem) room X.T)) (hT0 : 0 < X.T)
    (hB : (X.T * X.K + 1) * sumN (fun t => X.wt t * (2 + 2 * (X.R * X.Lm t))) X.T + X.T * X.K ≤ 50 * (X.T + 1) * (sizeC codes X.T + 10))
    (hf : ∀ s, J s → (∃ i, oneF s.evs = some i) ∧ (endedTo s X.T = true → s.mem.getD 0 0 = wr32 ((X.T : Int) * R)) ∧ (X.Done s → endedTo s X.T = true)) : EndsOk codes mem room X.T R := fun w0 ws hw q => by
  obtain ⟨ls, h1, h2, h3⟩ := evenP_windows (T := X.T) (w := w0) ws hT0 (by omega) 20
  obtain ⟨s', k1, k2, k3⟩ := H.windows ((List.replicate q ls).flatten) _ (fun l hl => h3 l (mem_rep q hl)) hJ0
  rw [flat_rep, h2] at k1
  obtain ⟨f1, f2, f3⟩ := hf s' k2
  refine ⟨s', k1, f1, f2, fun hq => f3 ?_⟩
  rcases k3 with k3 | k3
  · exact k3
  · exfalso
    rw [len_rep, h1] at k3
    have hm := Lad.M_start (X := X) (s := ts0 (mem0 mem) room X.T) (fun t _ => buf0 _ _ _ _) H.lo
    omega
theorem size_of {T R : Nat} {Lb : Nat → Nat} {codes : List (List Ins)} (h : ∀ t, t < T → ∃ L, codes[t]? = some L ∧ L.length = R * Lb t) : ∀ n, n ≤ T → sumN (fun t => R * Lb t) n = sizeC codes n
  | 0, _ => rfl
  | n + 1, hn => by
    obtain ⟨L, h1, h2⟩ := h n (by omega)
    rw [sumN, sizeC, size_of h n (by omega), List.getD_eq_getElem?_getD, h1]
    show _ + R * Lb n = _ + L.length
    rw [h2]
theorem lk_ends {X : Lk} {s : Ts} {f : Nat → Loc} {i : Int} (h : X.Inv s f i) (hd : ∀ t, t < X.T → (s.th t).st ≠ 0 ∧ s.buf t = []) : endedTo s X.T = true :=
  ended_of (fun t ht => ⟨_, h.hs t ht, by
    rcases h.fr t ht with ⟨c, _⟩ | ⟨_, _, c⟩
    · exact .inl c
    · exact c⟩) hd
theorem wlk_ends {X : Wd.Lk} {s : Ts} {f : Nat → Loc} {i : Int} (h : X.Inv s f i) (hd : ∀ t, t < X.T → (s.th t).st ≠ 0 ∧ s.buf t = []) : endedTo s X.T = true :=
  ended_of (fun t ht => ⟨_, h.hs t ht, by
    rcases h.fr t ht with ⟨c, _⟩ | ⟨_, _, c⟩
    · exact .inl c
    · exact c⟩) hd
theorem pet_ends {A R room : Nat} (hA : A < 2) (hR0 : 0 < R) (hR : R ≤ 4) (hr : 0 < room) : EndsOk (codesR (lim (duF 6 A)) (lim (duG 6 A)) 2 R) (duM 6) room 2 R := by
  have hc : ∀ t, t < 2 → (codesR (lim (duF 6 A)) (lim (duG 6 A)) 2 R)[t]? = some (Pet.codeT A R t) := fun t ht => codes_at (duF 6 A) (duG 6 A) (by omega) ht
  have hz : 2 * (R * 38) = sizeC (codesR (lim (duF 6 A)) (lim (duG 6 A)) 2 R) 2 := by
    have := size_of (R := R) (T := 2) (Lb := fun _ => 38) (codes := codesR (lim (duF 6 A)) (lim (duG 6 A)) 2 R) (fun t ht => ⟨_, hc t ht, Pet.code_len A R t⟩) 2 (Nat.le_refl _)
    rw [← this]; show 2 * (R * 38) = 0 + R * 38 + R * 38; omega
  refine ends_of (X := Pet.L A R) (Pet.fit hA hR0 (by omega) hc) ⟨⟨_, _, inv0 (Pet.X A R) (duM 6) room rfl hR0 (Nat.zero_lt_succ _) rfl ⟨fun _ => 0, ⟨fun t ht => by
    rw [buf0]
    have e : (mem0 (duM 6)).getD (Pet.ownA A t) 0 = 0 := by rcases Pet.own_ne A t with ⟨e, _⟩ | ⟨e, _⟩ <;> rw [e] <;> rfl
    rw [e]
    exact Pet.At.a0H44 rfl rfl (by show (0 : Int) ≠ _; omega), fun _ _ _ _ _ h => absurd h (by decide), fun _ _ _ _ _ h => absurd h (by decide), .inl rfl⟩⟩⟩, hr⟩ (by show 0 < 2; decide) ?_ ?_
  · show (2 * 8 + 1) * (0 + 1 * (2 + 2 * (R * 38)) + 1 * (2 + 2 * (R * 38))) + 2 * 8 ≤ 50 * (2 + 1) * (sizeC (codesR (lim (duF 6 A)) (lim (duG 6 A)) 2 R) 2 + 10)
    rw [← hz]; omega
  · rintro s ⟨⟨f, i, h⟩, _⟩
    have hf := facts h
    exact ⟨hf.1, hf.2.2, fun hd => lk_ends h hd⟩
theorem dek_ends {A R room : Nat} (hA : A < 2) (hR0 : 0 < R) (hR : R ≤ 4) (hr : 0 < room) : EndsOk (codesR (lim (duF 7 A)) (lim (duG 7 A)) 2 R) (duM 7) room 2 R := by
  have hc : (codesR (lim (duF 7 A)) (lim (duG 7 A)) 2 R)[A]? = some (Dek.codeF R A) := by
    rw [codes_at (duF 7 A) (duG 7 A) (by omega) hA]
    show some (roundsR (resL (if A = A then linDekFast 16 A else linDekSlow 16 A)) (resL (if A = A then linDekOutA 16 A else linDekOutB 16 A)) R []) = _
    rw [if_pos rfl, if_pos rfl]; rfl
  have hc2 : (codesR (lim (duF 7 A)) (lim (duG 7 A)) 2 R)[1 - A]? = some (Dek.codeS R (1 - A)) := by
    rw [codes_at (duF 7 A) (duG 7 A) (t := 1 - A) (by omega) (by omega)]
    show some (roundsR (resL (if 1 - A = A then linDekFast 16 (1 - A) else linDekSlow 16 (1 - A))) (resL (if 1 - A = A then linDekOutA 16 (1 - A) else linDekOutB 16 (1 - A))) R []) = _
    rw [if_neg (by omega), if_neg (by omega)]; rfl
  have hz : R * 68 = sizeC (codesR (lim (duF 7 A)) (lim (duG 7 A)) 2 R) 2 := by
    have := size_of (R := R) (T := 2) (Lb := (Dek.L A R).Lb) (codes := codesR (lim (duF 7 A)) (lim (duG 7 A)) 2 R) (fun t ht => by
      by_cases e : t = A
      · subst e; exact ⟨_, hc, by rw [Dek.eLF]; exact Dek.codeF_len R t⟩
      · obtain rfl : t = 1 - A := by omega
        exact ⟨_, hc2, by rw [Dek.eLS hA]; exact Dek.codeS_len R _⟩) 2 (Nat.le_refl _)
    rw [← this]
    have : A = 0 ∨ A = 1 := by omega
    rcases this with rfl | rfl
    · show R * 68 = 0 + R * 36 + R * 32; omega
    · show R * 68 = 0 + R * 32 + R * 36; omega
  refine ends_of (X := Dek.L A R) (Dek.fit hA hR0 (by omega) hc hc2) ⟨⟨_, _, inv0W (Dek.X A R) (duM 7) room rfl hR0 (fun t => by show 0 < if t = A then 36 else 32; split <;> decide) (fun t => by show (if t = A then Dek.inF else Dek.inS) 0 = false; split <;> rfl) ⟨0, 0, 0, false, 0, by rw [buf0]; exact .nil, Dek.AtF.f0, ⟨fun e => by omega, fun e => by omega, fun _ => by show (0 : Int) ≠ _; unfold Dek.meN; omega⟩, rfl, by rw [buf0]; exact Dek.AtS.s0H44 rfl (by show (0 : Int) ≠ _; unfold Dek.meN; omega), rfl, fun e => absurd e (by decide), fun e => absurd e (by decide)⟩⟩, hr⟩ (by show 0 < 2; decide) ?_ ?_
  · show (2 * 1 + 1) * sumN (fun t => (Dek.L A R).wt t * (2 + 2 * (R * (Dek.L A R).Lm t))) 2 + 2 * 1 ≤ 50 * (2 + 1) * (sizeC (codesR (lim (duF 7 A)) (lim (duG 7 A)) 2 R) 2 + 10)
    have : sumN (fun t => (Dek.L A R).wt t * (2 + 2 * (R * (Dek.L A R).Lm t))) 2 = 1 * (2 + 2 * (R * 38)) + 23 * (2 + 2 * (R * 32)) := by
      have : A = 0 ∨ A = 1 := by omega
      rcases this with rfl | rfl
      · show 0 + 1 * (2 + 2 * (R * 38)) + 23 * (2 + 2 * (R * 32)) = _; omega
      · show 0 + 23 * (2 + 2 * (R * 32)) + 1 * (2 + 2 * (R * 38)) = _; omega
    rw [this, ← hz]; omega
  · rintro s ⟨⟨f, i, h⟩, _⟩
    have hf := factsW h
    exact ⟨hf.1, hf.2.2, fun hd => wlk_ends h hd⟩
theorem duo_ends (k A R room : Nat) (hk : k = 6 ∨ k = 7) (hA : A < 2) (hR0 : 0 < R) (hR : R ≤ 4) (hr : 0 < room) : EndsOk (codesR (lim (duF k A)) (lim (duG k A)) 2 R) (duM k) room 2 R := by
  rcases hk with rfl | rfl
  · exact pet_ends hA hR0 hR hr
  · exact dek_ends hA hR0 hR hr
end Go.Proofs.YtckmkaeopnnbbaaGreatDoor.As.T
