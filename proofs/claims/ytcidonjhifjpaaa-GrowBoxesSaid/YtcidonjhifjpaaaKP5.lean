/- Chapter 8: GrowBoxes. -/
import Derived.Test.YtcidonjhifjpaaaKP2
namespace Go.AM.K
variable {α : Type}
set_option linter.unusedVariables false

/-- A right layer. -/
def lOk (a : Int × Int × Int) : Bool := (decide (5000 ≤ a.1) && decide (a.1 ≤ 80000)) && ((decide (0 ≤ a.2.1) && decide (a.2.1 ≤ 80000)) && (decide (0 ≤ a.2.2) && decide (a.2.2 ≤ 1000000)))

theorem f136_eq {n lo hi : Int} {k : Bool → Option α} : f136_0 α n lo hi k = k (decide (lo ≤ n) && decide (n ≤ hi)) := by simp only [f136_0, f136_0g]; exact cK_and
theorem f133_eq {n : Int} {k : Bool → Option α} : f133_0 α n k = k (decide (5000 ≤ n) && decide (n ≤ 80000)) := by simp only [f133_0, f133_0g, f136_eq]
theorem f134_eq {n : Int} {k : Bool → Option α} : f134_0 α n k = k (decide (0 ≤ n) && decide (n ≤ 80000)) := by simp only [f134_0, f134_0g, f136_eq]
theorem f135_eq {n : Int} {k : Bool → Option α} : f135_0 α n k = k (decide (0 ≤ n) && decide (n ≤ 1000000)) := by simp only [f135_0, f135_0g, f136_eq]
theorem f137_eq {n d : Int} {k : Int → Option α} (hd : 0 < d) (hd2 : d ≤ 4611686018427387903) (hn : 0 ≤ n ∧ n ≤ 4611686018427387904) : f137_0 α n d k = k (cdv n d) := by
  have hd' : (d != 0) = true := by simpa using Int.ne_of_gt hd
  simp only [f137_0, f137_0g, hd', gK_true]
  rw [w64_in (n := n + d) (by omega) (by omega), w64_in (n := n + d - 1) (by omega) (by omega), tdiv_pos (by omega), up_cdv hd, w64_in]
  · rw [← up_cdv hd]
    have := Int.ediv_nonneg (a := n + d - 1) (b := d) (by omega) (by omega); omega
  · rw [← up_cdv hd]
    refine Int.ediv_le_of_le_mul hd ?_
    have : 9223372036854775807 * 1 ≤ 9223372036854775807 * d := Int.mul_le_mul_of_nonneg_left (by omega) (by omega)
    omega

/-- All of a list, or not. -/
def allK {A : Type} (p : A → Bool) (bad : Option α) : A → Unit → (Unit → Option α) → Option α := fun a _ k => cK (p a) (k ()) bad
theorem run_all {A : Type} {p : A → Bool} {bad : Option α} {fin : Unit → Option α} : ∀ (l : List A), runL (allK p bad) fin l () = if l.all p then fin () else bad
  | [] => rfl
  | a :: r => by
    simp only [runL, allK, List.all_cons]
    by_cases hp : p a = true
    · simp only [hp, cK_true, Bool.true_and]; exact run_all r
    · have hp : p a = false := by simpa using hp
      simp [hp]

theorem chk3 {a : Int × Int × Int} {x y : Option α} : cK (!(decide (5000 ≤ a.1) && decide (a.1 ≤ 80000))) y (cK (!(decide (0 ≤ a.2.1) && decide (a.2.1 ≤ 80000))) y (cK (!(decide (0 ≤ a.2.2) && decide (a.2.2 ≤ 1000000))) y x)) = cK (lOk a) x y := by
  unfold lOk
  cases (decide (5000 ≤ a.1) && decide (a.1 ≤ 80000)) <;> cases (decide (0 ≤ a.2.1) && decide (a.2.1 ≤ 80000)) <;> cases (decide (0 ≤ a.2.2) && decide (a.2.2 ≤ 1000000)) <;> rfl

theorem L66_0 {D : List (Int × Int × Int)} {k1 : Option α} {k2 : Int → Bool → Option α} {fin : Option α} (hk : ∀ a b, k2 a b = fin) (hl : D.length < 1000) : L66_0_0 α (D.map rI3) ((D.length : Nat) : Int) k1 k2 0 = if D.all lOk then fin else k1 := by
  rw [← run_all (fin := fun _ => fin) D]
  refine (loop_list0 (R := fun n i (_ : Unit) => R66_0_0 α (D.map rI3) ((D.length : Nat) : Int) k1 k2 n i) (by omega) (fun n i h s => ?_) (fun n s => ?_))
  · have hi : (i : Int) < (D.length : Nat) := by omega
    simp only [R66_0_0, S66_0_0, S66_0_0g, hi, decide_true, cK_true, f78_eq]
    rw [rowK_I3 h, w64_nat h (by omega), chk3]; rfl
  · simp only [R66_0_0, S66_0_0, S66_0_0g, Int.lt_irrefl, decide_false, cK_false, hk]

theorem L68_0 {D : List (Int × Int × Int)} {k1 : Option α} {k2 : Int → Bool → Option α} {fin : Option α} (hk : ∀ a b, k2 a b = fin) (hl : D.length < 1000) : L68_0_0 α (D.map rI3) k1 k2 0 = if D.all lOk then fin else k1 := by
  rw [← run_all (fin := fun _ => fin) D]
  refine (loop_list0 (R := fun n i (_ : Unit) => R68_0_0 α (D.map rI3) k1 k2 n i) (by omega) (fun n i h s => ?_) (fun n s => ?_))
  · have hi : (i : Int) < (D.length : Nat) := by omega
    simp only [R68_0_0, S68_0_0, S68_0_0g, List.length_map, hi, decide_true, cK_true, f19_eq]
    rw [rowK_I3 h, w64_nat h (by omega), chk3]; rfl
  · simp only [R68_0_0, S68_0_0, S68_0_0g, List.length_map, Int.lt_irrefl, decide_false, cK_false, hk]

theorem L118_0 {D : List (Int × Int × Int)} {k1 : Option α} {k2 : Int → Bool → Option α} {fin : Option α} (hk : ∀ a b, k2 a b = fin) (hl : D.length < 1000) : L118_0_0 α (D.map rI3) ((D.length : Nat) : Int) k1 k2 0 = if D.all lOk then fin else k1 := by
  rw [← run_all (fin := fun _ => fin) D]
  refine (loop_list0 (R := fun n i (_ : Unit) => R118_0_0 α (D.map rI3) ((D.length : Nat) : Int) k1 k2 n i) (by omega) (fun n i h s => ?_) (fun n s => ?_))
  · have hi : (i : Int) < (D.length : Nat) := by omega
    simp only [R118_0_0, S118_0_0, S118_0_0g, hi, decide_true, cK_true, f133_eq, f134_eq, f135_eq]
    rw [rowK_I3 h, w64_nat h (by omega), chk3]; rfl
  · simp only [R118_0_0, S118_0_0, S118_0_0g, Int.lt_irrefl, decide_false, cK_false, hk]

/-- The first wrong range's error. -/
def errK (k1 : Int → Option α) : Int × Int → Unit → (Unit → Option α) → Option α := fun a _ k => cK (rErr 0 1000000 a.1 a.2 != 0) (k1 (rErr 0 1000000 a.1 a.2)) (k ())

theorem L66_1 {G : List (Int × Int)} {k1 : Int → Option α} {k2 : Int → Bool → Option α} {fin : Option α} (hk : ∀ a b, k2 a b = fin) (hl : G.length < 1000) : L66_0_1 α (G.map rI2) ((G.length : Nat) : Int) k1 k2 0 = runL (errK k1) (fun _ => fin) G () := by
  refine (loop_list0 (R := fun n i (_ : Unit) => R66_0_1 α (G.map rI2) ((G.length : Nat) : Int) k1 k2 n i) (by omega) (fun n i h s => ?_) (fun n s => ?_))
  · have hi : (i : Int) < (G.length : Nat) := by omega
    simp only [R66_0_1, S66_0_1, S66_0_1g, hi, decide_true, cK_true, f117_eq]
    rw [rowK_I2 h, w64_nat h (by omega)]; rfl
  · simp only [R66_0_1, S66_0_1, S66_0_1g, Int.lt_irrefl, decide_false, cK_false, hk]

theorem L68_1 {G : List (Int × Int)} {k1 : Int → Option α} {k2 : Int → Bool → Option α} {fin : Option α} (hk : ∀ a b, k2 a b = fin) (hl : G.length < 1000) : L68_0_1 α (G.map rI2) k1 k2 0 = runL (errK k1) (fun _ => fin) G () := by
  refine (loop_list0 (R := fun n i (_ : Unit) => R68_0_1 α (G.map rI2) k1 k2 n i) (by omega) (fun n i h s => ?_) (fun n s => ?_))
  · have hi : (i : Int) < (G.length : Nat) := by omega
    simp only [R68_0_1, S68_0_1, S68_0_1g, List.length_map, hi, decide_true, cK_true, f93_eq]
    rw [rowK_I2 h, w64_nat h (by omega)]; rfl
  · simp only [R68_0_1, S68_0_1, S68_0_1g, List.length_map, Int.lt_irrefl, decide_false, cK_false, hk]


abbrev rI5 (a : Int × Int × Int × Int × Int) : List DC := [.v (.int .i64 a.1), .v (.int .i64 a.2.1), .v (.int .i64 a.2.2.1), .v (.int .i64 a.2.2.2.1), .v (.int .i64 a.2.2.2.2)]

/-- A box by its thickness as it is, and with an error. -/
def mkG (g : Int × Int) (a : Int × Int × Int) : Int × Int × Int × Int × Int := (a.1, a.1, g.1, g.2, a.2.1)
def mkE (e : Int) (a : Int × Int × Int) : Int × Int × Int × Int × Int := (a.1, a.1, (if a.2.2 - cdv (a.2.2 * e) 1000 > 0 then a.2.2 - cdv (a.2.2 * e) 1000 else 0), a.2.2 + cdv (a.2.2 * e) 1000, a.2.1)

def boxK (e : Int) (bad : Option α) : Int × Int × Int → List (Int × Int × Int × Int × Int) → (List (Int × Int × Int × Int × Int) → Option α) → Option α :=
  fun a s k => cK (decide (1000000 < a.2.2 + cdv (a.2.2 * e) 1000)) bad (k (s ++ [mkE e a]))

theorem run_box {e : Int} {bad : Option α} {fin : List (Int × Int × Int × Int × Int) → Option α} : ∀ (l : List (Int × Int × Int)) (s : List (Int × Int × Int × Int × Int)),
    runL (boxK e bad) fin l s = if l.all (fun a => !decide (1000000 < a.2.2 + cdv (a.2.2 * e) 1000)) then fin (s ++ l.map (mkE e)) else bad
  | [], s => by simp [runL]
  | a :: r, s => by
    simp only [runL, boxK, List.all_cons]
    by_cases hp : 1000000 < a.2.2 + cdv (a.2.2 * e) 1000
    · simp [hp]
    · simp only [hp, decide_false, cK_false, Bool.not_false, Bool.true_and]
      have := run_box (e := e) (bad := bad) (fin := fin) r (s ++ [mkE e a])
      rw [this]
      simp

theorem cdv_bd {t e : Int} (ht : 0 ≤ t ∧ t ≤ 1000000) (he : 0 ≤ e ∧ e ≤ 1000) : 0 ≤ cdv (t * e) 1000 ∧ cdv (t * e) 1000 ≤ 1000000 ∧ (0 ≤ t * e ∧ t * e ≤ 1000000000) := by
  have h := mul_bd (a := t) (b := e) (A := 1000000) (B := 1000) (by omega) (by omega) (by omega) (by omega)
  unfold cdv
  omega

theorem lOk_t {a : Int × Int × Int} (h : lOk a = true) : 0 ≤ a.2.2 ∧ a.2.2 ≤ 1000000 := by
  unfold lOk at h
  simp only [Bool.and_eq_true, decide_eq_true_eq] at h
  exact h.2.2


theorem all_get {A : Type} {p : A → Bool} {l : List A} (h : l.all p = true) {i : Nat} (hi : i < l.length) : p (l[i]'hi) = true := List.all_eq_true.1 h _ (List.getElem_mem hi)

theorem L118_1 {D : List (Int × Int × Int)} {e : Int} {k1 : Option α} {k2 : Int → Bool → Rows → Option α} {fin : Rows → Option α} (hk : ∀ a b r, k2 a b r = fin r) (hl : D.length < 1000) (hD : D.all lOk = true) (he : 0 ≤ e ∧ e ≤ 1000) :
    L118_0_1 α e (D.map rI3) ((D.length : Nat) : Int) k1 k2 0 [] = if D.all (fun a => !decide (1000000 < a.2.2 + cdv (a.2.2 * e) 1000)) then fin ((D.map (mkE e)).map rI5) else k1 := by
  have key := run_box (e := e) (bad := k1) (fin := fun s => fin (s.map rI5)) D []
  simp only [List.nil_append] at key
  rw [← key]
  have := fuel_ge
  have gen : ∀ (m i n : Nat) (s : List (Int × Int × Int × Int × Int)), i + m = D.length → m < n → s.length = i → R118_0_1 α e (D.map rI3) ((D.length : Nat) : Int) k1 k2 n (i : Int) (s.map rI5) = runL (boxK e k1) (fun s => fin (s.map rI5)) (D.drop i) s := by
    intro m
    induction m with
    | zero =>
      intro i n s h1 h2 h3
      obtain ⟨n, rfl⟩ : ∃ k, n = k + 1 := ⟨n - 1, by omega⟩
      rw [List.drop_eq_nil_of_le (by omega)]
      have : ¬ ((i : Int) < ((D.length : Nat) : Int)) := by omega
      simp only [R118_0_1, S118_0_1, S118_0_1g, this, decide_false, cK_false, hk, runL]
    | succ m ih =>
      intro i n s h1 h2 h3
      obtain ⟨n, rfl⟩ : ∃ k, n = k + 1 := ⟨n - 1, by omega⟩
      have hi : i < D.length := by omega
      have : ((i : Int) < ((D.length : Nat) : Int)) := by omega
      have ht := lOk_t (all_get hD hi)
      have hb := cdv_bd ht he
      simp only [R118_0_1, S118_0_1, S118_0_1g, this, decide_true, cK_true]
      rw [rowK_I3 hi, List.drop_eq_getElem_cons hi, w64_in (n := (D[i]).2.2 * e) (by omega) (by omega), f137_eq (by omega) (by omega) (by omega), w64_nat hi (by omega)]
      rw [w64_in (n := (D[i]).2.2 + cdv ((D[i]).2.2 * e) 1000) (by omega) (by omega), w64_in (n := (D[i]).2.2 - cdv ((D[i]).2.2 * e) 1000) (by omega) (by omega)]
      simp only [runL, boxK]
      congr 1
      rw [show ([[DC.v (.int .i64 (D[i]).1), DC.v (.int .i64 (D[i]).1), DC.v (.int .i64 (if (D[i]).2.2 - cdv ((D[i]).2.2 * e) 1000 > 0 then (D[i]).2.2 - cdv ((D[i]).2.2 * e) 1000 else 0)), DC.v (.int .i64 ((D[i]).2.2 + cdv ((D[i]).2.2 * e) 1000)), DC.v (.int .i64 (D[i]).2.1)]] : Rows) = [mkE e D[i]].map rI5 from rfl]
      rw [apOk_of (enc := rI5) (n := 5) (fun _ => rfl) (by simp; omega) (by simp; omega), gK_true, ← List.map_append]
      exact ih (i + 1) n (s ++ [mkE e D[i]]) (by omega) (by omega) (by simp; omega)
  exact gen D.length 0 fuel [] (by omega) (by omega) rfl

theorem L66_2 {D : List (Int × Int × Int)} {G : List (Int × Int)} {k2 : Int → Bool → Rows → Option α} {fin : Rows → Option α} (hk : ∀ a b r, k2 a b r = fin r) (hl : D.length < 1000) (hG : G.length ≤ D.length) :
    L66_0_2 α (G.map rI2) ((G.length : Nat) : Int) (D.map rI3) k2 0 [] = fin (((G.zip D).map fun p => mkG p.1 p.2).map rI5) := by
  have := fuel_ge
  have gen : ∀ (m i n : Nat), i + m = G.length → m < n → R66_0_2 α (G.map rI2) ((G.length : Nat) : Int) (D.map rI3) k2 n (i : Int) (((G.zip D).take i).map (fun p => rI5 (mkG p.1 p.2))) = fin ((G.zip D).map fun p => rI5 (mkG p.1 p.2)) := by
    intro m
    induction m with
    | zero =>
      intro i n h1 h2
      obtain ⟨n, rfl⟩ : ∃ k, n = k + 1 := ⟨n - 1, by omega⟩
      have : ¬ ((i : Int) < ((G.length : Nat) : Int)) := by omega
      simp only [R66_0_2, S66_0_2, S66_0_2g, this, decide_false, cK_false, hk]
      rw [List.take_of_length_le (by simp; omega)]
    | succ m ih =>
      intro i n h1 h2
      obtain ⟨n, rfl⟩ : ∃ k, n = k + 1 := ⟨n - 1, by omega⟩
      have hi : i < G.length := by omega
      have hi2 : i < D.length := by omega
      have hi3 : i < (G.zip D).length := by simp; omega
      have : ((i : Int) < ((G.length : Nat) : Int)) := by omega
      simp only [R66_0_2, S66_0_2, S66_0_2g, this, decide_true, cK_true]
      rw [rowK_I2 hi, rowK_I3 hi2, w64_nat hi (by omega)]
      rw [show ([[DC.v (.int .i64 (D[i]).1), DC.v (.int .i64 (D[i]).1), DC.v (.int .i64 (G[i]).1), DC.v (.int .i64 (G[i]).2), DC.v (.int .i64 (D[i]).2.1)]] : Rows) = [mkG G[i] D[i]].map rI5 from rfl]
      rw [apOk_of (enc := rI5) (n := 5) (fun _ => rfl) (by simp; omega) (by simp; omega), gK_true]
      have e : (((G.zip D).take i).map (fun p => rI5 (mkG p.1 p.2))) ++ [mkG G[i] D[i]].map rI5 = (((G.zip D).take (i + 1)).map (fun p => rI5 (mkG p.1 p.2))) := by
        rw [List.take_succ_eq_append_getElem hi3, List.map_append]
        simp
      rw [e]
      exact ih (i + 1) n (by omega) (by omega)
  have := gen G.length 0 fuel (by omega) (by omega)
  rw [List.map_map]
  exact this


def gOk (g : Int × Int) : Bool := rErr 0 1000000 g.1 g.2 == 0
theorem gOk_le {g : Int × Int} (h : gOk g = true) : g.2 ≤ 1000000 := by
  unfold gOk rErr at h
  split at h
  · rename_i h1; exact h1.2.2
  · cases h

theorem L68_3 {D : List (Int × Int × Int)} {G : List (Int × Int)} {e : Int} {k1 : Option α} {k2 : Int → Bool → Rows → Option α} {fin : Rows → Option α} (hk : ∀ a b r, k2 a b r = fin r) (hl : D.length < 1000) (hD : D.all lOk = true) (he : 0 ≤ e ∧ e ≤ 1000)
    (hG : G.length ≤ D.length) (hG2 : G.all gOk = true) :
    L68_0_3 α (D.map rI3) (G.map rI2) e k1 k2 0 [] = if (D.drop G.length).all (fun a => !decide (1000000 < a.2.2 + cdv (a.2.2 * e) 1000)) then fin ((((G.zip D).map fun p => mkG p.1 p.2) ++ (D.drop G.length).map (mkE e)).map rI5) else k1 := by
  have key := run_box (e := e) (bad := k1) (fin := fun s => fin (s.map rI5)) (D.drop G.length) ((G.zip D).map fun p => mkG p.1 p.2)
  rw [← key]
  have := fuel_ge
  have gen2 : ∀ (m i n : Nat) (s : List (Int × Int × Int × Int × Int)), i + m = D.length → G.length ≤ i → m < n → s.length = i → R68_0_3 α (D.map rI3) (G.map rI2) e k1 k2 n (i : Int) (s.map rI5) = runL (boxK e k1) (fun s => fin (s.map rI5)) (D.drop i) s := by
    intro m
    induction m with
    | zero =>
      intro i n s h1 h0 h2 h3
      obtain ⟨n, rfl⟩ : ∃ k, n = k + 1 := ⟨n - 1, by omega⟩
      rw [List.drop_eq_nil_of_le (by omega)]
      have : ¬ ((i : Int) < ((D.length : Nat) : Int)) := by omega
      simp only [R68_0_3, S68_0_3, S68_0_3g, List.length_map, this, decide_false, cK_false, hk, runL]
    | succ m ih =>
      intro i n s h1 h0 h2 h3
      obtain ⟨n, rfl⟩ : ∃ k, n = k + 1 := ⟨n - 1, by omega⟩
      have hi : i < D.length := by omega
      have hlt : ((i : Int) < ((D.length : Nat) : Int)) := by omega
      have hge : ¬ ((i : Int) < ((G.length : Nat) : Int)) := by omega
      have ht := lOk_t (all_get hD hi)
      have hb := cdv_bd ht he
      simp only [R68_0_3, S68_0_3, S68_0_3g, List.length_map, hlt, decide_true, cK_true]
      rw [rowK_I3 hi, List.drop_eq_getElem_cons hi, w64_in (n := (D[i]).2.2 * e) (by omega) (by omega), f95_eq (by omega) (by unfold sm; omega)]
      simp only [J68_0_2, J68_0_2g, List.length_map, hge, decide_false, cK_false]
      rw [w64_nat hi (by omega), w64_in (n := (D[i]).2.2 + cdv ((D[i]).2.2 * e) 1000) (by omega) (by omega), w64_in (n := (D[i]).2.2 - cdv ((D[i]).2.2 * e) 1000) (by omega) (by omega)]
      simp only [runL, boxK]
      congr 1
      rw [show ([[DC.v (.int .i64 (D[i]).1), DC.v (.int .i64 (D[i]).1), DC.v (.int .i64 (if (D[i]).2.2 - cdv ((D[i]).2.2 * e) 1000 > 0 then (D[i]).2.2 - cdv ((D[i]).2.2 * e) 1000 else 0)), DC.v (.int .i64 ((D[i]).2.2 + cdv ((D[i]).2.2 * e) 1000)), DC.v (.int .i64 (D[i]).2.1)]] : Rows) = [mkE e D[i]].map rI5 from rfl]
      rw [apOk_of (enc := rI5) (n := 5) (fun _ => rfl) (by simp; omega) (by simp; omega), gK_true, ← List.map_append]
      exact ih (i + 1) n (s ++ [mkE e D[i]]) (by omega) (by omega) (by omega) (by simp; omega)
  have gen1 : ∀ (m i n : Nat), i + m = G.length → D.length - i < n → R68_0_3 α (D.map rI3) (G.map rI2) e k1 k2 n (i : Int) ((((G.zip D).take i).map fun p => mkG p.1 p.2).map rI5) = runL (boxK e k1) (fun s => fin (s.map rI5)) (D.drop G.length) ((G.zip D).map fun p => mkG p.1 p.2) := by
    intro m
    induction m with
    | zero =>
      intro i n h1 h2
      have hi : i = G.length := by omega
      subst hi
      rw [List.take_of_length_le (by simp; omega)]
      exact gen2 (D.length - G.length) G.length n _ (by omega) (Nat.le_refl _) (by omega) (by simp; omega)
    | succ m ih =>
      intro i n h1 h2
      obtain ⟨n, rfl⟩ : ∃ k, n = k + 1 := ⟨n - 1, by omega⟩
      have hi : i < D.length := by omega
      have hiG : i < G.length := by omega
      have hi3 : i < (G.zip D).length := by simp; omega
      have hlt : ((i : Int) < ((D.length : Nat) : Int)) := by omega
      have hlt2 : ((i : Int) < ((G.length : Nat) : Int)) := by omega
      have ht := lOk_t (all_get hD hi)
      have hb := cdv_bd ht he
      have hg := gOk_le (all_get hG2 hiG)
      have hg' : ¬ (1000000 < (G[i]).2) := by omega
      simp only [R68_0_3, S68_0_3, S68_0_3g, List.length_map, hlt, decide_true, cK_true]
      rw [rowK_I3 hi, w64_in (n := (D[i]).2.2 * e) (by omega) (by omega), f95_eq (by omega) (by unfold sm; omega)]
      simp only [J68_0_2, J68_0_2g, List.length_map, hlt2, decide_true, cK_true]
      rw [rowK_I2 hiG, w64_nat hi (by omega)]
      simp only [hg', decide_false, cK_false]
      rw [show ([[DC.v (.int .i64 (D[i]).1), DC.v (.int .i64 (D[i]).1), DC.v (.int .i64 (G[i]).1), DC.v (.int .i64 (G[i]).2), DC.v (.int .i64 (D[i]).2.1)]] : Rows) = [mkG G[i] D[i]].map rI5 from rfl]
      rw [apOk_of (enc := rI5) (n := 5) (fun _ => rfl) (by simp; omega) (by simp; omega), gK_true, ← List.map_append]
      have e1 : (((G.zip D).take i).map (fun p => mkG p.1 p.2)) ++ [mkG G[i] D[i]] = (((G.zip D).take (i + 1)).map (fun p => mkG p.1 p.2)) := by
        rw [List.take_succ_eq_append_getElem hi3, List.map_append]
        simp
      rw [e1]
      exact ih (i + 1) n (by omega) (by omega)
  exact gen1 G.length 0 fuel (by omega) (by omega)

theorem run_err {k1 : Int → Option α} {fin : Unit → Option α} : ∀ (l : List (Int × Int)), l.all gOk = true → runL (errK k1) fin l () = fin ()
  | [], _ => rfl
  | g :: r, h => by
    simp only [List.all_cons, Bool.and_eq_true] at h
    simp only [runL, errK]
    have : (rErr 0 1000000 g.1 g.2 != 0) = false := by have := h.1; unfold gOk at this; simpa using this
    rw [this, cK_false]
    exact run_err r h.2

/-- The first error of ranges. -/
def gErr : List (Int × Int) → Int
  | [] => 0
  | g :: r => if rErr 0 1000000 g.1 g.2 = 0 then gErr r else rErr 0 1000000 g.1 g.2
theorem run_err' {k1 : Int → Option α} {fin : Unit → Option α} : ∀ (l : List (Int × Int)), runL (errK k1) fin l () = if l.all gOk then fin () else k1 (gErr l)
  | [] => rfl
  | g :: r => by
    simp only [runL, errK, List.all_cons, gErr]
    by_cases h : rErr 0 1000000 g.1 g.2 = 0
    · have e : gOk g = true := by unfold gOk; simpa using h
      simp only [h, e, bne_self_eq_false, cK_false, Bool.true_and, if_true]
      exact run_err' r
    · have e : gOk g = false := by unfold gOk; simpa using h
      have e2 : (rErr 0 1000000 g.1 g.2 != 0) = true := by simpa using h
      simp [e, e2, h]

/-- The boxes, or the error. -/
def boxesE (D : List (Int × Int × Int)) (G : List (Int × Int)) (e : Int) : List (Int × Int × Int × Int × Int) × Int :=
  if 40 < D.length then ([], 8) else if ¬ D.all lOk then ([], 2) else if D.length < G.length then ([], 12) else if ¬ G.all gOk then ([], gErr G) else if ¬ (0 ≤ e ∧ e ≤ 1000) then ([], 2) else
  if ¬ (D.drop G.length).all (fun a => !decide (1000000 < a.2.2 + cdv (a.2.2 * e) 1000)) then ([], 8) else (((G.zip D).map fun p => mkG p.1 p.2) ++ (D.drop G.length).map (mkE e), 0)

theorem f68_eq {D : List (Int × Int × Int)} {G : List (Int × Int)} {e : Int} {x4 : Rows} {x5 x6 : Int} {k : Rows → Int → Option α} (hl : D.length < 1000) (hg : G.length < 1000) : f68_0 α (D.map rI3) (G.map rI2) e x4 x5 x6 k = k ((boxesE D G e).1.map rI5) (boxesE D G e).2 := by
  simp only [f68_0, f68_0g, List.length_map, f19_eq]
  unfold boxesE
  by_cases h1 : 40 < D.length
  · have : (40 : Int) < ((D.length : Nat) : Int) := by omega
    simp [h1, this]
  · have : ¬ (40 : Int) < ((D.length : Nat) : Int) := by omega
    simp only [h1, this, decide_false, cK_false, if_false]
    rw [L68_0 (fin := _) (fun _ _ => rfl) hl]
    by_cases h2 : D.all lOk = true
    · simp only [h2, if_true, not_true, if_false]
      by_cases h3 : D.length < G.length
      · have : ((D.length : Nat) : Int) < ((G.length : Nat) : Int) := by omega
        simp [h3, this]
      · have : ¬ ((D.length : Nat) : Int) < ((G.length : Nat) : Int) := by omega
        simp only [h3, this, decide_false, cK_false, if_false]
        rw [L68_1 (fin := _) (fun _ _ => rfl) hg, run_err']
        by_cases h4 : G.all gOk = true
        · simp only [h4, if_true, not_true, if_false]
          by_cases h5 : 0 ≤ e ∧ e ≤ 1000
          · simp only [h5.1, h5.2, decide_true, Bool.and_self, Bool.not_true, cK_false, and_self, not_true, if_false]
            rw [L68_3 (fin := fun r => k r 0) (fun _ _ _ => rfl) hl h2 h5 (by omega) h4]
            split <;> rename_i h6 <;> simp [h6]
          · have : (decide (0 ≤ e) && decide (e ≤ 1000)) = false := by
              by_cases a1 : 0 ≤ e <;> by_cases a2 : e ≤ 1000 <;> simp [a1, a2] <;> omega
            simp [h5, this]
        · simp [h4]
    · simp [h2]

theorem f118_eq {D : List (Int × Int × Int)} {e : Int} {k : Rows → Int → Option α} (hl : D.length ≤ 40) (hD : D.all lOk = true) (he : 0 ≤ e ∧ e ≤ 1000) :
    f118_0 α (D.map rI3) e k = if D.all (fun a => !decide (1000000 < a.2.2 + cdv (a.2.2 * e) 1000)) then k ((D.map (mkE e)).map rI5) 0 else k [] 8 := by
  have : ¬ (40 : Int) < ((D.length : Nat) : Int) := by omega
  simp only [f118_0, f118_0g, List.length_map, f136_eq, this, decide_false, cK_false]
  rw [L118_0 (fin := _) (fun _ _ => rfl) (by omega), if_pos hD]
  simp only [he.1, he.2, decide_true, Bool.and_self, Bool.not_true, cK_false]
  rw [L118_1 (fin := fun r => k r 0) (fun _ _ _ => rfl) (by omega) hD he]

theorem f66_eq {D : List (Int × Int × Int)} {G : List (Int × Int)} {e : Int} {x4 : Rows} {x5 x6 : Int} {k : Rows → Int → Option α} (hl : D.length < 1000) (hg : G.length < 1000) : f66_0 α (D.map rI3) (G.map rI2) e x4 x5 x6 k = k ((boxesE D G e).1.map rI5) (boxesE D G e).2 := by
  simp only [f66_0, f66_0g, List.length_map, f78_eq]
  unfold boxesE
  by_cases h1 : 40 < D.length
  · have : (40 : Int) < ((D.length : Nat) : Int) := by omega
    simp [h1, this]
  · have : ¬ (40 : Int) < ((D.length : Nat) : Int) := by omega
    simp only [h1, this, decide_false, cK_false, if_false]
    rw [L66_0 (fin := _) (fun _ _ => rfl) hl]
    by_cases h2 : D.all lOk = true
    · simp only [h2, if_true, not_true, if_false]
      by_cases h3 : D.length < G.length
      · have : ((D.length : Nat) : Int) < ((G.length : Nat) : Int) := by omega
        simp [h3, this]
      · have : ¬ ((D.length : Nat) : Int) < ((G.length : Nat) : Int) := by omega
        simp only [h3, this, decide_false, cK_false, if_false]
        rw [L66_1 (fin := _) (fun _ _ => rfl) hg, run_err']
        by_cases h4 : G.all gOk = true
        · simp only [h4, if_true, not_true, if_false]
          by_cases h5 : 0 ≤ e ∧ e ≤ 1000
          · simp only [h5.1, h5.2, decide_true, Bool.and_self, Bool.not_true, cK_false, and_self, not_true, if_false]
            rw [L66_2 (fin := fun x57 => gK (decide ((0 : Int) ≤ ((G.length : Nat) : Int) ∧ ((G.length : Nat) : Int) ≤ ((D.length : Nat) : Int) ∧ ((D.length : Nat) : Int) ≤ ((D.length : Nat) : Int) ∧ allLen 3 (D.map rI3) = true)) (f118_0 α (List.drop (Int.toNat ((G.length : Nat) : Int)) (List.take (Int.toNat ((D.length : Nat) : Int)) (D.map rI3))) e
                (fun (x58 : Rows) (x59 : Int) => cK (x59 != 0) (k [] x59) (gK (apOk 5 40 x57 x58) (k (x57 ++ x58) 0))))) (fun _ _ _ => rfl) hl (by omega)]
            have hd : decide ((0 : Int) ≤ ((G.length : Nat) : Int) ∧ ((G.length : Nat) : Int) ≤ ((D.length : Nat) : Int) ∧ ((D.length : Nat) : Int) ≤ ((D.length : Nat) : Int) ∧ allLen 3 (D.map rI3) = true) = true :=
              decide_eq_true ⟨by omega, by omega, by omega, allLen_map (enc := rI3) (n := 3) (fun _ => rfl) D⟩
            rw [hd, gK_true]
            have hdr : (List.drop (Int.toNat ((G.length : Nat) : Int)) (List.take (Int.toNat ((D.length : Nat) : Int)) (D.map rI3))) = (D.drop G.length).map rI3 := by
              rw [Int.toNat_natCast, Int.toNat_natCast, List.take_of_length_le (by simp), List.map_drop]
            rw [hdr, f118_eq (by simp; omega) (List.all_eq_true.2 fun x hx => List.all_eq_true.1 h2 x (List.mem_of_mem_drop hx)) h5]
            split
            · rename_i h6
              simp only [h6, not_true, if_false, bne_self_eq_false, cK_false]
              rw [apOk_of (enc := rI5) (n := 5) (fun _ => rfl) (by simp; omega) (by simp; omega), gK_true, List.map_append]
            · rename_i h6
              simp [h6]
          · have : (decide (0 ≤ e) && decide (e ≤ 1000)) = false := by
              by_cases a1 : 0 ≤ e <;> by_cases a2 : e ≤ 1000 <;> simp [a1, a2] <;> omega
            simp [h5, this]
        · simp [h4]
    · simp [h2]


theorem rowK_I5 {l : List (Int × Int × Int × Int × Int)} {i : Nat} {f : Int → Int → Int → Int → Int → Option α} (h : i < l.length) :
    rowK (l.map rI5) (i : Int) [.int .i64, .int .i64, .int .i64, .int .i64, .int .i64] f = f (l[i]'h).1 (l[i]'h).2.1 (l[i]'h).2.2.1 (l[i]'h).2.2.2.1 (l[i]'h).2.2.2.2 :=
  (rowK_get (sh := [.int .i64, .int .i64, .int .i64, .int .i64, .int .i64]) (f := f) (r := rI5 (l[i]'h)) (by simp [h])).trans rfl

theorem f69_self {l : List (Int × Int × Int × Int × Int)} {k : Bool → Option α} (hl : l.length < 1000) : f69_0 α (l.map rI5) (l.map rI5) k = k true := by
  simp only [f69_0, f69_0g, bne_self_eq_false, cK_false]
  have := fuel_ge
  have gen : ∀ (m i n : Nat) (k1 : Option α), i + m = l.length → m < n → R69_0_0 α (l.map rI5) (l.map rI5) k1 (fun _ _ => k true) n (i : Int) = k true := by
    intro m
    induction m with
    | zero =>
      intro i n k1 h1 h2
      obtain ⟨n, rfl⟩ : ∃ k, n = k + 1 := ⟨n - 1, by omega⟩
      have : ¬ ((i : Int) < ((l.length : Nat) : Int)) := by omega
      simp only [R69_0_0, S69_0_0, S69_0_0g, List.length_map, this, decide_false, cK_false]
    | succ m ih =>
      intro i n k1 h1 h2
      obtain ⟨n, rfl⟩ : ∃ k, n = k + 1 := ⟨n - 1, by omega⟩
      have hi : i < l.length := by omega
      have : ((i : Int) < ((l.length : Nat) : Int)) := by omega
      simp only [R69_0_0, S69_0_0, S69_0_0g, List.length_map, this, decide_true, cK_true]
      rw [rowK_I5 hi, rowK_I5 hi, w64_nat hi (by omega)]
      simp only [beq_self_eq_true, Bool.and_self, Bool.not_true, cK_false]
      exact ih (i + 1) n k1 (by omega) (by omega)
  exact gen l.length 0 fuel _ (by omega) (by omega)

theorem boxesE_len {D : List (Int × Int × Int)} {G : List (Int × Int)} {e : Int} (hD : D.length < 500) (hG : G.length < 400) : (boxesE D G e).1.length < 1000 := by
  unfold boxesE
  repeat' split
  all_goals simp
  omega

theorem law13 {D : List (Int × Int × Int)} {G : List (Int × Int)} {e a b : Int} {M : Rows} {k : Bool → Option α} (hM : allLen 9 M = true) : f13_0 α (D.map rI3) (G.map rI2) e M a b k = k true := by
  simp only [f13_0, f13_0g, f14_0, f65_0, f65_0g, List.length_map, f67_0, f67_0g, f119_0, f119_0g, f120_0, f120_0g]
  have main : D.length ≤ 42 → G.length ≤ 44 → M.length ≤ 3 → gK (apOk 3 24 [] (D.map rI3)) (gK (apOk 2 16 [] (G.map rI2)) (gK (apOk 9 72 [] M) (f66_0 α ([] ++ D.map rI3) ([] ++ G.map rI2) e ([] ++ M) a b (fun (x14 : Rows) (x15 : Int) => flatK [x14] (f68_0 α (D.map rI3) (G.map rI2) e M a b (fun (x16 : Rows) (x17 : Int) => cK (x15 == x17) (f69_0 α x14 x16 (fun (x18 : Bool) => k x18)) (k false))))))) = k true := by
    intro h1 h2 h3
    rw [apOk_of (enc := rI3) (n := 3) (fun _ => rfl) (by simp; omega) (by simp; omega), apOk_of (enc := rI2) (n := 2) (fun _ => rfl) (by simp; omega) (by simp; omega)]
    have h4 : apOk 9 72 [] M = true := by
      simp only [apOk, hM]
      exact decide_eq_true ⟨trivial, by simp; omega, by simp; omega⟩
    rw [h4]
    simp only [gK_true, List.nil_append]
    rw [f66_eq (by omega) (by omega), flatK_map (fun _ => rfl), f68_eq (by omega) (by omega)]
    simp only [beq_self_eq_true, cK_true]
    exact f69_self (boxesE_len (by omega) (by omega))
  by_cases h1 : D.length ≤ 6
  · have c1 : ((D.length : Nat) : Int) ≤ 6 := by omega
    simp only [c1, decide_true, cK_true]
    by_cases h2 : G.length ≤ 44
    · have c2 : ((G.length : Nat) : Int) ≤ 44 := by omega
      simp only [c2, decide_true, cK_true]
      by_cases h3 : M.length ≤ 3
      · have c3 : ((M.length : Nat) : Int) ≤ 3 := by omega
        simp only [c3, decide_true, Bool.not_true, cK_false]
        exact main (by omega) h2 h3
      · have c3 : ¬ ((M.length : Nat) : Int) ≤ 3 := by omega
        simp [c3]
    · have c2 : ¬ ((G.length : Nat) : Int) ≤ 44 := by omega
      simp [c2]
  · have c1 : ¬ ((D.length : Nat) : Int) ≤ 6 := by omega
    simp only [c1, decide_false, cK_false]
    by_cases h4 : 40 < D.length
    · have c4 : (40 : Int) < ((D.length : Nat) : Int) := by omega
      simp only [c4, decide_true, cK_true]
      by_cases h5 : D.length ≤ 42
      · have c5 : ((D.length : Nat) : Int) ≤ 42 := by omega
        simp only [c5, decide_true, cK_true]
        by_cases h2 : G.length ≤ 44
        · have c2 : ((G.length : Nat) : Int) ≤ 44 := by omega
          simp only [c2, decide_true, cK_true]
          by_cases h3 : M.length ≤ 3
          · have c3 : ((M.length : Nat) : Int) ≤ 3 := by omega
            simp only [c3, decide_true, Bool.not_true, cK_false]
            exact main (by omega) h2 h3
          · have c3 : ¬ ((M.length : Nat) : Int) ≤ 3 := by omega
            simp [c3]
        · have c2 : ¬ ((G.length : Nat) : Int) ≤ 44 := by omega
          simp [c2]
      · have c5 : ¬ ((D.length : Nat) : Int) ≤ 42 := by omega
        simp [c5]
    · have c4 : ¬ (40 : Int) < ((D.length : Nat) : Int) := by omega
      simp [c4]

end Go.AM.K
