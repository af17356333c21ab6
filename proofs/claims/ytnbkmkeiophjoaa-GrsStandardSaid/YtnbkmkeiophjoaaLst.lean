/- Plain lemmas on lists of ints that a loop fills. No Go here. -/
namespace Cw
/-- The list of length n with f below k and 0 from k on. -/
def upd (n k : Nat) (f : Nat → Int) : List Int := (List.range n).map fun i => if i < k then f i else 0
theorem upd_length (n k : Nat) (f : Nat → Int) : (upd n k f).length = n := by simp [upd]
theorem upd_zero (n : Nat) (f : Nat → Int) : upd n 0 f = List.replicate n 0 := by
  apply List.ext_getElem
  · simp [upd]
  · intro i h1 h2; simp [upd]
theorem upd_set (n k : Nat) (f : Nat → Int) : (upd n k f).set k (f k) = upd n (k+1) f := by
  apply List.ext_getElem
  · simp [upd]
  · intro i h1 h2
    simp only [upd, List.getElem_set, List.getElem_map, List.getElem_range]
    by_cases h : k = i
    · subst h; simp
    · rw [if_neg h]
      by_cases h3 : i < k
      · rw [if_pos h3, if_pos (by omega)]
      · rw [if_neg h3, if_neg (by omega)]
theorem upd_get {n k i : Nat} (f : Nat → Int) (hi : i < n) : (upd n k f)[i]?.getD 0 = if i < k then f i else 0 := by
  simp [upd, hi]
def lst (n : Nat) (f : Nat → Int) : List Int := (List.range n).map f
theorem lst_length (n : Nat) (f : Nat → Int) : (lst n f).length = n := by simp [lst]
theorem upd_full (n : Nat) (f : Nat → Int) : upd n n f = lst n f := by
  apply List.ext_getElem
  · simp [upd, lst]
  · intro i h1 h2
    have : i < n := by simpa [upd] using h1
    simp [upd, lst, this]
theorem lst_get {n i : Nat} (f : Nat → Int) (hi : i < n) : (lst n f)[i]?.getD 0 = f i := by simp [lst, hi]
theorem lst_succ (n : Nat) (f : Nat → Int) : lst (n+1) f = lst n f ++ [f n] := by simp [lst, List.range_succ]
theorem lst_congr {n : Nat} {f g : Nat → Int} (h : ∀ i, i < n → f i = g i) : lst n f = lst n g := by
  apply List.ext_getElem
  · simp [lst]
  · intro i h1 h2
    have : i < n := by simpa [lst] using h1
    simp [lst, h i this]
theorem lst_set (n k : Nat) (f : Nat → Int) (v : Int) : (lst n f).set k v = lst n (fun i => if i = k then v else f i) := by
  apply List.ext_getElem
  · simp [lst]
  · intro i h1 h2
    simp only [lst, List.getElem_set, List.getElem_map, List.getElem_range]
    by_cases h : k = i
    · subst h; simp
    · rw [if_neg h, if_neg (fun e => h e.symm)]
theorem lst_zero (n : Nat) : List.replicate n (0 : Int) = lst n (fun _ => 0) := by
  apply List.ext_getElem
  · simp [lst]
  · intro i h1 h2; simp [lst]
theorem eq_lst (l : List Int) : l = lst l.length (fun i => l[i]?.getD 0) := by
  apply List.ext_getElem
  · simp [lst]
  · intro i h1 h2; simp [lst, h1]
theorem lst_take {n k : Nat} (f : Nat → Int) (h : k ≤ n) : (lst n f).take k = lst k f := by
  apply List.ext_getElem
  · simp [lst]; omega
  · intro i h1 h2; simp [lst]
/-- f below k, h from k on. -/
def mix (n k : Nat) (f h : Nat → Int) : List Int := lst n fun i => if i < k then f i else h i
theorem mix_length (n k : Nat) (f h : Nat → Int) : (mix n k f h).length = n := lst_length _ _
theorem mix_zero (n : Nat) (f h : Nat → Int) : mix n 0 f h = lst n h := lst_congr fun i _ => by simp
theorem mix_full (n : Nat) (f h : Nat → Int) : mix n n f h = lst n f := lst_congr fun i hi => by simp [hi]
theorem mix_get {n k i : Nat} (f h : Nat → Int) (hi : i < n) : (mix n k f h)[i]?.getD 0 = if i < k then f i else h i := lst_get _ hi
theorem mix_get_at {n k : Nat} (f h : Nat → Int) (hk : k < n) : (mix n k f h)[k]?.getD 0 = h k := by rw [mix_get _ _ hk]; simp
theorem mix_set (n k : Nat) (f h : Nat → Int) : (mix n k f h).set k (f k) = mix n (k+1) f h := by
  unfold mix
  rw [lst_set]
  refine lst_congr fun i _ => ?_
  by_cases e : i = k
  · subst e; simp
  · rw [if_neg e]
    by_cases h1 : i < k
    · rw [if_pos h1, if_pos (by omega)]
    · rw [if_neg h1, if_neg (by omega)]
end Cw
