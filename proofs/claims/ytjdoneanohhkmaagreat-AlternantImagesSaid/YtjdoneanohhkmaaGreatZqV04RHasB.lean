/- The reference's spaces: Zero, Pivots, Rest, In; entries of a list. The reference's codes: Rest, In, Check, Word, Has of a canonical code. -/
import Derived.Test.YtjdoneanohhkmaaGreatZqV04RMH
import Derived.Test.YtjdoneanohhkmaaGreatZqV04RGrsB
import Derived.Test.YtjdoneanohhkmaaGreatZqV04RTk
namespace Go.Proofs.YtjdoneanohhkmaaGreat
section
open Go.RowKit Cw
attribute [local go_sem] Oper.semAt_some

def fnz : List Int → Nat
 | [] => 0
 | x :: l => if x = 0 then fnz l + 1 else 0
theorem fnz_eq : ∀ (l : List Int) (c : Nat),c ≤ l.length → (∀ j,j < c → l[j]?.getD 0 = 0) → (c = l.length ∨ l[c]?.getD 0 ≠ 0) → fnz l = c
 | [],c,h,_,_ => by simp at h; rw [h]; rfl
 | x :: l,c,h,h1,h2 => by
  cases c with
  | zero =>
   rcases h2 with h2 | h2
   ·simp at h2
   ·exact if_neg (by simpa using h2)
  | succ c =>
   have h3 : x = 0 := by simpa using h1 0 (by omega)
   rw [show fnz (x :: l) = fnz l + 1 from if_pos h3,fnz_eq l c (by simpa using h) (fun j hj => by simpa using h1 (j + 1) (by omega)) (h2.imp (fun e => by simpa using e) (fun e => by simpa using e))]
def all0 (l : List Int) : Bool := decide (∀ x ∈ l,x = 0)
def elE (D : Desc) (l : List Int) : Int := if elB D l = false then 2 else 0
theorem all0_take {l : List Int} {k : Nat} (hk : k < l.length) (h : ∀ x ∈ l.take k,x = 0) (h2 : l[k]?.getD 0 = 0) : ∀ x ∈ l.take (k + 1),x = 0 := by
 rw [List.take_succ_eq_append_getElem hk];rw [List.getElem?_eq_getElem hk,Option.getD_some] at h2;intro x hx;rcases List.mem_append.1 hx with h3 | h3
 ·exact h x h3
 ·rw [List.mem_singleton.1 h3]; exact h2

set_option maxHeartbeats 1000000 in
theorem Zero10_any (l : List Int) (A : Option Addr) (c : Nat) (w : World) (hr : Rd w w.heap.size A l) (hl : l.length ≤ 1000000) :
  Calls Tryz.prog 155 #[.slice A l.length c] w fun e w' => e = .returned (.bool (all0 l)) ∧ w = w' := by
 go_enter Tryz.func155,Tryz.ntmps155;go_wp2_with (fail);go_loop [3] (fun i => ∃ k : Nat,k ≤ l.length ∧ i = .int .i64 k ∧ ∀ x ∈ l.take k,x = 0) (fun i => l.length - (intOf i).toNat)
 case atStart => exact ⟨0,by omega,rfl,fun x hx => by simp at hx⟩
 case round =>
  obtain ⟨k,hk,rfl,hz⟩ := hrel;by_cases hlt : k < l.length
  ·obtain ⟨b,o,rfl,-,hc⟩ := hr.at_ hlt;obtain ⟨y,hy⟩ : ∃ y,y = l[k]?.getD 0 := ⟨_,rfl⟩;have hm : y ∈ l := by rw [hy,List.getElem?_eq_getElem hlt]; exact List.getElem_mem _
   rw [← hy] at hc;have hk0 : (0 : Int) ≤ (k : Int) := by omega
   have hk1 : (k : Int) < (l.length : Int) := by omega
   by_cases hy0 : y = 0
   ·have hyb : (y != 0) = false := by rw [bne_eq_false_iff_eq]; exact hy0
    have hz2 : Hid (∀ x ∈ l.take (k + 1),x = 0) := all0_take hlt hz (by rw [← hy]; exact hy0);clear hy hy0 hz hm;go_wp2_with (fail);go_round
    case rel => exact ⟨k + 1,by omega,by go_num,hz2.out⟩
    case measure => simp [intOf]; omega
   ·have hyb : (y != 0) = true := by rw [bne_iff_ne]; exact hy0
    have hf : Hid (all0 l = false) := decide_eq_false fun h => hy0 (h y hm)
    clear hy hy0 hz hm;go_wp2_with (fail);go_ret;exact ⟨by rw [hf.out]; rfl,rfl⟩
  ·obtain rfl : k = l.length := by omega
   rw [List.take_length] at hz;replace hz := Lib.hid hz;go_wp2_with (fail);go_ret;exact ⟨by rw [show all0 l = true from decide_eq_true hz.out]; rfl,rfl⟩

set_option maxHeartbeats 2000000 in
theorem Pivots10_any (n : Nat) (rows : Nat → List Int) (A : Option Addr) (c : Nat) (w : World) (hr : RdM w w.heap.size A n rows) (hn : n ≤ 1000) (hl : ∀ i,i < n → (rows i).length ≤ 1000000) :
  Calls Tryz.prog 149 #[.slice A n c] w fun e w' => ∃ v,e = .returned v ∧ Own w' w.heap.size v (lst n fun i => (fnz (rows i) : Int)) ∧ Below w.heap.size w w' := by
 go_enter Tryz.func149,Tryz.ntmps149;go_wp2_with (fail);go_loopw [4,3] (fun i v wr => ∃ k : Nat,k ≤ n ∧ i = .int .i64 k ∧ Own wr w.heap.size v (lst k fun i => (fnz (rows i) : Int)) ∧ Below w.heap.size w wr) (fun i _ _ => n - (intOf i).toNat)
 case atStart => exact ⟨0,by omega,rfl,Own.nil _ _,Below.refl _ _⟩
 case round =>
  obtain ⟨k,hk,rfl,ho,hbw⟩ := hrel;obtain ⟨w3,rfl⟩ : ∃ w3 : World,w3 = wr := ⟨_,rfl⟩;by_cases hlt : k < n
  ·have hk0 : (0 : Int) ≤ (k : Int) := by omega
   have hk1 : (k : Int) < (n : Int) := by omega
   obtain ⟨b,o,Ak,ck,rfl,hb,hc,hrk,-,-⟩ := hr.at_ hlt;have hlk := hl k hlt;have hd := (hbw.cell (p := ⟨b,o + k,none⟩) hb).trans hc;have hrk3 := (hrk.below hbw).more hbw.size;obtain ⟨row,hrow⟩ : ∃ row,row = rows k := ⟨_,rfl⟩;rw [← hrow] at hd hrk3 hlk;replace hrow := Lib.hid hrow;clear hc hrk;go_wp2_with (fail);go_loop [5] (fun j => ∃ j' : Nat,j' ≤ row.length ∧ j = .int .i64 j' ∧ ∀ t,t < j' → row[t]?.getD 0 = 0) (fun j => row.length - (intOf j).toNat)
   case atStart => exact ⟨0,by omega,rfl,fun t ht => absurd ht (Nat.not_lt_zero _)⟩
   case round =>
    obtain ⟨j,hj,rfl,hz⟩ := hrel;have hj0 : (0 : Int) ≤ (j : Int) := by omega
    by_cases hjl : j < row.length
    ·have hj1 : (j : Int) < (row.length : Int) := by omega
     obtain ⟨br,orr,rfl,-,hcr⟩ := hrk3.at_ hjl;obtain ⟨y,hy⟩ : ∃ y,y = row[j]?.getD 0 := ⟨_,rfl⟩;rw [← hy] at hcr;by_cases hy0 : y = 0
     ·have hyb : (y == 0) = true := by rw [beq_iff_eq]; exact hy0
      have hz2 : Hid (∀ t,t < j + 1 → row[t]?.getD 0 = 0) := fun t ht => by
       by_cases e : t = j
       ·rw [e,← hy]; exact hy0
       ·exact hz t (by omega)
      clear hy hy0 hz;go_wp2_with (fail);go_round
      case rel => exact ⟨j + 1,by omega,by go_num,hz2.out⟩
      case measure => simp [intOf]; omega
     ·have hyb : (y == 0) = false := by rw [beq_eq_false_iff_ne]; exact hy0
      have hf := Lib.hid (fnz_eq row j hj hz (.inr (by rw [← hy]; exact hy0)));have hle : (lst k fun i => (fnz (rows i) : Int)).length ≤ 1000000 := by rw [lst_length]; omega
      have hsz := hbw.size;obtain ⟨Au,cu,rfl,-,-,-⟩ := ho.form;clear hy hy0 hz;go_wp2_with (at_builtin; refine wpList_app1 rfl (.tmp 31) (.tmp 33) rfl w.heap.size _ _ _ ho rfl rfl rfl hle hsz ?_; intro v' w' ho' hb' hg' hv');rw [← hf.out,hrow.out,← lst_succ] at ho';go_roundw
      case rel => exact ⟨k + 1,by omega,by go_num,ho',hbw.trans hb'⟩
      case measure => simp [intOf]; omega
    ·obtain rfl : j = row.length := by omega
     have hf := Lib.hid (fnz_eq row row.length (Nat.le_refl _) hz (.inl rfl));have hle : (lst k fun i => (fnz (rows i) : Int)).length ≤ 1000000 := by rw [lst_length]; omega
     have hsz := hbw.size;obtain ⟨Au,cu,rfl,-,-,-⟩ := ho.form;clear hz;go_wp2_with (at_builtin; refine wpList_app1 rfl (.tmp 31) (.tmp 33) rfl w.heap.size _ _ _ ho rfl rfl rfl hle hsz ?_; intro v' w' ho' hb' hg' hv');rw [← hf.out,hrow.out,← lst_succ] at ho';go_roundw
     case rel => exact ⟨k + 1,by omega,by go_num,ho',hbw.trans hb'⟩
     case measure => simp [intOf]; omega
  ·obtain rfl : k = n := by omega
   go_wp2_with (fail);go_ret;exact ⟨_,rfl,ho,hbw⟩

set_option maxHeartbeats 1000000 in
theorem Entries9_any (D : Desc) (l : List Int) (A A1 : Option Addr) (c c1 : Nat) (w : World) (hr1 : Rd w w.heap.size A1 l) (hl : l.length ≤ 1000000) :
  Calls Tryz.prog 207 #[.agg #[.int .i64 D.p,.int .i64 D.m,.slice A D.mod.length c],.slice A1 l.length c1] w fun e w' => e = .returned (.int .i64 (elE D l)) ∧ Below w.heap.size w w' := by
 have hI := fun y W => Is_any D y A D.mod.length c W
 have hB : Below w.heap.size w (w.alloc (.cells #[.int .i64 D.p,.int .i64 D.m,.slice A D.mod.length c] 24)) := (Below.refl _ _).alloc (Nat.le_refl _) _;have k0 := Lib.hid (alloc3 w (.int .i64 D.p) (.int .i64 D.m) (.slice A D.mod.length c) 24);have hlt0 : w.heap.size < (w.alloc (.cells #[.int .i64 D.p,.int .i64 D.m,.slice A D.mod.length c] 24)).heap.size := by simp
 obtain ⟨Z,hZ⟩ : ∃ Z,Z = w.alloc (.cells #[.int .i64 D.p,.int .i64 D.m,.slice A D.mod.length c] 24) := ⟨_,rfl⟩;rw [← hZ] at hB k0 hlt0;replace hZ := Lib.hid hZ;go_enter Tryz.func207,Tryz.ntmps207;go_wp2_with (fail);rw [← hZ.out];go_loopw [5] (fun i wr => ∃ k : Nat,k ≤ l.length ∧ i = .int .i64 k ∧ (∀ j,j < k → 0 ≤ l[j]?.getD 0 ∧ l[j]?.getD 0 < (D.q : Int)) ∧ Below Z.heap.size Z wr) (fun i _ => l.length - (intOf i).toNat)
 case atStart => exact ⟨0,by omega,rfl,fun j hj => absurd hj (Nat.not_lt_zero _),Below.refl _ _⟩
 case round =>
  obtain ⟨k,hk,rfl,hin,hbw⟩ := hrel;obtain ⟨w3,rfl⟩ : ∃ w3 : World,w3 = wr := ⟨_,rfl⟩;have hB3 := hB.trans (hbw.mono hB.size);by_cases hlt : k < l.length
  ·have hk0 : (0 : Int) ≤ (k : Int) := by omega
   have hk1 : (k : Int) < (l.length : Int) := by omega
   obtain ⟨b,o,rfl,hb,hc⟩ := hr1.at_ hlt;have hd := (hB3.cell (p := ⟨b,o + k,none⟩) hb).trans hc;obtain ⟨y,hy⟩ : ∃ y,y = l[k]?.getD 0 := ⟨_,rfl⟩;rw [← hy] at hd;have kk := Lib.hid (show _ ∧ _ from ⟨keep3 hbw hlt0 k0.out,hd⟩);have hb3 : b < w3.heap.size := Nat.lt_of_lt_of_le hb hB3.size;have hlt3 : w.heap.size < w3.heap.size := Nat.lt_of_lt_of_le hlt0 hbw.size;have hI2 := hI y w3.drew;clear hc hd;by_cases hyi : 0 ≤ y ∧ y < (D.q : Int)
   ·rw [decide_eq_true hyi] at hI2;replace hI2 := Lib.hid hI2;have hin2 : Hid (∀ j,j < k + 1 → 0 ≤ l[j]?.getD 0 ∧ l[j]?.getD 0 < (D.q : Int)) := fun j hj => by
     by_cases e : j = k
     ·rw [e,← hy]; exact hyi
     ·exact hin j (by omega)
    clear hin hyi hy;go_wp2_with (fail);refine wp_region_held_drew (S := fun w' => (w'.cell? ⟨w.heap.size,0,none⟩ = some (.int .i64 D.p) ∧ w'.cell? ⟨w.heap.size,1,none⟩ = some (.int .i64 D.m) ∧ w'.cell? ⟨w.heap.size,2,none⟩ = some (.slice A D.mod.length c)) ∧ w'.cell? ⟨b,o + k,none⟩ = some (.int .i64 y)) (by kernel_rfl) (by (try dsimp only); exact kk.out) (fun hHeld => ?_);refine tk 0 ?_; try simp only [pS]
    refine tk 1 ?_; try simp only [pS]
    refine tk 2 ?_; try simp only [pS]
    refine tk 3 ?_; try simp only [pS]
    refine tk 4 ?_; try simp only [pS]
    refine rd 5 fun K hK => ?_
    go_simp;go_at_call 28;(with_reducible refine (hI2).out.mono ?_);rintro e w4 ⟨rfl,hb4⟩;go_wp2_with (fail);refine hK.out _ _ (by (try dsimp only); exact ⟨keep3 hb4 hlt3 kk.out.1,(hb4.cell (p := ⟨b,o + k,none⟩) hb3).trans kk.out.2⟩) (fun hHeld => ?_);clear hK K;try simp only [pS]
    refine tk 6 ?_; try simp only [pS]
    refine wpAnyH_done (by kernel_rfl) ?_ _;go_wp2_with (fail);go_roundw
    case rel => exact ⟨k + 1,by omega,by go_num,hin2.out,hbw.drew.trans (hb4.mono hbw.size)⟩
    case measure => simp [intOf]; omega
   ·rw [decide_eq_false hyi] at hI2;replace hI2 := Lib.hid hI2;have hel : elB D l = false := by
     cases h : elB D l with
     | false => rfl
     | true => exact absurd (by rw [hy]; exact elB_iff.1 h k hlt) hyi
    replace hel := Lib.hid hel;clear hin hyi hy;go_wp2_with (fail);refine wp_region_held_drew (S := fun w' => (w'.cell? ⟨w.heap.size,0,none⟩ = some (.int .i64 D.p) ∧ w'.cell? ⟨w.heap.size,1,none⟩ = some (.int .i64 D.m) ∧ w'.cell? ⟨w.heap.size,2,none⟩ = some (.slice A D.mod.length c)) ∧ w'.cell? ⟨b,o + k,none⟩ = some (.int .i64 y)) (by kernel_rfl) (by (try dsimp only); exact kk.out) (fun hHeld => ?_);refine tk 0 ?_; try simp only [pS]
    refine tk 1 ?_; try simp only [pS]
    refine tk 2 ?_; try simp only [pS]
    refine tk 3 ?_; try simp only [pS]
    refine tk 4 ?_; try simp only [pS]
    refine rd 5 fun K hK => ?_
    go_simp;go_at_call 28;(with_reducible refine (hI2).out.mono ?_);rintro e w4 ⟨rfl,hb4⟩;go_wp2_with (fail);refine hK.out _ _ (by (try dsimp only); exact ⟨keep3 hb4 hlt3 kk.out.1,(hb4.cell (p := ⟨b,o + k,none⟩) hb3).trans kk.out.2⟩) (fun hHeld => ?_);clear hK K;try simp only [pS]
    refine tk 6 ?_; try simp only [pS]
    refine wpAnyH_done (by kernel_rfl) ?_ _;go_wp2_with (fail);go_ret;exact ⟨by rw [show elE D l = 2 from if_pos hel.out]; rfl,hB3.drew.trans (hb4.mono hB3.size)⟩
  ·obtain rfl : k = l.length := by omega
   replace hin := Lib.hid hin;go_wp2_with (fail);go_ret;exact ⟨by rw [show elE D l = 0 from if_neg (by rw [elB_iff.2 hin.out]; simp)]; rfl,hB3⟩
end
section
open Go.RowKit Cw
attribute [local go_sem] Oper.semAt_some

def restF {D : Desc} (n : Nat) (p : Nat → Nat) (M : Nat → Nat → R D) (u : Nat → R D) : Nat → R D := fun j => u j + rsum n (fun i => -(u (p i)) * M i j)
set_option maxRecDepth 100000 in
set_option maxHeartbeats 4000000 in
theorem Rest10_any (D : Desc) (n m : Nat) (M : Nat → Nat → R D) (u : Nat → R D) (A Ar A1 : Option Addr) (c cr c1 : Nat) (w : World) (hr : Rd w w.heap.size A (modL D)) (hrm : RdM w w.heap.size Ar n (rowsL D m M)) (hr1 : Rd w w.heap.size A1 (rowL D m u)) (hn : n ≤ 1000) (hm : m ≤ 70000)
  (hp : ∀ i,i < n → fnz (rowsL D m M i) < m) :
  Calls Tryz.prog 156 #[.agg #[.int .i64 D.p,.int .i64 D.m,.slice A D.mod.length c],.slice Ar n cr,.slice A1 m c1] w fun e w' => ∃ A2 c2,e = .returned (.slice A2 m c2) ∧ Rd w' w'.heap.size A2 (rowL D m (restF n (fun i => fnz (rowsL D m M i)) M u)) ∧ Below w.heap.size w w' := by
 have hP := fun W a => Lib.hid (Pivots10_any n (rowsL D m M) Ar cr W a hn (fun i _ => by rw [rowsL,rowL_length]; omega))
 have hN := fun y W => Neg_any D y A D.mod.length c W
 have hAT := fun f h a A1 A2 c1 c2 W x y z => AddTo9_any D m f h a A A1 A2 c c1 c2 W x y z hm
 obtain ⟨Z,hZ⟩ : ∃ Z,Z = w.alloc (.cells #[.int .i64 D.p,.int .i64 D.m,.slice A D.mod.length c] 24) := ⟨_,rfl⟩;have hB : Below w.heap.size w Z := by rw [hZ]; exact (Below.refl _ _).alloc (Nat.le_refl _) _
 have k0 := Lib.hid (show Z.cell? ⟨w.heap.size,0,none⟩ = some (.int .i64 D.p) ∧ Z.cell? ⟨w.heap.size,1,none⟩ = some (.int .i64 D.m) ∧ Z.cell? ⟨w.heap.size,2,none⟩ = some (.slice A D.mod.length c) from by rw [hZ]; exact alloc3 w _ _ _ _);have hlt0 : w.heap.size < Z.heap.size := by rw [hZ]; simp
 replace hZ := Lib.hid hZ;have hP1 := hP Z ((hrm.below hB).more hB.size);clear hP;go_enter Tryz.func156,Tryz.ntmps156;go_wp2_with (fail);rw [← hZ.out];(with_reducible refine hP1.out.mono ?_);rintro e w1 ⟨v1,rfl,ho1,hb1⟩;have hs1 := hb1.size;have kk1 := Lib.hid (keep3 hb1 hlt0 k0.out);have hB1 := hB.trans (hb1.mono hB.size);obtain ⟨Ap,cp,rfl,hcp,hrp,-⟩ := ho1.form;rw [lst_length] at hcp;have hlt1 : w.heap.size < w1.heap.size := by omega
 obtain ⟨W1,hW1⟩ : ∃ W1,W1 = w1.alloc (.cells #[] 3) := ⟨_,rfl⟩;have hbe : Below w1.heap.size w1 W1 := by rw [hW1]; exact (Below.refl _ _).alloc (Nat.le_refl _) _
 have hse : w1.heap.size < W1.heap.size := by rw [hW1]; simp
 have hoe : Own W1 w1.heap.size (.slice (some ⟨w1.heap.size,0,none⟩) 0 0) [] := by rw [hW1]; exact Own.of_IB (l := []) (heap_alloc_new _ _) (Nat.le_refl _) (by simp [maxLen])
 have hB1e := hB1.trans (hbe.mono hB1.size);have hr1e := (hr1.below hB1e).more hB1e.size;have hle : ([] : List Int).length + (rowL D m u).length ≤ 1000000000 := by rw [rowL_length]; simp; omega
 have hrl : m = (rowL D m u).length := (rowL_length _ _ _).symm;have hrl2 := Lib.hid hrl;subst hW1;clear ho1 hrl;rw [lst_length];go_wp2_with (at_builtin; refine wpList_appN (n2 := m) rfl (.tmp 12) (.tmp 13) rfl w1.heap.size _ [] _ A1 c1 (rowL D m u) hoe hr1e rfl rfl hrl2.out hle (Nat.le_of_lt hse) ?_; intro v2 w2 ho2 hb2 hg2 hv2; rw [List.nil_append] at ho2; obtain ⟨A2,c2,rfl,hc2,hr2,hA2⟩ := ho2.form; rw [rowL_length] at hc2);have hb12 := hbe.trans hb2;have hs2 := hb12.size;have hrp2 := (hrp.below hb12).more hs2;have hB2 := hB1.trans (hb12.mono hB1.size);have kk2 := Lib.hid (keep3 hb12 hlt1 kk1.out);clear ho2 hr1e hle hoe;rw [rowL_length];go_loopw [9,8] (fun i v wr => ∃ (k : Nat) (Av : Option Addr) (cv : Nat),k ≤ n ∧ i = .int .i64 k ∧ v = .slice Av m cv ∧ Rd wr wr.heap.size Av (rowL D m (restF k (fun i => fnz (rowsL D m M i)) M u)) ∧ Below w2.heap.size w2 wr) (fun i _ _ => n - (intOf i).toNat)
 case atStart => exact ⟨0,A2,c2,by omega,rfl,rfl,by rw [show restF 0 (fun i => fnz (rowsL D m M i)) M u = u from funext fun j => add_zero _]; exact hr2,Below.refl _ _⟩
 case round =>
  obtain ⟨k,Av,cv,hk,rfl,rfl,hrv,hbw⟩ := hrel;obtain ⟨w3,rfl⟩ : ∃ w3 : World,w3 = wr := ⟨_,rfl⟩;have hB3 := hB2.trans (hbw.mono hB2.size);by_cases hlt : k < n
  ·have hk0 : (0 : Int) ≤ (k : Int) := by omega
   have hk1 : (k : Int) < (n : Int) := by omega
   have hpk := hp k hlt;obtain ⟨b,o,Ak,ck,rfl,hb,hc,hrk,-,-⟩ := hrm.at_ hlt;have hd := (hB3.cell (p := ⟨b,o + k,none⟩) hb).trans hc;rw [show (rowsL D m M k).length = m from rowL_length _ _ _] at hd;have hrk3 := (hrk.below hB3).more hB3.size;obtain ⟨bp,op,rfl,hbp,hcp'⟩ := hrp2.at_ (by rw [lst_length]; exact hlt : k < (lst n fun i => (fnz (rowsL D m M i) : Int)).length);rw [lst_get _ hlt] at hcp';have hdp := (hbw.cell (p := ⟨bp,op + k,none⟩) hbp).trans hcp';obtain ⟨bu,ou,rfl,hbu,hcu⟩ := hr1.at_ (by rw [rowL_length]; exact hpk : fnz (rowsL D m M k) < (rowL D m u).length);rw [rowL_get D u hpk] at hcu;have hdu := (hB3.cell (p := ⟨bu,ou + fnz (rowsL D m M k),none⟩) hbu).trans hcu;have hN3 := fun W => Lib.hid (hN (ci (u (fnz (rowsL D m M k)))) W)
   have hAT3 := fun W x y z => hAT (restF k (fun i => fnz (rowsL D m M i)) M u) (M k) (ci (-(eli D (ci (u (fnz (rowsL D m M k))))))) Av Ak cv ck W x y z
   have hstep : Hid ((fun j => restF k (fun i => fnz (rowsL D m M i)) M u j + eli D (ci (-(eli D (ci (u (fnz (rowsL D m M k))))))) * M k j) = restF (k + 1) (fun i => fnz (rowsL D m M i)) M u) := funext fun j => by
    rw [eli_ci,eli_ci];unfold restF;rw [rsum_succ,add_a]
   rw [hstep.out] at hAT3;unfold Gives at hAT3;rw [rowL_length] at hAT3;replace hAT3 := fun W x y z => Lib.hid (hAT3 W x y z)
   obtain ⟨pk,hpke⟩ : ∃ pk,pk = fnz (rowsL D m M k) := ⟨_,rfl⟩;rw [← hpke] at hdp hdu hpk;have hp0 : (0 : Int) ≤ (pk : Int) := by omega
   have hp1 : (pk : Int) < (m : Int) := by omega
   obtain ⟨y,hy⟩ : ∃ y,y = ci (u pk) := ⟨_,rfl⟩;rw [← hpke,← hy] at hN3;rw [← hpke,← hy] at hAT3;rw [← hy] at hdu;replace hpke := Lib.hid hpke;replace hy := Lib.hid hy;have hlt3 : w.heap.size < w3.heap.size := by have := hbw.size; omega
   have hsw3 : w.heap.size ≤ w3.heap.size := hB3.size;have kk3 := keep3 hbw (by omega) kk2.out;have hcc := Lib.hid (show (_ ∧ _ ∧ _) ∧ _ ∧ _ ∧ _ from ⟨kk3,hd,hdp,hdu⟩);have hb3 : b < w3.heap.size := Nat.lt_of_lt_of_le hb hsw3;have hbp3 : bp < w3.heap.size := Nat.lt_of_lt_of_le hbp hbw.size;have hbu3 : bu < w3.heap.size := Nat.lt_of_lt_of_le hbu hsw3;clear hc hcp' hcu hd hdp hdu kk3 hrk hN hAT;go_wp2_with (fail);refine wp_region_held_drew (S := fun w' => (w'.cell? ⟨w.heap.size,0,none⟩ = some (.int .i64 D.p) ∧ w'.cell? ⟨w.heap.size,1,none⟩ = some (.int .i64 D.m) ∧ w'.cell? ⟨w.heap.size,2,none⟩ = some (.slice A D.mod.length c)) ∧ w'.cell? ⟨b,o + k,none⟩ = some (.slice Ak m ck) ∧ w'.cell? ⟨bp,op + k,none⟩ = some (.int .i64 pk) ∧ w'.cell? ⟨bu,ou + pk,none⟩ = some (.int .i64 y)) (by kernel_rfl) (by (try dsimp only); exact hcc.out) (fun hHeld => ?_);refine tk 0 ?_; try simp only [pS]
   refine tk 1 ?_; try simp only [pS]
   refine tk 2 ?_; try simp only [pS]
   refine tk 3 ?_; try simp only [pS]
   refine tk 4 ?_; try simp only [pS]
   refine tk 5 ?_; try simp only [pS]
   refine tk 6 ?_; try simp only [pS]
   refine tk 7 ?_; try simp only [pS]
   refine tk 8 ?_; try simp only [pS]
   refine tk 9 ?_; try simp only [pS]
   refine tk 11 ?_; try simp only [pS]
   refine tk 12 ?_; try simp only [pS]
   refine tk 13 ?_; try simp only [pS]
   refine tk 14 ?_; try simp only [pS]
   refine rd 10 fun K hK => ?_
   go_simp;go_at_call 150;(with_reducible refine (hN3 _).out.mono ?_);rintro e w4 ⟨rfl,hb4⟩;have hcc4 := Lib.hid (show (_ ∧ _ ∧ _) ∧ _ ∧ _ ∧ _ from ⟨keep3 hb4 hlt3 hcc.out.1,(hb4.cell (p := ⟨b,o + k,none⟩) hb3).trans hcc.out.2.1,(hb4.cell (p := ⟨bp,op + k,none⟩) hbp3).trans hcc.out.2.2.1,(hb4.cell (p := ⟨bu,ou + pk,none⟩) hbu3).trans hcc.out.2.2.2⟩);have hb34 : Below w3.heap.size w3 w4 := (Below.refl _ w3).drew.trans hb4;have hB4 := hB3.trans (hb34.mono hB3.size);have hs4 : w3.heap.size ≤ w4.heap.size := hb4.size;have hAT4 := hAT3 w4 ((hr.below hB4).more hB4.size) ((hrv.below hb34).more hb34.size) ((hrk3.below hb34).more hb34.size);go_wp2_with (fail);refine hK.out _ _ (by (try dsimp only); exact hcc4.out) (fun hHeld => ?_);clear hK K;try simp only [pS]
   refine rd 15 fun K hK => ?_
   go_simp;go_at_call 148;(with_reducible refine (hAT4).out.mono ?_);rintro e w5 ⟨g5,rfl,hg5,hib5,hb5⟩;go_wp2_with (fail);refine hK.out _ _ (by (try dsimp only); exact ⟨keep3 hb5 (Nat.lt_of_lt_of_le hlt3 hs4) hcc4.out.1,(hb5.cell (p := ⟨b,o + k,none⟩) (Nat.lt_of_lt_of_le hb3 hs4)).trans hcc4.out.2.1,(hb5.cell (p := ⟨bp,op + k,none⟩) (Nat.lt_of_lt_of_le hbp3 hs4)).trans hcc4.out.2.2.1,(hb5.cell (p := ⟨bu,ou + pk,none⟩) (Nat.lt_of_lt_of_le hbu3 hs4)).trans hcc4.out.2.2.2⟩) (fun hHeld => ?_);clear hK K;try simp only [pS]
   refine tk 16 ?_; try simp only [pS]
   refine wpAnyH_done (by kernel_rfl) ?_ _;go_wp2_with (fail);go_roundw
   case rel => exact ⟨k + 1,some ⟨g5,0,none⟩,m,by omega,by go_num,rfl,hib5.rd,hbw.trans ((hb34.trans (hb5.mono hs4)).mono hbw.size)⟩
   case measure => simp [intOf]; omega
  ·obtain rfl : k = n := by omega
   go_wp2_with (fail);go_ret;exact ⟨Av,cv,rfl,hrv,hB3⟩

set_option maxHeartbeats 1000000 in
theorem In10_any (D : Desc) (n m : Nat) (M : Nat → Nat → R D) (u : Nat → R D) (A Ar A1 : Option Addr) (c cr c1 : Nat) (w : World) (hr : Rd w w.heap.size A (modL D)) (hrm : RdM w w.heap.size Ar n (rowsL D m M)) (hr1 : Rd w w.heap.size A1 (rowL D m u)) (hn : n ≤ 1000) (hm : m ≤ 70000)
  (hp : ∀ i,i < n → fnz (rowsL D m M i) < m) :
  Calls Tryz.prog 82 #[.agg #[.int .i64 D.p,.int .i64 D.m,.slice A D.mod.length c],.slice Ar n cr,.slice A1 m c1] w fun e w' => e = .returned (.bool (all0 (rowL D m (restF n (fun i => fnz (rowsL D m M i)) M u)))) ∧ Below w.heap.size w w' := by
 obtain ⟨Z,hZ⟩ : ∃ Z,Z = w.alloc (.cells #[.int .i64 D.p,.int .i64 D.m,.slice A D.mod.length c] 24) := ⟨_,rfl⟩;have hB : Below w.heap.size w Z := by rw [hZ]; exact (Below.refl _ _).alloc (Nat.le_refl _) _
 obtain ⟨q0,q1,q2⟩ := (show Z.cell? ⟨w.heap.size,0,none⟩ = some (.int .i64 D.p) ∧ Z.cell? ⟨w.heap.size,1,none⟩ = some (.int .i64 D.m) ∧ Z.cell? ⟨w.heap.size,2,none⟩ = some (.slice A D.mod.length c) from by rw [hZ]; exact alloc3 w _ _ _ _);have hR := Lib.hid (Rest10_any D n m M u A Ar A1 c cr c1 Z ((hr.below hB).more hB.size) ((hrm.below hB).more hB.size) ((hr1.below hB).more hB.size) hn hm hp);have hZe := fun A2 c2 W a => Zero10_any (rowL D m (restF n (fun i => fnz (rowsL D m M i)) M u)) A2 c2 W a (by rw [rowL_length]; omega)
 rw [rowL_length] at hZe;replace hZe := fun A2 c2 W a => Lib.hid (hZe A2 c2 W a)
 rw [hZ] at q0 q1 q2;replace hZ := Lib.hid hZ;clear hp;go_enter Tryz.func82,Tryz.ntmps82;go_wp2_with (fail);rw [← hZ.out];(with_reducible refine hR.out.mono ?_);rintro e w1 ⟨A2,c2,rfl,hr2,hb1⟩;go_wp2_with (fail);(with_reducible refine (hZe A2 c2 w1 hr2).out.mono ?_);rintro e w2 ⟨rfl,rfl⟩;go_wp2_with (fail);go_ret;exact ⟨rfl,hB.trans (hb1.mono hB.size)⟩
end
end Go.Proofs.YtjdoneanohhkmaaGreat
