/- The reference's spaces: Zero, Pivots, Rest, In; entries of a list. -/
import Derived.Test.YtogfekjbpcfgmaaGreatZtXMH
import Derived.Test.YtogfekjbpcfgmaaGreatZtXKerI
import Derived.Test.YtogfekjbpcfgmaaGreatZtXTk
namespace Go.Proofs.YtogfekjbpcfgmaaGreat
open Go.RowKit Cw
attribute [local go_sem] Oper.semAt_some

def fnz:List Int→Nat
 | []=>0
 | x :: l=>if x=0 then fnz l+1 else 0
theorem fnz_eq:∀ (l:List Int) (c:Nat),c≤l.length→(∀ j,j<c→l[j]?.getD 0=0)→(c=l.length∨l[c]?.getD 0≠0)→fnz l=c
 | [],c,h,_,_=>by simp at h; rw[h]; rfl
 | x :: l,c,h,h1,h2=>by
  cases c with
  | zero =>
   rcases h2 with h2 | h2
   ·simp at h2
   ·exact if_neg (by simpa using h2)
  | succ c =>
   have h3:x=0:=by simpa using h1 0 (by omega)
   rw[show fnz (x :: l)=fnz l+1 from if_pos h3,fnz_eq l c (by simpa using h) (fun j hj=>by simpa using h1 (j+1) (by omega)) (h2.imp (fun e=>by simpa using e) (fun e=>by simpa using e))]
def all0 (l:List Int):Bool:=decide (∀ x∈l,x=0)
def elE (D:Desc)(l:List Int):Int:=if elB D l=false then 2 else 0
theorem all0_take {l:List Int} {k:Nat} (hk:k<l.length)(h:∀ x∈l.take k,x=0)(h2:l[k]?.getD 0=0):∀ x∈l.take (k+1),x=0:=by
 rw[List.take_succ_eq_append_getElem hk];rw[List.getElem?_eq_getElem hk,Option.getD_some]at h2;intro x hx;rcases List.mem_append.1 hx with h3 | h3
 ·exact h x h3
 ·rw[List.mem_singleton.1 h3]; exact h2

set_option maxHeartbeats 1000000 in
theorem Zero10_any (l:List Int)(A:Option Addr)(c:Nat)(w:World)(hr:Rd w w.heap.size A l)(hl:l.length≤1000000) :
  Calls Tryz.prog 107 #[.slice A l.length c] w fun e w'=>e=.returned (.bool (all0 l))∧w=w':=by
 go_enter Tryz.func107,Tryz.ntmps107;go_wp2_with (fail);go_loop [3] (fun i=>∃ k:Nat,k≤l.length∧i=.int .i64 k∧∀ x∈l.take k,x=0) (fun i=>l.length - (intOf i).toNat)
 case atStart=>exact⟨0,by omega,rfl,fun x hx=>by simp at hx⟩
 case round =>
  obtain⟨k,hk,rfl,hz⟩:=hrel;by_cases hlt:k<l.length
  ·obtain⟨b,o,rfl,-,hc⟩:=hr.at_ hlt;obtain⟨y,hy⟩:∃ y,y=l[k]?.getD 0:=⟨_,rfl⟩;have hm:y∈l:=by rw[hy,List.getElem?_eq_getElem hlt]; exact List.getElem_mem _
   rw[←hy]at hc;have hk0:(0:Int)≤(k:Int):=by omega
   have hk1:(k:Int)<(l.length:Int):=by omega
   by_cases hy0:y=0
   ·have hyb:(y !=0)=false:=by rw[bne_eq_false_iff_eq]; exact hy0
    have hz2:Hid (∀ x∈l.take (k+1),x=0):=all0_take hlt hz (by rw[←hy]; exact hy0);clear hy hy0 hz hm;go_wp2_with (fail);go_round
    case rel=>exact⟨k+1,by omega,by go_num,hz2.out⟩
    case measure=>simp[intOf]; omega
   ·have hyb:(y !=0)=true:=by rw[bne_iff_ne]; exact hy0
    have hf:Hid (all0 l=false):=decide_eq_false fun h=>hy0 (h y hm)
    clear hy hy0 hz hm;go_wp2_with (fail);go_ret;exact⟨by rw[hf.out]; rfl,rfl⟩
  ·obtain rfl:k=l.length:=by omega
   rw[List.take_length]at hz;replace hz:=Lib.hid hz;go_wp2_with (fail);go_ret;exact⟨by rw[show all0 l=true from decide_eq_true hz.out]; rfl,rfl⟩

set_option maxHeartbeats 2000000 in
theorem Pivots10_any (n:Nat)(rows:Nat→List Int)(A:Option Addr)(c:Nat)(w:World)(hr:RdM w w.heap.size A n rows)(hn:n≤1000)(hl:∀ i,i<n→(rows i).length≤1000000) :
  Calls Tryz.prog 100 #[.slice A n c] w fun e w'=>∃ v,e=.returned v∧Own w' w.heap.size v (lst n fun i=>(fnz (rows i):Int))∧Below w.heap.size w w':=by
 go_enter Tryz.func100,Tryz.ntmps100;go_wp2_with (fail);go_loopw [4,3] (fun i v wr=>∃ k:Nat,k≤n∧i=.int .i64 k∧Own wr w.heap.size v (lst k fun i=>(fnz (rows i):Int))∧Below w.heap.size w wr) (fun i _ _=>n - (intOf i).toNat)
 case atStart=>exact⟨0,by omega,rfl,Own.nil _ _,Below.refl _ _⟩
 case round =>
  obtain⟨k,hk,rfl,ho,hbw⟩:=hrel;obtain⟨w3,rfl⟩:∃ w3:World,w3=wr:=⟨_,rfl⟩;by_cases hlt:k<n
  ·have hk0:(0:Int)≤(k:Int):=by omega
   have hk1:(k:Int)<(n:Int):=by omega
   obtain⟨b,o,Ak,ck,rfl,hb,hc,hrk,-,-⟩:=hr.at_ hlt;have hlk:=hl k hlt;have hd:=(hbw.cell (p:=⟨b,o+k,none⟩) hb).trans hc;have hrk3:=(hrk.below hbw).more hbw.size;obtain⟨row,hrow⟩:∃ row,row=rows k:=⟨_,rfl⟩;rw[←hrow]at hd hrk3 hlk;replace hrow:=Lib.hid hrow;clear hc hrk;go_wp2_with (fail);go_loop [5] (fun j=>∃ j':Nat,j'≤row.length∧j=.int .i64 j'∧∀ t,t<j'→row[t]?.getD 0=0) (fun j=>row.length - (intOf j).toNat)
   case atStart=>exact⟨0,by omega,rfl,fun t ht=>absurd ht (Nat.not_lt_zero _)⟩
   case round =>
    obtain⟨j,hj,rfl,hz⟩:=hrel;have hj0:(0:Int)≤(j:Int):=by omega
    by_cases hjl:j<row.length
    ·have hj1:(j:Int)<(row.length:Int):=by omega
     obtain⟨br,orr,rfl,-,hcr⟩:=hrk3.at_ hjl;obtain⟨y,hy⟩:∃ y,y=row[j]?.getD 0:=⟨_,rfl⟩;rw[←hy]at hcr;by_cases hy0:y=0
     ·have hyb:(y==0)=true:=by rw[beq_iff_eq]; exact hy0
      have hz2:Hid (∀ t,t<j+1→row[t]?.getD 0=0):=fun t ht=>by
       by_cases e:t=j
       ·rw[e,←hy]; exact hy0
       ·exact hz t (by omega)
      clear hy hy0 hz;go_wp2_with (fail);go_round
      case rel=>exact⟨j+1,by omega,by go_num,hz2.out⟩
      case measure=>simp[intOf]; omega
     ·have hyb:(y==0)=false:=by rw[beq_eq_false_iff_ne]; exact hy0
      have hf:=Lib.hid (fnz_eq row j hj hz (.inr (by rw[←hy]; exact hy0)));have hle:(lst k fun i=>(fnz (rows i):Int)).length≤1000000:=by rw[lst_length]; omega
      have hsz:=hbw.size;obtain⟨Au,cu,rfl,-,-,-⟩:=ho.form;clear hy hy0 hz;go_wp2_with (at_builtin; refine wpList_app1 rfl (.tmp 31) (.tmp 33) rfl w.heap.size _ _ _ ho rfl rfl rfl hle hsz ?_; intro v' w' ho' hb' hg' hv');rw[←hf.out,hrow.out,←lst_succ]at ho';go_roundw
      case rel=>exact⟨k+1,by omega,by go_num,ho',hbw.trans hb'⟩
      case measure=>simp[intOf]; omega
    ·obtain rfl:j=row.length:=by omega
     have hf:=Lib.hid (fnz_eq row row.length (Nat.le_refl _) hz (.inl rfl));have hle:(lst k fun i=>(fnz (rows i):Int)).length≤1000000:=by rw[lst_length]; omega
     have hsz:=hbw.size;obtain⟨Au,cu,rfl,-,-,-⟩:=ho.form;clear hz;go_wp2_with (at_builtin; refine wpList_app1 rfl (.tmp 31) (.tmp 33) rfl w.heap.size _ _ _ ho rfl rfl rfl hle hsz ?_; intro v' w' ho' hb' hg' hv');rw[←hf.out,hrow.out,←lst_succ]at ho';go_roundw
     case rel=>exact⟨k+1,by omega,by go_num,ho',hbw.trans hb'⟩
     case measure=>simp[intOf]; omega
  ·obtain rfl:k=n:=by omega
   go_wp2_with (fail);go_ret;exact⟨_,rfl,ho,hbw⟩

set_option maxHeartbeats 1000000 in
theorem Entries9_any (D:Desc)(l:List Int)(A A1:Option Addr)(c c1:Nat)(w:World)(hr1:Rd w w.heap.size A1 l)(hl:l.length≤1000000) :
  Calls Tryz.prog 162 #[.agg #[.int .i64 D.p,.int .i64 D.m,.slice A D.mod.length c],.slice A1 l.length c1] w fun e w'=>e=.returned (.int .i64 (elE D l))∧Below w.heap.size w w':=by
 have hI:=fun y W=>Is_any D y A D.mod.length c W
 have hB:Below w.heap.size w (w.alloc (.cells #[.int .i64 D.p,.int .i64 D.m,.slice A D.mod.length c] 24)):=(Below.refl _ _).alloc (Nat.le_refl _) _;have k0:=Lib.hid (alloc3 w (.int .i64 D.p) (.int .i64 D.m) (.slice A D.mod.length c) 24);have hlt0:w.heap.size<(w.alloc (.cells #[.int .i64 D.p,.int .i64 D.m,.slice A D.mod.length c] 24)).heap.size:=by simp
 obtain⟨Z,hZ⟩:∃ Z,Z=w.alloc (.cells #[.int .i64 D.p,.int .i64 D.m,.slice A D.mod.length c] 24):=⟨_,rfl⟩;rw[←hZ]at hB k0 hlt0;replace hZ:=Lib.hid hZ;go_enter Tryz.func162,Tryz.ntmps162;go_wp2_with (fail);rw[←hZ.out];go_loopw [5] (fun i wr=>∃ k:Nat,k≤l.length∧i=.int .i64 k∧(∀ j,j<k→0≤l[j]?.getD 0∧l[j]?.getD 0<(D.q:Int))∧Below Z.heap.size Z wr) (fun i _=>l.length - (intOf i).toNat)
 case atStart=>exact⟨0,by omega,rfl,fun j hj=>absurd hj (Nat.not_lt_zero _),Below.refl _ _⟩
 case round =>
  obtain⟨k,hk,rfl,hin,hbw⟩:=hrel;obtain⟨w3,rfl⟩:∃ w3:World,w3=wr:=⟨_,rfl⟩;have hB3:=hB.trans (hbw.mono hB.size);by_cases hlt:k<l.length
  ·have hk0:(0:Int)≤(k:Int):=by omega
   have hk1:(k:Int)<(l.length:Int):=by omega
   obtain⟨b,o,rfl,hb,hc⟩:=hr1.at_ hlt;have hd:=(hB3.cell (p:=⟨b,o+k,none⟩) hb).trans hc;obtain⟨y,hy⟩:∃ y,y=l[k]?.getD 0:=⟨_,rfl⟩;rw[←hy]at hd;have kk:=Lib.hid (show _∧_ from ⟨keep3 hbw hlt0 k0.out,hd⟩);have hb3:b<w3.heap.size:=Nat.lt_of_lt_of_le hb hB3.size;have hlt3:w.heap.size<w3.heap.size:=Nat.lt_of_lt_of_le hlt0 hbw.size;have hI2:=hI y w3.drew;clear hc hd;by_cases hyi:0≤y∧y<(D.q:Int)
   ·rw[decide_eq_true hyi]at hI2;replace hI2:=Lib.hid hI2;have hin2:Hid (∀ j,j<k+1→0≤l[j]?.getD 0∧l[j]?.getD 0<(D.q:Int)):=fun j hj=>by
     by_cases e:j=k
     ·rw[e,←hy]; exact hyi
     ·exact hin j (by omega)
    clear hin hyi hy;go_wp2_with (fail);refine wp_region_held_drew (S:=fun w'=>(w'.cell? ⟨w.heap.size,0,none⟩=some (.int .i64 D.p)∧w'.cell? ⟨w.heap.size,1,none⟩=some (.int .i64 D.m)∧w'.cell? ⟨w.heap.size,2,none⟩=some (.slice A D.mod.length c))∧w'.cell? ⟨b,o+k,none⟩=some (.int .i64 y)) (by kernel_rfl) (by (try dsimp only); exact kk.out) (fun hHeld=>?_);refine tk 0 ?_; try simp only[pS]
    refine tk 1 ?_; try simp only[pS]
    refine tk 2 ?_; try simp only[pS]
    refine tk 3 ?_; try simp only[pS]
    refine tk 4 ?_; try simp only[pS]
    refine rd 5 fun K hK=>?_
    go_simp;go_at_call 70;(with_reducible refine (hI2).out.mono ?_);rintro e w4 ⟨rfl,hb4⟩;go_wp2_with (fail);refine hK.out _ _ (by (try dsimp only); exact⟨keep3 hb4 hlt3 kk.out.1,(hb4.cell (p:=⟨b,o+k,none⟩) hb3).trans kk.out.2⟩) (fun hHeld=>?_);clear hK K;try simp only[pS]
    refine tk 6 ?_; try simp only[pS]
    refine wpAnyH_done (by kernel_rfl) ?_ _;go_wp2_with (fail);go_roundw
    case rel=>exact⟨k+1,by omega,by go_num,hin2.out,hbw.drew.trans (hb4.mono hbw.size)⟩
    case measure=>simp[intOf]; omega
   ·rw[decide_eq_false hyi]at hI2;replace hI2:=Lib.hid hI2;have hel:elB D l=false:=by
     cases h:elB D l with
     | false=>rfl
     | true=>exact absurd (by rw[hy]; exact elB_iff.1 h k hlt) hyi
    replace hel:=Lib.hid hel;clear hin hyi hy;go_wp2_with (fail);refine wp_region_held_drew (S:=fun w'=>(w'.cell? ⟨w.heap.size,0,none⟩=some (.int .i64 D.p)∧w'.cell? ⟨w.heap.size,1,none⟩=some (.int .i64 D.m)∧w'.cell? ⟨w.heap.size,2,none⟩=some (.slice A D.mod.length c))∧w'.cell? ⟨b,o+k,none⟩=some (.int .i64 y)) (by kernel_rfl) (by (try dsimp only); exact kk.out) (fun hHeld=>?_);refine tk 0 ?_; try simp only[pS]
    refine tk 1 ?_; try simp only[pS]
    refine tk 2 ?_; try simp only[pS]
    refine tk 3 ?_; try simp only[pS]
    refine tk 4 ?_; try simp only[pS]
    refine rd 5 fun K hK=>?_
    go_simp;go_at_call 70;(with_reducible refine (hI2).out.mono ?_);rintro e w4 ⟨rfl,hb4⟩;go_wp2_with (fail);refine hK.out _ _ (by (try dsimp only); exact⟨keep3 hb4 hlt3 kk.out.1,(hb4.cell (p:=⟨b,o+k,none⟩) hb3).trans kk.out.2⟩) (fun hHeld=>?_);clear hK K;try simp only[pS]
    refine tk 6 ?_; try simp only[pS]
    refine wpAnyH_done (by kernel_rfl) ?_ _;go_wp2_with (fail);go_ret;exact⟨by rw[show elE D l=2 from if_pos hel.out]; rfl,hB3.drew.trans (hb4.mono hB3.size)⟩
  ·obtain rfl:k=l.length:=by omega
   replace hin:=Lib.hid hin;go_wp2_with (fail);go_ret;exact⟨by rw[show elE D l=0 from if_neg (by rw[elB_iff.2 hin.out]; simp)]; rfl,hB3⟩
end Go.Proofs.YtogfekjbpcfgmaaGreat
