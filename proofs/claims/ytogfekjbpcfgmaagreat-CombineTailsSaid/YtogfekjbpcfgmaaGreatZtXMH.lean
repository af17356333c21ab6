/- The reference: equal fields. The reference: Canon of rows, copies of fields, equal rows. The reference's codes: Field, Make, Same. The reference's codes: Make, Same. -/
import Derived.Test.YtogfekjbpcfgmaaGreatZtXRF
import Derived.Test.YtogfekjbpcfgmaaGreatZtXGA
import Derived.Test.YtogfekjbpcfgmaaGreatZtXMatE
import Derived.Test.YtogfekjbpcfgmaaGreatZtXTk
namespace Go.Proofs.YtogfekjbpcfgmaaGreat
section
open Go.RowKit Cw
attribute [local go_sem] Oper.semAt_some

set_option maxHeartbeats 1000000 in
theorem Same4_eq (P M:Int)(ml:List Int)(A A':Option Addr)(c c':Nat)(w:World)(h1:Rd w w.heap.size A ml)(h2:Rd w w.heap.size A' ml)(hl:ml.length≤maxLen) :
  Calls Tryz.prog 40 #[.agg #[.int .i64 P,.int .i64 M,.slice A ml.length c],.agg #[.int .i64 P,.int .i64 M,.slice A' ml.length c']] w fun e w'=>e=.returned (.bool true)∧Below w.heap.size w w':=by
 unfold maxLen at hl;obtain⟨Z,hZ⟩:∃ Z,Z=(w.alloc (.cells #[.int .i64 P,.int .i64 M,.slice A ml.length c] 24)).alloc (.cells #[.int .i64 P,.int .i64 M,.slice A' ml.length c'] 24):=⟨_,rfl⟩;have hB:Below w.heap.size w Z:=by rw[hZ]; exact ((Below.refl _ _).alloc (Nat.le_refl _) _).alloc (by simp) _
 have hn:w.heap.size+1<Z.heap.size:=by rw[hZ]; simp
 have kz:Z.cell? ⟨w.heap.size,0,none⟩=some (.int .i64 P)∧Z.cell? ⟨w.heap.size,1,none⟩=some (.int .i64 M)∧Z.cell? ⟨w.heap.size,2,none⟩=some (.slice A ml.length c) ∧
   Z.cell? ⟨w.heap.size+1,0,none⟩=some (.int .i64 P)∧Z.cell? ⟨w.heap.size+1,1,none⟩=some (.int .i64 M)∧Z.cell? ⟨w.heap.size+1,2,none⟩=some (.slice A' ml.length c'):=by rw[hZ]; simp[go_sem]
 replace hZ:=Lib.hid hZ;replace kz:=Lib.hid kz;go_enter Tryz.func40,Tryz.ntmps40;go_wp2_with (fail);rw[←hZ.out];go_loopw [5] (fun i wr=>∃ k:Nat,k≤ml.length∧i=.int .i64 k∧Below Z.heap.size Z wr) (fun i _=>ml.length - (intOf i).toNat)
 case atStart=>exact⟨0,by omega,rfl,Below.refl _ _⟩
 case round =>
  obtain⟨k,hk,rfl,hbw⟩:=hrel;obtain⟨w2,rfl⟩:∃ w2:World,w2=wr:=⟨_,rfl⟩;obtain⟨q0,q1,q2,q3,q4,q5⟩:=keep3x2 hbw (by omega) hn kz.out;have hbb:=hB.trans (hbw.mono hB.size);by_cases hlt:k<ml.length
  ·obtain⟨b1,o1,rfl,hb1,hc1⟩:=h1.at_ hlt;obtain⟨b2,o2,rfl,hb2,hc2⟩:=h2.at_ hlt;have hd1:=(hbb.cell (p:=⟨b1,o1+k,none⟩) hb1).trans hc1;have hd2:=(hbb.cell (p:=⟨b2,o2+k,none⟩) hb2).trans hc2;obtain⟨y1,hy1⟩:∃ y,y=ml[k]?.getD 0:=⟨_,rfl⟩;rw[←hy1]at hd1 hd2;have hz:(y1 !=y1)=false:=by simp
   clear hc1 hc2 hy1;go_wp2_with (fail);go_quiet (fail);go_wp2_with (fail);go_roundw
   case rel=>exact⟨k+1,by omega,by go_num,⟨hbw.os,hbw.tape,hbw.output,hbw.size,hbw.block⟩⟩
   case measure=>simp[intOf]; omega
  ·obtain rfl:k=ml.length:=by omega
   go_wp2_with (fail);go_ret;exact⟨rfl,hbb⟩
end
section
open Go.RowKit Cw
attribute [local go_sem] Oper.semAt_some

set_option maxHeartbeats 1000000 in
theorem Elim9_zero (F:FD)(m cols:Nat)(M:Nat→Nat→R F.toDesc)(A Ar:Option Addr)(c cr:Nat)(w:World)(hc:cols≤70000) :
  Calls Tryz.prog 159 #[.agg #[.int .i64 F.p,.int .i64 F.m,.slice A F.mod.length c],.slice Ar 0 cr,.int .i64 cols] w (ElimPost F 0 m cols M w):=by
 have hCp:=fun W=>Lib.hid (Copy9_any 0 (rowsL F.toDesc m M) Ar cr W RdM.zero (by omega) (fun i hi=>absurd hi (by omega)))
 have hB0:Below w.heap.size w (w.alloc (.cells #[.int .i64 F.p,.int .i64 F.m,.slice A F.mod.length c] 24)):=(Below.refl _ _).alloc (Nat.le_refl _) _;have hEl:Hid (elS 0 M cols=(M,[])):=by
  have:=elS_stop (n:=0) (A:=M) (c:=0) (Nat.zero_le _) cols
  rwa [Nat.zero_add]at this
 go_enter Tryz.func159,Tryz.ntmps159;go_wp2_with (fail);(with_reducible refine (hCp _).out.mono ?_);rintro e w1 ⟨v,rfl,-,hb1,hv⟩;have hB1:=hB0.trans (hb1.mono hB0.size);obtain rfl:=hv rfl;clear hv hb1 hCp hB0;go_wp2_with (fail);go_loopw [11,10,9,12,13] (fun cS aS pS _ _ wr=>cS=.int .i64 0∧aS=.int .i64 0∧pS=.slice none 0 0∧wr=w1) (fun _ _ _ _ _ _=>0)
 case atStart=>exact⟨rfl,rfl,rfl,rfl⟩
 case round =>
  obtain⟨rfl,rfl,rfl,rfl⟩:=hrel;by_cases h0:cols=0
  ·subst h0;go_wp2_with (fail);go_ret2;exact⟨none,0,.slice none 0 0,rfl,hB1,Nat.zero_le _,Nat.zero_le _,by rw[hEl.out]; exact Own.nil _ _,fun h=>absurd h (by omega),fun _=>⟨rfl,rfl⟩⟩
  ·have h1:(0:Int)<(cols:Int):=by omega
   go_wp2_with (fail);go_ret2;exact⟨none,0,.slice none 0 0,rfl,hB1,Nat.zero_le _,Nat.zero_le _,by rw[hEl.out]; exact Own.nil _ _,fun h=>absurd h (by omega),fun _=>⟨rfl,rfl⟩⟩

theorem Elim9_all (F:FD)(n m cols:Nat)(M:Nat→Nat→R F.toDesc)(A Ar:Option Addr)(c cr:Nat)(w:World)(hr:Rd w w.heap.size A (modL F.toDesc))(hrm:RdM w w.heap.size Ar n (rowsL F.toDesc m M))(hn:n≤1000000)(hm:m≤70000)(hcm:cols≤m) :
  Calls Tryz.prog 159 #[.agg #[.int .i64 F.p,.int .i64 F.m,.slice A F.mod.length c],.slice Ar n cr,.int .i64 cols] w (ElimPost F n m cols M w):=by
 by_cases h:0<n
 ·exact Elim9_any F n m cols M A Ar c cr w hr hrm hn hm hcm h
 ·obtain rfl:n=0:=by omega
  exact Elim9_zero F m cols M A Ar c cr w (by omega)

noncomputable def rkS (F:FD)(n cols:Nat)(M:Nat→Nat→R F.toDesc):Nat:=(elS n M cols).2.length
def CanonPost (F:FD)(n m cols:Nat)(M:Nat→Nat→R F.toDesc)(w:World)(e:Ending)(w':World):Prop :=
 ∃ Al cl Ap cp,e=.returned (.tuple #[.slice Al (rkS F n cols M) cl,.slice Ap (rkS F n cols M) cp])∧Below w.heap.size w w'∧RdMU w' w.heap.size w'.heap.size Al (rkS F n cols M) (rowsL F.toDesc m (elS n M cols).1)∧Rd w' w'.heap.size Ap (natL (elS n M cols).2)∧rkS F n cols M≤cl∧cl≤maxLen∧(∀ a,Al=some a→w.heap.size≤a.block)
set_option maxHeartbeats 1000000 in
theorem Canon9_any (F:FD)(n m cols:Nat)(M:Nat→Nat→R F.toDesc)(A Ar:Option Addr)(c cr:Nat)(w:World)(hr:Rd w w.heap.size A (modL F.toDesc))(hrm:RdM w w.heap.size Ar n (rowsL F.toDesc m M))(hn:n≤1000000)(hm:m≤70000)(hcm:cols≤m) :
  Calls Tryz.prog 102 #[.agg #[.int .i64 F.p,.int .i64 F.m,.slice A F.mod.length c],.slice Ar n cr,.int .i64 cols] w (CanonPost F n m cols M w):=by
 have hE:=fun W h1 h2=>Lib.hid (Elim9_all F n m cols M A Ar c cr W h1 h2 hn hm hcm)
 have hB0:Below w.heap.size w (w.alloc (.cells #[.int .i64 F.p,.int .i64 F.m,.slice A F.mod.length c] 24)):=(Below.refl _ _).alloc (Nat.le_refl _) _;have hrk:=(elS_le n M cols).1;go_enter Tryz.func102,Tryz.ntmps102;go_wp2_with (fail);(with_reducible refine (hE _ ((hr.below hB0).more hB0.size) ((hrm.below hB0).more hB0.size)).out.mono ?_);rintro e w1 ⟨Al,cl,vp,rfl,hb1,hcl,hcl',hown,hmb,hz⟩;have hB1:=hB0.trans (hb1.mono hB0.size);have hnl:(natL (elS n M cols).2).length=rkS F n cols M:=by unfold natL rkS; rw[List.length_map]
 obtain⟨Ap,cp,rfl,hcp,hrp,hAp⟩:=hown.form;rw[hnl]at hcp ⊢;have hrk2:rkS F n cols M≤cl:=Nat.le_trans hrk hcl;have hi1:(0:Int)≤((rkS F n cols M:Nat):Int):=by omega
 have hi2:((rkS F n cols M:Nat):Int)≤(cl:Int):=by omega
 by_cases h0:0<n
 ·obtain⟨g,rfl,hg,hm'⟩:=hmb h0;have hrd0:=(hm'.rdmU hg).less (m:=rkS F n cols M) hrk;have hrd:RdMU w1 w.heap.size w1.heap.size (some ⟨g,0,none⟩) (rkS F n cols M) (rowsL F.toDesc m (elS n M cols).1):=hrd0.low (by rw[World.size_alloc]; omega);rw[World.size_alloc]at hg;replace hnl:=Lib.hid hnl;clear hmb hm' hE hrd0;go_wp2_with (fail);go_ret2;exact⟨some ⟨g,0,none⟩,cl,Ap,cp,rfl,hB1,hrd,hrp,hrk2,hcl',fun a e=>by cases e; show w.heap.size≤g; omega⟩
 ·obtain rfl:n=0:=by omega
  obtain⟨rfl,rfl⟩:=hz rfl;have hr0:rkS F 0 cols M=0:=by unfold rkS; omega
  rw[hr0]at hcp hrk2 ⊢;replace hr0:=Lib.hid hr0;replace hnl:=Lib.hid hnl;clear hmb hE hi1 hi2 hz;go_wp2_with (fail);go_ret2;exact⟨none,0,Ap,cp,by rw[hr0.out]; rfl,hB1,by rw[hr0.out]; exact RdMU.zero,hrp,by rw[hr0.out]; exact Nat.le_refl _,Nat.zero_le _,fun a e=>by cases e⟩

set_option maxHeartbeats 1000000 in
theorem SameInts_eq (l:List Int)(A1 A2:Option Addr)(c1 c2:Nat)(w:World)(h1:Rd w w.heap.size A1 l)(h2:Rd w w.heap.size A2 l)(hl:l.length≤1000000) :
  Calls Tryz.prog 160 #[.slice A1 l.length c1,.slice A2 l.length c2] w fun e w'=>e=.returned (.bool true)∧Below w.heap.size w w':=by
 go_enter Tryz.func160,Tryz.ntmps160;go_wp2_with (fail);go_loopw [5] (fun i wr=>∃ k:Nat,k≤l.length∧i=.int .i64 k∧Below w.heap.size w wr) (fun i _=>l.length - (intOf i).toNat)
 case atStart=>exact⟨0,by omega,rfl,Below.refl _ _⟩
 case round =>
  obtain⟨k,hk,rfl,hbw⟩:=hrel;obtain⟨w2,rfl⟩:∃ w2:World,w2=wr:=⟨_,rfl⟩;by_cases hlt:k<l.length
  ·obtain⟨b1,o1,rfl,hb1,hc1⟩:=h1.at_ hlt;obtain⟨b2,o2,rfl,hb2,hc2⟩:=h2.at_ hlt;have hd1:=(hbw.cell (p:=⟨b1,o1+k,none⟩) hb1).trans hc1;have hd2:=(hbw.cell (p:=⟨b2,o2+k,none⟩) hb2).trans hc2;obtain⟨y1,hy1⟩:∃ y,y=l[k]?.getD 0:=⟨_,rfl⟩;rw[←hy1]at hd1 hd2;have hz:(y1 !=y1)=false:=by simp
   clear hc1 hc2 hy1;go_wp2_with (fail);go_quiet (fail);go_wp2_with (fail);go_roundw
   case rel=>exact⟨k+1,by omega,by go_num,⟨hbw.os,hbw.tape,hbw.output,hbw.size,hbw.block⟩⟩
   case measure=>simp[intOf]; omega
  ·obtain rfl:k=l.length:=by omega
   go_wp2_with (fail);go_ret;exact⟨rfl,hbw⟩

set_option maxHeartbeats 1000000 in
theorem SameRows_eq (n:Nat)(rows:Nat→List Int)(A1 A2:Option Addr)(c1 c2:Nat)(w:World)(h1:RdM w w.heap.size A1 n rows)(h2:RdM w w.heap.size A2 n rows)(hn:n≤1000000)(hl:∀ i,i<n→(rows i).length≤1000000) :
  Calls Tryz.prog 104 #[.slice A1 n c1,.slice A2 n c2] w fun e w'=>e=.returned (.bool true)∧Below w.heap.size w w':=by
 have hS:=fun i hi B1 B2 d1 d2 W a b=>Lib.hid (SameInts_eq (rows i) B1 B2 d1 d2 W a b (hl i hi))
 go_enter Tryz.func104,Tryz.ntmps104;go_wp2_with (fail);go_loopw [5] (fun i wr=>∃ k:Nat,k≤n∧i=.int .i64 k∧Below w.heap.size w wr) (fun i _=>n - (intOf i).toNat)
 case atStart=>exact⟨0,by omega,rfl,Below.refl _ _⟩
 case round =>
  obtain⟨k,hk,rfl,hbw⟩:=hrel;obtain⟨w2,rfl⟩:∃ w2:World,w2=wr:=⟨_,rfl⟩;by_cases hlt:k<n
  ·have hk0:(0:Int)≤(k:Int):=by omega
   have hk1:(k:Int)<(n:Int):=by omega
   obtain⟨b1,o1,B1,d1,rfl,hb1,hc1,hr1,-,-⟩:=h1.at_ hlt;obtain⟨b2,o2,B2,d2,rfl,hb2,hc2,hr2,-,-⟩:=h2.at_ hlt;have hd1:=(hbw.cell (p:=⟨b1,o1+k,none⟩) hb1).trans hc1;have hd2:=(hbw.cell (p:=⟨b2,o2+k,none⟩) hb2).trans hc2;have hS2:=hS k hlt B1 B2 d1 d2 w2.drew ((hr1.below hbw).more hbw.size).drew ((hr2.below hbw).more hbw.size).drew;have hcc:=Lib.hid (show _∧_ from ⟨hd1,hd2⟩);have hb1':=Nat.lt_of_lt_of_le hb1 hbw.size;have hb2':=Nat.lt_of_lt_of_le hb2 hbw.size;clear hc1 hc2 hd1 hd2;go_wp2_with (fail);refine wp_region_held_drew (S:=fun w'=>w'.cell? ⟨b1,o1+k,none⟩=some (.slice B1 (rows k).length d1)∧w'.cell? ⟨b2,o2+k,none⟩=some (.slice B2 (rows k).length d2)) (by kernel_rfl) (by (try dsimp only); exact hcc.out) (fun hHeld=>?_);refine tk 0 ?_; try simp only[pS]
   refine tk 1 ?_; try simp only[pS]
   refine tk 2 ?_; try simp only[pS]
   refine tk 3 ?_; try simp only[pS]
   refine tk 4 ?_; try simp only[pS]
   refine tk 5 ?_; try simp only[pS]
   refine tk 6 ?_; try simp only[pS]
   refine tk 7 ?_; try simp only[pS]
   refine rd 8 fun K hK=>?_
   go_simp;go_at_call 160;(with_reducible refine (hS2).out.mono ?_);rintro e w3 ⟨rfl,hb3⟩;go_wp2_with (fail);refine hK.out _ _ (by (try dsimp only); exact⟨(hb3.cell (p:=⟨b1,o1+k,none⟩) hb1').trans hcc.out.1,(hb3.cell (p:=⟨b2,o2+k,none⟩) hb2').trans hcc.out.2⟩) (fun hHeld=>?_);clear hK K;try simp only[pS]
   refine tk 9 ?_; try simp only[pS]
   refine wpAnyH_done (by kernel_rfl) ?_ _;go_wp2_with (fail);go_roundw
   case rel=>exact⟨k+1,by omega,by go_num,hbw.drew.trans (hb3.mono hbw.size)⟩
   case measure=>simp[intOf]; omega
  ·obtain rfl:k=n:=by omega
   go_wp2_with (fail);go_ret;exact⟨rfl,hbw⟩
end
section
open Go.RowKit Cw
attribute [local go_sem] Oper.semAt_some

set_option maxHeartbeats 2000000 in
theorem Field12_any (D:Desc)(A:Option Addr)(c:Nat)(w:World)(hr0:Rd w w.heap.size A (modL D)) :
  Calls Tryz.prog 103 #[.agg #[.int .i64 D.p,.int .i64 D.m,.slice A D.mod.length c]] w fun e w'=>∃ A3 c3,e=.returned (.agg #[.int .i64 D.p,.int .i64 D.m,.slice A3 D.mod.length c3]) ∧
   Rd w' w'.heap.size A3 (modL D)∧(∀ b,A3=some b→w.heap.size≤b.block)∧Below w.heap.size w w':=by
 have hml:D.mod.length≤8:=by have:=D.hlen; have:=D.m8; rw[D.hlen]; split <;> omega
 obtain⟨X,hX0⟩:∃ X,X=w.alloc (.cells #[.int .i64 D.p,.int .i64 D.m,.slice A D.mod.length c] 24):=⟨_,rfl⟩;have hXb:Below w.heap.size w X:=by rw[hX0]; exact (Below.refl _ _).alloc (Nat.le_refl _) _
 have hXs:X.heap.size=w.heap.size+1:=by rw[hX0]; simp
 have kx:X.cell? ⟨w.heap.size,0,none⟩=some (.int .i64 D.p)∧X.cell? ⟨w.heap.size,1,none⟩=some (.int .i64 D.m)∧X.cell? ⟨w.heap.size,2,none⟩=some (.slice A D.mod.length c):=by rw[hX0]; exact alloc3 _ _ _ _ _
 obtain⟨Z,hZ⟩:∃ Z,Z=X.alloc (.cells #[.int .i64 0,.int .i64 0,.slice none 0 0] 24):=⟨_,rfl⟩;have hZ1:Below X.heap.size X Z:=by rw[hZ]; exact (Below.refl _ _).alloc (Nat.le_refl _) _
 have hZb:Below w.heap.size w Z:=hXb.trans (hZ1.mono (by omega));have hZs:Z.heap.size=w.heap.size+1+1:=by rw[hZ]; simp[hXs]
 have hgl:w.heap.size<X.heap.size:=by omega
 have kz:=Lib.hid (keep3 hZ1 hgl kx);have o1:Hid (Own (Z.alloc (.cells #[] 3)).drew (w.heap.size+1+1) (.slice (some ⟨w.heap.size+1+1,0,none⟩) 0 0) []):=own_empty (by have:=heap_alloc_new Z (.cells #[] 3); rw[hZs]at this; exact this) (Nat.le_refl _);have hX:Below w.heap.size w (Z.alloc (.cells #[] 3)).drew:=(hZb.alloc (by omega) _).drew;have hX2:Below Z.heap.size Z (Z.alloc (.cells #[] 3)).drew:=((Below.refl _ _).alloc (Nat.le_refl _) _).drew;have k1:=Lib.hid (keep3 hX2 (by omega) kz.out);have r1:Hid (Rd (Z.alloc (.cells #[] 3)).drew w.heap.size A (modL D)):=hr0.below hX;have hmn:Hid (D.mod.length=(modL D).length):=(modL_length D).symm;have hmn':Hid ((([]:List Int) ++ modL D).length=D.mod.length):=by unfold Hid; rw[List.nil_append,modL_length]
 have hm8:([]:List Int).length+(modL D).length≤1000000000:=by rw[modL_length]; simp; omega
 have b1:w.heap.size+1+1≤(Z.alloc (.cells #[] 3)).drew.heap.size:=by simp[hZs]
 have hcz:∀ i,i<3→∃ v,Z.cell? ⟨w.heap.size+1,i,none⟩=some v:=fun i hi=>by
  rw[hZ,←hXs]
  match i,hi with
  | 0,_=>exact⟨_,(alloc3 _ _ _ _ _).1⟩
  | 1,_=>exact⟨_,(alloc3 _ _ _ _ _).2.1⟩
  | 2,_=>exact⟨_,(alloc3 _ _ _ _ _).2.2⟩
 have hfz:∀ i,Z.frozen? ⟨w.heap.size+1,i,none⟩=false:=fun i=>by rw[hZ,←hXs]; exact World.frozen?_alloc_at _ _ _ _ rfl
 have hlz:w.heap.size+1<Z.heap.size:=by omega
 have hcx:∀ i,i<3→∃ v,(Z.alloc (.cells #[] 3)).drew.cell? ⟨w.heap.size+1,i,none⟩=some v:=fun i hi=>by
  obtain⟨v,hv⟩:=hcz i hi;exact⟨v,(((Below.refl Z.heap.size Z).alloc (Nat.le_refl _) _).cell (p:=⟨w.heap.size+1,i,none⟩) hlz).trans hv⟩
 have hfx:∀ i,(Z.alloc (.cells #[] 3)).drew.frozen? ⟨w.heap.size+1,i,none⟩=false:=fun i =>
  (((Below.refl Z.heap.size Z).alloc (Nat.le_refl _) (.cells #[] 3)).frozen (p:=⟨w.heap.size+1,i,none⟩) hlz).trans (hfz i)
 rw[hX0]at hZ;replace hZ:=Lib.hid hZ;replace hcx:=Lib.hid hcx;replace hfx:=Lib.hid hfx;clear hcz hfz kx hX0 hZ1 hXb;go_enter Tryz.func103,Tryz.ntmps103;go_wp2_with (fail);rw[←hZ.out];go_region_held3 (fun w'=>w'.cell? ⟨w.heap.size,0,none⟩=some (.int .i64 D.p)∧w'.cell? ⟨w.heap.size,1,none⟩=some (.int .i64 D.m)∧w'.cell? ⟨w.heap.size,2,none⟩=some (.slice A D.mod.length c))
  (first | exact kz.out | exact k1.out | exact y.out | exact keep3 (b:=w.heap.size) (set3 (b:=w.heap.size+1) _ _ _) (Nat.lt_succ_self _) y.out)
  (first
   | (refine step_appN rfl (.tmp 7) (.tmp 9) rfl (w.heap.size+1+1) _ [] w.heap.size A c (modL D) o1.out r1.out rfl rfl hmn.out hm8 b1 ?_; intro v3 w3 hown3 hb3 hg3 hv3; obtain⟨A3,c3,rfl,hc3,hr3,hA3⟩:=hown3.form; rw[hmn'.out]; have y:=Lib.hid (keep3 (b:=w.heap.size) hb3 (Nat.lt_succ_of_lt (Nat.lt_succ_self _)) k1.out); obtain⟨z0,z1,z2,q0,q1,q2,q3,q4,q5⟩:=own3 hcx.out hfx.out hb3 (Nat.lt_succ_self _)))
 go_wp2_with (fail);rw[List.nil_append]at hr3;have hbW:Below w.heap.size w (((w3.setCell ⟨w.heap.size+1,0,none⟩ (.int .i64 D.p)).setCell ⟨w.heap.size+1,1,none⟩ (.int .i64 D.m)).setCell ⟨w.heap.size+1,2,none⟩ (.slice A3 D.mod.length c3)):=(hX.trans (hb3.mono (by omega))).trans ((set3 _ _ _).mono (by omega));have hrW:Rd (((w3.setCell ⟨w.heap.size+1,0,none⟩ (.int .i64 D.p)).setCell ⟨w.heap.size+1,1,none⟩ (.int .i64 D.m)).setCell ⟨w.heap.size+1,2,none⟩ (.slice A3 D.mod.length c3)) w3.heap.size A3 (modL D):=fun hn=>by
  obtain⟨b,off,e,hbl,hcell⟩:=hr3 hn;have h8:=(hA3 _ e).1;refine⟨b,off,e,hbl,fun j hj=>?_⟩;have ne:∀ i,(⟨b,off+j,none⟩:Addr)≠⟨w.heap.size+1,i,none⟩:=fun i e2=>by
   have h9:=congrArg Addr.block e2;simp at h9 h8; omega
  rw[World.cell?_setCell_other _ _ _ _ (fun e2=>ne 2 (by first | exact e2 | exact e2.symm)),World.cell?_setCell_other _ _ _ _ (fun e2=>ne 1 (by first | exact e2 | exact e2.symm)),World.cell?_setCell_other _ _ _ _ (fun e2=>ne 0 (by first | exact e2 | exact e2.symm))];exact hcell j hj
 refine bodyPost_ret (v:=.agg #[.int .i64 D.p,.int .i64 D.m,.slice A3 D.mod.length c3]) (by simp[results,Tryz.results103,go_sem,q0,q1,q2]) rfl ⟨A3,c3,rfl,hrW.more (by simp[World.setCell]),fun b hb=>by have:=(hA3 b hb).1; omega,hbW⟩

def Five (w:World)(b:Nat)(v0 v1 v2 v3 v4:Value):Prop :=
 w.cell? ⟨b,0,none⟩=some v0∧w.cell? ⟨b,1,none⟩=some v1∧w.cell? ⟨b,2,none⟩=some v2∧w.cell? ⟨b,3,none⟩=some v3∧w.cell? ⟨b,4,none⟩=some v4 ∧
 w.frozen? ⟨b,0,none⟩=false∧w.frozen? ⟨b,1,none⟩=false∧w.frozen? ⟨b,2,none⟩=false∧w.frozen? ⟨b,3,none⟩=false∧w.frozen? ⟨b,4,none⟩=false
theorem Five.keep {B b:Nat} {w w1:World} {v0 v1 v2 v3 v4:Value} (h:Five w b v0 v1 v2 v3 v4)(hb:Below B w w1)(hlt:b<B):Five w1 b v0 v1 v2 v3 v4:=by
 obtain⟨a0,a1,a2,a3,a4,f0,f1,f2,f3,f4⟩:=h;exact⟨(hb.cell (p:=⟨b,0,none⟩) hlt).trans a0,(hb.cell (p:=⟨b,1,none⟩) hlt).trans a1,(hb.cell (p:=⟨b,2,none⟩) hlt).trans a2,(hb.cell (p:=⟨b,3,none⟩) hlt).trans a3,(hb.cell (p:=⟨b,4,none⟩) hlt).trans a4,
  (hb.frozen (p:=⟨b,0,none⟩) hlt).trans f0,(hb.frozen (p:=⟨b,1,none⟩) hlt).trans f1,(hb.frozen (p:=⟨b,2,none⟩) hlt).trans f2,(hb.frozen (p:=⟨b,3,none⟩) hlt).trans f3,(hb.frozen (p:=⟨b,4,none⟩) hlt).trans f4⟩
theorem Five.new (w:World)(v0 v1 v2 v3 v4:Value)(t:TypeId):Five (w.alloc (.cells #[v0,v1,v2,v3,v4] t)) w.heap.size v0 v1 v2 v3 v4:=by
 unfold Five;simp[go_sem]
theorem set5 {w3:World} {b:Nat} (u0 u1 u2 u3 u4:Value):Below b w3 (((((w3.setCell ⟨b,0,none⟩ u0).setCell ⟨b,1,none⟩ u1).setCell ⟨b,2,none⟩ u2).setCell ⟨b,3,none⟩ u3).setCell ⟨b,4,none⟩ u4) :=
 (((((Below.refl _ _).setCell (p:=⟨b,0,none⟩) (Nat.le_refl _) _).setCell (p:=⟨b,1,none⟩) (Nat.le_refl _) _).setCell (p:=⟨b,2,none⟩) (Nat.le_refl _) _).setCell (p:=⟨b,3,none⟩) (Nat.le_refl _) _).setCell (p:=⟨b,4,none⟩) (Nat.le_refl _) _
end
section
open Go.RowKit Cw
attribute [local go_sem] Oper.semAt_some

theorem Rd.set5 {w:World} {B b:Nat} {A:Option Addr} {l:List Int} (h:Rd w B A l)(hA:∀ a,A=some a→a.block≠b)(u0 u1 u2 u3 u4:Value):Rd (((((w.setCell ⟨b,0,none⟩ u0).setCell ⟨b,1,none⟩ u1).setCell ⟨b,2,none⟩ u2).setCell ⟨b,3,none⟩ u3).setCell ⟨b,4,none⟩ u4) B A l :=
 ((((h.farN (fun _=>hA) 0 u0).farN (fun _=>hA) 1 u1).farN (fun _=>hA) 2 u2).farN (fun _=>hA) 3 u3).farN (fun _=>hA) 4 u4
theorem set5_above {w:World} {b L:Nat} (hL:b<L)(u0 u1 u2 u3 u4:Value)(p:Addr)(hp:L≤p.block):(((((w.setCell ⟨b,0,none⟩ u0).setCell ⟨b,1,none⟩ u1).setCell ⟨b,2,none⟩ u2).setCell ⟨b,3,none⟩ u3).setCell ⟨b,4,none⟩ u4).cell? p=w.cell? p:=by
 have hne:b≠p.block:=by omega
 rw[World.cell?_setCell_far _ _ _ _ hne,World.cell?_setCell_far _ _ _ _ hne,World.cell?_setCell_far _ _ _ _ hne,World.cell?_setCell_far _ _ _ _ hne,World.cell?_setCell_far _ _ _ _ hne]

def MakePost (F:FD)(n m:Nat)(M:Nat→Nat→R F.toDesc)(w:World)(e:Ending)(w':World):Prop :=
 ∃ A3 c3 Al cl,e=.returned (.agg #[.int .i64 F.p,.int .i64 F.m,.slice A3 F.mod.length c3,.int .i64 m,.slice Al (rkS F n m M) cl])∧Rd w' w'.heap.size A3 (modL F.toDesc)∧(∀ b,A3=some b→w.heap.size≤b.block)∧RdMU w' w.heap.size w'.heap.size Al (rkS F n m M) (rowsL F.toDesc m (elS n M m).1)∧Below w.heap.size w w'

set_option maxHeartbeats 2000000 in
theorem Make12_any (F:FD)(n m:Nat)(M:Nat→Nat→R F.toDesc)(A Ar:Option Addr)(c cr:Nat)(w:World)(hr:Rd w w.heap.size A (modL F.toDesc))(hrm:RdM w w.heap.size Ar n (rowsL F.toDesc m M))(hn:n≤1000000)(hm:m≤70000) :
  Calls Tryz.prog 45 #[.agg #[.int .i64 F.p,.int .i64 F.m,.slice A F.mod.length c],.slice Ar n cr,.int .i64 m] w (MakePost F n m M w):=by
 have hC:=fun W h1 h2=>Lib.hid (Canon9_any F n m m M A Ar c cr W h1 h2 hn hm (Nat.le_refl _))
 have hF:=fun W h=>Lib.hid (Field12_any F.toDesc A c W h)
 obtain⟨Z,hZ⟩:∃ Z,Z=(w.alloc (.cells #[.int .i64 F.p,.int .i64 F.m,.slice A F.mod.length c] 24)).alloc (.cells #[.int .i64 0,.int .i64 0,.slice none 0 0,.int .i64 0,.slice none 0 0] 27):=⟨_,rfl⟩;have hB:Below w.heap.size w Z:=by rw[hZ]; exact ((Below.refl _ _).alloc (Nat.le_refl _) _).alloc (by simp) _
 have hZs:Z.heap.size=w.heap.size+2:=by rw[hZ]; simp
 have kz:=Lib.hid (show Z.cell? ⟨w.heap.size,0,none⟩=some (.int .i64 F.p)∧Z.cell? ⟨w.heap.size,1,none⟩=some (.int .i64 F.m)∧Z.cell? ⟨w.heap.size,2,none⟩=some (.slice A F.mod.length c) from by rw[hZ]; simp[go_sem]);have f5:Five Z (w.heap.size+1) (.int .i64 0) (.int .i64 0) (.slice none 0 0) (.int .i64 0) (.slice none 0 0):=by
  rw[hZ]; have:=Five.new (w.alloc (.cells #[.int .i64 F.p,.int .i64 F.m,.slice A F.mod.length c] 24)) (.int .i64 0) (.int .i64 0) (.slice none 0 0) (.int .i64 0) (.slice none 0 0) 27; rw[World.size_alloc]at this; exact this
 replace hZ:=Lib.hid hZ;go_enter Tryz.func45,Tryz.ntmps45;go_wp2_with (fail);rw[←hZ.out];(with_reducible refine (hC Z ((hr.below hB).more hB.size) ((hrm.below hB).more hB.size)).out.mono ?_);rintro e w1 ⟨Al,cl,Ap,cp,rfl,hb1,hru,-,-,-,-⟩;have hs1:=hb1.size;have hB1:=hB.trans (hb1.mono hB.size);have f51:=f5.keep hb1 (by omega);obtain⟨q0,q1,q2⟩:=keep3 hb1 (by omega) kz.out;go_wp2_with (fail);(with_reducible refine (hF w1 ((hr.below hB1).more hB1.size)).out.mono ?_);rintro e w2 ⟨A3,c3,rfl,hr3,hA3,hb2⟩;have hs2:=hb2.size;obtain⟨a0,a1,a2,a3,a4,g0,g1,g2,g3,g4⟩:=f51.keep hb2 (by omega);have hru2:RdMU w2 Z.heap.size w1.heap.size Al (rkS F n m M) (rowsL F.toDesc m (elS n M m).1):=hru.keepU fun p _ hp=>hb2.cell hp
 have hfin:Hid (RdMU (((((w2.setCell ⟨w.heap.size+1,0,none⟩ (.int .i64 F.p)).setCell ⟨w.heap.size+1,1,none⟩ (.int .i64 F.m)).setCell ⟨w.heap.size+1,2,none⟩ (.slice A3 F.mod.length c3)).setCell ⟨w.heap.size+1,3,none⟩ (.int .i64 m)).setCell ⟨w.heap.size+1,4,none⟩ (.slice Al (rkS F n m M) cl)) Z.heap.size w1.heap.size Al (rkS F n m M) (rowsL F.toDesc m (elS n M m).1)) :=
  hru2.keepU fun p hp _=>set5_above (b:=w.heap.size+1) (L:=Z.heap.size) (by omega) _ _ _ _ _ p hp
 replace hr3:=Lib.hid hr3;replace hru:=Lib.hid hru;replace hru2:=Lib.hid hru2;clear hF hC q0 q1 q2;go_wp2_with (fail);refine bodyPost_ret (v:=.agg #[.int .i64 F.p,.int .i64 F.m,.slice A3 F.mod.length c3,.int .i64 m,.slice Al (rkS F n m M) cl]) (by simp[results,Tryz.results45,go_sem,a0,a1,a2,a3,a4]) rfl ⟨A3,c3,Al,cl,rfl,?_,fun b hb=>by have:=hA3 b hb; have:=hB1.size; omega,?_,(hB1.trans (hb2.mono hB1.size)).trans ((set5 _ _ _ _ _).mono (Nat.le_succ _))⟩
 ·exact (hr3.out.set5 (fun a e=>by have:=hA3 a e; omega) _ _ _ _ _).more (by simp[World.setCell])
 ·exact (hfin.out.low hB.size).more (by simp[World.setCell]; omega)

set_option maxHeartbeats 2000000 in
theorem Same12_eq (P Q N:Int)(ml:List Int)(n:Nat)(rows:Nat→List Int)(A A' Ar Ar':Option Addr)(c c' cr cr':Nat)(w:World)(h1:Rd w w.heap.size A ml)(h2:Rd w w.heap.size A' ml)(hl:ml.length≤maxLen)
  (h3:RdM w w.heap.size Ar n rows) (h4:RdM w w.heap.size Ar' n rows) (hn:n≤1000000) (hrl:∀ i,i<n→(rows i).length≤1000000) :
  Calls Tryz.prog 46 #[.agg #[.int .i64 P,.int .i64 Q,.slice A ml.length c,.int .i64 N,.slice Ar n cr],.agg #[.int .i64 P,.int .i64 Q,.slice A' ml.length c',.int .i64 N,.slice Ar' n cr']] w fun e w'=>e=.returned (.bool true)∧Below w.heap.size w w':=by
 have hS:=fun W a b=>Lib.hid (Same4_eq P Q ml A A' c c' W a b hl)
 have hR:=fun W a b=>Lib.hid (SameRows_eq n rows Ar Ar' cr cr' W a b hn hrl)
 obtain⟨Z,hZ⟩:∃ Z,Z=(w.alloc (.cells #[.int .i64 P,.int .i64 Q,.slice A ml.length c,.int .i64 N,.slice Ar n cr] 27)).alloc (.cells #[.int .i64 P,.int .i64 Q,.slice A' ml.length c',.int .i64 N,.slice Ar' n cr'] 27):=⟨_,rfl⟩;have hB:Below w.heap.size w Z:=by rw[hZ]; exact ((Below.refl _ _).alloc (Nat.le_refl _) _).alloc (by simp) _
 have hZs:Z.heap.size=w.heap.size+2:=by rw[hZ]; simp
 have fa:Five Z w.heap.size (.int .i64 P) (.int .i64 Q) (.slice A ml.length c) (.int .i64 N) (.slice Ar n cr):=by
  rw[hZ]; exact (Five.new w _ _ _ _ _ _).keep ((Below.refl _ _).alloc (Nat.le_refl _) _) (by simp)
 have fb:Five Z (w.heap.size+1) (.int .i64 P) (.int .i64 Q) (.slice A' ml.length c') (.int .i64 N) (.slice Ar' n cr'):=by
  rw[hZ]; have:=Five.new (w.alloc (.cells #[.int .i64 P,.int .i64 Q,.slice A ml.length c,.int .i64 N,.slice Ar n cr] 27)) (.int .i64 P) (.int .i64 Q) (.slice A' ml.length c') (.int .i64 N) (.slice Ar' n cr') 27; rw[World.size_alloc]at this; exact this
 replace hZ:=Lib.hid hZ;go_enter Tryz.func46,Tryz.ntmps46;go_wp2_with (fail);rw[←hZ.out];(with_reducible refine (hS Z ((h1.below hB).more hB.size) ((h2.below hB).more hB.size)).out.mono ?_);rintro e w1 ⟨rfl,hb1⟩;have hB1:=hB.trans (hb1.mono hB.size);obtain⟨a0,a1,a2,a3,a4,-,-,-,-,-⟩:=fa.keep hb1 (by omega);obtain⟨b0,b1,b2,b3,b4,-,-,-,-,-⟩:=fb.keep hb1 (by omega);go_wp2_with (fail);(with_reducible refine (hR w1 ((h3.below hB1).more hB1.size) ((h4.below hB1).more hB1.size)).out.mono ?_);rintro e w2 ⟨rfl,hb2⟩;go_wp2_with (fail);go_ret;exact⟨rfl,hB1.trans (hb2.mono hB1.size)⟩
end
end Go.Proofs.YtogfekjbpcfgmaaGreat
