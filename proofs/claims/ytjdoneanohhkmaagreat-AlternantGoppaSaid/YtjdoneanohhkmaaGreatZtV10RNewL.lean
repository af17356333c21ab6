/- The reference's division of polynomials, its test of irreducibility, and its Check. The reference's test of irreducibility, and its Check. The program's New and the reference's Check agree: a field just if the modulus has no divisor. The program's New, with the blocks that it makes: none lies below. -/
import Derived.StillTailTactics
import Derived.Test.YtjdoneanohhkmaaGreatZtV10RP1
import Derived.Test.YtjdoneanohhkmaaGreatZtV10RRF
import Derived.Test.YtjdoneanohhkmaaGreatZtV10RP4
import Derived.Test.YtjdoneanohhkmaaGreatZtV10RMat
namespace Go.Proofs.YtjdoneanohhkmaaGreat
section
open Go.RowKit Cw

section
variable {w w':World} {B g n cap:Nat} {l:List Int}
theorem Own.cell (h:Own w B (.slice (some ⟨g,0,none⟩) n cap) l)(hn:n=l.length){i:Nat} (hi:i<l.length):w.cell? ⟨g,i,none⟩=some (.int .i64 (l[i]?.getD 0)):=by
 subst hn;rw[World.ownsRow.cellAt h i (by omega)]; simp[hi]
theorem Own.frozen (h:Own w B (.slice (some ⟨g,0,none⟩) n cap) l)(hn:n=l.length)(i:Nat):w.frozen? ⟨g,i,none⟩=false:=by
 subst hn; exact World.ownsRow.frozenAt h i
theorem Own.set_ (h:Own w B (.slice (some ⟨g,0,none⟩) n cap) l)(hn:n=l.length)(i:Nat)(u:Int) :
  Own (w.setCell ⟨g,i,none⟩ (.int .i64 u)) B (.slice (some ⟨g,0,none⟩) n cap) (l.set i u):=by
 subst hn;have h1:=(World.ownsRow.stored h i (.int .i64 u)).1;unfold Own;rw[List.length_set,List.map_set]; exact h1
end

def nl (n:Nat)(r:Nat→Nat):List Int:=lst n fun i=>(r i:Nat)
theorem nl_length (n:Nat)(r:Nat→Nat):(nl n r).length=n:=lst_length _ _
theorem nl_get {n i:Nat} (r:Nat→Nat)(h:i<n):(nl n r)[i]?.getD 0=(r i:Nat):=lst_get _ h
theorem nl_set (n:Nat)(r:Nat→Nat)(k v:Nat):(nl n r).set k (v:Int)=nl n (fup r k v):=by
 unfold nl;rw[lst_set];refine lst_congr fun i _=>?_
 unfold fup;by_cases e:i=k
 ·rw[if_pos e,if_pos e]
 ·rw[if_neg e,if_neg e]
structure DvSt (p d m:Nat) (low:Nat→Nat) (g cp:Nat) (w:World) (r:Nat→Nat) (wr:World):Prop where
 lt:∀ i,r i<p
 own:Own wr w.heap.size (.slice (some ⟨g,0,none⟩) (m+1) cp) (nl (m+1) r)
 bw:Below w.heap.size w wr
theorem DvSt.set_ {p d m:Nat} {low:Nat→Nat} {g cp:Nat} {w wr:World} {r:Nat→Nat} (h:DvSt p d m low g cp w r wr)(hg:w.heap.size≤g)(k v:Nat)(hv:v<p){z:Int} (hz:z=(v:Int)) :
  DvSt p d m low g cp w (fup r k v) (wr.setCell ⟨g,k,none⟩ (.int .i64 z)) where
 lt:=fup_lt h.lt hv k
 own:=by subst hz; have h1:=h.own.set_ (nl_length _ _).symm k (v:Int); rw[nl_set]at h1; exact h1
 bw:=h.bw.setCell (p:=⟨g,k,none⟩) hg _
theorem DvSt.drew {p d m:Nat} {low:Nat→Nat} {g cp:Nat} {w wr:World} {r:Nat→Nat} (h:DvSt p d m low g cp w r wr):DvSt p d m low g cp w r wr.drew:=⟨h.lt,h.own,h.bw.drew⟩
theorem nl_mon (m:Nat)(mod:Nat→Nat):nl m mod ++ [1]=nl (m+1) (mon m mod):=by
 unfold nl;rw[lst_succ]
 congr 1
 ·exact lst_congr fun i hi=>by unfold mon; rw[if_pos hi]
 ·unfold mon; rw[if_neg (Nat.lt_irrefl m)]; rfl

set_option maxRecDepth 100000 in
set_option maxHeartbeats 4000000 in
theorem divides_any (p d m:Nat)(low mod:Nat→Nat)(A A':Option Addr)(c c':Nat)(w:World)(hp:2≤p)(hp2:p≤256)(hd1:1≤d)(hdm:d≤m)(hm:m≤8)(hl:∀ i,low i<p)(hmo:∀ i,mod i<p)
  (hr:Rd w w.heap.size A (nl d low)) (hr':Rd w w.heap.size A' (nl m mod)) :
  Calls Tryz.prog 224 #[.slice A d c,.slice A' m c',.int .i64 p] w fun e w'=>e=.returned (.bool (dvB p d m low mod))∧Below w.heap.size w w':=by
 have o1:Own (w.alloc (.cells #[] 3)) w.heap.size (.slice (some ⟨w.heap.size,0,none⟩) 0 0) []:=Own.of_IB (l:=[]) (heap_alloc_new w _) (Nat.le_refl _) (by simp[maxLen]);have r1:Rd (w.alloc (.cells #[] 3)) w.heap.size A' (nl m mod):=hr'.alloc (Nat.le_refl _) _;have hn2:=Lib.hid (nl_length m mod).symm;have hlen8:([]:List Int).length+(nl m mod).length≤1000000000:=by rw[nl_length]; simp; omega
 have hmon:=Lib.hid (nl_mon m mod);have hpos:0<(nl (m+1) (mon m mod)).length:=by rw[nl_length]; omega
 have hlen1:(nl m mod).length≤1000000:=by rw[nl_length]; omega
 go_enter Tryz.func224,Tryz.ntmps224;go_wp2_with (first
  | (at_builtin; refine wpList_appN rfl (.tmp 15) (.tmp 16) rfl w.heap.size _ [] w.heap.size A' c' (nl m mod) o1 r1 rfl rfl hn2.out hlen8 (by simp) ?_; intro v1 w1 hown1 hb1 _ _; rw[List.nil_append]at hown1; have hz1:=hb1.size; have hz2:w.heap.size≤w1.heap.size:=by simp at hz1; omega)
  | (at_builtin; refine wpList_app1 rfl (.tmp 18) (.tmp 19) rfl w.heap.size v1 (nl m mod) 1 hown1 rfl rfl rfl hlen1 hz2 ?_; intro v2 w2 hown2 hb2 _ _; rw[hmon.out]at hown2; obtain⟨g,cp,rfl,hg,hgl⟩:=World.ownsRow.form hown2 hpos; rw[nl_length]at hown2 ⊢))
 have hbw2:Below w.heap.size w w2:=(((Below.refl _ _).alloc (Nat.le_refl _) _).trans hb1).trans hb2;have hst:Hid (DvSt p d m low g cp w (dOut p d m low 0 (mon m mod)) w2):=⟨mon_lt hp hmo,hown2,hbw2⟩;obtain⟨T,hT⟩:∃ T,T+d=m+1:=⟨m+1 - d,by omega⟩;replace hT:=Lib.hid hT;clear hown1 hown2 hb1 hb2 o1 r1 hn2 hmon hr' hbw2 hlen8 hlen1 hpos hz1 hz2 hgl;go_loopw [9,10,11] (fun i _ _ wr=>∃ s t:Nat,s+d≤m+1∧i=.int .i64 ((s:Int)+(d:Int) - 1)∧Hid (s+t=T)∧Hid (DvSt p d m low g cp w (dOut p d m low t (mon m mod)) wr)) (fun i _ _ _=>(intOf i).toNat)
 case atStart=>exact⟨T,0,by have:=hT.out; omega,by congr 1; have:=hT.out; omega,rfl,hst⟩
 case round =>
  clear hst;obtain⟨s,t,hs,rfl,hst,hdv⟩:=hrel
  cases s with
  | zero =>
   have ht:T=t:=by have:=hst.out; omega
   have hB:Hid (dvB p d m low mod=decide (∀ k,k<m+1→dOut p d m low t (mon m mod) k=0)):=by
    unfold Hid dvB;rw[show m+1 - d=t by have:=hT.out; omega]
   clear ht hst hT;generalize dOut p d m low t (mon m mod)=r at *;have hbd:decide ((d:Int)≤((0:Nat):Int)+(d:Int) - 1)=false:=decide_eq_false (by omega);go_wp2_with (fail);clear hbd;go_loop [12] (fun i=>∃ k:Nat,k≤m+1∧i=.int .i64 k∧Hid (∀ j,j<k→r j=0)) (fun i=>m+1 - (intOf i).toNat)
   case atStart=>exact⟨0,by omega,rfl,fun j hj=>by omega⟩
   case round =>
    obtain⟨k,hk,rfl,hall⟩:=hrel;by_cases hlt:k<m+1
    ·have hc:=hdv.out.own.cell (nl_length _ _).symm (i:=k) (by rw[nl_length]; exact hlt);rw[nl_get _ hlt]at hc;by_cases hz:r k=0
     ·have hall2:Hid (∀ j,j<k+1→r j=0):=fun j hj=>by
       by_cases e:j=k
       ·subst e; exact hz
       ·exact hall.out j (by omega)
      rw[hz]at hc;clear hz;go_wp2_with (fail);go_round
      case rel=>exact⟨k+1,by omega,by go_num,hall2⟩
      case measure=>simp[intOf]; omega
     ·have hne:((r k:Int) !=0)=true:=by rw[bne_iff_ne]; omega
      have hfin:Hid (dvB p d m low mod=false):=by unfold Hid; rw[hB.out]; exact decide_eq_false fun h=>hz (h k hlt)
      clear hz;go_wp2_with (fail);go_ret;exact⟨ret_bool hfin.out.symm,hdv.out.bw⟩
    ·have hfin:Hid (dvB p d m low mod=true):=by unfold Hid; rw[hB.out]; exact decide_eq_true fun j hj=>hall.out j (by omega)
     go_wp2_with (fail);go_ret;exact⟨ret_bool hfin.out.symm,hdv.out.bw⟩
  | succ s =>
   rw[show ((s+1:Nat):Int)+(d:Int) - 1=(s:Int)+(d:Int) by omega];obtain⟨r0,hr0⟩:∃ r0,r0=dOut p d m low t (mon m mod):=⟨_,rfl⟩;rw[←hr0]at hdv;have hst1:s+d=m - t:=by have:=hst.out; have:=hT.out; omega
   have hsd:s+d<m+1:=by omega
   obtain⟨C,hC⟩:∃ C,C=r0 (s+d):=⟨_,rfl⟩;have hCp:C<p:=by rw[hC]; exact hdv.out.lt _
   have hc0:=hdv.out.own.cell (nl_length _ _).symm (i:=s+d) (by rw[nl_length]; exact hsd);rw[nl_get _ hsd,←hC]at hc0;have hnext:Hid (dOut p d m low (t+1) (mon m mod)=fup (dIn p C s low d r0) (s+d) 0):=by
    show fup (dIn p (dOut p d m low t (mon m mod) (m - t)) (m - t - d) low d (dOut p d m low t (mon m mod))) (m - t) 0=_
    rw[←hst1,←hr0,←hC,show s+d - d=s by omega]
   replace hr0:=Lib.hid hr0;replace hC:=Lib.hid hC;replace hst1:=Lib.hid hst1;have hbd:decide ((d:Int)≤(s:Int)+(d:Int))=true:=decide_eq_true (by omega);go_wp2_with (fail);clear hbd hc0;obtain⟨wo,rfl⟩:∃ wo:World,wo=wr:=⟨_,rfl⟩;go_loopw [11] (fun j wr=>∃ l:Nat,l≤d∧j=.int .i64 l∧Hid (DvSt p d m low g cp w (dIn p C s low l r0) wr)) (fun j _=>d - (intOf j).toNat)
   case atStart=>exact⟨0,by omega,rfl,hdv⟩
   case round =>
    clear hdv;obtain⟨l,hl2,rfl,hdv⟩:=hrel;obtain⟨r1,hr1⟩:∃ r1,r1=dIn p C s low l r0:=⟨_,rfl⟩;by_cases hlt:l<d
    ·have hnl:Hid (dIn p C s low (l+1) r0=fup r1 (s+l) ((r1 (s+l)+(p - C)*low l) % p)):=by rw[hr1]; rfl
     rw[←hr1]at hdv;replace hr1:=Lib.hid hr1;have hsl:s+l<m+1:=by omega
     have hc:=hdv.out.own.cell (nl_length _ _).symm (i:=s+l) (by rw[nl_length]; exact hsl);rw[nl_get _ hsl]at hc;have hf:=hdv.out.own.frozen (nl_length _ _).symm (s+l);obtain⟨z,hz⟩:∃ z,z=r1 (s+l):=⟨_,rfl⟩;have hzp:z<p:=by rw[hz]; exact hdv.out.lt _
     rw[←hz]at hc;obtain⟨b,off,rfl,hb,hcm⟩:=hr.at_ (k:=l) (by rw[nl_length]; exact hlt);rw[nl_get _ hlt]at hcm;have hcm2:=(hdv.out.bw.cell (p:=⟨b,off+l,none⟩) hb).trans hcm;clear hcm;obtain⟨ml,hml⟩:∃ ml,ml=low l:=⟨_,rfl⟩;have hmlp:ml<p:=by rw[hml]; exact hl l
     rw[←hml]at hcm2;obtain⟨hm1a,hm1b⟩:(0:Int)≤((p:Int) - (C:Int))*(ml:Int)∧((p:Int) - (C:Int))*(ml:Int)≤65536:=by
      have h1:=Nat.mul_le_mul (Nat.le_trans (Nat.sub_le p C) hp2) (Nat.le_trans (Nat.le_of_lt hmlp) hp2);have h2:(((p - C)*ml:Nat):Int)=((p:Int) - (C:Int))*(ml:Int):=by rw[Int.natCast_mul,Int.natCast_sub (Nat.le_of_lt hCp)]
      omega
     have hset:=(hdv.out.set_ hg (s+l) ((r1 (s+l)+(p - C)*low l) % p) (Nat.mod_lt _ (by omega)) (z:=((z:Int)+((p:Int) - (C:Int))*(ml:Int)) % (p:Int))
      (by rw[←hz,←hml,Int.natCast_emod,Int.natCast_add,Int.natCast_mul,Int.natCast_sub (Nat.le_of_lt hCp)])).drew
     rw[←hnl.out]at hset;replace hset:=Lib.hid hset;clear hdv hz hml hnl;have hl0:(l:Int)<(d:Int):=by omega
     have hi0:(0:Int)≤(s:Int)+(l:Int):=by omega
     have hi1:(s:Int)+(l:Int)<((m+1:Nat):Int):=by omega
     have hi1':(s:Int)+(l:Int)<(m:Int)+1:=by omega
     have hi2:((s:Int)+(l:Int)).toNat=s+l:=by omega
     have hpz:¬ p=0:=by omega
     have hX0:0≤(z:Int)+((p:Int) - (C:Int))*(ml:Int):=by omega
     have e1:IntKind.i64.wrap (s:Int)=(s:Int):=IntWalk.i64_in _ (by omega);have e2:IntKind.i64.wrap ((s:Int)+(l:Int))=(s:Int)+(l:Int):=IntWalk.i64_in _ (by omega);have e3:IntKind.i64.wrap ((p:Int) - (C:Int))=(p:Int) - (C:Int):=IntWalk.i64_in _ (by omega);have e4:IntKind.i64.wrap (((p:Int) - (C:Int))*(ml:Int))=((p:Int) - (C:Int))*(ml:Int):=IntWalk.i64_in _ (by omega);have e5:IntKind.i64.wrap ((z:Int)+((p:Int) - (C:Int))*(ml:Int))=(z:Int)+((p:Int) - (C:Int))*(ml:Int):=IntWalk.i64_in _ (by omega);have e6:((z:Int)+((p:Int) - (C:Int))*(ml:Int)).tmod (p:Int)=((z:Int)+((p:Int) - (C:Int))*(ml:Int)) % (p:Int):=Int.tmod_eq_emod_of_nonneg hX0;go_wp2_with (fail);go_still_tail 26,(by kernel_rfl);change wpList _ _ _ _ _ wr.drew;clear e1 e2 e3 e4 e5 e6 hpz hi2;go_wp2_with (fail);go_roundw
     case rel=>exact⟨l+1,by omega,by go_num,hset⟩
     case measure=>simp[intOf]; omega
    ·obtain rfl:l=d:=by omega
     rw[←hr1]at hdv;have hc:=hdv.out.own.cell (nl_length _ _).symm (i:=s+l) (by rw[nl_length]; exact hsd);have hf:=hdv.out.own.frozen (nl_length _ _).symm (s+l);have hset:=hdv.out.set_ hg (s+l) 0 (by omega) (z:=0) rfl;rw[hr1,←hnext.out]at hset;replace hset:=Lib.hid hset;clear hdv hr1;go_wp2_with (fail);go_roundw
     case rel=>exact⟨s,t+1,by omega,by first | rfl | go_num | (congr 1; omega),by have:=hst.out; unfold Hid; omega,hset⟩
     case measure=>simp[intOf]; omega
end
section
open Go.RowKit Cw

def dg (p v:Nat):Nat→Nat:=fun i=>v / p ^ i % p
open Classical in
noncomputable def irrB (p m:Nat)(mod:Nat→Nat):Bool:=decide (∀ d,1≤d→2*d≤m→∀ v,v<p ^ d→dvB p d m (dg p v) mod=false)
open Classical in
theorem irrB_true {p m:Nat} {mod:Nat→Nat} (h:∀ d,1≤d→2*d≤m→∀ v,v<p ^ d→dvB p d m (dg p v) mod=false):irrB p m mod=true:=decide_eq_true h
open Classical in
theorem irrB_false {p m:Nat} {mod:Nat→Nat} {d v:Nat} (h1:1≤d)(h2:2*d≤m)(h3:v<p ^ d)(h4:dvB p d m (dg p v) mod=true):irrB p m mod=false :=
 decide_eq_false fun h=>by rw[h d h1 h2 v h3]at h4; cases h4

set_option maxHeartbeats 2000000 in
theorem irreducible_any (p m:Nat)(mod:Nat→Nat)(A:Option Addr)(c:Nat)(w:World)(hp:2≤p)(hp2:p≤256)(hm1:1≤m)(hm:m≤8)(hq:p ^ m≤256)(hmo:∀ i,mod i<p)(hr:Rd w w.heap.size A (nl m mod)) :
  Calls Tryz.prog 172 #[.slice A m c,.int .i64 p] w fun e w'=>e=.returned (.bool (irrB p m mod))∧Below w.heap.size w w':=by
 have hqd:∀ d,d≤m→p ^ d≤256:=fun d hd=>Nat.le_trans (Nat.pow_le_pow_right (by omega) hd) hq
 have hD:=fun v d w (h1:d≤8) (h2:v≤65536)=>Lib.hid (digits_any v p d w (by omega) hp2 h1 h2)
 have hV:=fun d v W A2 c2 (hr1:Rd W W.heap.size A2 (nl d (dg p v))) (hr':Rd W W.heap.size A (nl m mod)) (h1:1≤d) (h2:d≤m)=>Lib.hid (divides_any p d m (dg p v) mod A2 A c2 c W hp hp2 h1 h2 hm (fun i=>Nat.mod_lt _ (by omega)) hmo hr1 hr')
 replace hqd:=Lib.hid hqd;go_enter Tryz.func172,Tryz.ntmps172;go_wp2_with (fail);go_loopw [5,6,7] (fun n d _ wr=>∃ k z:Nat,1≤k∧k≤m∧z≤256∧d=.int .i64 k∧n=.int .i64 z∧Hid (z=p ^ (k - 1))∧Below w.heap.size w wr∧Hid (∀ d,1≤d→d<k→∀ v,v<p ^ d→dvB p d m (dg p v) mod=false)) (fun _ d _ _=>m - (intOf d).toNat)
 case atStart=>exact⟨1,1,by omega,by omega,by omega,rfl,rfl,by simp[Hid],Below.refl _ _,fun d h1 h2=>by omega⟩
 case round =>
  obtain⟨k,z,hk1,hk2,hz,rfl,rfl,hzk,hbw,hall⟩:=hrel;by_cases hlt:2*k≤m
  ·have hz2:z*p=p ^ k:=by rw[hzk.out,←Nat.pow_succ]; congr 1; omega
   have hz3:z*p≤256:=by rw[hz2]; exact hqd.out k hk2
   have hz4:((z*p:Nat):Int)=(z:Int)*(p:Int):=by simp
   obtain⟨y,hy⟩:∃ y,y=z*p:=⟨_,rfl⟩;rw[←hy]at hz2 hz3 hz4;have hm1a:(0:Int)≤(z:Int)*(p:Int):=by omega
   have hm1b:(z:Int)*(p:Int)≤256:=by omega
   have hbt:decide (2*(k:Int)≤(m:Int))=true:=decide_eq_true (by omega);replace hz4:=Lib.hid hz4;replace hy:=Lib.hid hy;replace hz2:=Lib.hid hz2;go_wp2_with (fail);clear hbt;rw[←hz4.out];obtain⟨wo,rfl⟩:∃ wo:World,wo=wr:=⟨_,rfl⟩;go_loopw [7] (fun v wr=>∃ n:Nat,n≤y∧v=.int .i64 n∧Below w.heap.size w wr∧Hid (∀ v,v<n→dvB p k m (dg p v) mod=false)) (fun v _=>y - (intOf v).toNat)
   case atStart=>exact⟨0,by omega,rfl,hbw,fun v hv=>by omega⟩
   case round =>
    clear hbw;obtain⟨n,hn,rfl,hbw,hall2⟩:=hrel;by_cases hlt2:n<y
    ·have hsz:=hbw.size;have hD2:=hD n k wr (by omega) (by omega);go_wp2_with (fail);refine hD2.out.mono ?_;rintro e w1 ⟨g,rfl,hg,hib,hb1⟩;rw[lst_length];have hV2:=hV k n w1 (some ⟨g,0,none⟩) k hib.rd ((hr.below (hbw.trans (hb1.mono hsz))).more (Nat.le_trans hsz hb1.size)) hk1 hk2;by_cases hdv:dvB p k m (dg p n) mod=true
     ·have hfin:Hid (irrB p m mod=false):=irrB_false hk1 hlt (by rw[←hz2.out]; exact hlt2) hdv;rw[hdv]at hV2;clear hdv;go_wp2_with (fail);refine hV2.out.mono ?_;rintro e w2 ⟨rfl,hb2⟩;go_wp2_with (fail);go_ret;exact⟨ret_bool hfin.out.symm,(hbw.trans (hb1.mono hsz)).trans (hb2.mono (Nat.le_trans hsz hb1.size))⟩
     ·have hdv':dvB p k m (dg p n) mod=false:=by simpa using hdv
      have hall3:Hid (∀ v,v<n+1→dvB p k m (dg p v) mod=false):=fun v hv=>by
       by_cases e:v=n
       ·subst e; exact hdv'
       ·exact hall2.out v (by omega)
      rw[hdv']at hV2;clear hdv hdv';go_wp2_with (fail);refine hV2.out.mono ?_;rintro e w2 ⟨rfl,hb2⟩;go_wp2_with (fail);go_roundw
      case rel=>exact⟨n+1,by omega,by go_num,(hbw.trans (hb1.mono hsz)).trans (hb2.mono (Nat.le_trans hsz hb1.size)),hall3⟩
      case measure=>simp[intOf]; omega
    ·obtain rfl:n=y:=by omega
     go_wp2_with (fail);go_roundw
     case rel=>exact⟨k+1,n,by omega,by omega,hz3,by go_num,rfl,by unfold Hid; rw[hz2.out]; rfl,hbw,fun d h1 h2 v hv=>by
      by_cases e:d=k
      ·subst e; exact hall2.out v (by rw[hz2.out]; exact hv)
      ·exact hall.out d h1 (by omega) v hv⟩
     case measure=>simp[intOf]; omega
  ·have hfin:Hid (irrB p m mod=true):=irrB_true fun d h1 h2 v hv=>hall.out d h1 (by omega) v hv
   have hbt:decide (2*(k:Int)≤(m:Int))=false:=decide_eq_false (by omega);go_wp2_with (fail);go_ret;exact⟨ret_bool hfin.out.symm,hbw⟩

def Good (P M:Int)(ml:List Int):Prop:=∃ D:Desc,P=D.p∧M=D.m∧ml=modL D∧(D.m=1∨irrB D.p D.m (fun i=>D.mod.getD i 0)=true)
open Classical in
noncomputable def chk (P M:Int)(ml:List Int):Int:=if Good P M ml then 0 else 1
theorem chk_yes {P M:Int} {ml:List Int} (h:Good P M ml):chk P M ml=0:=if_pos h
theorem chk_no {P M:Int} {ml:List Int} (h:¬ Good P M ml):chk P M ml=1:=if_neg h
theorem Good.valid {P M:Int} {ml:List Int} (h:Good P M ml):Valid P M ml:=by
 obtain⟨D,h1,h2,h3,_⟩:=h; exact⟨D,h1,h2,h3⟩
theorem nl_modL (D:Desc):nl D.mod.length (fun i=>D.mod.getD i 0)=modL D:=by
 apply List.ext_getElem
 ·simp[nl,lst,modL]
 ·intro i h1 h2;have hi:i<D.mod.length:=by simpa [modL] using h2
  simp[nl,lst,modL,hi]
theorem modL_inj {D D':Desc} (h:modL D=modL D'):D.mod=D'.mod:=by
 have h1:D.mod.length=D'.mod.length:=by rw[←modL_length,←modL_length,h]
 apply List.ext_getElem h1;intro i h2 h3;have e1:=modL_get D h2;have e2:=modL_get D' h3;rw[h,e2]at e1;have e3:D'.mod.getD i 0=D.mod.getD i 0:=Int.ofNat.inj e1;simp[h2,h3]at e3;exact e3.symm

set_option maxHeartbeats 2000000 in
theorem Check_any (P M:Int)(ml:List Int)(A:Option Addr)(c:Nat)(w:World)(hP:P≤9223372036854775807)(hM:M≤9223372036854775807)(_hl:ml.length≤maxLen)
  (hr:Rd w w.heap.size A ml) :
  Calls Tryz.prog 91 #[.agg #[.int .i64 P,.int .i64 M,.slice A ml.length c]] w fun e w'=>e=.returned (.int .i64 (chk P M ml))∧Below w.heap.size w w':=by
 unfold maxLen at _hl;have hO:=fun w=>Lib.hid (Order_any P M A ml.length c w hP hM)
 have k0:=Lib.hid (alloc3 w (.int .i64 P) (.int .i64 M) (.slice A ml.length c) 24);by_cases hq:qOf P M=0
 ·have hv:=Lib.hid (chk_no (P:=P) (M:=M) (ml:=ml) fun h=>h.valid.q hq);have hq:=Lib.hid hq;go_enter Tryz.func91,Tryz.ntmps91;go_wp2_with (go_at_call 39; refine (hO _).out.mono ?_; rw[hq.out]; rintro e w1 ⟨rfl,hb1⟩);go_ret;exact⟨ret_int hv.out.symm,((Below.refl _ _).alloc (Nat.le_refl _) _).trans (hb1.mono (by simp))⟩
 ·have hq0:((((qOf P M:Nat):Int))==0)=false:=by rw[beq_eq_false_iff_ne]; omega
  obtain⟨p,m,rfl,rfl,hp2,hp256,hm1,hm8,hq3,hqe⟩:=qOf_pos hq;clear hqe hq;generalize qOf p m=q at *;have hI:=fun w=>Lib.hid (prime_any p w hp2 hp256)
  by_cases hpr:noDiv p (p - 2)=true
  ·have hpp:=(noDiv_prime hp2).1 hpr;replace hpr:=Lib.hid hpr;by_cases hm:m=1
   ·subst hm;by_cases hl0:ml.length=0
    ·have hval:Valid p (1:Nat) ml:=Valid.mk' (ml:=ml) hpp hm1 hm8 hq3 (by simpa using hl0) (fun j hj=>by omega);have hv:=Lib.hid (chk_yes (P:=p) (M:=(1:Nat)) (ml:=ml) (by obtain⟨D,h1,h2,h3⟩:=hval; exact⟨D,h1,h2,h3,.inl (by omega)⟩));have hl0':((ml.length:Int) !=0)=false:=by simp[hl0]
     clear hl0;go_enter Tryz.func91,Tryz.ntmps91;go_wp2_with (first | (go_at_call 39; refine (hO _).out.mono ?_; rintro e w1 ⟨rfl,hb1⟩; obtain⟨kc0,kc1,kc2⟩:=keep3 (b:=w.heap.size) hb1 (by simp) k0.out) | (go_at_call 171; refine (hI _).out.mono ?_; rw[hpr.out]; rintro e w2 ⟨rfl,rfl⟩));go_ret;exact⟨ret_int hv.out.symm,((Below.refl _ _).alloc (Nat.le_refl _) _).trans (hb1.mono (by simp))⟩
    ·have hv:=Lib.hid (chk_no (P:=p) (M:=(1:Nat)) (ml:=ml) fun⟨D,_,h2,h3,_⟩=>hl0 (by rw[h3,modL_length,D.hlen,if_pos (by omega)]));have hl0':((ml.length:Int) !=0)=true:=by rw[bne_iff_ne]; omega
     clear hl0;go_enter Tryz.func91,Tryz.ntmps91;go_wp2_with (first | (go_at_call 39; refine (hO _).out.mono ?_; rintro e w1 ⟨rfl,hb1⟩; obtain⟨kc0,kc1,kc2⟩:=keep3 (b:=w.heap.size) hb1 (by simp) k0.out) | (go_at_call 171; refine (hI _).out.mono ?_; rw[hpr.out]; rintro e w2 ⟨rfl,rfl⟩));go_ret;exact⟨ret_int hv.out.symm,((Below.refl _ _).alloc (Nat.le_refl _) _).trans (hb1.mono (by simp))⟩
   ·have hm':((m:Int)==1)=false:=by rw[beq_eq_false_iff_ne]; omega
    by_cases hlm:ml.length=m
    ·have hlm':((ml.length:Int) !=(m:Int))=false:=by simp[hlm]
     have hlm2:m≤ml.length:=by omega
     have hlm3:ml.length≤m:=by omega
     have hlmH:=Lib.hid hlm;clear hlm;go_enter Tryz.func91,Tryz.ntmps91;go_wp2_with (first | (go_at_call 39; refine (hO _).out.mono ?_; rintro e w1 ⟨rfl,hb1⟩; obtain⟨kc0,kc1,kc2⟩:=keep3 (b:=w.heap.size) hb1 (by simp) k0.out) | (go_at_call 171; refine (hI _).out.mono ?_; rw[hpr.out]; rintro e w2 ⟨rfl,rfl⟩));have hs1:=hb1.size;simp only[World.size_alloc]at hs1;have hbw1:Below w.heap.size w w1:=((Below.refl _ _).alloc (Nat.le_refl _) _).trans (hb1.mono (by simp));have hr1:=hr.below hbw1;have kH:=Lib.hid (keep3 (b:=w.heap.size) hb1 (by simp) k0.out);clear hb1;go_loopw [3] (fun i wr=>∃ k:Nat,k≤m∧i=.int .i64 k∧Hid (∀ j,j<k→0≤ml[j]?.getD 0∧ml[j]?.getD 0<p)∧Below w1.heap.size w1 wr) (fun i _=>m - (intOf i).toNat)
     case atStart=>exact⟨0,by omega,rfl,fun j hj=>by omega,Below.refl _ _⟩
     case round =>
      obtain⟨k,hk,rfl,hall,hbr⟩:=hrel;clear kc0 kc1 kc2;obtain⟨kc0,kc1,kc2⟩:=keep3 (b:=w.heap.size) hbr (by omega) kH.out;by_cases hlt:k<m
      ·obtain⟨b,off,rfl,hb,hc⟩:=hr1.at_ (k:=k) (by omega);obtain⟨x,hx⟩:∃ x,x=ml[k]?.getD 0:=⟨_,rfl⟩;rw[←hx]at hc;have hc2:=(hbr.cell (p:=⟨b,off+k,none⟩) (by show b<w1.heap.size; omega)).trans hc;have hkl:k<ml.length:=by omega
       have hkl':(k:Int)<(ml.length:Int):=by omega
       clear hc;by_cases hx1:x<0
       ·have hv:=Lib.hid (chk_no (P:=p) (M:=m) (ml:=ml) fun⟨D,_,_,h3,_⟩=>by have:=(modL_bd D k).1; rw[←h3,←hx]at this; omega);have hxb:decide (x<0)=true:=decide_eq_true hx1;clear hx hr hr1;go_wp2_with (fail);go_quiet (fail);go_wp2_with (fail);go_ret;exact⟨ret_int hv.out.symm,hbw1.trans ((below_drewN' hbr _).mono (by omega))⟩
       ·have hxb:decide (x<0)=false:=decide_eq_false hx1;by_cases hx2:x<p
        ·have hall2:Hid (∀ j,j<k+1→0≤ml[j]?.getD 0∧ml[j]?.getD 0<p):=fun j hj=>by
          by_cases e:j=k
          ·subst e; rw[←hx]; omega
          ·exact hall.out j (by omega)
         have hxc:decide ((p:Int)≤x)=false:=decide_eq_false (by omega);clear hx hr hr1 hall;go_wp2_with (fail);go_quiet (fail);go_wp2_with (fail);go_roundw
         case rel=>exact⟨k+1,by omega,by go_num,hall2,below_drewN' hbr _⟩
         case measure=>simp[intOf]; omega
        ·have hv:=Lib.hid (chk_no (P:=p) (M:=m) (ml:=ml) fun⟨D,h1,_,h3,_⟩=>by have:=(modL_bd D k).2; rw[←h3,←hx]at this; omega);have hxc:decide ((p:Int)≤x)=true:=decide_eq_true (by omega);clear hx hr hr1;go_wp2_with (fail);go_quiet (fail);go_wp2_with (fail);go_ret;exact⟨ret_int hv.out.symm,hbw1.trans ((below_drewN' hbr _).mono (by omega))⟩
      ·have hkm:k=m:=by omega
       have hval:Valid p m ml:=Valid.mk' (ml:=ml) hpp hm1 hm8 hq3 (by rw[if_neg hm]; exact hlmH.out) (fun j hj=>hall.out j (by omega));obtain⟨D,hd1,hd2,hd3⟩:=hval;have hdl:(modL D).length=D.m:=by rw[←hd3,hlmH.out]; omega
       have hrD:Rd wr wr.heap.size A (nl m fun i=>D.mod.getD i 0):=by
        have h4:=nl_modL D;rw[show D.mod.length=m by rw[←modL_length,hdl]; omega,←hd3]at h4;rw[h4]; exact (hr1.below (hbr.mono (by omega))).more (by have:=hbr.size; omega)
       have hIr:=Lib.hid (irreducible_any p m (fun i=>D.mod.getD i 0) A c wr hp2 hp256 hm1 hm8 hq3 (fun i=>by have:=D.hmod i; omega) hrD);have hlen:=hlmH.out;have hgood:Hid (irrB p m (fun i=>D.mod.getD i 0)=true→chk p m ml=0):=fun h=>chk_yes ⟨D,hd1,hd2,hd3,.inr (by rw[show D.p=p by omega,show D.m=m by omega]; exact h)⟩
       have hbad:Hid (irrB p m (fun i=>D.mod.getD i 0)=false→chk p m ml=1):=fun h=>chk_no fun⟨D',h1,h2,h3,h4⟩=>by
        have h5:D'.mod=D.mod:=modL_inj (h3.symm.trans hd3);rcases h4 with h4 | h4
        ·omega
        ·rw[show D'.p=p by omega,show D'.m=m by omega,h5,h]at h4; cases h4
       clear hd1 hd2 hd3 hdl hrD hkm hr hr1 hall;rw[hlen];rw[hlen]at kc2;clear hlen
       cases hirr:irrB p m (fun i=>D.mod.getD i 0) with
       | true =>
        have hv:=Lib.hid (hgood.out hirr);rw[hirr]at hIr;clear hirr;go_wp2_with (fail);refine hIr.out.mono ?_;rintro e w3 ⟨rfl,hb3⟩;go_wp2_with (fail);go_ret;exact⟨ret_int hv.out.symm,hbw1.trans ((hbr.mono (by omega)).trans (hb3.mono (by have:=hbr.size; omega)))⟩
       | false =>
        have hv:=Lib.hid (hbad.out hirr);rw[hirr]at hIr;clear hirr;go_wp2_with (fail);refine hIr.out.mono ?_;rintro e w3 ⟨rfl,hb3⟩;go_wp2_with (fail);go_ret;exact⟨ret_int hv.out.symm,hbw1.trans ((hbr.mono (by omega)).trans (hb3.mono (by have:=hbr.size; omega)))⟩
    ·have hlm':((ml.length:Int) !=(m:Int))=true:=by rw[bne_iff_ne]; omega
     have hv:=Lib.hid (chk_no (P:=p) (M:=m) (ml:=ml) fun⟨D,_,h2,h3,_⟩=>hlm (by rw[h3,modL_length,D.hlen,if_neg (by omega)]; omega));clear hlm;go_enter Tryz.func91,Tryz.ntmps91;go_wp2_with (first | (go_at_call 39; refine (hO _).out.mono ?_; rintro e w1 ⟨rfl,hb1⟩; obtain⟨kc0,kc1,kc2⟩:=keep3 (b:=w.heap.size) hb1 (by simp) k0.out) | (go_at_call 171; refine (hI _).out.mono ?_; rw[hpr.out]; rintro e w2 ⟨rfl,rfl⟩));go_ret;exact⟨ret_int hv.out.symm,((Below.refl _ _).alloc (Nat.le_refl _) _).trans (hb1.mono (by simp))⟩
  ·have hv:=Lib.hid (chk_no (P:=p) (M:=m) (ml:=ml) fun⟨D,h1,_,_,_⟩=>hpr ((noDiv_prime hp2).2 (by rw[show p=D.p by omega]; exact D.hp)));have hpr:Hid (noDiv p (p - 2)=false):=by unfold Hid; simpa using hpr
   go_enter Tryz.func91,Tryz.ntmps91;go_wp2_with (first | (go_at_call 39; refine (hO _).out.mono ?_; rintro e w1 ⟨rfl,hb1⟩; obtain⟨kc0,kc1,kc2⟩:=keep3 (b:=w.heap.size) hb1 (by simp) k0.out) | (go_at_call 171; refine (hI _).out.mono ?_; rw[hpr.out]; rintro e w2 ⟨rfl,rfl⟩));go_ret;exact⟨ret_int hv.out.symm,((Below.refl _ _).alloc (Nat.le_refl _) _).trans (hb1.mono (by simp))⟩
end
section
open Go.RowKit Cw

set_option maxHeartbeats 1000000 in
theorem New_bad (P M:Int)(ml:List Int)(A:Option Addr)(c:Nat)(w:World)(hP:P≤9223372036854775807)(hM:M≤9223372036854775807)(hl:ml.length≤maxLen)(hr:Rd w w.heap.size A ml)(hb:¬ Valid P M ml) :
  Calls Tryz.prog 63 #[.agg #[.int .i64 P,.int .i64 M,.slice A ml.length c]] w fun e w'=>e=.returned (.tuple #[.pointer none,.int .i64 1])∧Below w.heap.size w w':=by
 have hS:=fun W hr=>Lib.hid (shape_any P M ml A c W hP hM hl hr)
 rw[validB_false hb]at hS;have k0:=Lib.hid (alloc3 w (.int .i64 P) (.int .i64 M) (.slice A ml.length c) 24);have hB:Below w.heap.size w (w.alloc (.cells #[.int .i64 P,.int .i64 M,.slice A ml.length c] 24)):=(Below.refl _ _).alloc (Nat.le_refl _) _;have hS2:=hS _ ((hr.below hB).more hB.size);clear hb hS hl;go_enter Tryz.func63,Tryz.ntmps63;go_wp2_with (fail);(with_reducible refine hS2.out.mono ?_);rintro e w1 ⟨rfl,hb1⟩;go_wp2_with (fail);go_ret2;exact⟨rfl,hB.trans (hb1.mono hB.size)⟩

theorem good_of_gen {D:Desc} {u:R D} (h:IsGen u):Good D.p D.m (modL D):=by
 refine⟨D,rfl,rfl,rfl,.inr (irrB_true fun d h1 h2 v hv=>?_)⟩;exact irr_of_gen D.hmod h h1 h2
open Classical in
theorem gen_of_good {D:Desc} (h:Good D.p D.m (modL D)):∃ u:R D,IsGen u:=by
 obtain⟨D',hp,hm,hml,hi⟩:=h;have e1:D.p=D'.p:=by omega
 have e2:D.m=D'.m:=by omega
 have e3:=modL_inj hml;obtain rfl:D=D':=by
  obtain⟨p,m,mod,a1,a2,a3,a4,a5,a6⟩:=D;obtain⟨p',m',mod',b1,b2,b3,b4,b5,b6⟩:=D';dsimp at e1 e2 e3;subst e1 e2 e3;rfl
 refine gen_of_irr D.hmod (hi.imp id fun h d h1 h2 v hv=>?_);unfold irrB at h;exact of_decide_eq_true h d h1 h2 v hv

def NewAny (P M:Int)(ml:List Int)(w:World)(e:Ending)(w':World):Prop :=
 Below w.heap.size w w'∧((Good P M ml∧∃ g,∃ F:FD,P=F.p∧M=F.m∧ml=modL F.toDesc∧e=.returned (.tuple #[.pointer (some ⟨g,0,none⟩),.int .i64 0])∧w.heap.size≤g∧GF w' w'.heap.size g F) ∨
  (¬ Good P M ml∧e=.returned (.tuple #[.pointer none,.int .i64 1])))
theorem New_any (P M:Int)(ml:List Int)(A:Option Addr)(c:Nat)(w:World)(hP:P≤9223372036854775807)(hM:M≤9223372036854775807)(hl:ml.length≤maxLen)(hr:Rd w w.heap.size A ml) :
  Calls Tryz.prog 63 #[.agg #[.int .i64 P,.int .i64 M,.slice A ml.length c]] w (NewAny P M ml w):=by
 by_cases hv:Valid P M ml
 ·obtain⟨D,rfl,rfl,rfl⟩:=hv;rw[modL_length];refine (New_valid D A c w hr).mono ?_;rintro e w' ⟨hb,⟨g,F,rfl,rfl,h1,h2⟩ | ⟨hno,rfl⟩⟩
  ·exact⟨hb,.inl ⟨good_of_gen (u:=F.g) ⟨F.g_inj,F.g_one⟩,g,F,rfl,rfl,rfl,rfl,h1,h2⟩⟩
  ·exact⟨hb,.inr ⟨fun hg=>by obtain⟨u,hu⟩:=gen_of_good hg; exact hno u hu,rfl⟩⟩
 ·refine (New_bad P M ml A c w hP hM hl hr hv).mono ?_;rintro e w' ⟨rfl,hb⟩;exact⟨hb,.inr ⟨fun h=>hv h.valid,rfl⟩⟩
theorem New_good (D:Desc)(A:Option Addr)(c:Nat)(w:World)(hr:Rd w w.heap.size A (modL D))(hg:Good D.p D.m (modL D)) :
  Calls Tryz.prog 63 #[.agg #[.int .i64 D.p,.int .i64 D.m,.slice A D.mod.length c]] w fun e w' =>
   ∃ g,∃ F:FD,F.toDesc=D∧e=.returned (.tuple #[.pointer (some ⟨g,0,none⟩),.int .i64 0])∧w.heap.size≤g∧GF w' w'.heap.size g F∧Below w.heap.size w w':=by
 refine (New_valid D A c w hr).mono ?_;rintro e w' ⟨hb,⟨g,F,rfl,rfl,h1,h2⟩ | ⟨hno,rfl⟩⟩
 ·exact⟨g,F,rfl,rfl,h1,h2,hb⟩
 ·obtain⟨u,hu⟩:=gen_of_good hg;exact absurd hu (hno u)
theorem New_no (P M:Int)(ml:List Int)(A:Option Addr)(c:Nat)(w:World)(hP:P≤9223372036854775807)(hM:M≤9223372036854775807)(hl:ml.length≤maxLen)(hr:Rd w w.heap.size A ml)(hb:¬ Good P M ml) :
  Calls Tryz.prog 63 #[.agg #[.int .i64 P,.int .i64 M,.slice A ml.length c]] w fun e w'=>e=.returned (.tuple #[.pointer none,.int .i64 1])∧Below w.heap.size w w':=by
 refine (New_any P M ml A c w hP hM hl hr).mono ?_;rintro e w' ⟨hb1,⟨hg,-⟩ | ⟨-,rfl⟩⟩
 ·exact absurd hg hb
 ·exact⟨rfl,hb1⟩
end
section
open Go.RowKit Cw

def RdU (w:World)(L B:Nat)(A:Option Addr)(l:List Int):Prop :=
 0<l.length→∃ b off,A=some ⟨b,off,none⟩∧L≤b∧b<B∧∀ j,j<l.length→w.cell? ⟨b,off+j,none⟩=some (.int .i64 (l[j]?.getD 0))
section
variable {w w':World} {L L' B B':Nat} {A:Option Addr} {l:List Int}
theorem RdU.rd (h:RdU w L B A l):Rd w B A l:=fun hn=>by
 obtain⟨b,off,e,-,hb,hc⟩:=h hn;exact⟨b,off,e,hb,hc⟩
theorem RdU.of (h:Rd w B A l)(hA:∀ b,A=some b→L≤b.block):RdU w L B A l:=fun hn=>by
 obtain⟨b,off,e,hb,hc⟩:=h hn;exact⟨b,off,e,hA _ e,hb,hc⟩
theorem RdU.keepU (h:RdU w L B A l)(hk:∀ p:Addr,L≤p.block→p.block<B→w'.cell? p=w.cell? p):RdU w' L B A l:=fun hn=>by
 obtain⟨b,off,e,hl,hb,hc⟩:=h hn;exact⟨b,off,e,hl,hb,fun j hj=>(hk ⟨b,off+j,none⟩ hl hb).trans (hc j hj)⟩
theorem RdU.more (h:RdU w L B A l)(hB:B≤B'):RdU w L B' A l:=fun hn=>by
 obtain⟨b,off,e,hl,hb,hc⟩:=h hn;exact⟨b,off,e,hl,by omega,hc⟩
theorem RdU.low (h:RdU w L B A l)(hL:L'≤L):RdU w L' B A l:=fun hn=>by
 obtain⟨b,off,e,hl,hb,hc⟩:=h hn;exact⟨b,off,e,by omega,hb,hc⟩
end
structure GFU (w:World) (L B g:Nat) (D:FD):Prop where
 lt:g<B
 le:L≤g
 c0:w.cell? ⟨g,0,none⟩=some (.int .i64 D.p)
 c1:w.cell? ⟨g,1,none⟩=some (.int .i64 D.m)
 md:∃ A c,w.cell? ⟨g,2,none⟩=some (.slice A D.mod.length c)∧RdU w L B A (modL D.toDesc)
 c3:w.cell? ⟨g,3,none⟩=some (.int .i64 D.q)
 ex:∃ A c,w.cell? ⟨g,4,none⟩=some (.slice A (D.q - 1) c)∧RdU w L B A (expl D)
 lo:∃ A c,w.cell? ⟨g,5,none⟩=some (.slice A D.q c)∧RdU w L B A (lgl D)
section
variable {w w':World} {L L' B B' g:Nat} {D:FD}
theorem GFU.gf (h:GFU w L B g D):GF w B g D where
 lt:=h.lt
 c0:=h.c0
 c1:=h.c1
 md:=by obtain⟨A,c,h1,h2⟩:=h.md; exact⟨A,c,h1,h2.rd⟩
 c3:=h.c3
 ex:=by obtain⟨A,c,h1,h2⟩:=h.ex; exact⟨A,c,h1,h2.rd⟩
 lo:=by obtain⟨A,c,h1,h2⟩:=h.lo; exact⟨A,c,h1,h2.rd⟩
theorem GFU.keepU (h:GFU w L B g D)(hk:∀ p:Addr,L≤p.block→p.block<B→w'.cell? p=w.cell? p):GFU w' L B g D where
 lt:=h.lt
 le:=h.le
 c0:=(hk _ h.le h.lt).trans h.c0
 c1:=(hk _ h.le h.lt).trans h.c1
 md:=by obtain⟨A,c,h1,h2⟩:=h.md; exact⟨A,c,(hk _ h.le h.lt).trans h1,h2.keepU hk⟩
 c3:=(hk _ h.le h.lt).trans h.c3
 ex:=by obtain⟨A,c,h1,h2⟩:=h.ex; exact⟨A,c,(hk _ h.le h.lt).trans h1,h2.keepU hk⟩
 lo:=by obtain⟨A,c,h1,h2⟩:=h.lo; exact⟨A,c,(hk _ h.le h.lt).trans h1,h2.keepU hk⟩
theorem GFU.below (h:GFU w L B g D)(hb:Below B w w'):GFU w' L B g D:=h.keepU fun _ _ hp=>hb.cell hp
theorem GFU.more (h:GFU w L B g D)(hB:B≤B'):GFU w L B' g D where
 lt:=by have:=h.lt; omega
 le:=h.le
 c0:=h.c0
 c1:=h.c1
 md:=by obtain⟨A,c,h1,h2⟩:=h.md; exact⟨A,c,h1,h2.more hB⟩
 c3:=h.c3
 ex:=by obtain⟨A,c,h1,h2⟩:=h.ex; exact⟨A,c,h1,h2.more hB⟩
 lo:=by obtain⟨A,c,h1,h2⟩:=h.lo; exact⟨A,c,h1,h2.more hB⟩
theorem GFU.low (h:GFU w L B g D)(hL:L'≤L):GFU w L' B g D where
 lt:=h.lt
 le:=by have:=h.le; omega
 c0:=h.c0
 c1:=h.c1
 md:=by obtain⟨A,c,h1,h2⟩:=h.md; exact⟨A,c,h1,h2.low hL⟩
 c3:=h.c3
 ex:=by obtain⟨A,c,h1,h2⟩:=h.ex; exact⟨A,c,h1,h2.low hL⟩
 lo:=by obtain⟨A,c,h1,h2⟩:=h.lo; exact⟨A,c,h1,h2.low hL⟩
end
def NewLPost (D:Desc)(w:World)(e:Ending)(w':World):Prop :=
 Below w.heap.size w w'∧((∃ g,∃ F:FD,F.toDesc=D∧e=.returned (.tuple #[.pointer (some ⟨g,0,none⟩),.int .i64 0])∧GFU w' w.heap.size w'.heap.size g F) ∨
  ((∀ u:R D,¬ IsGen u)∧e=.returned (.tuple #[.pointer none,.int .i64 1])))
def NewStL (D:Desc)(w:World)(v:Value)(s6:Value)(wx:World):Prop :=
 ∃ g gl A c,s6=.pointer (some ⟨g,0,none⟩)∧w.heap.size≤g∧w.heap.size≤gl∧g<wx.heap.size∧g≠gl∧IB wx gl (List.replicate D.q 0)∧Below w.heap.size w wx ∧
  wx.heap[g]?=some (.cells #[.int .i64 D.p,.int .i64 D.m,.slice A D.mod.length c,.int .i64 D.q,v,.slice (some ⟨gl,0,none⟩) D.q D.q] 171 (0,0)) ∧
  Rd wx wx.heap.size A (modL D)∧(∀ b,A=some b→b.block≠gl)∧(∀ b,A=some b→w.heap.size≤b.block)
theorem NewStL.of {D:Desc} {w2 w4:World} {A3:Option Addr} {c3 gl H:Nat} {v:Value} (hi:IB w4 gl (List.replicate D.q 0))(hr:Rd w4 w4.heap.size A3 (modL D))(hne:∀ b,A3=some b→b.block≠gl)
  (hb:Below w2.heap.size w2 w4) (hgl:w2.heap.size≤gl) (hH:w4.heap.size=H) (hlo:∀ b,A3=some b→w2.heap.size≤b.block) :
  NewStL D w2 v (.pointer (some ⟨H,0,none⟩)) (w4.alloc (.cells #[.int .i64 D.p,.int .i64 D.m,.slice A3 D.mod.length c3,.int .i64 D.q,v,.slice (some ⟨gl,0,none⟩) D.q D.q] 171)):=by
 subst hH;have hl:=hi.lt;exact⟨w4.heap.size,gl,A3,c3,rfl,hb.size,hgl,by simp,by omega,hi.alloc _,hb.alloc hb.size _,heap_alloc_new w4 _,(hr.alloc (Nat.le_refl _) _).more (by simp),hne,hlo⟩

set_option maxRecDepth 100000 in
set_option maxHeartbeats 2000000 in
theorem New_validL (D:Desc)(A:Option Addr)(c:Nat)(w:World)(hr:Rd w w.heap.size A (modL D)) :
    Calls Tryz.prog 63 #[.agg #[.int .i64 D.p,.int .i64 D.m,.slice A D.mod.length c]] w (NewLPost D w):=by
  have hq2:=D.q2; have hq3:=D.q256; have hp1:=D.p256; have hp2:=D.m8;have hml:D.mod.length≤8:=by have:=D.hlen; rw[this]; split <;> omega
  have hbx0:=Bx.new w D A D.mod.length c 24;have hS:=fun w hr=>Lib.hid (shape_any D.p D.m (modL D) A c w (by omega) (by omega) (by rw[modL_length]; simp only[maxLen]; omega) hr)
  rw[modL_length,validB_true ⟨D,rfl,rfl,rfl⟩]at hS;have hO:=fun w=>Lib.hid (order_any D.p D.m w (by omega) (by omega))
  rw[qOf_D]at hO;have hG:=fun w hr=>Lib.hid (generator_any D A c w hr)
  have hmk:=mk_ints D.q (by omega);have hnil:=fun (W:World) (a:Option Addr) (n c:Nat)=>Lib.run_eql_slice_nil (P:=Tryz.prog) W 22 3 a n c 0 0 Tryz.underlying22
  have hr0:=hr.alloc (Nat.le_refl _) (.cells #[.int .i64 D.p,.int .i64 D.m,.slice A D.mod.length c] 24);go_enter Tryz.func63,Tryz.ntmps63;go_wp2_with (fail);refine (hS _ (hr0.more (by simp))).out.mono ?_;rintro e w1 ⟨rfl,hb1⟩;have hs1:=hb1.size;simp only[World.size_alloc]at hs1;have hbx1:=hbx0.below hb1 (by simp);have hbw1:Below w.heap.size w w1:=((Below.refl _ _).alloc (Nat.le_refl _) _).trans (hb1.mono (by simp));have kc:=hbx1;obtain⟨kc0,kc1,kc2⟩:=kc;go_wp2_with (go_at_call 137; refine (hO _).out.mono ?_; rintro e w9 ⟨rfl,rfl⟩);refine (hG _ ((hr.below hbw1).more (by omega))).out.mono ?_;rintro e w2 ⟨v,rfl,hb2,hcase⟩;have hs2:=hb2.size;have hbx2:=hbx1.below hb2 (by omega);have hbw2:=hbw1.trans (hb2.mono (by omega));clear kc0 kc1 kc2;have kc:=hbx2;obtain⟨kc0,kc1,kc2⟩:=kc;rcases hcase with ⟨u,hu,hown⟩ | ⟨hno,rfl⟩
  · obtain⟨Av,cv,rfl,hcv,hrv,hAv⟩:=hown.form;have hll:(pwl u (D.q - 1)).length=D.q - 1:=lst_length _ _;rw[hll]at hcv ⊢;obtain⟨be,oe,rfl,hbe,hce⟩:=hrv (by rw[hll]; omega);rw[hll]at hce;have hbeL:w.heap.size≤be:=by have:=(hAv _ rfl).1; dsimp only at this; omega
    have hr2:=(hr.below hbw2).more (show w.heap.size≤w2.heap.size by omega);have hwlt:w.heap.size<w2.heap.size:=by omega
    obtain⟨W,hW⟩:∃ W,W=w2.heap.size:=⟨_,rfl⟩;replace hce:=Lib.hid hce;replace hcv:=Lib.hid hcv;replace hown:=Lib.hid hown;replace hll:=Lib.hid hll;clear hAv hS hO hG hbx0 hbx1 hb1 hb2 hr0 hrv;go_wp2_with (fail);go_upto_region 7 with (fail)
    go_cut [6] (fun s6 wx=>NewStL D w2 (.slice (some ⟨be,oe,none⟩) (D.q - 1) cv) s6 wx)
    case first =>
      have o1:Hid (Own (w2.alloc (.cells #[] 3)).drew w2.heap.size (.slice (some ⟨w2.heap.size,0,none⟩) 0 0) []):=own_empty (heap_alloc_new w2 _) (Nat.le_refl _);have o2:Hid (Own ((w2.alloc (.cells #[] 3)).alloc (.cells (Array.replicate D.q (Value.int .i64 0)) 3)).drew w2.heap.size (.slice (some ⟨w2.heap.size,0,none⟩) 0 0) []):=o1.out.alloc _;have o3:Hid (Own ((w2.alloc (.cells (Array.replicate D.q (Value.int .i64 0)) 3)).alloc (.cells #[] 3)).drew w2.heap.size (.slice (some ⟨w2.heap.size+1,0,none⟩) 0 0) []) :=
        own_empty (by have:=heap_alloc_new (w2.alloc (.cells (Array.replicate D.q (Value.int .i64 0)) 3)) (.cells #[] 3); rw[World.size_alloc]at this; exact this) (by omega)
      have r1:Hid (Rd (w2.alloc (.cells #[] 3)).drew w2.heap.size A (modL D)):=hr2.alloc (Nat.le_refl _) _;have r2:Hid (Rd ((w2.alloc (.cells #[] 3)).alloc (.cells (Array.replicate D.q (Value.int .i64 0)) 3)).drew w2.heap.size A (modL D)):=r1.out.alloc (by simp) _;have r3:Hid (Rd ((w2.alloc (.cells (Array.replicate D.q (Value.int .i64 0)) 3)).alloc (.cells #[] 3)).drew w2.heap.size A (modL D)):=(hr2.alloc (Nat.le_refl _) _).alloc (by simp) _;have hmn:D.mod.length=(modL D).length:=(modL_length D).symm;have hmn':Hid ((([]:List Int) ++ modL D).length=D.mod.length):=by unfold Hid; rw[List.nil_append,modL_length]
      have hm8:([]:List Int).length+(modL D).length≤1000000000:=by rw[modL_length]; simp; omega
      have b1:w2.heap.size≤(w2.alloc (.cells #[] 3)).drew.heap.size:=by simp
      have b2:w2.heap.size≤((w2.alloc (.cells #[] 3)).alloc (.cells (Array.replicate D.q (Value.int .i64 0)) 3)).drew.heap.size:=by simp; omega
      have b3:w2.heap.size≤((w2.alloc (.cells (Array.replicate D.q (Value.int .i64 0)) 3)).alloc (.cells #[] 3)).drew.heap.size:=by simp; omega
      replace hmn:=Lib.hid hmn;have kb:=Lib.hid hbx2;have x1:=Lib.hid (hbx2.alloc hwlt (.cells #[] 3));have x2:=Lib.hid (hbx2.alloc hwlt (.cells (Array.replicate D.q (Value.int .i64 0)) 3));have x3:=Lib.hid (x1.out.alloc (by simp; omega) (.cells (Array.replicate D.q (Value.int .i64 0)) 3));have x4:=Lib.hid (x2.out.alloc (by simp; omega) (.cells #[] 3));clear hbx2;go_region_held3 (fun w'=>w'.cell? ⟨w.heap.size,0,none⟩=some (.int .i64 D.p)∧w'.cell? ⟨w.heap.size,1,none⟩=some (.int .i64 D.m)∧w'.cell? ⟨w.heap.size,2,none⟩=some (.slice A D.mod.length c))
        (first | exact kb.out | exact x1.out | exact x2.out | exact x3.out | exact x4.out | exact y.out | exact y.out.alloc hwlt3 _ | exact (y.out.alloc hwlt3 _).alloc (by simp; omega) _)
        (first
          | (refine step_appN rfl (.tmp 26) (.tmp 28) rfl w2.heap.size _ [] w2.heap.size A c (modL D) o1.out r1.out rfl rfl hmn.out hm8 b1 ?_; intro v3 w3 hown3 hb3 hg3 hv3; obtain⟨A3,c3,rfl,hc3,hr3,hA3⟩:=hown3.form; rw[hmn'.out]; have y:=Lib.hid (Bx.below (W:=(w2.alloc (.cells #[] 3)).drew) x1.out hb3 hwlt); have hwlt3:w.heap.size<w3.heap.size:=Nat.lt_of_lt_of_le hwlt (Nat.le_trans b1 hb3.size))
          | (refine step_appN rfl (.tmp 26) (.tmp 28) rfl w2.heap.size _ [] w2.heap.size A c (modL D) o2.out r2.out rfl rfl hmn.out hm8 b2 ?_; intro v3 w3 hown3 hb3 hg3 hv3; obtain⟨A3,c3,rfl,hc3,hr3,hA3⟩:=hown3.form; rw[hmn'.out]; have y:=Lib.hid (Bx.below (W:=((w2.alloc (.cells #[] 3)).alloc (.cells (Array.replicate D.q (Value.int .i64 0)) 3)).drew) x3.out hb3 hwlt); have hwlt3:w.heap.size<w3.heap.size:=Nat.lt_of_lt_of_le hwlt (Nat.le_trans b2 hb3.size))
          | (refine step_appN rfl (.tmp 26) (.tmp 28) rfl w2.heap.size _ [] w2.heap.size A c (modL D) o3.out r3.out rfl rfl hmn.out hm8 b3 ?_; intro v3 w3 hown3 hb3 hg3 hv3; obtain⟨A3,c3,rfl,hc3,hr3,hA3⟩:=hown3.form; rw[hmn'.out]; have y:=Lib.hid (Bx.below (W:=((w2.alloc (.cells (Array.replicate D.q (Value.int .i64 0)) 3)).alloc (.cells #[] 3)).drew) x4.out hb3 hwlt); have hwlt3:w.heap.size<w3.heap.size:=Nat.lt_of_lt_of_le hwlt (Nat.le_trans b3 hb3.size)))
      all_goals go_wp2_with (fail)
      all_goals go_meet
      all_goals rw[List.nil_append]at hr3
      · have hx:Below w2.heap.size w2 (w2.alloc (.cells #[] 3)).drew:=((Below.refl _ _).alloc (Nat.le_refl _) _).drew;have h4:Below w2.heap.size w2 w3:=hx.trans hb3;exact NewStL.of (w4:=w3.alloc (.cells (Array.replicate D.q (Value.int .i64 0)) 3)) (IB.newz w3 D.q) ((hr3.alloc (Nat.le_refl _) _).more (by simp)) (fun b hb=>by have:=(hA3 b hb).2; omega) (h4.alloc h4.size _) h4.size (by simp) (fun b hb=>(hA3 b hb).1)
      · have hx:Below w2.heap.size w2 ((w2.alloc (.cells #[] 3)).alloc (.cells (Array.replicate D.q (Value.int .i64 0)) 3)).drew:=(((Below.refl _ _).alloc (Nat.le_refl _) _).alloc (by simp) _).drew;have h4:Below w2.heap.size w2 w3:=hx.trans hb3;have hz:IB ((w2.alloc (.cells #[] 3)).alloc (.cells (Array.replicate D.q (Value.int .i64 0)) 3)).drew (w2.heap.size+1) (List.replicate D.q 0):=by
          have:=IB.newz (w2.alloc (.cells #[] 3)) D.q; rw[World.size_alloc]at this; exact this
        refine NewStL.of (w4:=w3) (gl:=w2.heap.size+1) (hz.kept hg3 (by simp[Value.ownBlock])) hr3 (fun b hb=>?_) h4 (Nat.le_succ _) rfl (fun b hb=>(hA3 b hb).1);subst hb;rcases hv3 with h5 | h5
        · have:b.block=w2.heap.size:=by simpa [Value.ownBlock] using h5
          omega
        · have:=h5 b.block rfl;simp at this; omega
      · have hx:Below w2.heap.size w2 ((w2.alloc (.cells (Array.replicate D.q (Value.int .i64 0)) 3)).alloc (.cells #[] 3)).drew:=(((Below.refl _ _).alloc (Nat.le_refl _) _).alloc (by simp) _).drew;have h4:Below w2.heap.size w2 w3:=hx.trans hb3;have hz:IB ((w2.alloc (.cells (Array.replicate D.q (Value.int .i64 0)) 3)).alloc (.cells #[] 3)).drew w2.heap.size (List.replicate D.q 0):=(IB.newz w2 D.q).alloc _;refine NewStL.of (w4:=w3) (gl:=w2.heap.size) (hz.kept hg3 (by simp[Value.ownBlock])) hr3 (fun b hb=>?_) h4 (Nat.le_refl _) rfl (fun b hb=>(hA3 b hb).1);subst hb;rcases hv3 with h5 | h5
        · have:b.block=w2.heap.size+1:=by simpa [Value.ownBlock] using h5
          omega
        · have:=h5 b.block rfl;simp at this; omega
    case rest =>
      obtain⟨g,gl,A3,c3,rfl,hg,hgl,hglt,hne,hib,hb3,hhp,hr3,hA3,hA3L⟩:=hcut;have hq1:D.q - 1≤255:=by omega
      obtain⟨F,hFD,hFg⟩:∃ F:FD,∃ h:F.toDesc=D,F.g=h ▸ u:=⟨mkFD D u hu,rfl,rfl⟩;subst hFD;replace hFg:F.g=u:=hFg;subst hFg;replace hhp:=Lib.hid hhp;have hbcut:=hb3;clear hu hmk hnil hbx2 hr2 kc0 kc1 kc2;go_wp2_with (fail);go_loopw [39,7,8] (fun i _ _ wr=>∃ k:Nat,k≤F.q - 1∧i=.int .i64 k∧IB wr gl (logP F k)∧Hid (wr.heap[g]?=some (.cells #[.int .i64 F.p,.int .i64 F.m,.slice A3 F.mod.length c3,.int .i64 F.q,.slice (some ⟨be,oe,none⟩) (F.q - 1) cv,.slice (some ⟨gl,0,none⟩) F.q F.q] 171 (0,0))) ∧
         Below w2.heap.size w2 wr∧Rd wr wr.heap.size A3 (modL F.toDesc)∧g<wr.heap.size) (fun i _ _ _=>F.q - 1 - (intOf i).toNat)
      case atStart=>exact⟨0,by omega,rfl,by rw[logP_zero]; exact hib,hhp,hb3,hr3,hglt⟩
      case round =>
        clear hhp hib hb3 hr3;obtain⟨k,hk,rfl,hib,hhp,hb3,hr3,hglt2⟩:=hrel;by_cases hlt:k<F.q - 1
        · have hce2:=(hb3.cell (p:=⟨be,oe+k,none⟩) hbe).trans (hce.out k hlt);rw[show (pwl F.g (F.q - 1))[k]?.getD 0=ci (pw F.g k) from lst_get _ hlt]at hce2;have hy0:=ci_nonneg (pw F.g k);have hy1:=ci_lt (pw F.g k);obtain⟨y,hy⟩:=Int.eq_ofNat_of_zero_le hy0;have hyr:y=rcode (pw F.g k):=by unfold ci at hy; omega
          have hyq:y<F.q:=by omega
          rw[hy]at hce2;have hc:=hib.cell (i:=y) (by unfold logP; rw[lst_length]; exact hyq);have hf:=hib.frozen y;have hc5:wr.cell? ⟨g,5,none⟩=some (.slice (some ⟨gl,0,none⟩) F.q F.q):=by rw[cell_of_row wr g 5 _ _ _ hhp.out]; rfl
          have hset:=hib.set_ y (k:Int);rw[hyr,logP_set F hlt,←hyr]at hset;replace hset:=Lib.hid hset;clear hy hyr hy0 hy1 hib;have hk0:(k:Int)<((F.q - 1:Nat):Int):=by omega
          go_wp2_with (fail);go_roundw
          case rel=>exact⟨k+1,by omega,by go_num,hset.out,(Below.heap_setCell _ _ _ _ hne).trans hhp.out,hb3.setCell (p:=⟨gl,y,none⟩) hgl _,fun hn=>by
            obtain⟨b,off,e,hbl,hcell⟩:=hr3 hn;exact⟨b,off,e,by simpa [World.setCell] using hbl,fun j hj=>(World.cell?_setCell_other _ _ _ _ (fun e2=>by
              have h8:=hA3 _ e;have h9:=congrArg Addr.block e2;exact h8 (by first | exact h9 | exact h9.symm))).trans (hcell j hj)⟩,by simpa [World.setCell] using hglt2⟩
          case measure=>simp[intOf]; omega
        · obtain rfl:k=F.q - 1:=by omega
          rw[logP_full]at hib;go_wp2_with (fail);go_ret2;have hcell:=fun i=>cell_of_row wr g i _ _ _ hhp.out
          refine⟨hbw2.trans (hb3.mono (Nat.le_of_lt hwlt)),.inl ⟨g,F,rfl,rfl,hglt2,by omega,?_,?_,⟨A3,c3,?_,RdU.of hr3 fun b e=>by have:=hA3L b e; omega⟩,?_,⟨some ⟨be,oe,none⟩,cv,?_,fun hn=>⟨be,oe,rfl,hbeL,by have:=hb3.size; omega,fun j hj=>?_⟩⟩,⟨some ⟨gl,0,none⟩,F.q,?_,RdU.of hib.rd fun b e=>by cases e; exact Nat.le_trans (Nat.le_of_lt hwlt) hgl⟩⟩⟩
          · rw[hcell]; rfl
          · rw[hcell]; rfl
          · rw[hcell]; rfl
          · rw[hcell]; rfl
          · rw[hcell]; rfl
          · have hj':j<F.q - 1:=by rw[show (expl F).length=F.q - 1 from lst_length _ _]at hj; exact hj
            exact (hb3.cell (p:=⟨be,oe+j,none⟩) hbe).trans (hce.out j hj')
          · rw[hcell]; rfl
  · go_wp2_with (fail);go_ret2;exact⟨hbw2,.inr ⟨hno,rfl⟩⟩

theorem New_low (D:Desc)(A:Option Addr)(c:Nat)(w:World)(hr:Rd w w.heap.size A (modL D))(hg:Good D.p D.m (modL D)) :
  Calls Tryz.prog 63 #[.agg #[.int .i64 D.p,.int .i64 D.m,.slice A D.mod.length c]] w fun e w'=>∃ g,∃ F:FD,F.toDesc=D∧e=.returned (.tuple #[.pointer (some ⟨g,0,none⟩),.int .i64 0])∧GFU w' w.heap.size w'.heap.size g F∧Below w.heap.size w w':=by
 refine (New_validL D A c w hr).mono ?_;rintro e w' ⟨hb,⟨g,F,h1,h2,h3⟩ | ⟨hno,-⟩⟩
 ·exact⟨g,F,h1,h2,h3,hb⟩
 ·obtain⟨u,hu⟩:=gen_of_good hg;exact absurd hu (hno u)
end
end Go.Proofs.YtjdoneanohhkmaaGreat
