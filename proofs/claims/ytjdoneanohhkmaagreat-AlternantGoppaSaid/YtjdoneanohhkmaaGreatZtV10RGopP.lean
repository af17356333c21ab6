/- Layer 19 of the program: a field with a field that it contains (fit). The error of a Goppa description, as a number; the program's elements of layer 19, and fields that do not fit. -/
import Derived.Test.YtjdoneanohhkmaaGreatZtV10RBxs
import Derived.Test.YtjdoneanohhkmaaGreatZtV10RNorW
import Derived.Test.YtjdoneanohhkmaaGreatZtV10RPoR
import Derived.Test.YtjdoneanohhkmaaGreatZtV10REmbT
import Derived.Test.YtjdoneanohhkmaaGreatZtV10RGrsA
import Derived.Test.YtjdoneanohhkmaaGreatZtV10RAlvP
import Derived.Test.YtjdoneanohhkmaaGreatZtV10RTk
namespace Go.Proofs.YtjdoneanohhkmaaGreat
section
open Go.RowKit Cw
attribute [local go_sem] Oper.semAt_some

def BkI (S F:FD)(r:R F.toDesc)(z:Int)(k:Nat)(L:List Int):Prop :=
 L.length=F.q∧∀ y,y<F.q→(∀ x,x<k→rcode (phi S F r (rel S.toDesc x))=y→L[y]?.getD 0=(x:Int))∧((∀ x,x<k→rcode (phi S F r (rel S.toDesc x))≠y)→L[y]?.getD 0=z)
noncomputable def backL (S F:FD)(r:R F.toDesc):List Int:=lst F.q fun y=>ci (bk S F r (rel F.toDesc y))
section
variable {S F:FD} {r:R F.toDesc} {z:Int} {k:Nat} {L:List Int}
theorem BkI.zero (S F:FD)(r:R F.toDesc)(z:Int):BkI S F r z 0 (List.replicate F.q z) :=
 ⟨List.length_replicate ..,fun y hy=>⟨fun x hx=>absurd hx (Nat.not_lt_zero _),fun _=>by rw[List.getElem?_replicate,if_pos hy]; rfl⟩⟩
theorem BkI.step (hp:S.p=F.p)(h0:muV S F r=0)(h:BkI S F r z k L)(hk:k<S.q):BkI S F r z (k+1) (L.set (rcode (phi S F r (rel S.toDesc k))) (k:Int)):=by
 obtain⟨h1,h2⟩:=h;refine⟨by rw[List.length_set,h1],fun y hy=>?_⟩;by_cases e:rcode (phi S F r (rel S.toDesc k))=y
 ·subst e;rw[List.getElem?_set_self (by omega)];refine⟨fun x hx e2=>?_,fun hn=>absurd rfl (hn k (Nat.lt_succ_self k))⟩;have h3:=congrArg rcode (phi_inj (char_two hp) h0 (rcode_inj e2));rw[rcode_rel (by omega),rcode_rel hk]at h3;subst h3;rfl
 ·rw[List.getElem?_set_ne e];obtain⟨g1,g2⟩:=h2 y hy;refine⟨fun x hx e2=>?_,fun hn=>g2 fun x hx=>hn x (by omega)⟩;by_cases e3:x=k
  ·subst e3; exact absurd e2 e
  ·exact g1 x (by omega) e2
theorem BkI.done (hp:S.p=F.p)(h0:muV S F r=0)(h:BkI S F r 0 S.q L):L=backL S F r:=by
 obtain⟨h1,h2⟩:=h;apply List.ext_getElem
 ·rw[h1]; exact (lst_length _ _).symm
 ·intro y hy1 hy2;have hy:y<F.q:=by omega
  obtain⟨g1,g2⟩:=h2 y hy;have e1:(backL S F r)[y]=ci (bk S F r (rel F.toDesc y)):=by
   have h3:(backL S F r)[y]?.getD 0=ci (bk S F r (rel F.toDesc y)):=lst_get _ hy;rw[List.getElem?_eq_getElem hy2]at h3; exact h3
  rw[e1];rw[List.getElem?_eq_getElem hy1]at g1 g2;by_cases e:∃ u,phi S F r u=rel F.toDesc y
  ·obtain⟨u,hu⟩:=e;rw[←hu,bk_phi hp h0];refine g1 (rcode u) (rcode_lt u) ?_;rw[rel_rcode,hu,rcode_rel hy]
  ·rw[bk_out e,ci_zero];refine g2 fun x _ e2=>e ⟨rel S.toDesc x,?_⟩
   rw[←e2,rel_rcode]
end
theorem per_nrm {F:FD} {d n n':Nat} {u:R F.toDesc} (h:IndS d n fun i=>frob (d*i) u)(hn:d*n=F.m)(hn1:1≤n)(hd:d∣F.m)(hd1:1≤d)(hper:IsPer d u n'):n'=n:=by
 have h1:=hper.dvd_M hd;have e:F.m / d=n:=by rw[←hn]; exact Nat.mul_div_cancel_left _ hd1
 rw[e]at h1;have h2:=Nat.le_of_dvd hn1 h1;refine Classical.byContradiction fun hne=>?_
 have hlt:n'<n:=by omega
 have h0:=hper.1;have h3:=h (fun i=>if i=0 then 1 else if i=n' then -1 else 0) (fun j _=>by
  by_cases e0:j=0
  ·rw[if_pos e0]; exact InSub.one d
  ·rw[if_neg e0];by_cases e1:j=n'
   ·rw[if_pos e1]; exact (InSub.one d).neg
   ·rw[if_neg e1]; exact InSub.zero d) (by
  obtain⟨k,rfl⟩:∃ k,n=k+1:=⟨n - 1,by omega⟩;rw[rsum_succ_left,rsum_single (k:=n' - 1) (by omega) fun i hi hne=>by rw[if_neg (by omega),if_neg (by omega),zero_mul]];rw[if_pos rfl,if_neg (by omega),if_pos (by omega),show n' - 1+1=n' by omega];dsimp only;rw[hper.2.1,Nat.mul_zero,frob_zero_k,one_mul,neg_mul,one_mul,add_neg]) 0 (by omega)
 rw[if_pos rfl]at h3;exact one_ne h3
def FitPost (S F:FD)(rt k0 n:Nat)(A:Option Addr)(c g:Nat)(w:World)(e:Ending)(w':World):Prop :=
 ∃ gb Ab cb,e=.returned (.tuple #[.agg #[.int .i64 S.p,.int .i64 S.m,.slice A S.mod.length c,.pointer (some ⟨g,0,none⟩),.slice (some ⟨gb,0,none⟩) F.q F.q,.slice Ab n cb,.int .i64 S.m],.int .i64 0])∧w.heap.size≤gb∧IB w' gb (backL S F (rel F.toDesc rt))∧Rd w' w'.heap.size Ab (frobs S.m (eli F.toDesc k0) n)∧(∀ a,Ab=some a→w.heap.size≤a.block)∧Below w.heap.size w w'
set_option maxRecDepth 100000 in
set_option maxHeartbeats 4000000 in
theorem fit_yes (S F:FD)(rt k0 n:Nat)(A:Option Addr)(c g:Nat)(w:World)(hg:GF w w.heap.size g F)(hr:Rd w w.heap.size A (modL S.toDesc))(hS:Good S.p S.m (modL S.toDesc))(hp:S.p=F.p)(hd:divB F.m S.m=true)(hrt:IsRt S F rt)(hn:F.m / S.m=n)(hk0:IsNrm F S.m n k0) :
  Calls Tryz.prog 168 #[.agg #[.int .i64 S.p,.int .i64 S.m,.slice A S.mod.length c],.pointer (some ⟨g,0,none⟩)] w (FitPost S F rt k0 n A c g w):=by
 obtain⟨d,hdd,hd1,hdm,hdv⟩:=divB_nat hd;obtain rfl:S.m=d:=by omega
 have hq256:=F.toDesc.q256;have hSq:=S.toDesc.q256;have hEm:=fun W a b=>Lib.hid (tEmbed_yes S F rt A c g W a b hS hp hd hrt)
 have hNo:=fun W a=>Lib.hid (tNormal_yes F S.m n k0 g W a hd1 hdv hn hk0)
 have hCj:=fun W a=>Lib.hid (tConj_yes F (k0:Int) S.m g W a hd1 hdv)
 have hnM:S.m*n=F.m:=by rw[←hn]; exact Nat.mul_div_cancel' hdv
 have hn1:1≤n:=by rw[←hn]; exact Nat.div_pos hdm hd1
 have hper:=fun n' h=>Lib.hid (per_nrm (n':=n') hk0.2.1 hnM hn1 hdv hd1 h)
 have h0:=Lib.hid hrt.2.1;have hnq:=Lib.hid (show frobs S.m (eli F.toDesc k0) n=frobs S.m (eli F.toDesc k0) n from rfl);clear hdd hnM hS hrt hk0 hd;replace hp:=Lib.hid hp;replace hn:=Lib.hid hn;obtain⟨s,hs⟩:∃ s,s=w.heap.size:=⟨_,rfl⟩;obtain⟨Z,hZ⟩:∃ Z,Z=(w.alloc (.cells #[.int .i64 S.p,.int .i64 S.m,.slice A S.mod.length c] 24)).alloc (.cells #[.int .i64 0,.int .i64 0,.slice none 0 0,.pointer none,.slice none 0 0,.slice none 0 0,.int .i64 0] 130):=⟨_,rfl⟩;have hB:Below w.heap.size w Z:=by rw[hZ]; exact ((Below.refl _ _).alloc (Nat.le_refl _) _).alloc (by simp) _
 have hbA:Hid (Bxs Z s [.int .i64 S.p,.int .i64 S.m,.slice A S.mod.length c]):=by rw[hZ,hs]; exact (Bxs.new w _ _).keep ((Below.refl _ _).alloc (Nat.le_refl _) _) (by simp)
 have hbR:Hid (Bxs Z (s+1) [.int .i64 0,.int .i64 0,.slice none 0 0,.pointer none,.slice none 0 0,.slice none 0 0,.int .i64 0]):=by rw[hZ,hs]; have:=Bxs.new (w.alloc (.cells #[.int .i64 S.p,.int .i64 S.m,.slice A S.mod.length c] 24)) [.int .i64 0,.int .i64 0,.slice none 0 0,.pointer none,.slice none 0 0,.slice none 0 0,.int .i64 0] 130; rw[World.size_alloc]at this; exact this
 have hsZ:s+1<Z.heap.size:=by rw[hZ,hs]; simp
 have hq:=hEm Z ((hg.below hB).more hB.size) ((hr.below hB).more hB.size);replace hZ:=Lib.hid hZ;clear hEm;go_enter Tryz.func168,Tryz.ntmps168;obtain⟨a0,a1,a2⟩:=hbA.out.c3;go_wp2_with (fail);rw[←hZ.out];simp only[←hs];have hsw:w.heap.size≤s:=Nat.le_of_eq hs.symm;replace hs:=Lib.hid hs;go_wp2_with (fail);(with_reducible refine hq.out.mono ?_);rintro e w1 ⟨v,rfl,hown,hb1⟩;clear hq a0 a1 a2;obtain⟨Ai,ci',rfl,hci1,hri,-⟩:=hown.form;rw[embL_length]at hci1 ⊢;have hB1:=hB.trans (hb1.mono hB.size);replace hbA:=Lib.hid (hbA.out.keep hb1 (by omega));replace hbR:=Lib.hid (hbR.out.keep hb1 hsZ);replace hsZ:s+1<w1.heap.size:=Nat.lt_of_lt_of_le hsZ hb1.size;have hg1:=(hg.below hB1).more hB1.size;have hmk:=mk_ints F.q (by omega);clear hown hb1 hB;go_wp2_with (fail);go_cut [8] from 13 (fun a wx=>∃ gb pb,a=.pointer (some ⟨pb,0,none⟩)∧Hid (Bxs wx pb [.int .i64 S.p,.int .i64 S.m,.slice A S.mod.length c,.pointer (some ⟨g,0,none⟩),.slice (some ⟨gb,0,none⟩) F.q F.q,.slice none 0 0,.int .i64 S.m])∧Hid (IB wx gb (List.replicate F.q 0))∧w1.heap.size≤gb∧w1.heap.size≤pb∧gb≠pb∧gb<wx.heap.size∧pb<wx.heap.size∧Below w1.heap.size w1 wx)
 case first =>
  have vF:=fun W (h:Below w1.heap.size w1 W)=>show (W.cell? ⟨s,0,none⟩=some (.int .i64 S.p)∧W.cell? ⟨s,1,none⟩=some (.int .i64 S.m)∧W.cell? ⟨s,2,none⟩=some (.slice A S.mod.length c))∧GF W w1.heap.size g F from ⟨(hbA.out.keep h (by omega)).c3,hg1.below h⟩
  have hOr:=fun W (h:GF W w1.heap.size g F) (hl:w1.heap.size≤W.heap.size)=>Lib.hid (gOrder_any F g W (h.more hl))
  refine wp_region_held_drew (S:=fun w'=>(w'.cell? ⟨s,0,none⟩=some (.int .i64 S.p)∧w'.cell? ⟨s,1,none⟩=some (.int .i64 S.m)∧w'.cell? ⟨s,2,none⟩=some (.slice A S.mod.length c))∧GF w' w1.heap.size g F) (by kernel_rfl) (by (try dsimp only); exact vF _ (Below.refl _ _).drew) (fun hHeld=>?_);refine tk 0 ?_; try simp only[pS]
  refine tk 1 ?_; try simp only[pS]
  refine tk 2 ?_; try simp only[pS]
  refine tk 5 ?_; try simp only[pS]
  refine tk 6 ?_; try simp only[pS]
  refine wpAnyH_ready (rs:=[3,8]) (by kernel_rfl) (by simp) ?_;refine AllReadyH.cons (o:=⟨_,_,_,_,_,_⟩) rfl (fun K hK=>?_) ?_
  ·go_simp;go_at_call 162;(with_reducible refine (hOr _ hHeld.2 (by simp)).out.mono ?_);rintro e wq ⟨rfl,rfl⟩;go_wp2_with (fail);refine hK.out _ _ (by (try dsimp only); exact hHeld) (fun hHeld=>?_);clear hK K;try simp only[pS]
   refine wpAnyH_ready (rs:=[4,8]) (by kernel_rfl) (by simp) ?_;refine AllReadyH.cons (o:=⟨_,_,_,_,_,_⟩) rfl (fun K hK=>?_) ?_
   ·go_simp;refine hK.out _ _ (by (try dsimp only); exact⟨⟨cell_al hHeld.1.1 _,cell_al hHeld.1.2.1 _,cell_al hHeld.1.2.2 _⟩,hHeld.2.al (by simp) _⟩) (fun hHeld=>?_);clear hK K;try simp only[pS]
    refine tk 7 ?_; try simp only[pS]
    refine rd 8 fun K hK=>?_
    go_simp;refine hK.out _ _ (by (try dsimp only); exact⟨⟨cell_al hHeld.1.1 _,cell_al hHeld.1.2.1 _,cell_al hHeld.1.2.2 _⟩,hHeld.2.al (by simp) _⟩) (fun hHeld=>?_);clear hK K;try simp only[pS]
    refine rd 9 fun K hK=>?_
    go_simp;refine hK.out _ _ (by (try dsimp only); (first | exact vF _ (boxesA w1 F.q _ _).2.2.2.drew | exact vF _ (boxesB w1 F.q _ _).2.2.2.drew)) (fun hHeld=>?_);clear hK K;try simp only[pS]
    refine wpAnyH_done (by kernel_rfl) ?_ _;go_wp2_with (fail);go_meet
    first
     | exact⟨w1.heap.size,w1.heap.size+1,rfl,Lib.hid (boxesA w1 F.q _ _).1.drew,Lib.hid (boxesA w1 F.q _ _).2.1.drew,Nat.le_refl _,Nat.le_succ _,by omega,Nat.lt_trans (Nat.lt_succ_self _) (boxesA w1 F.q _ _).2.2.1,(boxesA w1 F.q _ _).2.2.1,(boxesA w1 F.q _ _).2.2.2.drew⟩
     | exact⟨w1.heap.size+1,w1.heap.size,rfl,Lib.hid (boxesB w1 F.q _ _).1.drew,Lib.hid (boxesB w1 F.q _ _).2.1.drew,Nat.le_succ _,Nat.le_refl _,by omega,(boxesB w1 F.q _ _).2.2.1,Nat.lt_trans (Nat.lt_succ_self _) (boxesB w1 F.q _ _).2.2.1,(boxesB w1 F.q _ _).2.2.2.drew⟩
   refine AllReadyH.cons (o:=⟨_,_,_,_,_,_⟩) rfl (fun K hK=>?_) AllReadyH.nil;go_simp;refine hK.out _ _ (by (try dsimp only); exact⟨⟨cell_al hHeld.1.1 _,cell_al hHeld.1.2.1 _,cell_al hHeld.1.2.2 _⟩,hHeld.2.al (by simp) _⟩) (fun hHeld=>?_);clear hK K;try simp only[pS]
   refine rd 4 fun K hK=>?_
   go_simp;refine hK.out _ _ (by (try dsimp only); exact⟨⟨cell_al hHeld.1.1 _,cell_al hHeld.1.2.1 _,cell_al hHeld.1.2.2 _⟩,hHeld.2.al (by simp) _⟩) (fun hHeld=>?_);clear hK K;try simp only[pS]
   refine tk 7 ?_; try simp only[pS]
   refine rd 9 fun K hK=>?_
   go_simp;refine hK.out _ _ (by (try dsimp only); (first | exact vF _ (boxesA w1 F.q _ _).2.2.2.drew | exact vF _ (boxesB w1 F.q _ _).2.2.2.drew)) (fun hHeld=>?_);clear hK K;try simp only[pS]
   refine wpAnyH_done (by kernel_rfl) ?_ _;go_wp2_with (fail);go_meet
   first
    | exact⟨w1.heap.size,w1.heap.size+1,rfl,Lib.hid (boxesA w1 F.q _ _).1.drew,Lib.hid (boxesA w1 F.q _ _).2.1.drew,Nat.le_refl _,Nat.le_succ _,by omega,Nat.lt_trans (Nat.lt_succ_self _) (boxesA w1 F.q _ _).2.2.1,(boxesA w1 F.q _ _).2.2.1,(boxesA w1 F.q _ _).2.2.2.drew⟩
    | exact⟨w1.heap.size+1,w1.heap.size,rfl,Lib.hid (boxesB w1 F.q _ _).1.drew,Lib.hid (boxesB w1 F.q _ _).2.1.drew,Nat.le_succ _,Nat.le_refl _,by omega,(boxesB w1 F.q _ _).2.2.1,Nat.lt_trans (Nat.lt_succ_self _) (boxesB w1 F.q _ _).2.2.1,(boxesB w1 F.q _ _).2.2.2.drew⟩
  refine AllReadyH.cons (o:=⟨_,_,_,_,_,_⟩) rfl (fun K hK=>?_) AllReadyH.nil;go_simp;refine hK.out _ _ (by (try dsimp only); exact⟨⟨cell_al hHeld.1.1 _,cell_al hHeld.1.2.1 _,cell_al hHeld.1.2.2 _⟩,hHeld.2.al (by simp) _⟩) (fun hHeld=>?_);clear hK K;try simp only[pS]
  refine rd 3 fun K hK=>?_
  go_simp;go_at_call 162;(with_reducible refine (hOr _ hHeld.2 (by simp)).out.mono ?_);rintro e wq ⟨rfl,rfl⟩;go_wp2_with (fail);refine hK.out _ _ (by (try dsimp only); exact hHeld) (fun hHeld=>?_);clear hK K;try simp only[pS]
  refine rd 4 fun K hK=>?_
  go_simp;refine hK.out _ _ (by (try dsimp only); exact⟨⟨cell_al hHeld.1.1 _,cell_al hHeld.1.2.1 _,cell_al hHeld.1.2.2 _⟩,hHeld.2.al (by simp) _⟩) (fun hHeld=>?_);clear hK K;try simp only[pS]
  refine tk 7 ?_; try simp only[pS]
  refine rd 9 fun K hK=>?_
  go_simp;refine hK.out _ _ (by (try dsimp only); (first | exact vF _ (boxesA w1 F.q _ _).2.2.2.drew | exact vF _ (boxesB w1 F.q _ _).2.2.2.drew)) (fun hHeld=>?_);clear hK K;try simp only[pS]
  refine wpAnyH_done (by kernel_rfl) ?_ _;go_wp2_with (fail);go_meet
  first
   | exact⟨w1.heap.size,w1.heap.size+1,rfl,Lib.hid (boxesA w1 F.q _ _).1.drew,Lib.hid (boxesA w1 F.q _ _).2.1.drew,Nat.le_refl _,Nat.le_succ _,by omega,Nat.lt_trans (Nat.lt_succ_self _) (boxesA w1 F.q _ _).2.2.1,(boxesA w1 F.q _ _).2.2.1,(boxesA w1 F.q _ _).2.2.2.drew⟩
   | exact⟨w1.heap.size+1,w1.heap.size,rfl,Lib.hid (boxesB w1 F.q _ _).1.drew,Lib.hid (boxesB w1 F.q _ _).2.1.drew,Nat.le_succ _,Nat.le_refl _,by omega,(boxesB w1 F.q _ _).2.2.1,Nat.lt_trans (Nat.lt_succ_self _) (boxesB w1 F.q _ _).2.2.1,(boxesB w1 F.q _ _).2.2.2.drew⟩
 case rest =>
  obtain⟨gb,pb,rfl,hbP,hib,hgb,hpb,hne,hgl,hpl,hb2⟩:=hcut;obtain⟨w2,rfl⟩:∃ w2:World,w2=wc:=⟨_,rfl⟩;clear hmk;go_wp2_with (fail);go_loopw [33,9,10] (fun i _ _ wr=>∃ (k:Nat) (L:List Int),k≤S.q∧i=.int .i64 k∧Hid (IB wr gb L)∧Hid (BkI S F (rel F.toDesc rt) 0 k L)∧Hid (Bxs wr pb [.int .i64 S.p,.int .i64 S.m,.slice A S.mod.length c,.pointer (some ⟨g,0,none⟩),.slice (some ⟨gb,0,none⟩) F.q F.q,.slice none 0 0,.int .i64 S.m])∧Below w1.heap.size w1 wr∧pb<wr.heap.size) (fun i _ _ _=>S.q - (intOf i).toNat)
  case atStart=>exact⟨0,_,by omega,rfl,hib,Lib.hid (BkI.zero S F _ 0),hbP,hb2,hpl⟩
  case round =>
   clear hbP hib hgl hpl hb2;obtain⟨w3,rfl⟩:∃ w3:World,w3=wr:=⟨_,rfl⟩;obtain⟨k,L,hk,rfl,hib,hbk,hbP,hb3,hpl3⟩:=hrel;have hgl3:=hib.out.lt;by_cases hlt:k<S.q
   ·have j0:(0:Int)≤(k:Int):=by omega
    have j1:(k:Int)<(S.q:Int):=by omega
    obtain⟨bi,oi,rfl,hbi,hci⟩:=hri.at_ (k:=k) (by rw[embL_length]; exact hlt);rw[embL_get S F rt hlt]at hci;obtain⟨y,hy⟩:∃ y:Nat,y=rcode (phi S F (rel F.toDesc rt) (rel S.toDesc k)):=⟨_,rfl⟩;have hyl:y<F.q:=by rw[hy]; exact rcode_lt _
    have hst:=hbk.out.step hp.out h0.out hlt;rw[←hy]at hst;rw[show ci (phi S F (rel F.toDesc rt) (rel S.toDesc k))=(y:Int) from by rw[hy]; rfl]at hci;replace hst:=Lib.hid hst;replace hy:=Lib.hid hy;replace hci:=(hb3.cell (p:=⟨bi,oi+k,none⟩) hbi).trans hci;have hcW:=hib.out.cell (i:=y) (by rw[hbk.out.1]; exact hyl);have hfW:=hib.out.frozen y;have hset:=Lib.hid (hib.out.set_ y (k:Int));have y0:(0:Int)≤(y:Int):=by omega
    have y1:(y:Int)<(F.q:Int):=by omega
    have hbP2:=Lib.hid (hbP.out.far hne y (.int .i64 k));have hb4:=Lib.hid (hb3.setCell (p:=⟨gb,y,none⟩) hgb (.int .i64 k));have hpl4:Hid (pb<(w3.setCell ⟨gb,y,none⟩ (.int .i64 k)).heap.size):=by unfold Hid; simp only[World.setCell,Array.size_modify]; exact hpl3
    obtain⟨p0,p1,p2,p3,p4,p5,p6⟩:=hbP.out.c7;go_wp2_with (fail);go_roundw
    case rel=>exact⟨k+1,_,by omega,by go_num,hset,hst,hbP2,hb4.out,hpl4.out⟩
    case measure=>simp[intOf]; omega
   ·have hkq:k=S.q:=by omega
    rw[hkq]at hbk;have hL:=hbk.out.done hp.out h0.out;rw[hL]at hib;clear hbk hL;replace hkq:=Lib.hid hkq;have hg3:=(hg1.below hb3).more hb3.size;have hqn:=hNo w3 hg3;obtain⟨a0,a1,a2⟩:=(hbA.out.keep hb3 (by omega)).c3;go_wp2_with (fail);(with_reducible refine hqn.out.mono ?_);rintro e w4 ⟨rfl,hb4⟩;clear a0 a1 a2 hqn;have hB4:=hb3.trans (hb4.mono hb3.size);have hqc:=hCj w4 ((hg3.below hb4).more hb4.size);obtain⟨a0,a1,a2⟩:=(hbA.out.keep hB4 (by omega)).c3;go_wp2_with (fail);(with_reducible refine hqc.out.mono ?_);rintro e w5 ⟨n',v,hpn,rfl,ho,hb5⟩;obtain rfl:n'=n:=(hper n' hpn).out;obtain⟨Ab,cb,rfl,hcb,hrb,hAb⟩:=ho.form;rw[frobs_length]at hcb ⊢;clear a0 a1 a2 hqc ho hpn;have hB35:=hb4.trans (hb5.mono hb4.size);have hbP5:=hbP.out.keep hB35 hpl3;have hB5:=hB4.trans (hb5.mono hB4.size);have hbR5:=hbR.out.keep hB5 hsZ;have hib5:=hib.out.below hB35 hgl3;have hbP6:=hbP5.set_ (j:=5) (by simp) (.slice Ab n' cb);have hbR6:=hbR5.far (g:=pb) (by omega) 5 (.slice Ab n' cb);obtain⟨p0,p1,p2,p3,p4,p5,p6⟩:=hbP5.c7;obtain⟨f0,f1,f2,f3,f4,f5,f6⟩:=hbP5.f7;obtain⟨q0,q1,q2,q3,q4,q5,q6⟩:=Bxs.c7 hbP6;obtain⟨u0,u1,u2,u3,u4,u5,u6⟩:=hbR6.c7;obtain⟨v0,v1,v2,v3,v4,v5,v6⟩:=hbR6.f7;have hAb5:∀ a,Ab=some a→w4.heap.size≤a.block:=fun a e=>(hAb a e).1
    have hp4:pb<w4.heap.size:=Nat.lt_of_lt_of_le hpl3 hb4.size;have hs4:s+1<w4.heap.size:=by have:=hB4.size; omega
    have hfin:Hid (FitPost S F rt k0 n' A c g w (.returned (.tuple #[.agg #[.int .i64 S.p,.int .i64 S.m,.slice A S.mod.length c,.pointer (some ⟨g,0,none⟩),.slice (some ⟨gb,0,none⟩) F.q F.q,.slice Ab n' cb,.int .i64 S.m],.int .i64 0])) (stAll (w5.setCell ⟨pb,5,none⟩ (.slice Ab n' cb)) (s+1) 0 [.int .i64 S.p,.int .i64 S.m,.slice A S.mod.length c,.pointer (some ⟨g,0,none⟩),.slice (some ⟨gb,0,none⟩) F.q F.q,.slice Ab n' cb,.int .i64 S.m])):=by
     have hw1:=hB1.size;refine⟨gb,Ab,cb,rfl,by omega,?_,?_,fun a e=>by have:=hAb5 a e; have:=hB4.size; omega,?_⟩
     ·have h:=hib5.far (p:=⟨pb,5,none⟩) hne (.slice Ab n' cb);exact (stAll_IB (by omega) _ _ _).trans h
     ·rw[stAll_size];have h:=hrb.farN (g:=pb) (fun _ b hb=>by have:=hAb5 b hb; omega) 5 (.slice Ab n' cb);have h2:=h.farS (b:=s+1) (fun a e=>by have:=hAb5 a e; omega) [.int .i64 S.p,.int .i64 S.m,.slice A S.mod.length c,.pointer (some ⟨g,0,none⟩),.slice (some ⟨gb,0,none⟩) F.q F.q,.slice Ab n' cb,.int .i64 S.m] 0;refine h2.more ?_;simp[World.setCell]
     ·refine stAll_below (by omega) _ _ _ ?_;exact ((hB1.trans (hB5.mono hB1.size)).setCell (p:=⟨pb,5,none⟩) (show w.heap.size≤pb by omega) _)
    clear hrb hib5 hbP5 hbR5 hbP6 hbR6;go_wp2_with (fail);exact bodyPost_ret (v:=.tuple #[.agg #[.int .i64 S.p,.int .i64 S.m,.slice A S.mod.length c,.pointer (some ⟨g,0,none⟩),.slice (some ⟨gb,0,none⟩) F.q F.q,.slice Ab n' cb,.int .i64 S.m],.int .i64 0]) (by simp[results,Tryz.results168,go_sem,u0,u1,u2,u3,u4,u5,u6]) rfl hfin.out
end
section
open Go.RowKit Cw
attribute [local go_sem] Oper.semAt_some

def fitB (S F:Desc):Bool:=decide (S.p=F.p)&&divB F.m S.m
def valL (D:Desc)(poly pts:List Int):List Int:=lst pts.length fun i=>ci (pevI D poly (eli D (pts[i]?.getD 0)))
def gopD (S D:Desc)(poly pts:List Int):Int :=
 if fitB S D=false then 10 else if pts.length<1∨64<pts.length then 4 else if elB D pts=false∨elB D poly=false then 2 else if twB pts=true then 18
 else if poly.length<2∨65<poly.length∨poly[poly.length - 1]?.getD 0=0 then 5 else if (0:Int)∈valL D poly pts then 7 else 0
section
variable {S D:Desc} {poly pts:List Int}
theorem gopD_fit (h:fitB S D=false):gopD S D poly pts=10:=if_pos h
theorem gopD_len (h:fitB S D=true)(h1:pts.length<1∨64<pts.length):gopD S D poly pts=4:=by unfold gopD; rw[if_neg (by rw[h]; decide),if_pos h1]
theorem gopD_el (h:fitB S D=true)(h1:¬ (pts.length<1∨64<pts.length))(h2:elB D pts=false∨elB D poly=false):gopD S D poly pts=2:=by unfold gopD; rw[if_neg (by rw[h]; decide),if_neg h1,if_pos h2]
theorem gopD_tw (h:fitB S D=true)(h1:¬ (pts.length<1∨64<pts.length))(h2:¬ (elB D pts=false∨elB D poly=false))(h3:twB pts=true):gopD S D poly pts=18:=by unfold gopD; rw[if_neg (by rw[h]; decide),if_neg h1,if_neg h2,if_pos h3]
theorem gopD_form (h:fitB S D=true)(h1:¬ (pts.length<1∨64<pts.length))(h2:¬ (elB D pts=false∨elB D poly=false))(h3:twB pts=false)(h4:poly.length<2∨65<poly.length∨poly[poly.length - 1]?.getD 0=0):gopD S D poly pts=5:=by unfold gopD; rw[if_neg (by rw[h]; decide),if_neg h1,if_neg h2,if_neg (by rw[h3]; decide),if_pos h4]
theorem gopD_root (h:fitB S D=true)(h1:¬ (pts.length<1∨64<pts.length))(h2:¬ (elB D pts=false∨elB D poly=false))(h3:twB pts=false)(h4:¬ (poly.length<2∨65<poly.length∨poly[poly.length - 1]?.getD 0=0))(h5:(0:Int)∈valL D poly pts):gopD S D poly pts=7:=by unfold gopD; rw[if_neg (by rw[h]; decide),if_neg h1,if_neg h2,if_neg (by rw[h3]; decide),if_neg h4,if_pos h5]
theorem gopD_ok (h:fitB S D=true)(h1:¬ (pts.length<1∨64<pts.length))(h2:¬ (elB D pts=false∨elB D poly=false))(h3:twB pts=false)(h4:¬ (poly.length<2∨65<poly.length∨poly[poly.length - 1]?.getD 0=0))(h5:¬ (0:Int)∈valL D poly pts):gopD S D poly pts=0:=by unfold gopD; rw[if_neg (by rw[h]; decide),if_neg h1,if_neg h2,if_neg (by rw[h3]; decide),if_neg h4,if_neg h5]
theorem gopD_zero (h:gopD S D poly pts=0):fitB S D=true∧(1≤pts.length∧pts.length≤64)∧elB D pts=true∧elB D poly=true∧twB pts=false∧2≤poly.length∧poly.length≤65∧poly[poly.length - 1]?.getD 0≠0∧¬ (0:Int)∈valL D poly pts:=by
 cases hf:fitB S D with
 | false=>rw[gopD_fit hf]at h; cases h
 | true =>
  by_cases h1:pts.length<1∨64<pts.length
  ·rw[gopD_len hf h1]at h; cases h
  by_cases h2:elB D pts=false∨elB D poly=false
  ·rw[gopD_el hf h1 h2]at h; cases h
  cases h3:twB pts with
  | true=>rw[gopD_tw hf h1 h2 h3]at h; cases h
  | false =>
   by_cases h4:poly.length<2∨65<poly.length∨poly[poly.length - 1]?.getD 0=0
   ·rw[gopD_form hf h1 h2 h3 h4]at h; cases h
   by_cases h5:(0:Int)∈valL D poly pts
   ·rw[gopD_root hf h1 h2 h3 h4 h5]at h; cases h
   refine⟨rfl,by omega,?_,?_,rfl,by omega,by omega,by omega,h5⟩
   ·cases e:elB D pts with
    | true=>rfl
    | false=>exact absurd (Or.inl e) h2
   ·cases e:elB D poly with
    | true=>rfl
    | false=>exact absurd (Or.inr e) h2
theorem fitB_iff:fitB S D=true↔S.p=D.p∧divB D.m S.m=true:=by unfold fitB; rw[Bool.and_eq_true,decide_eq_true_iff]
end

set_option maxHeartbeats 1000000 in
theorem aElems_any (D:FD)(l:List Int)(A:Option Addr)(c g:Nat)(w:World)(hg:GF w w.heap.size g D)(hr:Rd w w.heap.size A l)(hl:l.length≤maxLen) :
  Calls Tryz.prog 169 #[.pointer (some ⟨g,0,none⟩),.slice A l.length c] w fun e w'=>e=.returned (.bool (elB D.toDesc l))∧w=w':=by
 unfold maxLen at hl;have hI:=fun x=>Lib.hid (gIs_any D x g w hg)
 go_enter Tryz.func169,Tryz.ntmps169;go_wp2_with (fail);go_loop [9,6] (fun i _=>∃ k:Nat,k≤l.length∧i=.int .i64 k∧Hid (∀ j,j<k→0≤l[j]?.getD 0∧l[j]?.getD 0<(D.q:Int))) (fun i _=>l.length - (intOf i).toNat)
 case atStart=>exact⟨0,by omega,rfl,fun j hj=>absurd hj (by omega)⟩
 case round =>
  obtain⟨k,hk,rfl,hall⟩:=hrel;by_cases hlt:k<l.length
  ·obtain⟨b,o,rfl,-,hc⟩:=hr.at_ hlt;have hI2:=hI (l[k]?.getD 0);by_cases hy:0≤l[k]?.getD 0∧l[k]?.getD 0<(D.q:Int)
   ·rw[decide_eq_true hy]at hI2;have hall2:Hid (∀ j,j<k+1→0≤l[j]?.getD 0∧l[j]?.getD 0<(D.q:Int)):=fun j hj=>by
     by_cases e:j=k
     ·subst e; exact hy
     ·exact hall.out j (by omega)
    clear hy;generalize l[k]?.getD 0=y at *;go_wp2_with (fail);(with_reducible refine hI2.out.mono ?_);rintro e w1 ⟨rfl,rfl⟩;go_wp2_with (fail);go_round
    case rel=>exact⟨k+1,by omega,by go_num,hall2⟩
    case measure=>simp[intOf]; omega
   ·have hfin:=Lib.hid (elB_no hlt hy);rw[decide_eq_false hy]at hI2;clear hy;generalize l[k]?.getD 0=y at *;go_wp2_with (fail);(with_reducible refine hI2.out.mono ?_);rintro e w1 ⟨rfl,rfl⟩;go_wp2_with (fail);go_ret;exact⟨ret_bool hfin.out.symm,rfl⟩
  ·obtain rfl:k=l.length:=by omega
   have hfin:=Lib.hid (elB_iff.2 hall.out);clear hall;go_wp2_with (fail);go_ret;exact⟨ret_bool hfin.out.symm,rfl⟩

set_option maxRecDepth 100000 in
set_option maxHeartbeats 2000000 in
theorem fit_no (S F:FD)(A:Option Addr)(c g:Nat)(w:World)(hg:GF w w.heap.size g F)(hr:Rd w w.heap.size A (modL S.toDesc))(hS:Good S.p S.m (modL S.toDesc))(hno:fitB S.toDesc F.toDesc=false) :
  Calls Tryz.prog 168 #[.agg #[.int .i64 S.p,.int .i64 S.m,.slice A S.mod.length c],.pointer (some ⟨g,0,none⟩)] w fun e w'=>e=.returned (.tuple #[.agg #[.int .i64 0,.int .i64 0,.slice none 0 0,.pointer none,.slice none 0 0,.slice none 0 0,.int .i64 0],.int .i64 10])∧Below w.heap.size w w':=by
 have hno2:¬ (S.p=F.p∧divB F.m S.m=true):=fun h=>by rw[fitB_iff.2 h]at hno; cases hno
 have hEm:=fun W a b=>Lib.hid (tEmbed_no S F A c g W a b hS hno2)
 clear hno hno2;obtain⟨s,hs⟩:∃ s,s=w.heap.size:=⟨_,rfl⟩;obtain⟨Z,hZ⟩:∃ Z,Z=(w.alloc (.cells #[.int .i64 S.p,.int .i64 S.m,.slice A S.mod.length c] 24)).alloc (.cells #[.int .i64 0,.int .i64 0,.slice none 0 0,.pointer none,.slice none 0 0,.slice none 0 0,.int .i64 0] 130):=⟨_,rfl⟩;have hB:Below w.heap.size w Z:=by rw[hZ]; exact ((Below.refl _ _).alloc (Nat.le_refl _) _).alloc (by simp) _
 have hbA:Hid (Bxs Z s [.int .i64 S.p,.int .i64 S.m,.slice A S.mod.length c]):=by rw[hZ,hs]; exact (Bxs.new w _ _).keep ((Below.refl _ _).alloc (Nat.le_refl _) _) (by simp)
 have hbR:Hid (Bxs Z (s+1) [.int .i64 0,.int .i64 0,.slice none 0 0,.pointer none,.slice none 0 0,.slice none 0 0,.int .i64 0]):=by rw[hZ,hs]; have:=Bxs.new (w.alloc (.cells #[.int .i64 S.p,.int .i64 S.m,.slice A S.mod.length c] 24)) [.int .i64 0,.int .i64 0,.slice none 0 0,.pointer none,.slice none 0 0,.slice none 0 0,.int .i64 0] 130; rw[World.size_alloc]at this; exact this
 have hsZ:s+1<Z.heap.size:=by rw[hZ,hs]; simp
 have hq:=hEm Z ((hg.below hB).more hB.size) ((hr.below hB).more hB.size);replace hZ:=Lib.hid hZ;clear hEm;go_enter Tryz.func168,Tryz.ntmps168;obtain⟨a0,a1,a2⟩:=hbA.out.c3;go_wp2_with (fail);rw[←hZ.out];simp only[←hs];have hsw:w.heap.size≤s:=Nat.le_of_eq hs.symm;replace hs:=Lib.hid hs;go_wp2_with (fail);(with_reducible refine hq.out.mono ?_);rintro e w1 ⟨rfl,hb1⟩;clear hq a0 a1 a2;have hB1:=hB.trans (hb1.mono hB.size);have hbR1:=hbR.out.keep hb1 hsZ;obtain⟨u0,u1,u2,u3,u4,u5,u6⟩:=hbR1.c7;obtain⟨v0,v1,v2,v3,v4,v5,v6⟩:=hbR1.f7;have hfin:Hid (Below w.heap.size w (stAll w1 (s+1) 0 [.int .i64 0,.int .i64 0,.slice none 0 0,.pointer none,.slice none 0 0,.slice none 0 0,.int .i64 0])):=stAll_below (by omega) _ _ _ hB1;clear hbR1 hb1 hB;go_wp2_with (fail);exact bodyPost_ret (v:=.tuple #[.agg #[.int .i64 0,.int .i64 0,.slice none 0 0,.pointer none,.slice none 0 0,.slice none 0 0,.int .i64 0],.int .i64 10]) (by simp[results,Tryz.results168,go_sem,u0,u1,u2,u3,u4,u5,u6]) rfl ⟨rfl,hfin.out⟩
end
end Go.Proofs.YtjdoneanohhkmaaGreat
