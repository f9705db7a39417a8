/-
 Texts of this claim laid together: TOk6.
-/
import Derived.Test.YtmcjklicepaiaaaPk18
set_option linter.unusedVariables false
set_option linter.unusedSimpArgs false
namespace Go.Proofs.Ytmcjklicepaiaaa
def tbTlmOk7:List (List Nat):=[[],[0],[],[0,1,2],[0,1,2,3],[],[5],[],[5,6,7],[5,6,7,8],[5,6,7,8,9],[0,1,2,3,4,5,6,7,8,9,10],[0,1,2,3,4,5,6,7,8,9,10,11]]
def tbTlmOk15:List (List Nat):=[[],[0],[],[2],[],[2,3,4],[2,3,4,5],[2,3,4,5,6],[],[8],[],[8,9,10],[8,9,10,11],[8,9,10,11,12],[0,1,2,3,4,5,6,7,8,9,10,11,12,13],[0,1,2,3,4,5,6,7,8,9,10,11,12,13,14],[0,1,2,3,4,5,6,7,8,9,10,11,12,13,14,15],[0,1,2,3,4,5,6,7,8,9,10,11,12,13,14,15,16],[0,1,2,3,4,5,6,7,8,9,10,11,12,13,14,15,16,17],[0,1,2,3,4,5,6,7,8,9,10,11,12,13,14,15,16],[0,1,2,3,4,5,6,7,8,9,10,11,12,13,14,15,16,19],[0,1,2,3,4,5,6,7,8,9,10,11,12,13,14,15,16],[0,1,2,3,4,5,6,7,8,9,10,11,12,13,14,15,16,19,20,21],[0,1,2,3,4,5,6,7,8,9,10,11,12,13,14,15,16,19,20,21,22],[0,1,2,3,4,5,6,7,8,9,10,11,12,13,14,15,16,19,20,21,22,23],[0,1,2,3,4,5,6,7,8,9,10,11,12,13,14,15,16],[0,1,2,3,4,5,6,7,8,9,10,11,12,13,14,15,16,25],[0,1,2,3,4,5,6,7,8,9,10,11,12,13,14,15,16],[0,1,2,3,4,5,6,7,8,9,10,11,12,13,14,15,16,25,26,27],[0,1,2,3,4,5,6,7,8,9,10,11,12,13,14,15,16,25,26,27,28],[0,1,2,3,4,5,6,7,8,9,10,11,12,13,14,15,16,25,26,27,28,29],[0,1,2,3,4,5,6,7,8,9,10,11,12,13,14,15,16,17,18,19,20,21,22,23,24,25,26,27,28,29,30],[0,1,2,3,4,5,6,7,8,9,10,11,12,13,14,15,16,17,18,19,20,21,22,23,24,25,26,27,28,29,30,31],[0,1,2,3,4,5,6,7,8,9,10,11,12,13,14,15,16,17,18,19,20,21,22,23,24,25,26,27,28,29,30,31,32]]
def tbTlmOk20:List (List Nat):=[[],[0],[],[2],[],[2,3,4],[2,3,4,5],[2,3,4,5,6],[],[8],[],[8,9,10],[8,9,10,11],[8,9,10,11,12],[0,1,2,3,4,5,6,7,8,9,10,11,12,13],[0,1,2,3,4,5,6,7,8,9,10,11,12,13,14]]
open Go.RowKit Go.ChangeShapes
theorem few_nat:∀ (n:Nat) (l:List Nat),l.Nodup->(∀ x,x∈l->x<n)->l.length<=n:=by
 intro n
 induction n with
 | zero =>
  intro l _ h;cases l with
  | nil=>simp
  | cons x r=>exact absurd (h x (by simp)) (Nat.not_lt_zero x)
 | succ n ih =>
  intro l hd h;by_cases hn:n∈l
  ·have h1:=ih (l.erase n) (hd.erase n) (fun x hx=>by
    have:=(List.Nodup.mem_erase_iff hd).1 hx;have:=h x this.2;omega)
   rw [List.length_erase_of_mem hn] at h1;omega
  ·have:=ih l hd (fun x hx=>by
    have h2:=h x hx;have h3:x≠n:=fun e=>hn (e ▸ hx);omega)
   omega
theorem fit_in {c:Bus} {asked:List Int} {j:Job} (hc:AskOk c asked) (h:jobFit asked j=true):0<=j.who∧j.who<=2∧0<=j.n∧j.n<=11:=by
 unfold jobFit at h;rw [Bool.and_eq_true] at h;have h1:=inB_true.1 h.1;have h2:=inB_true.1 h.2;have hk:j.who.toNat<asked.length:=by rw [hc.la];omega
 have hk':j.who.toNat<c.progs.length:=by rw [hc.lp];omega
 have h3:=hc.at' _ hk hk';simp only [hk,getElem?_pos,Option.getD_some] at h2;omega
theorem few_jobs {c:Bus} {asked:List Int} {l:List Job} (hc:AskOk c asked) (hg:∀ j,j∈l->jobFit asked j=true) (hf:fresh l=true):l.length<=36:=by
 have h1:=few_nat 36 (l.map fun j=>(j.who*12+j.n).toNat) (by
  unfold List.Nodup;rw [List.pairwise_map];refine List.Pairwise.imp_of_mem (fun {a b} ha hb h=>?_) ((fresh_iff l).1 hf);have h2:=fit_in hc (hg a ha);have h3:=fit_in hc (hg b hb);intro e;unfold isJob at h;rw [Bool.and_eq_false_iff] at h;simp only [beq_eq_false_iff_ne,ne_eq] at h;omega) (fun x hx=>by
  obtain ⟨j,hj,rfl⟩:=List.mem_map.1 hx;have:=fit_in hc (hg j hj);omega)
 rw [List.length_map] at h1;exact h1
theorem good_fit {c:Bus} {asked:List Int} {dn:Bool} {l:List Job} (h:l.all (jobGood c asked dn)=true):∀ j,j∈l->jobFit asked j=true:=fun j hj=>by
 rw [List.all_eq_true] at h;have:=h j hj;unfold jobGood at this;rw [Bool.and_eq_true] at this;exact this.1
theorem few_jobsOk {c:Bus} {asked:List Int} {dn:Bool} {l:List Job} (hc:AskOk c asked) (h:jobsOk c asked l dn=true):l.length<=36:=by
 unfold jobsOk at h;rw [Bool.and_eq_true] at h;exact few_jobs hc (good_fit h.1) (rise_fresh h.2)
theorem few_toldOk {c:Bus} {asked:List Int} {l:List Job} (hc:AskOk c asked) (h:toldOk c asked l=true):l.length<=36:=by
 unfold toldOk at h;rw [Bool.and_eq_true] at h;exact few_jobs hc (good_fit h.1) h.2
theorem askIn_no {c:Bus} {asked:List Int} {k:Nat} (hk:k<asked.length) (hk':k<c.progs.length) (h3:k<3) (h:inB asked[k] 0 c.progs[k].length=false):askIn c asked=false:=by
 unfold askIn;rw [List.all_eq_false];exact ⟨k,List.mem_range.2 h3,by simp only [hk,hk',getElem?_pos,Option.getD_some,h];simp⟩
theorem askIn_yes {c:Bus} {asked:List Int} (hl:asked.length=3) (hp:c.progs.length=3) (h:∀ k (hk:k<asked.length) (hk':k<c.progs.length),inB asked[k] 0 c.progs[k].length=true):askIn c asked=true:=by
 unfold askIn;rw [List.all_eq_true];intro k hk;have hk:=List.mem_range.1 hk;have h1:k<asked.length:=by omega
 have h2:k<c.progs.length:=by omega
 simp only [h1,h2,getElem?_pos,Option.getD_some];exact h k h1 h2
theorem noneIn_no {b a:List Job} {k:Nat} (hk:k<b.length) (h:a.any (isJob b[k].who b[k].n)=true):noneIn b a=false:=by
 unfold noneIn;rw [List.all_eq_false];exact ⟨b[k],List.getElem_mem hk,by rw [h];simp⟩
theorem noneIn_yes {b a:List Job} (h:∀ k (hk:k<b.length),a.any (isJob b[k].who b[k].n)=false):noneIn b a=true:=by
 unfold noneIn;rw [List.all_eq_true];intro x hx;obtain ⟨k,hk,rfl⟩:=List.mem_iff_getElem.1 hx;rw [h k hk];rfl
theorem prog_few {c:Bus} (hb:busOk c=true) {k:Nat} (hk:k<c.progs.length):c.progs[k].length<=12:=by
 unfold busOk at hb;simp only [Bool.and_eq_true,List.all_eq_true] at hb;have:=hb.2.2.2.2 c.progs[k] (List.getElem_mem hk);unfold progOk at this;simp only [Bool.and_eq_true,decide_eq_true_eq] at this;exact this.1
set_option maxRecDepth 100000 in
set_option maxHeartbeats 12800000 in
theorem sTlmOk_any (x0:Bus) (v0 v1 v2:Value) (fp0 fp1 fp2:List Nat) (x1:Tlm) (s0 s1 s2 s3 s4 s5:Value) (fq0 fq1 fq2 fq3 fq4 fq5:List Nat) (w:World) (g0:SlR 4 mrR w x0.map v0 fp0) (g1:SlR 1 intR w x0.lat v1 fp1) (g2:SlR 1 (slR 7 reqR) w x0.progs v2 fp2)
 (h0:SlR 1 intR w x1.atm.mem s0 fq0) (h1:SlR 1 intR w x1.atm.holds s1 fq1) (h2:SlR 1 intR w x1.asked s2 fq2) (h3:SlR 5 jobR w x1.wait s3 fq3) (h4:SlR 5 jobR w x1.done s4 fq4) (h5:SlR 5 jobR w x1.told s5 fq5) :
 Calls Try.prog 37 #[.agg #[v0,v1,v2],.agg #[s0,s1,s2,s3,s4,s5]] w fun e w'=>e = .returned (.bool (tlmOk x0 x1))∧Below w.heap.size w w':=by
 obtain ⟨a2,n2,c2,rfl,hn2,-,-,-,-⟩:=h2.opened;obtain ⟨a3,n3,c3,rfl,hn3,-,-,-,-⟩:=h3.opened;obtain ⟨a4,n4,c4,rfl,hn4,-,-,-,-⟩:=h4.opened;obtain ⟨a5,n5,c5,rfl,hn5,-,-,-,-⟩:=h5.opened;obtain ⟨ap,pn,pc,rfl,hpn,-,-,-,-⟩:=g2.opened;obtain ⟨w1,hw1⟩:∃ z,z=(w.alloc (.cells #[v0,v1,.slice ap pn pc] 38)).alloc (.cells #[s0,s1,.slice a2 n2 c2,.slice a3 n3 c3,.slice a4 n4 c4,.slice a5 n5 c5] 70):=⟨_,rfl⟩;have b1:Below w.heap.size w w1:=by rw [hw1];exact (below_alloc _ _).trans ((below_alloc _ _).mono (by simp))
 have X0:w1.cell? ⟨w.heap.size,0,none⟩=some (v0):=by rw [hw1];exact alloc_keep (alloc1_new _ _ _ 0 rfl) _
 have X1:w1.cell? ⟨w.heap.size,1,none⟩=some (v1):=by rw [hw1];exact alloc_keep (alloc1_new _ _ _ 1 rfl) _
 have X2:w1.cell? ⟨w.heap.size,2,none⟩=some (.slice ap pn pc):=by rw [hw1];exact alloc_keep (alloc1_new _ _ _ 2 rfl) _
 have S0:w1.cell? ⟨w.heap.size+1,0,none⟩=some (s0):=by rw [hw1];exact alloc2_new _ _ _ _ _ 0 rfl
 have S1:w1.cell? ⟨w.heap.size+1,1,none⟩=some (s1):=by rw [hw1];exact alloc2_new _ _ _ _ _ 1 rfl
 have S2:w1.cell? ⟨w.heap.size+1,2,none⟩=some (.slice a2 n2 c2):=by rw [hw1];exact alloc2_new _ _ _ _ _ 2 rfl
 have S3:w1.cell? ⟨w.heap.size+1,3,none⟩=some (.slice a3 n3 c3):=by rw [hw1];exact alloc2_new _ _ _ _ _ 3 rfl
 have S4:w1.cell? ⟨w.heap.size+1,4,none⟩=some (.slice a4 n4 c4):=by rw [hw1];exact alloc2_new _ _ _ _ _ 4 rfl
 have S5:w1.cell? ⟨w.heap.size+1,5,none⟩=some (.slice a5 n5 c5):=by rw [hw1];exact alloc2_new _ _ _ _ _ 5 rfl
 have G0:=Lib.hid (SlR.below mrR_fits g0 b1);have G1:=Lib.hid (SlR.below intR_fits g1 b1);have G2:=Lib.hid (SlR.below (slR_fits reqR_fits) g2 b1);have H0:=Lib.hid (SlR.below intR_fits h0 b1);have H1:=Lib.hid (SlR.below intR_fits h1 b1);have H2:=Lib.hid (SlR.below intR_fits h2 b1);have H3:=Lib.hid (SlR.below jobR_fits h3 b1);have H4:=Lib.hid (SlR.below jobR_fits h4 b1);have H5:=Lib.hid (SlR.below jobR_fits h5 b1);have B:=Lib.hid b1;clear g0 g1 g2 h0 h1 h2 h3 h4 h5 b1;have HL2:Hid (decide (x1.asked.length=3)=((n2:Int) == 3)):=Lib.hid (by rw [hn2.out,Bool.eq_iff_iff];simp;omega);cases q0:busOk x0
 ·have Q0:=Lib.hid q0;clear q0;go_enter Try.func37,Try.ntmps37
  go_upto_region 1 with fail
  rw [<- hw1];clear hw1;go_wp2_with fail
  refine (sBusOk_any x0 _ _ _ fp0 fp1 fp2 _ G0.out G1.out G2.out).mono ?_;rw [Q0.out];rintro e w2 ⟨rfl,b⟩;replace G0:=Lib.hid (SlR.below mrR_fits G0.out b);replace G1:=Lib.hid (SlR.below intR_fits G1.out b);replace G2:=Lib.hid (SlR.below (slR_fits reqR_fits) G2.out b);replace H0:=Lib.hid (SlR.below intR_fits H0.out b);replace H1:=Lib.hid (SlR.below intR_fits H1.out b);replace H2:=Lib.hid (SlR.below intR_fits H2.out b);replace H3:=Lib.hid (SlR.below jobR_fits H3.out b);replace H4:=Lib.hid (SlR.below jobR_fits H4.out b);replace H5:=Lib.hid (SlR.below jobR_fits H5.out b);replace X0:=keep_cell b X0;replace X1:=keep_cell b X1;replace X2:=keep_cell b X2;replace S0:=keep_cell b S0;replace S1:=keep_cell b S1;replace S2:=keep_cell b S2;replace S3:=keep_cell b S3;replace S4:=keep_cell b S4;replace S5:=keep_cell b S5;replace B:=Lib.hid (B.out.trans (b.mono B.out.size));clear b;go_wp2;go_ret;exact ⟨ret_bool (show tlmOk x0 x1=false by unfold tlmOk;rw [Q0.out];rfl).symm,B.out⟩
 cases q1:atmOk x1.atm
 ·have Q0:=Lib.hid q0;have Q1:=Lib.hid q1;clear q0 q1;go_enter Try.func37,Try.ntmps37
  go_upto_region 1 with fail
  rw [<- hw1];clear hw1;go_wp2_with fail
  refine (sBusOk_any x0 _ _ _ fp0 fp1 fp2 _ G0.out G1.out G2.out).mono ?_;rw [Q0.out];rintro e w2 ⟨rfl,b⟩;replace G0:=Lib.hid (SlR.below mrR_fits G0.out b);replace G1:=Lib.hid (SlR.below intR_fits G1.out b);replace G2:=Lib.hid (SlR.below (slR_fits reqR_fits) G2.out b);replace H0:=Lib.hid (SlR.below intR_fits H0.out b);replace H1:=Lib.hid (SlR.below intR_fits H1.out b);replace H2:=Lib.hid (SlR.below intR_fits H2.out b);replace H3:=Lib.hid (SlR.below jobR_fits H3.out b);replace H4:=Lib.hid (SlR.below jobR_fits H4.out b);replace H5:=Lib.hid (SlR.below jobR_fits H5.out b);replace X0:=keep_cell b X0;replace X1:=keep_cell b X1;replace X2:=keep_cell b X2;replace S0:=keep_cell b S0;replace S1:=keep_cell b S1;replace S2:=keep_cell b S2;replace S3:=keep_cell b S3;replace S4:=keep_cell b S4;replace S5:=keep_cell b S5;replace B:=Lib.hid (B.out.trans (b.mono B.out.size));clear b;go_wp2_with fail
  refine (sAtmOk_any x1.atm _ _ fq0 fq1 _ H0.out H1.out).mono ?_;rw [Q1.out];rintro e w3 ⟨rfl,b⟩;replace G0:=Lib.hid (SlR.below mrR_fits G0.out b);replace G1:=Lib.hid (SlR.below intR_fits G1.out b);replace G2:=Lib.hid (SlR.below (slR_fits reqR_fits) G2.out b);replace H0:=Lib.hid (SlR.below intR_fits H0.out b);replace H1:=Lib.hid (SlR.below intR_fits H1.out b);replace H2:=Lib.hid (SlR.below intR_fits H2.out b);replace H3:=Lib.hid (SlR.below jobR_fits H3.out b);replace H4:=Lib.hid (SlR.below jobR_fits H4.out b);replace H5:=Lib.hid (SlR.below jobR_fits H5.out b);replace X0:=keep_cell b X0;replace X1:=keep_cell b X1;replace X2:=keep_cell b X2;replace S0:=keep_cell b S0;replace S1:=keep_cell b S1;replace S2:=keep_cell b S2;replace S3:=keep_cell b S3;replace S4:=keep_cell b S4;replace S5:=keep_cell b S5;replace B:=Lib.hid (B.out.trans (b.mono B.out.size));clear b;go_wp2;go_ret;exact ⟨ret_bool (show tlmOk x0 x1=false by unfold tlmOk;rw [Q0.out,Q1.out];rfl).symm,B.out⟩
 cases q2:((n2:Int) == 3)
 ·have Q0:=Lib.hid q0;have Q1:=Lib.hid q1;have Q2:=Lib.hid q2;clear q0 q1;go_enter Try.func37,Try.ntmps37
  go_upto_region 1 with fail
  rw [<- hw1];clear hw1;go_wp2_with fail
  refine (sBusOk_any x0 _ _ _ fp0 fp1 fp2 _ G0.out G1.out G2.out).mono ?_;rw [Q0.out];rintro e w2 ⟨rfl,b⟩;replace G0:=Lib.hid (SlR.below mrR_fits G0.out b);replace G1:=Lib.hid (SlR.below intR_fits G1.out b);replace G2:=Lib.hid (SlR.below (slR_fits reqR_fits) G2.out b);replace H0:=Lib.hid (SlR.below intR_fits H0.out b);replace H1:=Lib.hid (SlR.below intR_fits H1.out b);replace H2:=Lib.hid (SlR.below intR_fits H2.out b);replace H3:=Lib.hid (SlR.below jobR_fits H3.out b);replace H4:=Lib.hid (SlR.below jobR_fits H4.out b);replace H5:=Lib.hid (SlR.below jobR_fits H5.out b);replace X0:=keep_cell b X0;replace X1:=keep_cell b X1;replace X2:=keep_cell b X2;replace S0:=keep_cell b S0;replace S1:=keep_cell b S1;replace S2:=keep_cell b S2;replace S3:=keep_cell b S3;replace S4:=keep_cell b S4;replace S5:=keep_cell b S5;replace B:=Lib.hid (B.out.trans (b.mono B.out.size));clear b;go_wp2_with fail
  refine (sAtmOk_any x1.atm _ _ fq0 fq1 _ H0.out H1.out).mono ?_;rw [Q1.out];rintro e w3 ⟨rfl,b⟩;replace G0:=Lib.hid (SlR.below mrR_fits G0.out b);replace G1:=Lib.hid (SlR.below intR_fits G1.out b);replace G2:=Lib.hid (SlR.below (slR_fits reqR_fits) G2.out b);replace H0:=Lib.hid (SlR.below intR_fits H0.out b);replace H1:=Lib.hid (SlR.below intR_fits H1.out b);replace H2:=Lib.hid (SlR.below intR_fits H2.out b);replace H3:=Lib.hid (SlR.below jobR_fits H3.out b);replace H4:=Lib.hid (SlR.below jobR_fits H4.out b);replace H5:=Lib.hid (SlR.below jobR_fits H5.out b);replace X0:=keep_cell b X0;replace X1:=keep_cell b X1;replace X2:=keep_cell b X2;replace S0:=keep_cell b S0;replace S1:=keep_cell b S1;replace S2:=keep_cell b S2;replace S3:=keep_cell b S3;replace S4:=keep_cell b S4;replace S5:=keep_cell b S5;replace B:=Lib.hid (B.out.trans (b.mono B.out.size));clear b;go_wp2;go_ret;exact ⟨ret_bool (show tlmOk x0 x1=false by unfold tlmOk;rw [Q0.out,Q1.out,HL2.out,Q2.out];rfl).symm,B.out⟩
 have Q0:=Lib.hid q0;have Q1:=Lib.hid q1;have Q2:=Lib.hid q2;have HA3:Hid (x1.asked.length=3):=Lib.hid (by have:=HL2.out;rw [q2] at this;exact of_decide_eq_true this);have HP3:=Lib.hid (busOk_progs q0);have HT:Hid (tlmOk x0 x1=(askIn x0 x1.asked && tlmJobs x0 x1)):=Lib.hid (by unfold tlmOk;rw [q0,q1,HL2.out,q2];rfl);have hn23:3=n2:=by rw [<- hn2.out,HA3.out]
 subst hn23;have hpn3:3=pn:=by rw [<- hpn.out,HP3.out]
 subst hpn3;clear q0 q1 q2;go_enter Try.func37,Try.ntmps37
 go_upto_region 1 with fail
 rw [<- hw1];clear hw1;go_wp2_with fail
 refine (sBusOk_any x0 _ _ _ fp0 fp1 fp2 _ G0.out G1.out G2.out).mono ?_;rw [Q0.out];rintro e w2 ⟨rfl,b⟩;replace G0:=Lib.hid (SlR.below mrR_fits G0.out b);replace G1:=Lib.hid (SlR.below intR_fits G1.out b);replace G2:=Lib.hid (SlR.below (slR_fits reqR_fits) G2.out b);replace H0:=Lib.hid (SlR.below intR_fits H0.out b);replace H1:=Lib.hid (SlR.below intR_fits H1.out b);replace H2:=Lib.hid (SlR.below intR_fits H2.out b);replace H3:=Lib.hid (SlR.below jobR_fits H3.out b);replace H4:=Lib.hid (SlR.below jobR_fits H4.out b);replace H5:=Lib.hid (SlR.below jobR_fits H5.out b);replace X0:=keep_cell b X0;replace X1:=keep_cell b X1;replace X2:=keep_cell b X2;replace S0:=keep_cell b S0;replace S1:=keep_cell b S1;replace S2:=keep_cell b S2;replace S3:=keep_cell b S3;replace S4:=keep_cell b S4;replace S5:=keep_cell b S5;replace B:=Lib.hid (B.out.trans (b.mono B.out.size));clear b;go_wp2_with fail
 refine (sAtmOk_any x1.atm _ _ fq0 fq1 _ H0.out H1.out).mono ?_;rw [Q1.out];rintro e w3 ⟨rfl,b⟩;replace G0:=Lib.hid (SlR.below mrR_fits G0.out b);replace G1:=Lib.hid (SlR.below intR_fits G1.out b);replace G2:=Lib.hid (SlR.below (slR_fits reqR_fits) G2.out b);replace H0:=Lib.hid (SlR.below intR_fits H0.out b);replace H1:=Lib.hid (SlR.below intR_fits H1.out b);replace H2:=Lib.hid (SlR.below intR_fits H2.out b);replace H3:=Lib.hid (SlR.below jobR_fits H3.out b);replace H4:=Lib.hid (SlR.below jobR_fits H4.out b);replace H5:=Lib.hid (SlR.below jobR_fits H5.out b);replace X0:=keep_cell b X0;replace X1:=keep_cell b X1;replace X2:=keep_cell b X2;replace S0:=keep_cell b S0;replace S1:=keep_cell b S1;replace S2:=keep_cell b S2;replace S3:=keep_cell b S3;replace S4:=keep_cell b S4;replace S5:=keep_cell b S5;replace B:=Lib.hid (B.out.trans (b.mono B.out.size));clear b;clear G0 G1 H0 H1;go_wp2_with fail
 have Y2:=Lib.hid X2;have T2:=Lib.hid S2;have T3:=Lib.hid S3;have T4:=Lib.hid S4;have T5:=Lib.hid S5;have Y0':=Lib.hid X0;have Y1':=Lib.hid X1;have T0:=Lib.hid S0;have T1:=Lib.hid S1;clear X0 X1 S0 S1 X2 S2 S3 S4 S5
 go_loopw [5,6] (fun mq i wr=>∃ (k:Nat) (mn:Int),k<=3∧i = .int .i64 k∧mq = .int .i64 mn∧mn=(x1.asked.take k).sum∧0<=mn∧mn<=12*k∧(∀ j (h:j<x1.asked.length) (h':j<x0.progs.length),j<k->inB x1.asked[j] 0 x0.progs[j].length=true)∧Below w3.heap.size w3 wr) (fun _ i _=>3 - (intOf i).toNat)
 case atStart=>exact ⟨0,0,Nat.zero_le _,rfl,rfl,by simp,by omega,by omega,fun j _ _ h=>absurd h (Nat.not_lt_zero j),Below.refl _ _⟩
 case round =>
  obtain ⟨k,mn,hk,rfl,rfl,hmn,hm0,hm1,hg,hb⟩:=hrel;have HG:=Lib.hid hg;have HMn:=Lib.hid hmn;clear hg hmn;by_cases hlt:k<3
  ·have hka:k<x1.asked.length:=by rw [HA3.out];exact hlt
   have hkp:k<x0.progs.length:=by rw [HP3.out];exact hlt
   obtain ⟨_,_,_,ea,-,-,-,-,ra⟩:=(SlR.below intR_fits H2.out hb).opened;cases ea;obtain ⟨_,ab,ao,_,cs,rfl,-,-,-,⟨rfl,-⟩,ea⟩:=ra k hlt;have A0:=ea 0 (by simp);simp only [Nat.mul_one,Nat.add_zero,List.getElem_cons_zero] at A0;obtain ⟨_,_,_,ep,-,-,-,-,rp⟩:=(SlR.below (slR_fits reqR_fits) G2.out hb).opened;cases ep;obtain ⟨_,pb,po,fq,cs,rfl,-,-,-,⟨y,rfl,hy⟩,ep⟩:=rp k hlt;have Y0:=ep 0 (by simp);simp only [Nat.mul_one,Nat.add_zero,List.getElem_cons_zero] at Y0;obtain ⟨yb,yn,yc,rfl,hyn,-,-,-,-⟩:=hy.opened;obtain ⟨au,hau⟩:∃ z,x1.asked[k]=z:=⟨_,rfl⟩;rw [hau] at A0;have hy12:yn<=12:=by rw [<- hyn.out];exact prog_few Q0.out hkp
   have X2:=keep_cell hb Y2.out;have S2:=keep_cell hb T2.out;obtain ⟨bi,hbi⟩:∃ z,inB au 0 yn=z:=⟨_,rfl⟩;have HIn:=Lib.hid hbi;have HK:Hid (inB x1.asked[k] 0 x0.progs[k].length=bi):=Lib.hid (by rw [hau,hyn.out];exact hbi);have HAu:=Lib.hid hau;have hk3:(k:Int)<3:=by omega
   have HBr:=Lib.hid hb;clear ra ea rp ep hy hau hb;cases bi
   ·clear hbi;go_upto_region 7 with fail
    have hst:∀ F,F∈[FEq (.pointer (some ⟨w.heap.size+1,2,none⟩)),FEq (.slice (some ⟨ab,ao,none⟩) 3 c2),FEq (.int .i64 (k:Int)),FEq (.pointer (some ⟨ab,ao+k,none⟩)),FEq (.int .i64 au),FEq (.pointer (some ⟨w.heap.size,2,none⟩)),FEq (.slice (some ⟨pb,po,none⟩) 3 pc),FEq (.int .i64 (k:Int)),FEq (.pointer (some ⟨pb,po+k,none⟩)),FEq (.slice yb yn yc),FEq (.int .i64 (yn:Int)),FEq (.bool false)]->Stable [] F:=by repeat first|exact st_nil|refine st_eq ?_
    refine wp_tailH hst tbTlmOk7 (fun _ w'=>Below wr.heap.size wr w') 149 13 12 [some 28,some 29,some 30,some 31,some 32,some 33,some 34,some 35,some 36,some 37,some 38,some 39] _ [] ?h0 ?hop ?hend
    case h0=>exact (Below.refl _ _).drew
    case hop =>
     refine ⟨⟨⟨⟨⟨⟨⟨⟨⟨⟨⟨⟨trivial,?_⟩,?_⟩,?_⟩,?_⟩,?_⟩,?_⟩,?_⟩,?_⟩,?_⟩,?_⟩,?_⟩,?_⟩
     ·exact Owes.k0 149 [(3,.pointer (some ⟨w.heap.size+1,0,none⟩))]
     ·exact Owes.c1 149 28 0 S2
     ·exact Owes.k0 149 [(6,.int .i64 (k:Int))]
     ·exact Owes.k2 149 29 1 30 2
     ·exact Owes.c1 149 31 3 A0
     ·exact Owes.k0 149 [(2,.pointer (some ⟨w.heap.size,0,none⟩))]
     ·exact Owes.c1 149 33 5 X2
     ·exact Owes.k0 149 [(6,.int .i64 (k:Int))]
     ·exact Owes.k2 149 34 6 35 7
     ·exact Owes.c1 149 36 8 Y0
     ·exact Owes.k1 149 37 9
     ·refine Owes.mk _ rfl rfl (fun _ _ h=>by cases h) fun u m w' hm hI hR=>⟨⟨(frm 149 [(32,u 4),(38,u 10)]).toArray,[]⟩,rfl,fun d hd=>by cases hd;exact frm_lt (by decide),?_⟩;dsimp only [frm,List.foldl,List.replicate,List.set];have e4:u 4=_:=hR 4 (by decide);have e10:u 10=_:=hR 10 (by decide);rw [e4,e10];clear e4 e10;have HI:=Lib.hid hI;clear hI hst;go_wp2_with fail
      refine (l1In_v HIn.out _).mono ?_;rintro e w5 ⟨rfl,rfl⟩;go_wp2;exact ⟨rfl,_,rfl,rfl,HI.out,fun _ _ h=>h⟩
    case hend =>
     intro u w' hI hR;simp only [setAll,List.set_cons_zero,List.set_cons_succ];have e11:u 11=_:=hR 11 (by decide);rw [e11];clear e11;have BB:=Lib.hid (B.out.trans ((HBr.out.trans (hI.mono HBr.out.size)).mono B.out.size));clear hR hst hI X2 S2 A0 Y0;go_wp2;go_ret;exact ⟨ret_bool (show tlmOk x0 x1=false by rw [HT.out,askIn_no hka hkp hlt HK.out];rfl).symm,BB.out⟩
   ·have hau2:=inB_true.1 hbi;clear hbi;go_upto_region 7 with fail
    have hst:∀ F,F∈[FEq (.pointer (some ⟨w.heap.size+1,2,none⟩)),FEq (.slice (some ⟨ab,ao,none⟩) 3 c2),FEq (.int .i64 (k:Int)),FEq (.pointer (some ⟨ab,ao+k,none⟩)),FEq (.int .i64 au),FEq (.pointer (some ⟨w.heap.size,2,none⟩)),FEq (.slice (some ⟨pb,po,none⟩) 3 pc),FEq (.int .i64 (k:Int)),FEq (.pointer (some ⟨pb,po+k,none⟩)),FEq (.slice yb yn yc),FEq (.int .i64 (yn:Int)),FEq (.bool true)]->Stable [] F:=by repeat first|exact st_nil|refine st_eq ?_
    refine wp_tailH hst tbTlmOk7 (fun _ w'=>Below wr.heap.size wr w') 149 13 12 [some 28,some 29,some 30,some 31,some 32,some 33,some 34,some 35,some 36,some 37,some 38,some 39] _ [] ?h0 ?hop ?hend
    case h0=>exact (Below.refl _ _).drew
    case hop =>
     refine ⟨⟨⟨⟨⟨⟨⟨⟨⟨⟨⟨⟨trivial,?_⟩,?_⟩,?_⟩,?_⟩,?_⟩,?_⟩,?_⟩,?_⟩,?_⟩,?_⟩,?_⟩,?_⟩
     ·exact Owes.k0 149 [(3,.pointer (some ⟨w.heap.size+1,0,none⟩))]
     ·exact Owes.c1 149 28 0 S2
     ·exact Owes.k0 149 [(6,.int .i64 (k:Int))]
     ·exact Owes.k2 149 29 1 30 2
     ·exact Owes.c1 149 31 3 A0
     ·exact Owes.k0 149 [(2,.pointer (some ⟨w.heap.size,0,none⟩))]
     ·exact Owes.c1 149 33 5 X2
     ·exact Owes.k0 149 [(6,.int .i64 (k:Int))]
     ·exact Owes.k2 149 34 6 35 7
     ·exact Owes.c1 149 36 8 Y0
     ·exact Owes.k1 149 37 9
     ·refine Owes.mk _ rfl rfl (fun _ _ h=>by cases h) fun u m w' hm hI hR=>⟨⟨(frm 149 [(32,u 4),(38,u 10)]).toArray,[]⟩,rfl,fun d hd=>by cases hd;exact frm_lt (by decide),?_⟩;dsimp only [frm,List.foldl,List.replicate,List.set];have e4:u 4=_:=hR 4 (by decide);have e10:u 10=_:=hR 10 (by decide);rw [e4,e10];clear e4 e10;have HI:=Lib.hid hI;clear hI hst;go_wp2_with fail
      refine (l1In_v HIn.out _).mono ?_;rintro e w5 ⟨rfl,rfl⟩;go_wp2;exact ⟨rfl,_,rfl,rfl,HI.out,fun _ _ h=>h⟩
    case hend =>
     intro u w' hI hR;simp only [setAll,List.set_cons_zero,List.set_cons_succ];have e11:u 11=_:=hR 11 (by decide);rw [e11];clear e11;have X2b:=keep_cell hI X2;have S2b:=keep_cell hI S2;have A0b:=keep_cell hI A0;have BB:=Lib.hid (HBr.out.trans (hI.mono HBr.out.size));clear hR hst hI X2 S2 A0 Y0;go_wp2
     go_roundw
     case rel=>exact ⟨k+1,mn+au,by omega,by go_num,by go_num,(by rw [List.take_succ_eq_append_getElem hka,List.sum_append,<- HMn.out,HAu.out];simp),by omega,by omega,(fun j h h' hj=>by
      by_cases e:j=k
      ·subst e;exact HK.out
      ·exact HG.out j h h' (by omega)),BB.out⟩
     case measure=>simp [intOf];omega
  ·obtain rfl:k=3:=by omega
   have HAI:Hid (askIn x0 x1.asked=true):=Lib.hid (askIn_yes HA3.out HP3.out (fun j h h'=>HG.out j h h' (by rw [HA3.out] at h;exact h)));have HC:=Lib.hid (askIn_ok Q0.out HA3.out HAI.out);have HSum:Hid (mn=x1.asked.sum):=Lib.hid (by rw [HMn.out,List.take_of_length_le (by rw [HA3.out];exact Nat.le_refl _)]);have HT2:Hid (tlmOk x0 x1=tlmJobs x0 x1):=Lib.hid (by rw [HT.out,HAI.out];rfl);clear HG HT HMn;have X0:=keep_cell hb Y0'.out;have X1:=keep_cell hb Y1'.out;have X2:=keep_cell hb Y2.out;have S0:=keep_cell hb T0.out;have S1:=keep_cell hb T1.out;have S2:=keep_cell hb T2.out;have S3:=keep_cell hb T3.out;have S4:=keep_cell hb T4.out;have S5:=keep_cell hb T5.out;replace G2:=Lib.hid (SlR.below (slR_fits reqR_fits) G2.out hb);replace H2:=Lib.hid (SlR.below intR_fits H2.out hb);replace H3:=Lib.hid (SlR.below jobR_fits H3.out hb);replace H4:=Lib.hid (SlR.below jobR_fits H4.out hb);replace H5:=Lib.hid (SlR.below jobR_fits H5.out hb);replace B:=Lib.hid (B.out.trans (hb.mono B.out.size));clear hb Y0' Y1' Y2 T0 T1 T2 T3 T4 T5;have HTJ:Hid (tlmJobs x0 x1=(jobsOk x0 x1.asked x1.wait false && (jobsOk x0 x1.asked x1.done true && (toldOk x0 x1.asked x1.told && ((((n3:Int)+n4+n5) == mn) && ((noneIn x1.told x1.wait && noneIn x1.told x1.done) && noneIn x1.done x1.wait)))))):=Lib.hid (by unfold tlmJobs;rw [hn3.out,hn4.out,hn5.out,HSum.out]);cases q5:jobsOk x0 x1.asked x1.wait false
   ·have Q5:=Lib.hid q5;clear q5;go_wp2_with fail
    refine (l5Jobs_any x0 x1.asked x1.wait false HC.out _ _ _ _ _ fp2 fq2 fq3 _ G2.out H2.out H3.out).mono ?_;rw [Q5.out];rintro e w5 ⟨rfl,b⟩;replace G2:=Lib.hid (SlR.below (slR_fits reqR_fits) G2.out b);replace H2:=Lib.hid (SlR.below intR_fits H2.out b);replace H3:=Lib.hid (SlR.below jobR_fits H3.out b);replace H4:=Lib.hid (SlR.below jobR_fits H4.out b);replace H5:=Lib.hid (SlR.below jobR_fits H5.out b);replace X0:=keep_cell b X0;replace X1:=keep_cell b X1;replace X2:=keep_cell b X2;replace S0:=keep_cell b S0;replace S1:=keep_cell b S1;replace S2:=keep_cell b S2;replace S3:=keep_cell b S3;replace S4:=keep_cell b S4;replace S5:=keep_cell b S5;replace B:=Lib.hid (B.out.trans (b.mono B.out.size));clear b;go_wp2;go_ret;exact ⟨ret_bool (show tlmOk x0 x1=false by rw [HT2.out,HTJ.out,Q5.out];simp).symm,B.out⟩
   cases q6:jobsOk x0 x1.asked x1.done true
   ·have Q5:=Lib.hid q5;have Q6:=Lib.hid q6;clear q5 q6;go_wp2_with fail
    refine (l5Jobs_any x0 x1.asked x1.wait false HC.out _ _ _ _ _ fp2 fq2 fq3 _ G2.out H2.out H3.out).mono ?_;rw [Q5.out];rintro e w5 ⟨rfl,b⟩;replace G2:=Lib.hid (SlR.below (slR_fits reqR_fits) G2.out b);replace H2:=Lib.hid (SlR.below intR_fits H2.out b);replace H3:=Lib.hid (SlR.below jobR_fits H3.out b);replace H4:=Lib.hid (SlR.below jobR_fits H4.out b);replace H5:=Lib.hid (SlR.below jobR_fits H5.out b);replace X0:=keep_cell b X0;replace X1:=keep_cell b X1;replace X2:=keep_cell b X2;replace S0:=keep_cell b S0;replace S1:=keep_cell b S1;replace S2:=keep_cell b S2;replace S3:=keep_cell b S3;replace S4:=keep_cell b S4;replace S5:=keep_cell b S5;replace B:=Lib.hid (B.out.trans (b.mono B.out.size));clear b;go_wp2_with fail
    refine (l5Jobs_any x0 x1.asked x1.done true HC.out _ _ _ _ _ fp2 fq2 fq4 _ G2.out H2.out H4.out).mono ?_;rw [Q6.out];rintro e w6 ⟨rfl,b⟩;replace G2:=Lib.hid (SlR.below (slR_fits reqR_fits) G2.out b);replace H2:=Lib.hid (SlR.below intR_fits H2.out b);replace H3:=Lib.hid (SlR.below jobR_fits H3.out b);replace H4:=Lib.hid (SlR.below jobR_fits H4.out b);replace H5:=Lib.hid (SlR.below jobR_fits H5.out b);replace X0:=keep_cell b X0;replace X1:=keep_cell b X1;replace X2:=keep_cell b X2;replace S0:=keep_cell b S0;replace S1:=keep_cell b S1;replace S2:=keep_cell b S2;replace S3:=keep_cell b S3;replace S4:=keep_cell b S4;replace S5:=keep_cell b S5;replace B:=Lib.hid (B.out.trans (b.mono B.out.size));clear b;go_wp2;go_ret;exact ⟨ret_bool (show tlmOk x0 x1=false by rw [HT2.out,HTJ.out,Q5.out,Q6.out];simp).symm,B.out⟩
   cases q7:toldOk x0 x1.asked x1.told
   ·have Q5:=Lib.hid q5;have Q6:=Lib.hid q6;have Q7:=Lib.hid q7;clear q5 q6 q7;go_wp2_with fail
    refine (l5Jobs_any x0 x1.asked x1.wait false HC.out _ _ _ _ _ fp2 fq2 fq3 _ G2.out H2.out H3.out).mono ?_;rw [Q5.out];rintro e w5 ⟨rfl,b⟩;replace G2:=Lib.hid (SlR.below (slR_fits reqR_fits) G2.out b);replace H2:=Lib.hid (SlR.below intR_fits H2.out b);replace H3:=Lib.hid (SlR.below jobR_fits H3.out b);replace H4:=Lib.hid (SlR.below jobR_fits H4.out b);replace H5:=Lib.hid (SlR.below jobR_fits H5.out b);replace X0:=keep_cell b X0;replace X1:=keep_cell b X1;replace X2:=keep_cell b X2;replace S0:=keep_cell b S0;replace S1:=keep_cell b S1;replace S2:=keep_cell b S2;replace S3:=keep_cell b S3;replace S4:=keep_cell b S4;replace S5:=keep_cell b S5;replace B:=Lib.hid (B.out.trans (b.mono B.out.size));clear b;go_wp2_with fail
    refine (l5Jobs_any x0 x1.asked x1.done true HC.out _ _ _ _ _ fp2 fq2 fq4 _ G2.out H2.out H4.out).mono ?_;rw [Q6.out];rintro e w6 ⟨rfl,b⟩;replace G2:=Lib.hid (SlR.below (slR_fits reqR_fits) G2.out b);replace H2:=Lib.hid (SlR.below intR_fits H2.out b);replace H3:=Lib.hid (SlR.below jobR_fits H3.out b);replace H4:=Lib.hid (SlR.below jobR_fits H4.out b);replace H5:=Lib.hid (SlR.below jobR_fits H5.out b);replace X0:=keep_cell b X0;replace X1:=keep_cell b X1;replace X2:=keep_cell b X2;replace S0:=keep_cell b S0;replace S1:=keep_cell b S1;replace S2:=keep_cell b S2;replace S3:=keep_cell b S3;replace S4:=keep_cell b S4;replace S5:=keep_cell b S5;replace B:=Lib.hid (B.out.trans (b.mono B.out.size));clear b;go_wp2_with fail
    refine (l5Told_any x0 x1.asked x1.told HC.out _ _ _ _ _ _ _ _ _ fp2 fq2 fq5 _ G2.out H2.out H5.out).mono ?_;rw [Q7.out];rintro e w7 ⟨rfl,b⟩;replace G2:=Lib.hid (SlR.below (slR_fits reqR_fits) G2.out b);replace H2:=Lib.hid (SlR.below intR_fits H2.out b);replace H3:=Lib.hid (SlR.below jobR_fits H3.out b);replace H4:=Lib.hid (SlR.below jobR_fits H4.out b);replace H5:=Lib.hid (SlR.below jobR_fits H5.out b);replace X0:=keep_cell b X0;replace X1:=keep_cell b X1;replace X2:=keep_cell b X2;replace S0:=keep_cell b S0;replace S1:=keep_cell b S1;replace S2:=keep_cell b S2;replace S3:=keep_cell b S3;replace S4:=keep_cell b S4;replace S5:=keep_cell b S5;replace B:=Lib.hid (B.out.trans (b.mono B.out.size));clear b;go_wp2;go_ret;exact ⟨ret_bool (show tlmOk x0 x1=false by rw [HT2.out,HTJ.out,Q5.out,Q6.out,Q7.out];simp).symm,B.out⟩
   have hb3:n3<=36:=by rw [<- hn3.out];exact few_jobsOk HC.out q5
   have hb4:n4<=36:=by rw [<- hn4.out];exact few_jobsOk HC.out q6
   have hb5:n5<=36:=by rw [<- hn5.out];exact few_toldOk HC.out q7
   obtain ⟨y8,q8⟩:∃ y,(((n3:Int)+n4+n5) == mn)=y:=⟨_,rfl⟩;have t8:(((n3:Int)+n4+n5) != mn) = !y8:=by rw [<- q8];rfl
   have Q5:=Lib.hid q5;have Q6:=Lib.hid q6;have Q7:=Lib.hid q7;have Q8:=Lib.hid q8;clear q5 q6 q7 q8;cases y8
   ·skip
    go_wp2_with fail
    refine (l5Jobs_any x0 x1.asked x1.wait false HC.out _ _ _ _ _ fp2 fq2 fq3 _ G2.out H2.out H3.out).mono ?_;rw [Q5.out];rintro e w5 ⟨rfl,b⟩;replace G2:=Lib.hid (SlR.below (slR_fits reqR_fits) G2.out b);replace H2:=Lib.hid (SlR.below intR_fits H2.out b);replace H3:=Lib.hid (SlR.below jobR_fits H3.out b);replace H4:=Lib.hid (SlR.below jobR_fits H4.out b);replace H5:=Lib.hid (SlR.below jobR_fits H5.out b);replace X0:=keep_cell b X0;replace X1:=keep_cell b X1;replace X2:=keep_cell b X2;replace S0:=keep_cell b S0;replace S1:=keep_cell b S1;replace S2:=keep_cell b S2;replace S3:=keep_cell b S3;replace S4:=keep_cell b S4;replace S5:=keep_cell b S5;replace B:=Lib.hid (B.out.trans (b.mono B.out.size));clear b;go_wp2_with fail
    refine (l5Jobs_any x0 x1.asked x1.done true HC.out _ _ _ _ _ fp2 fq2 fq4 _ G2.out H2.out H4.out).mono ?_;rw [Q6.out];rintro e w6 ⟨rfl,b⟩;replace G2:=Lib.hid (SlR.below (slR_fits reqR_fits) G2.out b);replace H2:=Lib.hid (SlR.below intR_fits H2.out b);replace H3:=Lib.hid (SlR.below jobR_fits H3.out b);replace H4:=Lib.hid (SlR.below jobR_fits H4.out b);replace H5:=Lib.hid (SlR.below jobR_fits H5.out b);replace X0:=keep_cell b X0;replace X1:=keep_cell b X1;replace X2:=keep_cell b X2;replace S0:=keep_cell b S0;replace S1:=keep_cell b S1;replace S2:=keep_cell b S2;replace S3:=keep_cell b S3;replace S4:=keep_cell b S4;replace S5:=keep_cell b S5;replace B:=Lib.hid (B.out.trans (b.mono B.out.size));clear b;go_wp2_with fail
    refine (l5Told_any x0 x1.asked x1.told HC.out _ _ _ _ _ _ _ _ _ fp2 fq2 fq5 _ G2.out H2.out H5.out).mono ?_;rw [Q7.out];rintro e w7 ⟨rfl,b⟩;replace G2:=Lib.hid (SlR.below (slR_fits reqR_fits) G2.out b);replace H2:=Lib.hid (SlR.below intR_fits H2.out b);replace H3:=Lib.hid (SlR.below jobR_fits H3.out b);replace H4:=Lib.hid (SlR.below jobR_fits H4.out b);replace H5:=Lib.hid (SlR.below jobR_fits H5.out b);replace X0:=keep_cell b X0;replace X1:=keep_cell b X1;replace X2:=keep_cell b X2;replace S0:=keep_cell b S0;replace S1:=keep_cell b S1;replace S2:=keep_cell b S2;replace S3:=keep_cell b S3;replace S4:=keep_cell b S4;replace S5:=keep_cell b S5;replace B:=Lib.hid (B.out.trans (b.mono B.out.size));clear b;go_wp2;go_ret;exact ⟨ret_bool (show tlmOk x0 x1=false by rw [HT2.out,HTJ.out,Q5.out,Q6.out,Q7.out,Q8.out];simp).symm,B.out⟩
   have HT8:Hid (tlmOk x0 x1=((noneIn x1.told x1.wait && noneIn x1.told x1.done) && noneIn x1.done x1.wait)):=Lib.hid (by rw [HT2.out,HTJ.out,Q5.out,Q6.out,Q7.out,Q8.out];simp);go_wp2_with fail
   refine (l5Jobs_any x0 x1.asked x1.wait false HC.out _ _ _ _ _ fp2 fq2 fq3 _ G2.out H2.out H3.out).mono ?_;rw [Q5.out];rintro e w5 ⟨rfl,b⟩;replace G2:=Lib.hid (SlR.below (slR_fits reqR_fits) G2.out b);replace H2:=Lib.hid (SlR.below intR_fits H2.out b);replace H3:=Lib.hid (SlR.below jobR_fits H3.out b);replace H4:=Lib.hid (SlR.below jobR_fits H4.out b);replace H5:=Lib.hid (SlR.below jobR_fits H5.out b);replace X0:=keep_cell b X0;replace X1:=keep_cell b X1;replace X2:=keep_cell b X2;replace S0:=keep_cell b S0;replace S1:=keep_cell b S1;replace S2:=keep_cell b S2;replace S3:=keep_cell b S3;replace S4:=keep_cell b S4;replace S5:=keep_cell b S5;replace B:=Lib.hid (B.out.trans (b.mono B.out.size));clear b;go_wp2_with fail
   refine (l5Jobs_any x0 x1.asked x1.done true HC.out _ _ _ _ _ fp2 fq2 fq4 _ G2.out H2.out H4.out).mono ?_;rw [Q6.out];rintro e w6 ⟨rfl,b⟩;replace G2:=Lib.hid (SlR.below (slR_fits reqR_fits) G2.out b);replace H2:=Lib.hid (SlR.below intR_fits H2.out b);replace H3:=Lib.hid (SlR.below jobR_fits H3.out b);replace H4:=Lib.hid (SlR.below jobR_fits H4.out b);replace H5:=Lib.hid (SlR.below jobR_fits H5.out b);replace X0:=keep_cell b X0;replace X1:=keep_cell b X1;replace X2:=keep_cell b X2;replace S0:=keep_cell b S0;replace S1:=keep_cell b S1;replace S2:=keep_cell b S2;replace S3:=keep_cell b S3;replace S4:=keep_cell b S4;replace S5:=keep_cell b S5;replace B:=Lib.hid (B.out.trans (b.mono B.out.size));clear b;go_wp2_with fail
   refine (l5Told_any x0 x1.asked x1.told HC.out _ _ _ _ _ _ _ _ _ fp2 fq2 fq5 _ G2.out H2.out H5.out).mono ?_;rw [Q7.out];rintro e w7 ⟨rfl,b⟩;replace G2:=Lib.hid (SlR.below (slR_fits reqR_fits) G2.out b);replace H2:=Lib.hid (SlR.below intR_fits H2.out b);replace H3:=Lib.hid (SlR.below jobR_fits H3.out b);replace H4:=Lib.hid (SlR.below jobR_fits H4.out b);replace H5:=Lib.hid (SlR.below jobR_fits H5.out b);replace X0:=keep_cell b X0;replace X1:=keep_cell b X1;replace X2:=keep_cell b X2;replace S0:=keep_cell b S0;replace S1:=keep_cell b S1;replace S2:=keep_cell b S2;replace S3:=keep_cell b S3;replace S4:=keep_cell b S4;replace S5:=keep_cell b S5;replace B:=Lib.hid (B.out.trans (b.mono B.out.size));clear b;go_wp2_with fail
   have T3:=Lib.hid S3;have T4:=Lib.hid S4;have T5:=Lib.hid S5;clear X0 X1 X2 S0 S1 S2 S3 S4 S5 G2 H2
   go_loopw [7] (fun i wr=>∃ k:Nat,k<=n5∧i = .int .i64 k∧(∀ j (h:j<x1.told.length),j<k->x1.wait.any (isJob x1.told[j].who x1.told[j].n)=false∧x1.done.any (isJob x1.told[j].who x1.told[j].n)=false)∧Below w7.heap.size w7 wr) (fun i _=>n5 - (intOf i).toNat)
   case atStart=>exact ⟨0,Nat.zero_le _,rfl,fun j _ h=>absurd h (Nat.not_lt_zero j),Below.refl _ _⟩
   case round =>
    obtain ⟨k,hk,rfl,hg,hb⟩:=hrel;have HG:=Lib.hid hg;clear hg;by_cases hlt:k<n5
    ·skip
     have hL:k<x1.told.length:=by rw [hn5.out];exact hlt
     obtain ⟨lb,lo,jv,df,rfl,-,-,-,⟨p0,p1,-,-,-⟩,-⟩:=jobs_at (SlR.below jobR_fits H5.out hb) hL;obtain ⟨jw,hjw⟩:∃ z,x1.told[k].who=z:=⟨_,rfl⟩;obtain ⟨jn,hjn⟩:∃ z,x1.told[k].n=z:=⟨_,rfl⟩;rw [hjw] at p0;rw [hjn] at p1;have HJw:=Lib.hid hjw;have HJn:=Lib.hid hjn;have S3:=keep_cell hb T3.out;have S4:=keep_cell hb T4.out;have S5:=keep_cell hb T5.out;have GW:=Lib.hid (SlR.below jobR_fits H3.out hb);have GD:=Lib.hid (SlR.below jobR_fits H4.out hb);have HBr:=Lib.hid hb;have BW:=Lib.hid (B.out.trans (hb.mono B.out.size));have hkn:(k:Int)<(n5:Int):=by omega
     obtain ⟨z1,hz1⟩:∃ z,jobAt x1.wait jw jn=z:=⟨_,rfl⟩;obtain ⟨y1,hy1⟩:∃ y,decide (0<=z1)=y:=⟨_,rfl⟩;have HY1:Hid (x1.wait.any (isJob x1.told[k].who x1.told[k].n)=y1):=Lib.hid (by rw [hjw,hjn,<- hy1,<- hz1];exact (idxOf_any _ _).symm);have Hz1:=Lib.hid hz1;clear hb hjw hjn hz1;cases y1
     ·obtain ⟨z2,hz2⟩:∃ z,jobAt x1.done jw jn=z:=⟨_,rfl⟩;obtain ⟨y2,hy2⟩:∃ y,decide (0<=z2)=y:=⟨_,rfl⟩;have HY2:Hid (x1.done.any (isJob x1.told[k].who x1.told[k].n)=y2):=Lib.hid (by rw [HJw.out,HJn.out,<- hy2,<- hz2];exact (idxOf_any _ _).symm);have Hz2:=Lib.hid hz2;clear hz2;cases y2
      ·go_upto_region 15 with fail
       have hst:∀ F,F∈[FEq (.pointer (some ⟨w.heap.size+1,3,none⟩)),FEq (.slice a3 n3 c3),FEq (.pointer (some ⟨w.heap.size+1,5,none⟩)),FEq (.slice (some ⟨lb,lo,none⟩) n5 c5),FEq (.int .i64 (k:Int)),FEq (.pointer (some ⟨lb,lo+k*5,none⟩)),FEq (.pointer (some ⟨lb,lo+k*5,none⟩)),FEq (.int .i64 jw),FEq (.pointer (some ⟨w.heap.size+1,5,none⟩)),FEq (.slice (some ⟨lb,lo,none⟩) n5 c5),FEq (.int .i64 (k:Int)),FEq (.pointer (some ⟨lb,lo+k*5,none⟩)),FEq (.pointer (some ⟨lb,lo+k*5+1,none⟩)),FEq (.int .i64 jn),FEq (.int .i64 z1),FEq (.bool false),FEq (.bool false),FEq (.pointer (some ⟨w.heap.size+1,4,none⟩)),FEq (.slice a4 n4 c4),FEq (.pointer (some ⟨w.heap.size+1,5,none⟩)),FEq (.slice (some ⟨lb,lo,none⟩) n5 c5),FEq (.int .i64 (k:Int)),FEq (.pointer (some ⟨lb,lo+k*5,none⟩)),FEq (.pointer (some ⟨lb,lo+k*5,none⟩)),FEq (.int .i64 jw),FEq (.pointer (some ⟨w.heap.size+1,5,none⟩)),FEq (.slice (some ⟨lb,lo,none⟩) n5 c5),FEq (.int .i64 (k:Int)),FEq (.pointer (some ⟨lb,lo+k*5,none⟩)),FEq (.pointer (some ⟨lb,lo+k*5+1,none⟩)),FEq (.int .i64 jn),FEq (.int .i64 z2)]->Stable [] F:=by repeat first|exact st_nil|refine st_eq ?_
       refine wp_tailH hst tbTlmOk15 (fun _ w'=>Below wr.heap.size wr w') 149 34 32 [some 92,some 93,some 94,some 95,some 96,some 97,some 98,some 99,some 100,some 101,some 102,some 103,some 104,some 105,some 106,some 107,some 108,some 109,some 110,some 111,some 112,some 113,some 114,some 115,some 116,some 117,some 118,some 119,some 120,some 121,some 122,some 123] _ [(16,false)] ?h0 ?hop ?hend
       case h0=>exact (Below.refl _ _).drew
       case hop =>
        refine ⟨⟨⟨⟨⟨⟨⟨⟨⟨⟨⟨⟨⟨⟨⟨⟨⟨⟨⟨⟨⟨⟨⟨⟨⟨⟨⟨⟨⟨⟨⟨⟨trivial,?_⟩,?_⟩,?_⟩,?_⟩,?_⟩,?_⟩,?_⟩,?_⟩,?_⟩,?_⟩,?_⟩,?_⟩,?_⟩,?_⟩,?_⟩,?_⟩,?_⟩,?_⟩,?_⟩,?_⟩,?_⟩,?_⟩,?_⟩,?_⟩,?_⟩,?_⟩,?_⟩,?_⟩,?_⟩,?_⟩,?_⟩,?_⟩
        ·exact Owes.k0 149 [(3,.pointer (some ⟨w.heap.size+1,0,none⟩))]
        ·exact Owes.c1 149 92 0 S3
        ·exact Owes.k0 149 [(3,.pointer (some ⟨w.heap.size+1,0,none⟩))]
        ·exact Owes.c1 149 94 2 S5
        ·exact Owes.k0 149 [(7,.int .i64 (k:Int))]
        ·exact Owes.k2 149 95 3 96 4
        ·exact Owes.k1 149 97 5
        ·exact Owes.c1 149 98 6 p0
        ·exact Owes.k0 149 [(3,.pointer (some ⟨w.heap.size+1,0,none⟩))]
        ·exact Owes.c1 149 100 8 S5
        ·exact Owes.k0 149 [(7,.int .i64 (k:Int))]
        ·exact Owes.k2 149 101 9 102 10
        ·exact Owes.k1 149 103 11
        ·exact Owes.c1 149 104 12 p1
        ·refine Owes.mk _ rfl rfl (fun _ _ h=>by cases h) fun u m w' hm hI hR=>⟨⟨(frm 149 [(93,u 1),(99,u 7),(105,u 13)]).toArray,[]⟩,rfl,fun d hd=>by cases hd;exact frm_lt (by decide),?_⟩;dsimp only [frm,List.foldl,List.replicate,List.set];have e1:u 1=_:=hR 1 (by decide);have e7:u 7=_:=hR 7 (by decide);have e13:u 13=_:=hR 13 (by decide);rw [e1,e7,e13];clear e1 e7 e13;have GT6:=Lib.hid (SlR.below jobR_fits GW.out hI);have HI:=Lib.hid hI;clear hI hR hst;go_wp2_with fail
         refine (l5At_any _ x1.wait fq3 jw jn _ GT6.out).mono ?_;rw [Hz1.out];rintro e w5 ⟨rfl,rfl⟩;go_wp2;exact ⟨rfl,_,rfl,rfl,HI.out,fun _ _ h=>h⟩
        ·exact Owes.k1 149 106 14
        ·exact Owes.k1 149 107 15
        ·exact Owes.k0G 149 [(3,.pointer (some ⟨w.heap.size+1,0,none⟩))]
        ·exact Owes.c1G 149 109 17 S4
        ·exact Owes.k0G 149 [(3,.pointer (some ⟨w.heap.size+1,0,none⟩))]
        ·exact Owes.c1G 149 111 19 S5
        ·exact Owes.k0G 149 [(7,.int .i64 (k:Int))]
        ·exact Owes.k2G 149 112 20 113 21
        ·exact Owes.k1G 149 114 22
        ·exact Owes.c1G 149 115 23 p0
        ·exact Owes.k0G 149 [(3,.pointer (some ⟨w.heap.size+1,0,none⟩))]
        ·exact Owes.c1G 149 117 25 S5
        ·exact Owes.k0G 149 [(7,.int .i64 (k:Int))]
        ·exact Owes.k2G 149 118 26 119 27
        ·exact Owes.k1G 149 120 28
        ·exact Owes.c1G 149 121 29 p1
        ·refine Owes.mkG _ _ rfl rfl (fun _ _ h=>by cases h) fun u m w' hm hI hR=>⟨⟨(frm 149 [(110,u 18),(116,u 24),(122,u 30)]).toArray,[]⟩,rfl,fun d hd=>by cases hd;exact frm_lt (by decide),?_⟩;dsimp only [frm,List.foldl,List.replicate,List.set];have e18:u 18=_:=hR 18 (by decide);have e24:u 24=_:=hR 24 (by decide);have e30:u 30=_:=hR 30 (by decide);rw [e18,e24,e30];clear e18 e24 e30;have GT6:=Lib.hid (SlR.below jobR_fits GD.out hI);have HI:=Lib.hid hI;clear hI hR hst;go_wp2_with fail
         refine (l5At_any _ x1.done fq4 jw jn _ GT6.out).mono ?_;rw [Hz2.out];rintro e w5 ⟨rfl,rfl⟩;go_wp2;exact ⟨rfl,_,rfl,rfl,HI.out,fun _ _ h=>h⟩
       case hend =>
        intro u w' hI hR;simp only [setAll,List.set_cons_zero,List.set_cons_succ];have e16:u 16=_:=hR 16 (by decide);have e31:u 31=_:=hR 31 (by decide);rw [e16,e31];clear e16 e31;have BB:=Lib.hid (BW.out.trans (hI.mono BW.out.size));have BR:=Lib.hid (HBr.out.trans (hI.mono HBr.out.size));clear hR hst hI p0 p1;go_wp2
        go_roundw
        case rel => exact ⟨k + 1, by omega, by go_num, (fun j h hj => by
            by_cases e : j = k
            ·subst e;exact ⟨HY1.out,HY2.out⟩
            ·exact HG.out j h (by omega)),BR.out⟩
        case measure=>simp [intOf];omega
      ·go_upto_region 15 with fail
       have hst:∀ F,F∈[FEq (.pointer (some ⟨w.heap.size+1,3,none⟩)),FEq (.slice a3 n3 c3),FEq (.pointer (some ⟨w.heap.size+1,5,none⟩)),FEq (.slice (some ⟨lb,lo,none⟩) n5 c5),FEq (.int .i64 (k:Int)),FEq (.pointer (some ⟨lb,lo+k*5,none⟩)),FEq (.pointer (some ⟨lb,lo+k*5,none⟩)),FEq (.int .i64 jw),FEq (.pointer (some ⟨w.heap.size+1,5,none⟩)),FEq (.slice (some ⟨lb,lo,none⟩) n5 c5),FEq (.int .i64 (k:Int)),FEq (.pointer (some ⟨lb,lo+k*5,none⟩)),FEq (.pointer (some ⟨lb,lo+k*5+1,none⟩)),FEq (.int .i64 jn),FEq (.int .i64 z1),FEq (.bool false),FEq (.bool false),FEq (.pointer (some ⟨w.heap.size+1,4,none⟩)),FEq (.slice a4 n4 c4),FEq (.pointer (some ⟨w.heap.size+1,5,none⟩)),FEq (.slice (some ⟨lb,lo,none⟩) n5 c5),FEq (.int .i64 (k:Int)),FEq (.pointer (some ⟨lb,lo+k*5,none⟩)),FEq (.pointer (some ⟨lb,lo+k*5,none⟩)),FEq (.int .i64 jw),FEq (.pointer (some ⟨w.heap.size+1,5,none⟩)),FEq (.slice (some ⟨lb,lo,none⟩) n5 c5),FEq (.int .i64 (k:Int)),FEq (.pointer (some ⟨lb,lo+k*5,none⟩)),FEq (.pointer (some ⟨lb,lo+k*5+1,none⟩)),FEq (.int .i64 jn),FEq (.int .i64 z2)]->Stable [] F:=by repeat first|exact st_nil|refine st_eq ?_
       refine wp_tailH hst tbTlmOk15 (fun _ w'=>Below wr.heap.size wr w') 149 34 32 [some 92,some 93,some 94,some 95,some 96,some 97,some 98,some 99,some 100,some 101,some 102,some 103,some 104,some 105,some 106,some 107,some 108,some 109,some 110,some 111,some 112,some 113,some 114,some 115,some 116,some 117,some 118,some 119,some 120,some 121,some 122,some 123] _ [(16,false)] ?h0 ?hop ?hend
       case h0=>exact (Below.refl _ _).drew
       case hop =>
        refine ⟨⟨⟨⟨⟨⟨⟨⟨⟨⟨⟨⟨⟨⟨⟨⟨⟨⟨⟨⟨⟨⟨⟨⟨⟨⟨⟨⟨⟨⟨⟨⟨trivial,?_⟩,?_⟩,?_⟩,?_⟩,?_⟩,?_⟩,?_⟩,?_⟩,?_⟩,?_⟩,?_⟩,?_⟩,?_⟩,?_⟩,?_⟩,?_⟩,?_⟩,?_⟩,?_⟩,?_⟩,?_⟩,?_⟩,?_⟩,?_⟩,?_⟩,?_⟩,?_⟩,?_⟩,?_⟩,?_⟩,?_⟩,?_⟩
        ·exact Owes.k0 149 [(3,.pointer (some ⟨w.heap.size+1,0,none⟩))]
        ·exact Owes.c1 149 92 0 S3
        ·exact Owes.k0 149 [(3,.pointer (some ⟨w.heap.size+1,0,none⟩))]
        ·exact Owes.c1 149 94 2 S5
        ·exact Owes.k0 149 [(7,.int .i64 (k:Int))]
        ·exact Owes.k2 149 95 3 96 4
        ·exact Owes.k1 149 97 5
        ·exact Owes.c1 149 98 6 p0
        ·exact Owes.k0 149 [(3,.pointer (some ⟨w.heap.size+1,0,none⟩))]
        ·exact Owes.c1 149 100 8 S5
        ·exact Owes.k0 149 [(7,.int .i64 (k:Int))]
        ·exact Owes.k2 149 101 9 102 10
        ·exact Owes.k1 149 103 11
        ·exact Owes.c1 149 104 12 p1
        ·refine Owes.mk _ rfl rfl (fun _ _ h=>by cases h) fun u m w' hm hI hR=>⟨⟨(frm 149 [(93,u 1),(99,u 7),(105,u 13)]).toArray,[]⟩,rfl,fun d hd=>by cases hd;exact frm_lt (by decide),?_⟩;dsimp only [frm,List.foldl,List.replicate,List.set];have e1:u 1=_:=hR 1 (by decide);have e7:u 7=_:=hR 7 (by decide);have e13:u 13=_:=hR 13 (by decide);rw [e1,e7,e13];clear e1 e7 e13;have GT6:=Lib.hid (SlR.below jobR_fits GW.out hI);have HI:=Lib.hid hI;clear hI hR hst;go_wp2_with fail
         refine (l5At_any _ x1.wait fq3 jw jn _ GT6.out).mono ?_;rw [Hz1.out];rintro e w5 ⟨rfl,rfl⟩;go_wp2;exact ⟨rfl,_,rfl,rfl,HI.out,fun _ _ h=>h⟩
        ·exact Owes.k1 149 106 14
        ·exact Owes.k1 149 107 15
        ·exact Owes.k0G 149 [(3,.pointer (some ⟨w.heap.size+1,0,none⟩))]
        ·exact Owes.c1G 149 109 17 S4
        ·exact Owes.k0G 149 [(3,.pointer (some ⟨w.heap.size+1,0,none⟩))]
        ·exact Owes.c1G 149 111 19 S5
        ·exact Owes.k0G 149 [(7,.int .i64 (k:Int))]
        ·exact Owes.k2G 149 112 20 113 21
        ·exact Owes.k1G 149 114 22
        ·exact Owes.c1G 149 115 23 p0
        ·exact Owes.k0G 149 [(3,.pointer (some ⟨w.heap.size+1,0,none⟩))]
        ·exact Owes.c1G 149 117 25 S5
        ·exact Owes.k0G 149 [(7,.int .i64 (k:Int))]
        ·exact Owes.k2G 149 118 26 119 27
        ·exact Owes.k1G 149 120 28
        ·exact Owes.c1G 149 121 29 p1
        ·refine Owes.mkG _ _ rfl rfl (fun _ _ h=>by cases h) fun u m w' hm hI hR=>⟨⟨(frm 149 [(110,u 18),(116,u 24),(122,u 30)]).toArray,[]⟩,rfl,fun d hd=>by cases hd;exact frm_lt (by decide),?_⟩;dsimp only [frm,List.foldl,List.replicate,List.set];have e18:u 18=_:=hR 18 (by decide);have e24:u 24=_:=hR 24 (by decide);have e30:u 30=_:=hR 30 (by decide);rw [e18,e24,e30];clear e18 e24 e30;have GT6:=Lib.hid (SlR.below jobR_fits GD.out hI);have HI:=Lib.hid hI;clear hI hR hst;go_wp2_with fail
         refine (l5At_any _ x1.done fq4 jw jn _ GT6.out).mono ?_;rw [Hz2.out];rintro e w5 ⟨rfl,rfl⟩;go_wp2;exact ⟨rfl,_,rfl,rfl,HI.out,fun _ _ h=>h⟩
       case hend =>
        intro u w' hI hR;simp only [setAll,List.set_cons_zero,List.set_cons_succ];have e16:u 16=_:=hR 16 (by decide);have e31:u 31=_:=hR 31 (by decide);rw [e16,e31];clear e16 e31;have BB:=Lib.hid (BW.out.trans (hI.mono BW.out.size));clear hR hst hI p0 p1;go_wp2;go_ret;exact ⟨ret_bool (show tlmOk x0 x1=false by rw [HT8.out,noneIn_no hL HY2.out];simp).symm,BB.out⟩
     ·go_upto_region 15 with fail
      have hst:∀ F,F∈[FEq (.pointer (some ⟨w.heap.size+1,3,none⟩)),FEq (.slice a3 n3 c3),FEq (.pointer (some ⟨w.heap.size+1,5,none⟩)),FEq (.slice (some ⟨lb,lo,none⟩) n5 c5),FEq (.int .i64 (k:Int)),FEq (.pointer (some ⟨lb,lo+k*5,none⟩)),FEq (.pointer (some ⟨lb,lo+k*5,none⟩)),FEq (.int .i64 jw),FEq (.pointer (some ⟨w.heap.size+1,5,none⟩)),FEq (.slice (some ⟨lb,lo,none⟩) n5 c5),FEq (.int .i64 (k:Int)),FEq (.pointer (some ⟨lb,lo+k*5,none⟩)),FEq (.pointer (some ⟨lb,lo+k*5+1,none⟩)),FEq (.int .i64 jn),FEq (.int .i64 z1),FEq (.bool true),FEq (.bool true),FEq undef,FEq undef,FEq undef,FEq undef,FEq undef,FEq undef,FEq undef,FEq undef,FEq undef,FEq undef,FEq undef,FEq undef,FEq undef,FEq undef,FEq undef,FEq undef]->Stable [] F:=by repeat first|exact st_nil|refine st_eq ?_
      refine wp_skipH hst tbTlmOk15 (fun _ w'=>Below wr.heap.size wr w') 149 34 33 [some 92,some 93,some 94,some 95,some 96,some 97,some 98,some 99,some 100,some 101,some 102,some 103,some 104,some 105,some 106,some 107,some 108,some 109,some 110,some 111,some 112,some 113,some 114,some 115,some 116,some 117,some 118,some 119,some 120,some 121,some 122,some 123,some 124] _ [17,18,19,20,21,22,23,24,25,26,27,28,29,30,31,32] [(16,true)] ?h0 ?hop ?hend
      case h0=>exact (Below.refl _ _).drew
      case hop =>
       refine ⟨⟨⟨⟨⟨⟨⟨⟨⟨⟨⟨⟨⟨⟨⟨⟨⟨⟨⟨⟨⟨⟨⟨⟨⟨⟨⟨⟨⟨⟨⟨⟨⟨trivial,?_⟩,?_⟩,?_⟩,?_⟩,?_⟩,?_⟩,?_⟩,?_⟩,?_⟩,?_⟩,?_⟩,?_⟩,?_⟩,?_⟩,?_⟩,?_⟩,?_⟩,?_⟩,?_⟩,?_⟩,?_⟩,?_⟩,?_⟩,?_⟩,?_⟩,?_⟩,?_⟩,?_⟩,?_⟩,?_⟩,?_⟩,?_⟩,?_⟩
       all_goals first|exact .inl (by decide)|skip
       ·exact .inr (Owes.k0 149 [(3,.pointer (some ⟨w.heap.size+1,0,none⟩))])
       ·exact .inr (Owes.c1 149 92 0 S3)
       ·exact .inr (Owes.k0 149 [(3,.pointer (some ⟨w.heap.size+1,0,none⟩))])
       ·exact .inr (Owes.c1 149 94 2 S5)
       ·exact .inr (Owes.k0 149 [(7,.int .i64 (k:Int))])
       ·exact .inr (Owes.k2 149 95 3 96 4)
       ·exact .inr (Owes.k1 149 97 5)
       ·exact .inr (Owes.c1 149 98 6 p0)
       ·exact .inr (Owes.k0 149 [(3,.pointer (some ⟨w.heap.size+1,0,none⟩))])
       ·exact .inr (Owes.c1 149 100 8 S5)
       ·exact .inr (Owes.k0 149 [(7,.int .i64 (k:Int))])
       ·exact .inr (Owes.k2 149 101 9 102 10)
       ·exact .inr (Owes.k1 149 103 11)
       ·exact .inr (Owes.c1 149 104 12 p1)
       ·refine .inr (Owes.mk _ rfl rfl (fun _ _ h=>by cases h) fun u m w' hm hI hR=>⟨⟨(frm 149 [(93,u 1),(99,u 7),(105,u 13)]).toArray,[]⟩,rfl,fun d hd=>by cases hd;exact frm_lt (by decide),?_⟩);dsimp only [frm,List.foldl,List.replicate,List.set];have e1:u 1=_:=hR 1 (by decide);have e7:u 7=_:=hR 7 (by decide);have e13:u 13=_:=hR 13 (by decide);rw [e1,e7,e13];clear e1 e7 e13;have GT6:=Lib.hid (SlR.below jobR_fits GW.out hI);have HI:=Lib.hid hI;clear hI hR hst;go_wp2_with fail
        refine (l5At_any _ x1.wait fq3 jw jn _ GT6.out).mono ?_;rw [Hz1.out];rintro e w5 ⟨rfl,rfl⟩;go_wp2;exact ⟨rfl,_,rfl,rfl,HI.out,fun _ _ h=>h⟩
       ·exact .inr (Owes.k1 149 106 14)
       ·exact .inr (Owes.k1 149 107 15)
      case hend =>
       intro u w' hI hR;simp only [setAll,List.set_cons_zero,List.set_cons_succ];have e16:u 16=_:=hR 16 (by decide);rw [e16];clear e16;have BB:=Lib.hid (BW.out.trans (hI.mono BW.out.size));clear hR hst hI p0 p1;go_wp2;go_ret;exact ⟨ret_bool (show tlmOk x0 x1=false by rw [HT8.out,noneIn_no hL HY1.out];simp).symm,BB.out⟩
    ·obtain rfl:k=n5:=by omega
     have HN1:Hid (noneIn x1.told x1.wait=true):=Lib.hid (noneIn_yes (fun j h=>(HG.out j h (by rw [hn5.out] at h;exact h)).1));have HN2:Hid (noneIn x1.told x1.done=true):=Lib.hid (noneIn_yes (fun j h=>(HG.out j h (by rw [hn5.out] at h;exact h)).2));have S5:=keep_cell hb T5.out;replace T3:=Lib.hid (keep_cell hb T3.out);replace T4:=Lib.hid (keep_cell hb T4.out);replace T5:=Lib.hid (keep_cell hb T5.out);replace H3:=Lib.hid (SlR.below jobR_fits H3.out hb);replace H4:=Lib.hid (SlR.below jobR_fits H4.out hb);replace B:=Lib.hid (B.out.trans (hb.mono B.out.size));clear HG hb;obtain ⟨w8,rfl⟩:∃ z,z=wr:=⟨_,rfl⟩;go_wp2_with fail
     clear S5
     go_loopw [8] (fun i wr=>∃ k:Nat,k<=n4∧i = .int .i64 k∧(∀ j (h:j<x1.done.length),j<k->x1.wait.any (isJob x1.done[j].who x1.done[j].n)=false)∧Below w8.heap.size w8 wr) (fun i _=>n4 - (intOf i).toNat)
     case atStart=>exact ⟨0,Nat.zero_le _,rfl,fun j _ h=>absurd h (Nat.not_lt_zero j),Below.refl _ _⟩
     case round =>
      obtain ⟨k,hk,rfl,hg,hb⟩:=hrel;have HG:=Lib.hid hg;clear hg;by_cases hlt:k<n4
      ·skip
       have hL:k<x1.done.length:=by rw [hn4.out];exact hlt
       obtain ⟨lb,lo,jv,df,rfl,-,-,-,⟨p0,p1,-,-,-⟩,-⟩:=jobs_at (SlR.below jobR_fits H4.out hb) hL;obtain ⟨jw,hjw⟩:∃ z,x1.done[k].who=z:=⟨_,rfl⟩;obtain ⟨jn,hjn⟩:∃ z,x1.done[k].n=z:=⟨_,rfl⟩;rw [hjw] at p0;rw [hjn] at p1;have HJw:=Lib.hid hjw;have HJn:=Lib.hid hjn;have S3:=keep_cell hb T3.out;have S4:=keep_cell hb T4.out;have S5:=keep_cell hb T5.out;have GW:=Lib.hid (SlR.below jobR_fits H3.out hb);have GD:=Lib.hid (SlR.below jobR_fits H4.out hb);have HBr:=Lib.hid hb;have BW:=Lib.hid (B.out.trans (hb.mono B.out.size));have hkn:(k:Int)<(n4:Int):=by omega
       obtain ⟨z1,hz1⟩:∃ z,jobAt x1.wait jw jn=z:=⟨_,rfl⟩;obtain ⟨y1,hy1⟩:∃ y,decide (0<=z1)=y:=⟨_,rfl⟩;have HY1:Hid (x1.wait.any (isJob x1.done[k].who x1.done[k].n)=y1):=Lib.hid (by rw [hjw,hjn,<- hy1,<- hz1];exact (idxOf_any _ _).symm);have Hz1:=Lib.hid hz1;clear hb hjw hjn hz1;cases y1
       ·go_upto_region 20 with fail
        have hst:∀ F,F∈[FEq (.pointer (some ⟨w.heap.size+1,3,none⟩)),FEq (.slice a3 n3 c3),FEq (.pointer (some ⟨w.heap.size+1,4,none⟩)),FEq (.slice (some ⟨lb,lo,none⟩) n4 c4),FEq (.int .i64 (k:Int)),FEq (.pointer (some ⟨lb,lo+k*5,none⟩)),FEq (.pointer (some ⟨lb,lo+k*5,none⟩)),FEq (.int .i64 jw),FEq (.pointer (some ⟨w.heap.size+1,4,none⟩)),FEq (.slice (some ⟨lb,lo,none⟩) n4 c4),FEq (.int .i64 (k:Int)),FEq (.pointer (some ⟨lb,lo+k*5,none⟩)),FEq (.pointer (some ⟨lb,lo+k*5+1,none⟩)),FEq (.int .i64 jn),FEq (.int .i64 z1)]->Stable [] F:=by repeat first|exact st_nil|refine st_eq ?_
        refine wp_tailH hst tbTlmOk20 (fun _ w'=>Below wr.heap.size wr w') 149 16 15 [some 133,some 134,some 135,some 136,some 137,some 138,some 139,some 140,some 141,some 142,some 143,some 144,some 145,some 146,some 147] _ [] ?h0 ?hop ?hend
        case h0=>exact (Below.refl _ _).drew
        case hop =>
         refine ⟨⟨⟨⟨⟨⟨⟨⟨⟨⟨⟨⟨⟨⟨⟨trivial,?_⟩,?_⟩,?_⟩,?_⟩,?_⟩,?_⟩,?_⟩,?_⟩,?_⟩,?_⟩,?_⟩,?_⟩,?_⟩,?_⟩,?_⟩
         ·exact Owes.k0 149 [(3,.pointer (some ⟨w.heap.size+1,0,none⟩))]
         ·exact Owes.c1 149 133 0 S3
         ·exact Owes.k0 149 [(3,.pointer (some ⟨w.heap.size+1,0,none⟩))]
         ·exact Owes.c1 149 135 2 S4
         ·exact Owes.k0 149 [(8,.int .i64 (k:Int))]
         ·exact Owes.k2 149 136 3 137 4
         ·exact Owes.k1 149 138 5
         ·exact Owes.c1 149 139 6 p0
         ·exact Owes.k0 149 [(3,.pointer (some ⟨w.heap.size+1,0,none⟩))]
         ·exact Owes.c1 149 141 8 S4
         ·exact Owes.k0 149 [(8,.int .i64 (k:Int))]
         ·exact Owes.k2 149 142 9 143 10
         ·exact Owes.k1 149 144 11
         ·exact Owes.c1 149 145 12 p1
         ·refine Owes.mk _ rfl rfl (fun _ _ h=>by cases h) fun u m w' hm hI hR=>⟨⟨(frm 149 [(134,u 1),(140,u 7),(146,u 13)]).toArray,[]⟩,rfl,fun d hd=>by cases hd;exact frm_lt (by decide),?_⟩;dsimp only [frm,List.foldl,List.replicate,List.set];have e1:u 1=_:=hR 1 (by decide);have e7:u 7=_:=hR 7 (by decide);have e13:u 13=_:=hR 13 (by decide);rw [e1,e7,e13];clear e1 e7 e13;have GT6:=Lib.hid (SlR.below jobR_fits GW.out hI);have HI:=Lib.hid hI;clear hI hR hst;go_wp2_with fail
          refine (l5At_any _ x1.wait fq3 jw jn _ GT6.out).mono ?_;rw [Hz1.out];rintro e w5 ⟨rfl,rfl⟩;go_wp2;exact ⟨rfl,_,rfl,rfl,HI.out,fun _ _ h=>h⟩
        case hend =>
         intro u w' hI hR;simp only [setAll,List.set_cons_zero,List.set_cons_succ];have e14:u 14=_:=hR 14 (by decide);rw [e14];clear e14;have BB:=Lib.hid (BW.out.trans (hI.mono BW.out.size));have BR:=Lib.hid (HBr.out.trans (hI.mono HBr.out.size));clear hR hst hI p0 p1;go_wp2
         go_roundw
         case rel => exact ⟨k + 1, by omega, by go_num, (fun j h hj => by
             by_cases e : j = k
             ·subst e;exact HY1.out
             ·exact HG.out j h (by omega)),BR.out⟩
         case measure=>simp [intOf];omega
       ·go_upto_region 20 with fail
        have hst:∀ F,F∈[FEq (.pointer (some ⟨w.heap.size+1,3,none⟩)),FEq (.slice a3 n3 c3),FEq (.pointer (some ⟨w.heap.size+1,4,none⟩)),FEq (.slice (some ⟨lb,lo,none⟩) n4 c4),FEq (.int .i64 (k:Int)),FEq (.pointer (some ⟨lb,lo+k*5,none⟩)),FEq (.pointer (some ⟨lb,lo+k*5,none⟩)),FEq (.int .i64 jw),FEq (.pointer (some ⟨w.heap.size+1,4,none⟩)),FEq (.slice (some ⟨lb,lo,none⟩) n4 c4),FEq (.int .i64 (k:Int)),FEq (.pointer (some ⟨lb,lo+k*5,none⟩)),FEq (.pointer (some ⟨lb,lo+k*5+1,none⟩)),FEq (.int .i64 jn),FEq (.int .i64 z1)]->Stable [] F:=by repeat first|exact st_nil|refine st_eq ?_
        refine wp_tailH hst tbTlmOk20 (fun _ w'=>Below wr.heap.size wr w') 149 16 15 [some 133,some 134,some 135,some 136,some 137,some 138,some 139,some 140,some 141,some 142,some 143,some 144,some 145,some 146,some 147] _ [] ?h0 ?hop ?hend
        case h0=>exact (Below.refl _ _).drew
        case hop =>
         refine ⟨⟨⟨⟨⟨⟨⟨⟨⟨⟨⟨⟨⟨⟨⟨trivial,?_⟩,?_⟩,?_⟩,?_⟩,?_⟩,?_⟩,?_⟩,?_⟩,?_⟩,?_⟩,?_⟩,?_⟩,?_⟩,?_⟩,?_⟩
         ·exact Owes.k0 149 [(3,.pointer (some ⟨w.heap.size+1,0,none⟩))]
         ·exact Owes.c1 149 133 0 S3
         ·exact Owes.k0 149 [(3,.pointer (some ⟨w.heap.size+1,0,none⟩))]
         ·exact Owes.c1 149 135 2 S4
         ·exact Owes.k0 149 [(8,.int .i64 (k:Int))]
         ·exact Owes.k2 149 136 3 137 4
         ·exact Owes.k1 149 138 5
         ·exact Owes.c1 149 139 6 p0
         ·exact Owes.k0 149 [(3,.pointer (some ⟨w.heap.size+1,0,none⟩))]
         ·exact Owes.c1 149 141 8 S4
         ·exact Owes.k0 149 [(8,.int .i64 (k:Int))]
         ·exact Owes.k2 149 142 9 143 10
         ·exact Owes.k1 149 144 11
         ·exact Owes.c1 149 145 12 p1
         ·refine Owes.mk _ rfl rfl (fun _ _ h=>by cases h) fun u m w' hm hI hR=>⟨⟨(frm 149 [(134,u 1),(140,u 7),(146,u 13)]).toArray,[]⟩,rfl,fun d hd=>by cases hd;exact frm_lt (by decide),?_⟩;dsimp only [frm,List.foldl,List.replicate,List.set];have e1:u 1=_:=hR 1 (by decide);have e7:u 7=_:=hR 7 (by decide);have e13:u 13=_:=hR 13 (by decide);rw [e1,e7,e13];clear e1 e7 e13;have GT6:=Lib.hid (SlR.below jobR_fits GW.out hI);have HI:=Lib.hid hI;clear hI hR hst;go_wp2_with fail
          refine (l5At_any _ x1.wait fq3 jw jn _ GT6.out).mono ?_;rw [Hz1.out];rintro e w5 ⟨rfl,rfl⟩;go_wp2;exact ⟨rfl,_,rfl,rfl,HI.out,fun _ _ h=>h⟩
        case hend =>
         intro u w' hI hR;simp only [setAll,List.set_cons_zero,List.set_cons_succ];have e14:u 14=_:=hR 14 (by decide);rw [e14];clear e14;have BB:=Lib.hid (BW.out.trans (hI.mono BW.out.size));clear hR hst hI p0 p1;go_wp2;go_ret;exact ⟨ret_bool (show tlmOk x0 x1=false by rw [HT8.out,noneIn_no hL HY1.out];simp).symm,BB.out⟩
      ·have S4:=keep_cell hb T4.out;have BW:=Lib.hid (B.out.trans (hb.mono B.out.size));clear hb;go_wp2;go_ret;exact ⟨ret_bool (show tlmOk x0 x1=true by rw [HT8.out,HN1.out,HN2.out,noneIn_yes (fun j h=>HG.out j h (by rw [hn4.out] at h;omega))];rfl).symm,BW.out⟩
end Go.Proofs.Ytmcjklicepaiaaa
