/-
 Texts of this claim laid together: TOk8.
-/
import Derived.Test.YtmcjklicepaiaaaPk20
set_option linter.unusedVariables false
set_option linter.unusedSimpArgs false
namespace Go.Proofs.Ytmcjklicepaiaaa
def tbtlmOk18:List (List Nat):=[[],[0],[0,1],[0,1,2],[0,1,2,3],[0,1,2,3,4],[0,1,2,3,4,5],[0,1,2,3,4],[0,1,2,3,4,7],[0,1,2,3,4],[0,1,2,3,4,9],[0,1,2,3,4,7,8,9,10],[0,1,2,3,4,7,8,9,10,11],[0,1,2,3,4,7,8,9,10,11,12],[0,1,2,3,4,5,6,7,8,9,10,11,12,13],[0,1,2,3,4,5,6,7,8,9,10,11,12,13,14],[0,1,2,3,4,5,6,7,8,9,10,11,12,13,14,15],[0,1,2,3,4,5,6,7,8,9,10,11,12,13,14,15,16],[0,1,2,3,4,5,6,7,8,9,10,11,12,13,14,15,16,17],[0,1,2,3,4,5,6,7,8,9,10,11,12,13,14,15,16,17],[0,1,2,3,4,5,6,7,8,9,10,11,12,13,14,15,16,17,19],[0,1,2,3,4,5,6,7,8,9,10,11,12,13,14,15,16,17],[0,1,2,3,4,5,6,7,8,9,10,11,12,13,14,15,16,17,21],[0,1,2,3,4,5,6,7,8,9,10,11,12,13,14,15,16,17,19,20,21,22],[0,1,2,3,4,5,6,7,8,9,10,11,12,13,14,15,16,17,18,19,20,21,22,23],[0,1,2,3,4,5,6,7,8,9,10,11,12,13,14,15,16,17,18,19,20,21,22,23,24]]
def tbtlmOk21:List (List Nat):=[[],[0],[0,1],[0,1,2],[0,1,2,3],[0,1,2,3,4],[0,1,2,3,4,5],[0,1,2,3,4,5,6],[0,1,2,3,4,5,6,7],[0,1,2,3,4,5,6,7,8],[0,1,2,3,4,5,6,7,8,9],[0,1,2,3,4,5,6,7,8,9,10],[0,1,2,3,4,5,6,7,8,9,10,11],[0,1,2,3,4,5,6,7,8,9,10,11,12],[0,1,2,3,4,5,6,7,8,9,10,11,12,13],[0,1,2,3,4,5,6,7,8,9,10,11,12,13,14],[0,1,2,3,4,5,6,7,8,9,10,11,12,13,14,15],[0,1,2,3,4,5,6,7,8,9,10,11,12,13,14,15,16],[0,1,2,3,4,5,6,7,8,9,10,11,12,13,14,15,16,17],[0,1,2,3,4,5,6,7,8,9,10,11,12,13,14,15,16,17,18],[0,1,2,3,4,5,6,7,8,9,10,11,12,13,14,15,16],[0,1,2,3,4,5,6,7,8,9,10,11,12,13,14,15,16],[0,1,2,3,4,5,6,7,8,9,10,11,12,13,14,15,16,21],[0,1,2,3,4,5,6,7,8,9,10,11,12,13,14,15,16],[0,1,2,3,4,5,6,7,8,9,10,11,12,13,14,15,16,23],[0,1,2,3,4,5,6,7,8,9,10,11,12,13,14,15,16,20,21,22,23,24],[0,1,2,3,4,5,6,7,8,9,10,11,12,13,14,15,16,17,18,19,20,21,22,23,24,25],[0,1,2,3,4,5,6,7,8,9,10,11,12,13,14,15,16,17,18,19,20,21,22,23,24,25,26],[0,1,2,3,4,5,6,7,8,9,10,11,12,13,14,15,16,17,18,19,20,21,22,23,24,25,26,27],[0,1,2,3,4,5,6,7,8,9,10,11,12,13,14,15,16,17,18,19,20,21,22,23,24,25,26,27,28]]
open Go.RowKit Go.Maps Go.WideMaps Go.ChangeShapes
def lst (x:Tlm):List (List Job):=[x.wait,x.done,x.told]
def pre (x:Tlm) (t:Nat):List Job:=((lst x).take t).flatten
noncomputable def tlmOkI (c:Bus) (x:Tlm):Bool:=atmOk x.atm && (decide (x.asked.length=3) && (rise x.wait && (rise x.done && (askIn c x.asked && tlmJobsI c x))))
theorem tlmOk_eq (c:Bus) (x:Tlm):tlmOk c x=(busOk c && tlmOkI c x):=by
 unfold tlmOk tlmOkI;rw [tlmJobs_eq];cases busOk c<;>cases atmOk x.atm<;>cases decide (x.asked.length=3)<;>cases askIn c x.asked<;>cases rise x.wait<;>cases rise x.done<;>simp
theorem jobsI_no1 {c:Bus} {x:Tlm} {t:Nat} (ht:t<(lst x).length) {k:Nat} (hk:k<(lst x)[t].length) (h:jobGood c x.asked (decide (0<t)) (lst x)[t][k]=false):tlmJobsI c x=false:=by
 have key:(lst x)[t].all (jobGood c x.asked (decide (0<t)))=false:=by
  rw [List.all_eq_false];exact ⟨_,List.getElem_mem hk,by simp [h]⟩
 have ht3:t<3:=ht;unfold tlmJobsI;have:t=0∨t=1∨t=2:=by omega
 rcases this with rfl|rfl|rfl
 ·rw [show x.wait.all (jobGood c x.asked false)=false from key];rfl
 ·rw [show x.done.all (jobGood c x.asked true)=false from key];simp
 ·rw [show x.told.all (jobGood c x.asked true)=false from key];simp
theorem jobsI_no2 {c:Bus} {x:Tlm} (h:fresh (pre x 3)=false):tlmJobsI c x=false:=by
 unfold tlmJobsI;rw [show x.wait++x.done++x.told=pre x 3 by simp [pre,lst],h];simp
theorem jobsI_yes {c:Bus} {x:Tlm} (h:∀ t (ht:t<(lst x).length),(lst x)[t].all (jobGood c x.asked (decide (0<t)))=true) (hf:fresh (pre x 3)=true):tlmJobsI c x=(((pre x 3).length:Int) == x.asked.sum):=by
 unfold tlmJobsI;rw [show x.wait++x.done++x.told=pre x 3 by simp [pre,lst],hf,show x.wait.all (jobGood c x.asked false)=true from h 0 (by simp [lst]),show x.done.all (jobGood c x.asked true)=true from h 1 (by simp [lst]),show x.told.all (jobGood c x.asked true)=true from h 2 (by simp [lst]),show ((pre x 3).length:Int)=(x.wait.length:Int)+x.done.length+x.told.length by simp [pre,lst];omega];rfl
theorem pre_succ (x:Tlm) {t:Nat} (ht:t<(lst x).length):pre x (t+1)=pre x t++(lst x)[t]:=by
 unfold pre;rw [List.take_succ_eq_append_getElem ht,List.flatten_append];simp
theorem pre_all (x:Tlm) {t k:Nat} (ht:t<(lst x).length) (hk:k<(lst x)[t].length):∃ r,pre x 3=(pre x t++(lst x)[t].take k)++(lst x)[t][k]::r:=by
 have h1:(lst x)[t]=(lst x)[t].take k++(lst x)[t][k]::(lst x)[t].drop (k+1):=by rw [<- List.drop_eq_getElem_cons hk,List.take_append_drop]
 have h2:lst x=(lst x).take t++(lst x)[t]::(lst x).drop (t+1):=by rw [<- List.drop_eq_getElem_cons ht,List.take_append_drop]
 have h3:pre x 3=(lst x).flatten:=by simp [pre,lst]
 refine ⟨(lst x)[t].drop (k+1)++((lst x).drop (t+1)).flatten,?_⟩;have h4:(lst x).flatten=pre x t++((lst x)[t]++((lst x).drop (t+1)).flatten):=by
  conv=>lhs;rw [h2]
  rw [List.flatten_append,List.flatten_cons];rfl
 rw [h3,h4,List.append_assoc]
 congr 1
 have h5:=congrArg (· ++ ((lst x).drop (t+1)).flatten) h1;simp only [List.append_assoc,List.cons_append] at h5 ⊢;exact h5
theorem good_succ {l:List Job} {p:Job->Bool} {k:Nat} (hk:k<l.length) (h:∀ j (h:j<l.length),j<k->p l[j]=true) (hy:p l[k]=true):∀ j (h:j<l.length),j<k+1->p l[j]=true:=by
 intro j hj hjk;by_cases e:j=k
 ·subst e;exact hy
 ·exact h j hj (by omega)
theorem chg_row {w w':World} {b:Nat} (h:w.grownBy w' (some b)):Chg [b] w w':=⟨h.os,h.tape,h.output,h.size,fun k hk hn=>h.block k hk (fun e=>hn (by simp [Option.some.inj e]))⟩
set_option maxRecDepth 100000 in
set_option maxHeartbeats 12800000 in
theorem tlmOkI_any (x0:Bus) (hbus:busOk x0=true) (v0 v1 v2:Value) (fp2:List Nat) (x1:Tlm) (s0 s1 s2 s3 s4 s5:Value) (fq0 fq1 fq2 fq3 fq4 fq5:List Nat) (w:World) (g2:SlR 1 (slR 7 reqR) w x0.progs v2 fp2)
 (h0:SlR 1 intR w x1.atm.mem s0 fq0) (h1:SlR 1 intR w x1.atm.holds s1 fq1) (h2:SlR 1 intR w x1.asked s2 fq2) (h3:SlR 5 jobR w x1.wait s3 fq3) (h4:SlR 5 jobR w x1.done s4 fq4) (h5:SlR 5 jobR w x1.told s5 fq5) :
 Calls Try.prog 83 #[.agg #[v0,v1,v2],.agg #[s0,s1,s2,s3,s4,s5]] w fun e w'=>e = .returned (.bool (tlmOkI x0 x1))∧Below w.heap.size w w':=by
 obtain ⟨a2,n2,c2,rfl,hn2,-,-,-,-⟩:=h2.opened;obtain ⟨a3,n3,c3,rfl,hn3,-,-,hc3,-⟩:=h3.opened;obtain ⟨a4,n4,c4,rfl,hn4,-,-,hc4,-⟩:=h4.opened;obtain ⟨a5,n5,c5,rfl,hn5,-,-,hc5,-⟩:=h5.opened;obtain ⟨ap,pn,pc,rfl,hpn,-,-,-,-⟩:=g2.opened;obtain ⟨w1,hw1⟩:∃ z,z=(w.alloc (.cells #[v0,v1,.slice ap pn pc] 38)).alloc (.cells #[s0,s1,.slice a2 n2 c2,.slice a3 n3 c3,.slice a4 n4 c4,.slice a5 n5 c5] 70):=⟨_,rfl⟩;have b1:Below w.heap.size w w1:=by rw [hw1];exact (below_alloc _ _).trans ((below_alloc _ _).mono (by simp))
 have X0:w1.cell? ⟨w.heap.size,0,none⟩=some (v0):=by rw [hw1];exact alloc_keep (alloc1_new _ _ _ 0 rfl) _
 have X1:w1.cell? ⟨w.heap.size,1,none⟩=some (v1):=by rw [hw1];exact alloc_keep (alloc1_new _ _ _ 1 rfl) _
 have X2:w1.cell? ⟨w.heap.size,2,none⟩=some (.slice ap pn pc):=by rw [hw1];exact alloc_keep (alloc1_new _ _ _ 2 rfl) _
 have S0:w1.cell? ⟨w.heap.size+1,0,none⟩=some (s0):=by rw [hw1];exact alloc2_new _ _ _ _ _ 0 rfl
 have S1:w1.cell? ⟨w.heap.size+1,1,none⟩=some (s1):=by rw [hw1];exact alloc2_new _ _ _ _ _ 1 rfl
 have S2:w1.cell? ⟨w.heap.size+1,2,none⟩=some (.slice a2 n2 c2):=by rw [hw1];exact alloc2_new _ _ _ _ _ 2 rfl
 have S3:w1.cell? ⟨w.heap.size+1,3,none⟩=some (.slice a3 n3 c3):=by rw [hw1];exact alloc2_new _ _ _ _ _ 3 rfl
 have S4:w1.cell? ⟨w.heap.size+1,4,none⟩=some (.slice a4 n4 c4):=by rw [hw1];exact alloc2_new _ _ _ _ _ 4 rfl
 have S5:w1.cell? ⟨w.heap.size+1,5,none⟩=some (.slice a5 n5 c5):=by rw [hw1];exact alloc2_new _ _ _ _ _ 5 rfl
 have G2:=Lib.hid (SlR.below (slR_fits reqR_fits) g2 b1);have H0:=Lib.hid (SlR.below intR_fits h0 b1);have H1:=Lib.hid (SlR.below intR_fits h1 b1);have H2:=Lib.hid (SlR.below intR_fits h2 b1);have H3:=Lib.hid (SlR.below jobR_fits h3 b1);have H4:=Lib.hid (SlR.below jobR_fits h4 b1);have H5:=Lib.hid (SlR.below jobR_fits h5 b1);have B:=Lib.hid b1;have Q0:=Lib.hid hbus;clear g2 h0 h1 h2 h3 h4 h5 b1 hbus;have HL2:Hid (decide (x1.asked.length=3)=((n2:Int) == 3)):=Lib.hid (by rw [hn2.out,Bool.eq_iff_iff];simp;omega);cases q1:atmOk x1.atm
 ·have Q1:=Lib.hid q1;clear q1;go_enter Try.func83,Try.ntmps83
  go_upto_region 1 with fail
  rw [<- hw1];clear hw1;go_wp2_with fail
  refine (iAtmOk_any x1.atm _ _ fq0 fq1 _ H0.out H1.out).mono ?_;rw [Q1.out];rintro e w2 ⟨rfl,b⟩;replace G2:=Lib.hid (SlR.below (slR_fits reqR_fits) G2.out b);replace H0:=Lib.hid (SlR.below intR_fits H0.out b);replace H1:=Lib.hid (SlR.below intR_fits H1.out b);replace H2:=Lib.hid (SlR.below intR_fits H2.out b);replace H3:=Lib.hid (SlR.below jobR_fits H3.out b);replace H4:=Lib.hid (SlR.below jobR_fits H4.out b);replace H5:=Lib.hid (SlR.below jobR_fits H5.out b);replace X0:=keep_cell b X0;replace X1:=keep_cell b X1;replace X2:=keep_cell b X2;replace S0:=keep_cell b S0;replace S1:=keep_cell b S1;replace S2:=keep_cell b S2;replace S3:=keep_cell b S3;replace S4:=keep_cell b S4;replace S5:=keep_cell b S5;replace B:=Lib.hid (B.out.trans (b.mono B.out.size));clear b;go_wp2;go_ret;exact ⟨ret_bool (show tlmOkI x0 x1=false by unfold tlmOkI;rw [Q1.out];rfl).symm,B.out⟩
 cases q2:((n2:Int) == 3)
 ·have Q1:=Lib.hid q1;have Q2:=Lib.hid q2;have ne:((n2:Int) != 3)=true:=by rw [bne,q2];rfl
  clear q1 q2;go_enter Try.func83,Try.ntmps83
  go_upto_region 1 with fail
  rw [<- hw1];clear hw1;go_wp2_with fail
  refine (iAtmOk_any x1.atm _ _ fq0 fq1 _ H0.out H1.out).mono ?_;rw [Q1.out];rintro e w2 ⟨rfl,b⟩;replace G2:=Lib.hid (SlR.below (slR_fits reqR_fits) G2.out b);replace H0:=Lib.hid (SlR.below intR_fits H0.out b);replace H1:=Lib.hid (SlR.below intR_fits H1.out b);replace H2:=Lib.hid (SlR.below intR_fits H2.out b);replace H3:=Lib.hid (SlR.below jobR_fits H3.out b);replace H4:=Lib.hid (SlR.below jobR_fits H4.out b);replace H5:=Lib.hid (SlR.below jobR_fits H5.out b);replace X0:=keep_cell b X0;replace X1:=keep_cell b X1;replace X2:=keep_cell b X2;replace S0:=keep_cell b S0;replace S1:=keep_cell b S1;replace S2:=keep_cell b S2;replace S3:=keep_cell b S3;replace S4:=keep_cell b S4;replace S5:=keep_cell b S5;replace B:=Lib.hid (B.out.trans (b.mono B.out.size));clear b;go_wp2;go_ret;exact ⟨ret_bool (show tlmOkI x0 x1=false by unfold tlmOkI;rw [Q1.out,HL2.out,Q2.out];rfl).symm,B.out⟩
 have Q2:=Lib.hid q2;have HA3:Hid (x1.asked.length=3):=Lib.hid (by have:=HL2.out;rw [q2] at this;exact of_decide_eq_true this);have HP3:=Lib.hid (busOk_progs Q0.out);have hn23:3=n2:=by rw [<- hn2.out,HA3.out]
 subst hn23;have hpn3:3=pn:=by rw [<- hpn.out,HP3.out]
 subst hpn3;clear q2;cases q3:rise x1.wait
 ·have Q1:=Lib.hid q1;have Q3:=Lib.hid q3;clear q1 q3;go_enter Try.func83,Try.ntmps83
  go_upto_region 1 with fail
  rw [<- hw1];clear hw1;go_wp2_with fail
  refine (iAtmOk_any x1.atm _ _ fq0 fq1 _ H0.out H1.out).mono ?_;rw [Q1.out];rintro e w2 ⟨rfl,b⟩;replace G2:=Lib.hid (SlR.below (slR_fits reqR_fits) G2.out b);replace H0:=Lib.hid (SlR.below intR_fits H0.out b);replace H1:=Lib.hid (SlR.below intR_fits H1.out b);replace H2:=Lib.hid (SlR.below intR_fits H2.out b);replace H3:=Lib.hid (SlR.below jobR_fits H3.out b);replace H4:=Lib.hid (SlR.below jobR_fits H4.out b);replace H5:=Lib.hid (SlR.below jobR_fits H5.out b);replace X0:=keep_cell b X0;replace X1:=keep_cell b X1;replace X2:=keep_cell b X2;replace S0:=keep_cell b S0;replace S1:=keep_cell b S1;replace S2:=keep_cell b S2;replace S3:=keep_cell b S3;replace S4:=keep_cell b S4;replace S5:=keep_cell b S5;replace B:=Lib.hid (B.out.trans (b.mono B.out.size));clear b;go_wp2_with fail
  refine (rising_any x1.wait _ fq3 _ H3.out).mono ?_;rw [Q3.out];rintro e w7 ⟨rfl,b⟩;replace G2:=Lib.hid (SlR.below (slR_fits reqR_fits) G2.out b);replace H0:=Lib.hid (SlR.below intR_fits H0.out b);replace H1:=Lib.hid (SlR.below intR_fits H1.out b);replace H2:=Lib.hid (SlR.below intR_fits H2.out b);replace H3:=Lib.hid (SlR.below jobR_fits H3.out b);replace H4:=Lib.hid (SlR.below jobR_fits H4.out b);replace H5:=Lib.hid (SlR.below jobR_fits H5.out b);replace X0:=keep_cell b X0;replace X1:=keep_cell b X1;replace X2:=keep_cell b X2;replace S0:=keep_cell b S0;replace S1:=keep_cell b S1;replace S2:=keep_cell b S2;replace S3:=keep_cell b S3;replace S4:=keep_cell b S4;replace S5:=keep_cell b S5;replace B:=Lib.hid (B.out.trans (b.mono B.out.size));clear b;go_wp2;go_ret;exact ⟨ret_bool (show tlmOkI x0 x1=false by unfold tlmOkI;rw [Q1.out,HL2.out,Q2.out,Q3.out];rfl).symm,B.out⟩
 cases q4:rise x1.done
 ·have Q1:=Lib.hid q1;have Q3:=Lib.hid q3;have Q4:=Lib.hid q4;clear q1 q3 q4;go_enter Try.func83,Try.ntmps83
  go_upto_region 1 with fail
  rw [<- hw1];clear hw1;go_wp2_with fail
  refine (iAtmOk_any x1.atm _ _ fq0 fq1 _ H0.out H1.out).mono ?_;rw [Q1.out];rintro e w2 ⟨rfl,b⟩;replace G2:=Lib.hid (SlR.below (slR_fits reqR_fits) G2.out b);replace H0:=Lib.hid (SlR.below intR_fits H0.out b);replace H1:=Lib.hid (SlR.below intR_fits H1.out b);replace H2:=Lib.hid (SlR.below intR_fits H2.out b);replace H3:=Lib.hid (SlR.below jobR_fits H3.out b);replace H4:=Lib.hid (SlR.below jobR_fits H4.out b);replace H5:=Lib.hid (SlR.below jobR_fits H5.out b);replace X0:=keep_cell b X0;replace X1:=keep_cell b X1;replace X2:=keep_cell b X2;replace S0:=keep_cell b S0;replace S1:=keep_cell b S1;replace S2:=keep_cell b S2;replace S3:=keep_cell b S3;replace S4:=keep_cell b S4;replace S5:=keep_cell b S5;replace B:=Lib.hid (B.out.trans (b.mono B.out.size));clear b;go_wp2_with fail
  refine (rising_any x1.wait _ fq3 _ H3.out).mono ?_;rw [Q3.out];rintro e w7 ⟨rfl,b⟩;replace G2:=Lib.hid (SlR.below (slR_fits reqR_fits) G2.out b);replace H0:=Lib.hid (SlR.below intR_fits H0.out b);replace H1:=Lib.hid (SlR.below intR_fits H1.out b);replace H2:=Lib.hid (SlR.below intR_fits H2.out b);replace H3:=Lib.hid (SlR.below jobR_fits H3.out b);replace H4:=Lib.hid (SlR.below jobR_fits H4.out b);replace H5:=Lib.hid (SlR.below jobR_fits H5.out b);replace X0:=keep_cell b X0;replace X1:=keep_cell b X1;replace X2:=keep_cell b X2;replace S0:=keep_cell b S0;replace S1:=keep_cell b S1;replace S2:=keep_cell b S2;replace S3:=keep_cell b S3;replace S4:=keep_cell b S4;replace S5:=keep_cell b S5;replace B:=Lib.hid (B.out.trans (b.mono B.out.size));clear b;go_wp2_with fail
  refine (rising_any x1.done _ fq4 _ H4.out).mono ?_;rw [Q4.out];rintro e w8 ⟨rfl,b⟩;replace G2:=Lib.hid (SlR.below (slR_fits reqR_fits) G2.out b);replace H0:=Lib.hid (SlR.below intR_fits H0.out b);replace H1:=Lib.hid (SlR.below intR_fits H1.out b);replace H2:=Lib.hid (SlR.below intR_fits H2.out b);replace H3:=Lib.hid (SlR.below jobR_fits H3.out b);replace H4:=Lib.hid (SlR.below jobR_fits H4.out b);replace H5:=Lib.hid (SlR.below jobR_fits H5.out b);replace X0:=keep_cell b X0;replace X1:=keep_cell b X1;replace X2:=keep_cell b X2;replace S0:=keep_cell b S0;replace S1:=keep_cell b S1;replace S2:=keep_cell b S2;replace S3:=keep_cell b S3;replace S4:=keep_cell b S4;replace S5:=keep_cell b S5;replace B:=Lib.hid (B.out.trans (b.mono B.out.size));clear b;go_wp2;go_ret;exact ⟨ret_bool (show tlmOkI x0 x1=false by unfold tlmOkI;rw [Q1.out,HL2.out,Q2.out,Q3.out,Q4.out];rfl).symm,B.out⟩
 have Q1:=Lib.hid q1;have Q3:=Lib.hid q3;have Q4:=Lib.hid q4;have HT:Hid (tlmOkI x0 x1=(askIn x0 x1.asked && tlmJobsI x0 x1)):=Lib.hid (by unfold tlmOkI;rw [q1,HL2.out,Q2.out,q3,q4];rfl);clear q1 q3 q4;go_enter Try.func83,Try.ntmps83
 go_upto_region 1 with fail
 rw [<- hw1];clear hw1;go_wp2_with fail
 refine (iAtmOk_any x1.atm _ _ fq0 fq1 _ H0.out H1.out).mono ?_;rw [Q1.out];rintro e w2 ⟨rfl,b⟩;replace G2:=Lib.hid (SlR.below (slR_fits reqR_fits) G2.out b);replace H0:=Lib.hid (SlR.below intR_fits H0.out b);replace H1:=Lib.hid (SlR.below intR_fits H1.out b);replace H2:=Lib.hid (SlR.below intR_fits H2.out b);replace H3:=Lib.hid (SlR.below jobR_fits H3.out b);replace H4:=Lib.hid (SlR.below jobR_fits H4.out b);replace H5:=Lib.hid (SlR.below jobR_fits H5.out b);replace X0:=keep_cell b X0;replace X1:=keep_cell b X1;replace X2:=keep_cell b X2;replace S0:=keep_cell b S0;replace S1:=keep_cell b S1;replace S2:=keep_cell b S2;replace S3:=keep_cell b S3;replace S4:=keep_cell b S4;replace S5:=keep_cell b S5;replace B:=Lib.hid (B.out.trans (b.mono B.out.size));clear b;go_wp2_with fail
 refine (rising_any x1.wait _ fq3 _ H3.out).mono ?_;rw [Q3.out];rintro e w7 ⟨rfl,b⟩;replace G2:=Lib.hid (SlR.below (slR_fits reqR_fits) G2.out b);replace H0:=Lib.hid (SlR.below intR_fits H0.out b);replace H1:=Lib.hid (SlR.below intR_fits H1.out b);replace H2:=Lib.hid (SlR.below intR_fits H2.out b);replace H3:=Lib.hid (SlR.below jobR_fits H3.out b);replace H4:=Lib.hid (SlR.below jobR_fits H4.out b);replace H5:=Lib.hid (SlR.below jobR_fits H5.out b);replace X0:=keep_cell b X0;replace X1:=keep_cell b X1;replace X2:=keep_cell b X2;replace S0:=keep_cell b S0;replace S1:=keep_cell b S1;replace S2:=keep_cell b S2;replace S3:=keep_cell b S3;replace S4:=keep_cell b S4;replace S5:=keep_cell b S5;replace B:=Lib.hid (B.out.trans (b.mono B.out.size));clear b;go_wp2_with fail
 refine (rising_any x1.done _ fq4 _ H4.out).mono ?_;rw [Q4.out];rintro e w8 ⟨rfl,b⟩;replace G2:=Lib.hid (SlR.below (slR_fits reqR_fits) G2.out b);replace H0:=Lib.hid (SlR.below intR_fits H0.out b);replace H1:=Lib.hid (SlR.below intR_fits H1.out b);replace H2:=Lib.hid (SlR.below intR_fits H2.out b);replace H3:=Lib.hid (SlR.below jobR_fits H3.out b);replace H4:=Lib.hid (SlR.below jobR_fits H4.out b);replace H5:=Lib.hid (SlR.below jobR_fits H5.out b);replace X0:=keep_cell b X0;replace X1:=keep_cell b X1;replace X2:=keep_cell b X2;replace S0:=keep_cell b S0;replace S1:=keep_cell b S1;replace S2:=keep_cell b S2;replace S3:=keep_cell b S3;replace S4:=keep_cell b S4;replace S5:=keep_cell b S5;replace B:=Lib.hid (B.out.trans (b.mono B.out.size));clear b;clear H0 H1;go_wp2_with fail
 have Y0':=Lib.hid X0;have Y1':=Lib.hid X1;have Y2:=Lib.hid X2;have T2:=Lib.hid S2;have T3:=Lib.hid S3;have T4:=Lib.hid S4;have T5:=Lib.hid S5;clear X0 X1 S0 S1 X2 S2 S3 S4 S5
 go_loopw [5,38] (fun mq i wr=>∃ (k:Nat) (mn:Int),k<=3∧i = .int .i64 k∧mq = .int .i64 mn∧mn=(x1.asked.take k).sum∧0<=mn∧mn<=12*k∧(∀ j (h:j<x1.asked.length) (h':j<x0.progs.length),j<k->inB x1.asked[j] 0 x0.progs[j].length=true)∧wr=w8) (fun _ i _=>3 - (intOf i).toNat)
 case atStart=>exact ⟨0,0,Nat.zero_le _,rfl,rfl,by simp,by omega,by omega,fun j _ _ h=>absurd h (Nat.not_lt_zero j),rfl⟩
 case round =>
  obtain ⟨k,mn,hk,rfl,rfl,hmn,hm0,hm1,hg,rfl⟩:=hrel;have HG:=Lib.hid hg;have HMn:=Lib.hid hmn;clear hg hmn;by_cases hlt:k<3
  ·have hka:k<x1.asked.length:=by rw [HA3.out];exact hlt
   have hkp:k<x0.progs.length:=by rw [HP3.out];exact hlt
   obtain ⟨_,_,_,ea,-,-,-,-,ra⟩:=H2.out.opened;cases ea;obtain ⟨_,ab,ao,_,cs,rfl,-,-,-,⟨rfl,-⟩,ea⟩:=ra k hlt;have A0:=ea 0 (by simp);simp only [Nat.mul_one,Nat.add_zero,List.getElem_cons_zero] at A0;obtain ⟨_,_,_,ep,-,-,-,-,rp⟩:=G2.out.opened;cases ep;obtain ⟨_,pb,po,fq,cs,rfl,-,-,-,⟨y,rfl,hy⟩,ep⟩:=rp k hlt;have Y0:=ep 0 (by simp);simp only [Nat.mul_one,Nat.add_zero,List.getElem_cons_zero] at Y0;obtain ⟨yb,yn,yc,rfl,hyn,-,-,-,-⟩:=hy.opened;obtain ⟨au,hau⟩:∃ z,x1.asked[k]=z:=⟨_,rfl⟩;rw [hau] at A0;have hy12:yn<=12:=by rw [<- hyn.out];exact prog_few Q0.out hkp
   have X2:=Y2.out;obtain ⟨bi,hbi⟩:∃ z,inB au 0 yn=z:=⟨_,rfl⟩;have HIn:=Lib.hid hbi;have HK:Hid (inB x1.asked[k] 0 x0.progs[k].length=bi):=Lib.hid (by rw [hau,hyn.out];exact hbi);have HAu:=Lib.hid hau;have hk3:(k:Int)<3:=by omega
   clear ra ea rp ep hy hau;cases bi
   ·clear hbi;go_wp2_with fail
    refine (in_any _ _ _ _).mono ?_;rw [HIn.out];rintro e w9 ⟨rfl,rfl⟩;go_wp2;go_ret;exact ⟨ret_bool (show tlmOkI x0 x1=false by rw [HT.out,askIn_no hka hkp hlt HK.out];rfl).symm,B.out⟩
   ·have hau2:=inB_true.1 hbi;clear hbi;go_wp2_with fail
    refine (in_any _ _ _ _).mono ?_;rw [HIn.out];rintro e w9 ⟨rfl,rfl⟩;go_wp2
    go_roundw
    case rel=>exact ⟨k+1,mn+au,by omega,by go_num,by go_num,(by rw [List.take_succ_eq_append_getElem hka,List.sum_append,<- HMn.out,HAu.out];simp),by omega,by omega,(fun j h h' hj=>by
     by_cases e:j=k
     ·subst e;exact HK.out
     ·exact HG.out j h h' (by omega)),trivial⟩
    case measure=>simp [intOf];omega
  ·have hk3:k=3:=by omega
   have HAI:Hid (askIn x0 x1.asked=true):=Lib.hid (askIn_yes HA3.out HP3.out (fun j h h'=>HG.out j h h' (by rw [HA3.out] at h;omega)));have HC:=Lib.hid (askIn_ok Q0.out HA3.out HAI.out);have HSum:Hid (mn=x1.asked.sum):=Lib.hid (by rw [HMn.out,List.take_of_length_le (by rw [HA3.out];omega)]);have HT2:Hid (tlmOkI x0 x1=tlmJobsI x0 x1):=Lib.hid (by rw [HT.out,HAI.out];rfl);have hlt9:¬ (k:Int)<3:=by omega
   clear HG HT HMn hk3 hlt hk;have hmm:=@run_makeMap Try.prog;obtain ⟨wS,hwS⟩:∃ z,z=(wr.alloc (.map #[] 0)).alloc (.cells #[.slice a3 n3 c3,.slice a4 n4 c4,.slice a5 n5 c5] 56):=⟨_,rfl⟩;have bS:Below wr.heap.size wr wS:=by rw [hwS];exact (below_alloc _ _).trans ((below_alloc _ _).mono (by simp))
   have BM0:Hid (BoolM Try.prog 143 4 keyV wr.heap.size 0 wS (metB (pre x1 0)) 0):=Lib.hid (by rw [hwS];exact (BoolM.made wr).below (below_alloc _ _));have L0:wS.cell? ⟨wr.heap.size+1,0,none⟩=some (.slice a3 n3 c3):=by rw [hwS];rw [World.cell?_alloc_at _ _ _ _ (by simp)];rfl
   have L1:wS.cell? ⟨wr.heap.size+1,1,none⟩=some (.slice a4 n4 c4):=by rw [hwS];rw [World.cell?_alloc_at _ _ _ _ (by simp)];rfl
   have L2:wS.cell? ⟨wr.heap.size+1,2,none⟩=some (.slice a5 n5 c5):=by rw [hwS];rw [World.cell?_alloc_at _ _ _ _ (by simp)];rfl
   have S3:=T3.out;have S4:=T4.out;have S5:=T5.out;have hzS:wr.heap.size+1<wS.heap.size:=block_of_cell L0;have hz1:w.heap.size+1<wr.heap.size:=block_of_cell S3;have HBS:=Lib.hid bS;clear bS;go_wp2_with fail
   rw [<- hwS];clear hwS S3 S4 S5 T3 T4 T5;have X0:=Lib.hid (keep_cell HBS.out Y0'.out);have X1:=Lib.hid (keep_cell HBS.out Y1'.out);have X2:=Lib.hid (keep_cell HBS.out Y2.out);have S2:=Lib.hid (keep_cell HBS.out T2.out);have HBlow:Hid (Below w.heap.size w wS):=Lib.hid (B.out.trans (HBS.out.mono (by omega)));have HF2:Hid (∀ q,q∈fp2->q<wr.heap.size):=Lib.hid (G2.out.lt (slR_fits reqR_fits));have HFa:Hid (∀ q,q∈fq2->q<wr.heap.size):=Lib.hid (H2.out.lt intR_fits);have HF3:Hid (∀ q,q∈fq3->q<wr.heap.size):=Lib.hid (H3.out.lt jobR_fits);have HF4:Hid (∀ q,q∈fq4->q<wr.heap.size):=Lib.hid (H4.out.lt jobR_fits);have HF5:Hid (∀ q,q∈fq5->q<wr.heap.size):=Lib.hid (H5.out.lt jobR_fits);replace G2:=Lib.hid (SlR.below (slR_fits reqR_fits) G2.out HBS.out);replace H2:=Lib.hid (SlR.below intR_fits H2.out HBS.out);replace H3:=Lib.hid (SlR.below jobR_fits H3.out HBS.out);replace H4:=Lib.hid (SlR.below jobR_fits H4.out HBS.out);replace H5:=Lib.hid (SlR.below jobR_fits H5.out HBS.out);have HLists:Hid (∀ t (ht:t<(lst x1).length),∃ (a:Option Addr) (n c:Nat) (fl:List Nat),wS.cell? ⟨wr.heap.size+1,t,none⟩=some (.slice a n c)∧SlR 5 jobR wS (lst x1)[t] (.slice a n c) fl∧∀ q,q∈fl->q<wr.heap.size):=Lib.hid (fun t ht=>by
    have ht3:t<3:=ht;have:t=0∨t=1∨t=2:=by omega
    rcases this with rfl|rfl|rfl
    ·exact ⟨_,_,_,_,L0,H3.out,HF3.out⟩
    ·exact ⟨_,_,_,_,L1,H4.out,HF4.out⟩
    ·exact ⟨_,_,_,_,L2,H5.out,HF5.out⟩)
   clear L0 L1 L2 H3 H4 H5 HF3 HF4 HF5 Y0' Y1' Y2 T2;generalize hbm:wr.heap.size=bm at *
   go_loopw [65] (fun i wq=>∃ t:Nat,t<=3∧i = .int .i64 t∧GoodSo x0 x1.asked (pre x1 t)∧(∀ q (hq:q<(lst x1).length),q<t->(lst x1)[q].all (jobGood x0 x1.asked (decide (0<q)))=true)∧BoolM Try.prog 143 4 keyV bm (pre x1 t).length wq (metB (pre x1 t)) (pre x1 t).length∧Chg [bm] wS wq) (fun i _=>3 - (intOf i).toNat)
   case atStart=>exact ⟨0,Nat.zero_le _,rfl,GoodSo.nil _ _,fun q _ h=>absurd h (Nat.not_lt_zero q),BM0.out,Chg.refl _ _⟩
   case round =>
    obtain ⟨t,ht,rfl,hgs,hal,hbo,hc⟩:=hrel;have HGs:=Lib.hid hgs;have HAl:=Lib.hid hal;have HBo:=Lib.hid hbo;clear hgs hal hbo BM0;by_cases hlt3:t<3
    ·have hL3:t<(lst x1).length:=hlt3;obtain ⟨al,n,cl,fl,hcell,hgl,hfl⟩:=HLists.out t hL3;obtain ⟨l,hl⟩:∃ z,(lst x1)[t]=z:=⟨_,rfl⟩;rw [hl] at hgl;have HLt:=Lib.hid hl;obtain ⟨_,_,_,el,hn,hcap,hmax,hcm,-⟩:=hgl.opened;cases el;have GL:=Lib.hid hgl;have HFl:=Lib.hid hfl;have cc:=keep_cell_chg hc hcell (by simp);have ht3:(t:Int)<3:=by omega
     have HCo:=Lib.hid hc;have HNo1:Hid (∀ k (hk:k<l.length),jobGood x0 x1.asked (decide (0<t)) l[k]=false->tlmOkI x0 x1=false):=Lib.hid (fun k hk h=>by rw [HT2.out];subst hl;exact jobsI_no1 hL3 hk h);have HPre:Hid (pre x1 (t+1)=pre x1 t++l):=Lib.hid (by subst hl;exact pre_succ x1 hL3);have HNo2:Hid (∀ k (hk:k<l.length),metB (pre x1 t++l.take k) (keyJ l[k])=true->tlmOkI x0 x1=false):=Lib.hid (fun k hk h=>by
      rw [HT2.out];subst hl;obtain ⟨r,hr⟩:=pre_all x1 hL3 hk;exact jobsI_no2 (by rw [hr];exact not_fresh h))
     clear hl hgl hfl hcell hc;go_wp2_with fail
     clear cc
     go_loopw [72] (fun i wq=>∃ k:Nat,k<=n∧i = .int .i64 k∧GoodSo x0 x1.asked (pre x1 t++l.take k)∧(∀ j (h:j<l.length),j<k->jobGood x0 x1.asked (decide (0<t)) l[j]=true)∧BoolM Try.prog 143 4 keyV bm ((pre x1 t).length+k) wq (metB (pre x1 t++l.take k)) ((pre x1 t).length+k)∧Chg [bm] wS wq) (fun i _=>n - (intOf i).toNat)
     case atStart=>exact ⟨0,Nat.zero_le _,rfl,(by simpa using HGs.out),fun j _ h=>absurd h (Nat.not_lt_zero j),(by simpa using HBo.out),HCo.out⟩
     case round =>
      obtain ⟨k,hk,rfl,hgs2,hgd,hbo2,hc2⟩:=hrel;have HGs2:=Lib.hid hgs2;have HGd:=Lib.hid hgd;have HBo2:=Lib.hid hbo2;clear hgs2 hgd hbo2;by_cases hlt:k<n
      ·have hLk:k<l.length:=by rw [hn.out];exact hlt
       have hkn:(k:Int)<(n:Int):=by omega
       have GLk:=Lib.hid (GL.out.chg jobR_fits hc2 (fun q hq=>by have:=HFl.out q hq;simp;omega));obtain ⟨lb,lo,jv,df,rfl,hlb,hlbm,hdfm,⟨q0,q1,q2,q3,q4⟩,gd⟩:=jobs_at GLk.out hLk;obtain ⟨⟨jw,jn,⟨ji,jc,jd⟩⟩,hj⟩:∃ z,l[k]=z:=⟨_,rfl⟩;rw [hj] at q0 q1 q2 q3 gd;have HJ:=Lib.hid hj;have HDf:Hid (∀ q,q∈df->q<bm):=Lib.hid (fun q hq=>HFl.out q (hdfm q hq));obtain ⟨dva,dvn,dvc,rfl,hdv,-,-,-,-⟩:=gd.opened;clear hdv hlbm hdfm;go_upto_region 18 with fail
       obtain ⟨w4,hw4⟩:∃ z,z=wr.alloc (.cells #[.int .i64 jw,.int .i64 jn,.int .i64 ji,.int .i64 jc,.slice dva dvn dvc] 64):=⟨_,rfl⟩;rw [<- hw4];have b4:Below wr.heap.size wr w4:=by rw [hw4];exact below_alloc _ _
       have D0:w4.cell? ⟨wr.heap.size,0,none⟩=some (.int .i64 jw):=by rw [hw4];exact alloc1_new _ _ _ 0 rfl
       have D1:w4.cell? ⟨wr.heap.size,1,none⟩=some (.int .i64 jn):=by rw [hw4];exact alloc1_new _ _ _ 1 rfl
       have D2:w4.cell? ⟨wr.heap.size,2,none⟩=some (.int .i64 ji):=by rw [hw4];exact alloc1_new _ _ _ 2 rfl
       have D3:w4.cell? ⟨wr.heap.size,3,none⟩=some (.int .i64 jc):=by rw [hw4];exact alloc1_new _ _ _ 3 rfl
       have D4:w4.cell? ⟨wr.heap.size,4,none⟩=some (.slice dva dvn dvc):=by rw [hw4];exact alloc1_new _ _ _ 4 rfl
       have GD4:=Lib.hid (SlR.below intR_fits gd b4);have HBo4:=Lib.hid (HBo2.out.below b4);have c4:=hc2.trans' (b4.chg [bm]);have HC4:=Lib.hid c4;have hbj:bm<wr.heap.size:=HBo2.out.lt;have HBB:Hid (∀ x,Below w4.heap.size w4 x->Below w.heap.size w x):=Lib.hid (fun x hx=>by
        have h1:=HBlow.out.trans (c4.under HBlow.out.size (fun q hq=>by simp at hq;omega));exact h1.trans (hx.mono h1.size))
       clear hw4 b4 q0 q1 q2 q3 q4 gd hj hc2 GLk HBo2;generalize wr.heap.size=bj at *;obtain ⟨bw,hw⟩:∃ z,inB jw 0 2=z:=⟨_,rfl⟩;have HWho:=Lib.hid hw;cases bw
       ·have HBad:Hid (jobGood x0 x1.asked (decide (0<t)) l[k]=false):=Lib.hid (by rw [HJ.out];unfold jobGood jobFit;simp only [HWho.out,Bool.false_and]);clear hw c4;have hst:∀ F,F∈[FEq (.pointer (some ⟨bj,0,none⟩)),FEq (.int .i64 jw),FEq (.bool false),FEq (.bool true),FEq (.bool true),FEq undef,FEq undef,FEq undef,FEq undef,FEq undef,FEq undef,FEq undef,FEq undef,FEq undef,FEq undef,FEq undef,FEq (.bool true),FEq (.bool true),FEq undef,FEq undef,FEq undef,FEq undef,FEq undef,FEq undef,FEq undef]->Stable [] F:=by repeat first|exact st_nil|refine st_eq ?_
        refine wp_skipH hst tbtlmOk18 (fun _ w'=>Below w4.heap.size w4 w') 144 26 25 [some 76,some 77,some 78,some 79,some 80,some 81,some 82,some 83,some 84,some 85,some 86,some 87,some 88,some 89,some 90,some 91,some 92,some 93,some 94,some 95,some 96,some 97,some 98,some 99,some 100] _ [5,6,7,8,9,10,11,12,13,14,15,18,19,20,21,22,23,24] [(17,true),(4,true)] ?h0 ?hop ?hend
        case h0=>exact (Below.refl _ _).drew
        case hop =>
         refine ⟨⟨⟨⟨⟨⟨⟨⟨⟨⟨⟨⟨⟨⟨⟨⟨⟨⟨⟨⟨⟨⟨⟨⟨⟨trivial,?_⟩,?_⟩,?_⟩,?_⟩,?_⟩,?_⟩,?_⟩,?_⟩,?_⟩,?_⟩,?_⟩,?_⟩,?_⟩,?_⟩,?_⟩,?_⟩,?_⟩,?_⟩,?_⟩,?_⟩,?_⟩,?_⟩,?_⟩,?_⟩,?_⟩
         all_goals first|exact .inl (by decide)|skip
         ·exact .inr (Owes.k0 144 [(12,.pointer (some ⟨bj,0,none⟩))])
         ·exact .inr (Owes.c1 144 76 0 D0)
         ·refine .inr (Owes.mk _ rfl rfl (fun _ _ h=>by cases h) fun u m w' hm hI hR=>⟨⟨(frm 144 [(77,u 1)]).toArray,[]⟩,rfl,fun d hd=>by cases hd;exact frm_lt (by decide),?_⟩);dsimp only [frm,List.foldl,List.replicate,List.set];have e1:u 1=_:=hR 1 (by decide);rw [e1];clear e1;have HI:=Lib.hid hI;clear hI hR hst;go_wp2_with fail
          refine (isMaster_any _ _).mono ?_;rw [HWho.out];rintro e w5 ⟨rfl,rfl⟩;go_wp2;exact ⟨rfl,_,rfl,rfl,HI.out,fun _ _ h=>h⟩
         ·exact .inr (Owes.k1 144 78 2)
         ·exact .inr (Owes.k1 144 79 3)
         ·exact .inr (Owes.k2 144 80 4 91 15)
         ·exact .inr (Owes.k1 144 92 16)
        case hend =>
         intro u w' hI hR;simp only [setAll,List.set_cons_zero,List.set_cons_succ];have e17:u 17=_:=hR 17 (by decide);rw [e17];clear e17;have BB:=Lib.hid (HBB.out _ hI);clear hR hst hI D0 D1 D2 D3 D4;go_wp2;go_ret;exact ⟨ret_bool (show tlmOkI x0 x1=false from HNo1.out k hLk HBad.out).symm,BB.out⟩
       ·have hw2:=inB_true.1 hw;obtain ⟨uu,rfl⟩:=Int.eq_ofNat_of_zero_le hw2.1;have hu3:uu<x1.asked.length:=by rw [HA3.out];omega
        have hu4:uu<x0.progs.length:=by rw [HP3.out];omega
        obtain ⟨au,hau⟩:∃ z,x1.asked[uu]=z:=⟨_,rfl⟩;obtain ⟨ha1,ha2,ha3⟩:=HC.out.at' uu hu3 hu4;rw [hau] at ha1 ha2;obtain ⟨_,_,_,ea,-,-,-,-,ra⟩:=(H2.out.chg intR_fits c4 (fun q hq=>by have:=HFa.out q hq;simp;omega)).opened;cases ea;obtain ⟨_,ab,ao,_,cs,rfl,-,-,-,⟨rfl,-⟩,ea⟩:=ra uu (by omega);have A0:=ea 0 (by simp);simp only [Nat.mul_one,Nat.add_zero,List.getElem_cons_zero] at A0;rw [hau] at A0;have hS2o:=S2.out;have S2k:=keep_cell_chg c4 S2.out (by simp;omega);have hua:(uu:Int)<3:=by omega
        have HU:Hid (∀ (x:Int) (r:Rsp),jobFit x1.asked ⟨uu,x,r⟩=inB x 0 (au - 1)):=Lib.hid (fun x r=>by rw [fit_at hu3 rfl,HWho.out,hau];rfl);clear ra ea hw hau hS2o;obtain ⟨bn,hbn⟩:∃ z,inB jn 0 (au - 1)=z:=⟨_,rfl⟩;have HN:=Lib.hid hbn;cases bn
        ·have HBad:Hid (jobGood x0 x1.asked (decide (0<t)) l[k]=false):=Lib.hid (by rw [HJ.out];unfold jobGood;rw [HU.out,HN.out];rfl);clear hbn c4;have hst:∀ F,F∈[FEq (.pointer (some ⟨bj,0,none⟩)),FEq (.int .i64 (uu:Int)),FEq (.bool true),FEq (.bool false),FEq (.bool false),FEq (.pointer (some ⟨bj,1,none⟩)),FEq (.int .i64 jn),FEq (.pointer (some ⟨w.heap.size+1,2,none⟩)),FEq (.slice (some ⟨ab,ao,none⟩) 3 c2),FEq (.pointer (some ⟨bj,0,none⟩)),FEq (.int .i64 (uu:Int)),FEq (.pointer (some ⟨ab,ao+uu,none⟩)),FEq (.int .i64 au),FEq (.int .i64 (au - 1)),FEq (.bool false),FEq (.bool true),FEq (.bool true),FEq (.bool true),FEq undef,FEq undef,FEq undef,FEq undef,FEq undef,FEq undef,FEq undef]->Stable [] F:=by repeat first|exact st_nil|refine st_eq ?_
         refine wp_skipH hst tbtlmOk18 (fun _ w'=>Below w4.heap.size w4 w') 144 26 25 [some 76,some 77,some 78,some 79,some 80,some 81,some 82,some 83,some 84,some 85,some 86,some 87,some 88,some 89,some 90,some 91,some 92,some 93,some 94,some 95,some 96,some 97,some 98,some 99,some 100] _ [18,19,20,21,22,23,24] [(17,true),(4,false)] ?h0 ?hop ?hend
         case h0=>exact (Below.refl _ _).drew
         case hop =>
          refine ⟨⟨⟨⟨⟨⟨⟨⟨⟨⟨⟨⟨⟨⟨⟨⟨⟨⟨⟨⟨⟨⟨⟨⟨⟨trivial,?_⟩,?_⟩,?_⟩,?_⟩,?_⟩,?_⟩,?_⟩,?_⟩,?_⟩,?_⟩,?_⟩,?_⟩,?_⟩,?_⟩,?_⟩,?_⟩,?_⟩,?_⟩,?_⟩,?_⟩,?_⟩,?_⟩,?_⟩,?_⟩,?_⟩
          all_goals first|exact .inl (by decide)|skip
          ·exact .inr (Owes.k0 144 [(12,.pointer (some ⟨bj,0,none⟩))])
          ·exact .inr (Owes.c1 144 76 0 D0)
          ·refine .inr (Owes.mk _ rfl rfl (fun _ _ h=>by cases h) fun u m w' hm hI hR=>⟨⟨(frm 144 [(77,u 1)]).toArray,[]⟩,rfl,fun d hd=>by cases hd;exact frm_lt (by decide),?_⟩);dsimp only [frm,List.foldl,List.replicate,List.set];have e1:u 1=_:=hR 1 (by decide);rw [e1];clear e1;have HI:=Lib.hid hI;clear hI hR hst;go_wp2_with fail
           refine (isMaster_any _ _).mono ?_;rw [HWho.out];rintro e w5 ⟨rfl,rfl⟩;go_wp2;exact ⟨rfl,_,rfl,rfl,HI.out,fun _ _ h=>h⟩
          ·exact .inr (Owes.k1 144 78 2)
          ·exact .inr (Owes.k1 144 79 3)
          ·exact .inr (Owes.k0G 144 [(12,.pointer (some ⟨bj,0,none⟩))])
          ·exact .inr (Owes.c1G 144 81 5 D1)
          ·exact .inr (Owes.k0G 144 [(3,.pointer (some ⟨w.heap.size+1,0,none⟩))])
          ·exact .inr (Owes.c1G 144 83 7 S2k)
          ·exact .inr (Owes.k0G 144 [(12,.pointer (some ⟨bj,0,none⟩))])
          ·exact .inr (Owes.c1G 144 85 9 D0)
          ·exact .inr (Owes.k2G 144 84 8 86 10)
          ·exact .inr (Owes.c1G 144 87 11 A0)
          ·refine .inr (Owes.mkG _ _ rfl rfl (fun _ _ h=>by cases h) fun u m w' hm hI hR=>⟨⟨(frm 144 [(88,u 12)]).toArray,[]⟩,rfl,fun d hd=>by cases hd;exact frm_lt (by decide),?_⟩);dsimp only [frm,List.foldl,List.replicate,List.set];have e12:u 12=_:=hR 12 (by decide);rw [e12];clear e12;have HI:=Lib.hid hI;clear hI hst hR;go_wp2;exact ⟨rfl,_,rfl,(by show _=_;go_num),HI.out,fun _ _ h=>h⟩
          ·refine .inr (Owes.mkG _ _ rfl rfl (fun _ _ h=>by cases h) fun u m w' hm hI hR=>⟨⟨(frm 144 [(82,u 6),(89,u 13)]).toArray,[]⟩,rfl,fun d hd=>by cases hd;exact frm_lt (by decide),?_⟩);dsimp only [frm,List.foldl,List.replicate,List.set];have e6:u 6=_:=hR 6 (by decide);have e13:u 13=_:=hR 13 (by decide);rw [e6,e13];clear e6 e13;have HI:=Lib.hid hI;clear hI hR hst;go_wp2_with fail
           refine (in_any _ _ _ _).mono ?_;rw [HN.out];rintro e w5 ⟨rfl,rfl⟩;go_wp2;exact ⟨rfl,_,rfl,rfl,HI.out,fun _ _ h=>h⟩
          ·exact .inr (Owes.k1G 144 90 14)
          ·exact .inr (Owes.k2 144 80 4 91 15)
          ·exact .inr (Owes.k1 144 92 16)
         case hend =>
          intro u w' hI hR;simp only [setAll,List.set_cons_zero,List.set_cons_succ];have e17:u 17=_:=hR 17 (by decide);rw [e17];clear e17;have BB:=Lib.hid (HBB.out _ hI);clear hR hst hI D0 D1 D2 D3 D4;go_wp2;go_ret;exact ⟨ret_bool (show tlmOkI x0 x1=false from HNo1.out k hLk HBad.out).symm,BB.out⟩
        ·have hn2:=inB_true.1 hbn;obtain ⟨ii,rfl⟩:=Int.eq_ofNat_of_zero_le hn2.1;have hil:ii<x0.progs[uu].length:=by omega
         have HId0:Hid (idAt x0 uu ii=x0.progs[uu][ii].id):=Lib.hid (idAt_at hu4 hil);obtain ⟨rid,hrid⟩:∃ z,idAt x0 uu ii=z:=⟨_,rfl⟩;have HId:=Lib.hid hrid;have HFit:Hid (jobFit x1.asked l[k]=true):=Lib.hid (by rw [HJ.out,HU.out,HN.out]);have HGd2:Hid (∀ d,jobGood x0 x1.asked d l[k]=jobCame x0 d ⟨uu,ii,⟨ji,jc,jd⟩⟩):=Lib.hid (fun d=>by unfold jobGood;rw [HFit.out,HJ.out,Bool.true_and]);obtain ⟨lk,hlk⟩:=jk_key ((uu:Int),(ii:Int)) (by constructor<;>(try simp)<;>omega) (by constructor<;>(try simp)<;>omega);have HKl:=Lib.hid hlk;have HKj:Hid (keyJ l[k]=((uu:Int),(ii:Int))):=Lib.hid (by rw [HJ.out];rfl);obtain ⟨mt,hmt⟩:∃ z,metB (pre x1 t++l.take k) ((uu:Int),(ii:Int))=z:=⟨_,rfl⟩;have HMt:=Lib.hid hmt;have HFew:Hid ((pre x1 t).length+k<=36):=Lib.hid (by
          have h1:=HGs2.out.few HC.out;rw [List.length_append,List.length_take,hn.out] at h1;omega)
         have S2k2:=S2k;clear hbn hn2 hrid hlk hmt;cases mt
         ·skip
          have hst:∀ F,F∈[FEq (.pointer (some ⟨bj,0,none⟩)),FEq (.int .i64 (uu:Int)),FEq (.bool true),FEq (.bool false),FEq (.bool false),FEq (.pointer (some ⟨bj,1,none⟩)),FEq (.int .i64 (ii:Int)),FEq (.pointer (some ⟨w.heap.size+1,2,none⟩)),FEq (.slice (some ⟨ab,ao,none⟩) 3 c2),FEq (.pointer (some ⟨bj,0,none⟩)),FEq (.int .i64 (uu:Int)),FEq (.pointer (some ⟨ab,ao+uu,none⟩)),FEq (.int .i64 au),FEq (.int .i64 (au - 1)),FEq (.bool true),FEq (.bool false),FEq (.bool false),FEq (.bool false),FEq (.map (some bm)),FEq (.pointer (some ⟨bj,0,none⟩)),FEq (.int .i64 (uu:Int)),FEq (.pointer (some ⟨bj,1,none⟩)),FEq (.int .i64 (ii:Int)),FEq (.agg #[.int .i64 (uu:Int),.int .i64 (ii:Int)])]->Stable [] F:=by repeat first|exact st_nil|refine st_eq ?_
          refine wp_tailH hst tbtlmOk18 (fun _ w'=>Below w4.heap.size w4 w') 144 26 24 [some 76,some 77,some 78,some 79,some 80,some 81,some 82,some 83,some 84,some 85,some 86,some 87,some 88,some 89,some 90,some 91,some 92,some 93,some 94,some 95,some 96,some 97,some 98,some 99] _ [(17,false),(4,false)] ?h0 ?hop ?hend
          case h0=>exact (Below.refl _ _).drew
          case hop =>
           refine ⟨⟨⟨⟨⟨⟨⟨⟨⟨⟨⟨⟨⟨⟨⟨⟨⟨⟨⟨⟨⟨⟨⟨⟨trivial,?_⟩,?_⟩,?_⟩,?_⟩,?_⟩,?_⟩,?_⟩,?_⟩,?_⟩,?_⟩,?_⟩,?_⟩,?_⟩,?_⟩,?_⟩,?_⟩,?_⟩,?_⟩,?_⟩,?_⟩,?_⟩,?_⟩,?_⟩,?_⟩
           ·exact Owes.k0 144 [(12,.pointer (some ⟨bj,0,none⟩))]
           ·exact Owes.c1 144 76 0 D0
           ·refine Owes.mk _ rfl rfl (fun _ _ h=>by cases h) fun u m w' hm hI hR=>⟨⟨(frm 144 [(77,u 1)]).toArray,[]⟩,rfl,fun d hd=>by cases hd;exact frm_lt (by decide),?_⟩;dsimp only [frm,List.foldl,List.replicate,List.set];have e1:u 1=_:=hR 1 (by decide);rw [e1];clear e1;have HI:=Lib.hid hI;clear hI hR hst;go_wp2_with fail
            refine (isMaster_any _ _).mono ?_;rw [HWho.out];rintro e w5 ⟨rfl,rfl⟩;go_wp2;exact ⟨rfl,_,rfl,rfl,HI.out,fun _ _ h=>h⟩
           ·exact Owes.k1 144 78 2
           ·exact Owes.k1 144 79 3
           ·exact Owes.k0G 144 [(12,.pointer (some ⟨bj,0,none⟩))]
           ·exact Owes.c1G 144 81 5 D1
           ·exact Owes.k0G 144 [(3,.pointer (some ⟨w.heap.size+1,0,none⟩))]
           ·exact Owes.c1G 144 83 7 S2k
           ·exact Owes.k0G 144 [(12,.pointer (some ⟨bj,0,none⟩))]
           ·exact Owes.c1G 144 85 9 D0
           ·exact Owes.k2G 144 84 8 86 10
           ·exact Owes.c1G 144 87 11 A0
           ·refine Owes.mkG _ _ rfl rfl (fun _ _ h=>by cases h) fun u m w' hm hI hR=>⟨⟨(frm 144 [(88,u 12)]).toArray,[]⟩,rfl,fun d hd=>by cases hd;exact frm_lt (by decide),?_⟩;dsimp only [frm,List.foldl,List.replicate,List.set];have e12:u 12=_:=hR 12 (by decide);rw [e12];clear e12;have HI:=Lib.hid hI;clear hI hst hR;go_wp2;exact ⟨rfl,_,rfl,(by show _=_;go_num),HI.out,fun _ _ h=>h⟩
           ·refine Owes.mkG _ _ rfl rfl (fun _ _ h=>by cases h) fun u m w' hm hI hR=>⟨⟨(frm 144 [(82,u 6),(89,u 13)]).toArray,[]⟩,rfl,fun d hd=>by cases hd;exact frm_lt (by decide),?_⟩;dsimp only [frm,List.foldl,List.replicate,List.set];have e6:u 6=_:=hR 6 (by decide);have e13:u 13=_:=hR 13 (by decide);rw [e6,e13];clear e6 e13;have HI:=Lib.hid hI;clear hI hR hst;go_wp2_with fail
            refine (in_any _ _ _ _).mono ?_;rw [HN.out];rintro e w5 ⟨rfl,rfl⟩;go_wp2;exact ⟨rfl,_,rfl,rfl,HI.out,fun _ _ h=>h⟩
           ·exact Owes.k1G 144 90 14
           ·exact Owes.k2 144 80 4 91 15
           ·exact Owes.k1 144 92 16
           ·exact Owes.k0G 144 [(8,.map (some bm))]
           ·exact Owes.k0G 144 [(12,.pointer (some ⟨bj,0,none⟩))]
           ·exact Owes.c1G 144 95 19 D0
           ·exact Owes.k0G 144 [(12,.pointer (some ⟨bj,0,none⟩))]
           ·exact Owes.c1G 144 97 21 D1
           ·exact Owes.k2G 144 96 20 98 22
          case hend =>
           intro u w' hI hR;simp only [setAll,List.set_cons_zero,List.set_cons_succ];have e17:u 17=_:=hR 17 (by decide);have e18:u 18=_:=hR 18 (by decide);have e23:u 23=_:=hR 23 (by decide);rw [e17,e18,e23];clear e17 e18 e23;have hb5:=hI;have hBo5:=HBo4.out.below hb5;have HBo5:=Lib.hid hBo5;have D0n:=keep_cell hb5 D0;have D1n:=keep_cell hb5 D1;have D2n:=keep_cell hb5 D2;have D3n:=keep_cell hb5 D3;have D4n:=keep_cell hb5 D4;have GD5:=Lib.hid (SlR.below intR_fits GD4.out hb5);have HC5:=Lib.hid (c4.trans' (hb5.chg [bm]));clear hR hst hI hb5 hBo5 D0 D1 D2 D3 D4 A0 S2k S2k2 c4;refine wpList_guarded rfl ?_;refine wpList_lookB rfl _ _ 140 rfl jkKeyed Try.underlying140 Try.underlying4 (zero_bool _) rfl HBo5.out ((uu:Int),(ii:Int)) lk rfl HKl.out ?_;rw [HMt.out];have D0:=D0n;have D1:=D1n;have D2:=D2n;have D3:=D3n;have D4:=D4n;go_wp2_with (at_mapUpdate;refine wpList_setB rfl _ _ _ 140 rfl jkKeyed Try.underlying140 Try.underlying4 keyV_inj rfl HBo5.out (by unfold maxLen;have:=HFew.out;omega) ((uu:Int),(ii:Int)) lk HMt.out rfl rfl HKl.out ?_;intro w9 hm9 hg9)
           clear D0 D1 D2 D3 D4;have c9:=chg_row hg9;have c59:=HC5.out.trans' c9;have HC9:=Lib.hid c59;have HTk:Hid (l.take (k+1)=l.take k++[l[k]]):=Lib.hid (List.take_succ_eq_append_getElem hLk);have HGs9:Hid (GoodSo x0 x1.asked (pre x1 t++l.take (k+1))):=Lib.hid (by
            rw [HTk.out,<- List.append_assoc];exact HGs2.out.snoc HFit.out (by rw [HKj.out];exact HMt.out))
           have HBo9:Hid (BoolM Try.prog 143 4 keyV bm ((pre x1 t).length+(k+1)) w9 (metB (pre x1 t++l.take (k+1))) ((pre x1 t).length+(k+1))):=Lib.hid (by
            rw [HTk.out,<- List.append_assoc,metB_snoc,HKj.out];exact hm9)
           have D0:=keep_cell_chg c9 D0n (by simp;omega);have D1:=keep_cell_chg c9 D1n (by simp;omega);have D2:=keep_cell_chg c9 D2n (by simp;omega);have D3:=keep_cell_chg c9 D3n (by simp;omega);have D4:=keep_cell_chg c9 D4n (by simp;omega);have Z0:=keep_cell_chg c59 X0.out (by simp;omega);have Z1:=keep_cell_chg c59 X1.out (by simp;omega);have Z2:=keep_cell_chg c59 X2.out (by simp;omega);have GD9:=Lib.hid (GD5.out.chg intR_fits c9 (fun q hq=>by have:=HDf.out q hq;simp;omega));have G29:=Lib.hid (G2.out.chg (slR_fits reqR_fits) c59 (fun q hq=>by have:=HF2.out q hq;simp;omega));have HBZ:Hid (∀ x,Below w9.heap.size w9 x->Below w.heap.size w x):=Lib.hid (fun x hx=>by
            have h1:=HBlow.out.trans (c59.under HBlow.out.size (fun q hq=>by simp at hq;omega));exact h1.trans (hx.mono h1.size))
           clear D0n D1n D2n D3n D4n hm9 hg9 c9 c59 GD5;by_cases ht0:t=0
           ·have hz1:((t:Int) == 0)=true:=by rw [ht0];rfl
            have hz2:decide (0<(t:Int))=false:=decide_eq_false (by omega);have HD:Hid (decide (0<t)=false):=Lib.hid (decide_eq_false (by omega));have hz3:=HD.out;clear ht0;obtain ⟨nn,hnn⟩:∃ z,rspNone ⟨ji,jc,jd⟩=z:=⟨_,rfl⟩;have HNn:=Lib.hid hnn;clear hnn;cases nn
            ·skip
             have hst:∀ F,F∈[FEq (.int .i64 (t:Int)),FEq (.bool true),FEq (.bool true),FEq (.pointer (some ⟨bj,2,none⟩)),FEq (.agg #[.int .i64 ji,.int .i64 jc,.slice dva dvn dvc]),FEq (.bool false),FEq (.bool true),FEq (.bool true),FEq (.bool true),FEq undef,FEq undef,FEq undef,FEq undef,FEq undef,FEq undef,FEq undef,FEq undef,FEq undef,FEq undef,FEq undef,FEq undef,FEq undef,FEq undef,FEq undef,FEq undef,FEq undef,FEq undef,FEq undef,FEq undef]->Stable [] F:=by repeat first|exact st_nil|refine st_eq ?_
             refine wp_skip2H hst tbtlmOk21 (fun _ w'=>Below w9.heap.size w9 w') 144 30 29 [some 108,some 109,some 110,some 111,some 112,some 113,some 114,some 115,some 116,some 117,some 118,some 119,some 120,some 121,some 122,some 123,some 124,some 125,some 126,some 127,some 128,some 129,some 130,some 131,some 132,some 133,some 134,some 135,some 136] _ [9,10,11,12,13,14,15,16,17,18,19,20,21,22,23,24,25,26,27,28] [(2,true),(8,true)] ?h0 ?hop ?hend
             case h0=>exact (Below.refl _ _).drew
             case hop =>
              refine ⟨⟨⟨⟨⟨⟨⟨⟨⟨⟨⟨⟨⟨⟨⟨⟨⟨⟨⟨⟨⟨⟨⟨⟨⟨⟨⟨⟨⟨trivial,?_⟩,?_⟩,?_⟩,?_⟩,?_⟩,?_⟩,?_⟩,?_⟩,?_⟩,?_⟩,?_⟩,?_⟩,?_⟩,?_⟩,?_⟩,?_⟩,?_⟩,?_⟩,?_⟩,?_⟩,?_⟩,?_⟩,?_⟩,?_⟩,?_⟩,?_⟩,?_⟩,?_⟩,?_⟩
              all_goals first|exact .inl (by decide)|skip
              ·exact .inr (Owes.k0 144 [(9,.int .i64 (t:Int))])
              ·exact .inr (Owes.k1 144 108 0)
              ·exact .inr (Owes.k1 144 109 1)
              ·exact .inr (Owes.k0G 144 [(12,.pointer (some ⟨bj,0,none⟩))])
              ·refine .inr (Owes.qG 144 (fun u=>[(111,u 3)]) fun u w' hI hR=>?_);dsimp only [frm,List.foldl,List.replicate,List.set];obtain ⟨_,hI⟩:=hI;have k2:=keep_cell hI D2;have k3:=keep_cell hI D3;have k4:=keep_cell hI D4;have e3:u 3=_:=hR 3 (by decide);rw [e3];clear hI hst hR;go_wp2;exact ⟨rfl,_,rfl,rfl,rfl⟩
              ·refine .inr (Owes.mkG _ _ rfl rfl (fun _ _ h=>by cases h) fun u m w' hm hI hR=>⟨⟨(frm 144 [(112,u 4)]).toArray,[]⟩,rfl,fun d hd=>by cases hd;exact frm_lt (by decide),?_⟩);dsimp only [frm,List.foldl,List.replicate,List.set];have e4:u 4=_:=hR 4 (by decide);rw [e4];clear e4;have GD6:=Lib.hid (SlR.below intR_fits GD9.out hI);have HI:=Lib.hid hI;clear hI hR;go_wp2_with fail
               refine (none_any ⟨ji,jc,jd⟩ _ df _ GD6.out).mono ?_;rw [HNn.out];rintro e w5 ⟨rfl,b5⟩;have HS5:=Lib.hid (facts_stable hst (b5.chg []));have HI5:=Lib.hid (HI.out.trans (b5.mono HI.out.size));clear b5 hst;go_wp2;exact ⟨rfl,_,rfl,rfl,HI5.out,HS5.out⟩
              ·exact .inr (Owes.k1G 144 113 5)
              ·exact .inr (Owes.k2 144 110 2 114 6)
              ·exact .inr (Owes.k1 144 115 7)
             case hend =>
              intro u w' hI hR;simp only [setAll,List.set_cons_zero,List.set_cons_succ];have e8:u 8=_:=hR 8 (by decide);rw [e8];clear e8;have BB:=Lib.hid (HBZ.out _ hI);clear hR hst hI D0 D1 D2 D3 D4 Z0 Z1 Z2;go_wp2;go_ret;exact ⟨ret_bool (show tlmOkI x0 x1=false from HNo1.out k hLk (by rw [HD.out,HGd2.out];exact HNn.out)).symm,BB.out⟩
            ·skip
             have hst:∀ F,F∈[FEq (.int .i64 (t:Int)),FEq (.bool true),FEq (.bool true),FEq (.pointer (some ⟨bj,2,none⟩)),FEq (.agg #[.int .i64 ji,.int .i64 jc,.slice dva dvn dvc]),FEq (.bool true),FEq (.bool false),FEq (.bool false),FEq (.bool false),FEq (.int .i64 (t:Int)),FEq (.bool false),FEq (.bool false),FEq undef,FEq undef,FEq undef,FEq undef,FEq undef,FEq undef,FEq undef,FEq undef,FEq undef,FEq undef,FEq undef,FEq undef,FEq undef,FEq undef,FEq undef,FEq undef,FEq (.bool false)]->Stable [] F:=by repeat first|exact st_nil|refine st_eq ?_
             refine wp_skip2H hst tbtlmOk21 (fun _ w'=>Below w9.heap.size w9 w') 144 30 29 [some 108,some 109,some 110,some 111,some 112,some 113,some 114,some 115,some 116,some 117,some 118,some 119,some 120,some 121,some 122,some 123,some 124,some 125,some 126,some 127,some 128,some 129,some 130,some 131,some 132,some 133,some 134,some 135,some 136] _ [12,13,14,15,16,17,18,19,20,21,22,23,24,25,26,27] [(11,false),(2,true),(8,false)] ?h0 ?hop ?hend
             case h0=>exact (Below.refl _ _).drew
             case hop =>
              refine ⟨⟨⟨⟨⟨⟨⟨⟨⟨⟨⟨⟨⟨⟨⟨⟨⟨⟨⟨⟨⟨⟨⟨⟨⟨⟨⟨⟨⟨trivial,?_⟩,?_⟩,?_⟩,?_⟩,?_⟩,?_⟩,?_⟩,?_⟩,?_⟩,?_⟩,?_⟩,?_⟩,?_⟩,?_⟩,?_⟩,?_⟩,?_⟩,?_⟩,?_⟩,?_⟩,?_⟩,?_⟩,?_⟩,?_⟩,?_⟩,?_⟩,?_⟩,?_⟩,?_⟩
              all_goals first|exact .inl (by decide)|skip
              ·exact .inr (Owes.k0 144 [(9,.int .i64 (t:Int))])
              ·exact .inr (Owes.k1 144 108 0)
              ·exact .inr (Owes.k1 144 109 1)
              ·exact .inr (Owes.k0G 144 [(12,.pointer (some ⟨bj,0,none⟩))])
              ·refine .inr (Owes.qG 144 (fun u=>[(111,u 3)]) fun u w' hI hR=>?_);dsimp only [frm,List.foldl,List.replicate,List.set];obtain ⟨_,hI⟩:=hI;have k2:=keep_cell hI D2;have k3:=keep_cell hI D3;have k4:=keep_cell hI D4;have e3:u 3=_:=hR 3 (by decide);rw [e3];clear hI hst hR;go_wp2;exact ⟨rfl,_,rfl,rfl,rfl⟩
              ·refine .inr (Owes.mkG _ _ rfl rfl (fun _ _ h=>by cases h) fun u m w' hm hI hR=>⟨⟨(frm 144 [(112,u 4)]).toArray,[]⟩,rfl,fun d hd=>by cases hd;exact frm_lt (by decide),?_⟩);dsimp only [frm,List.foldl,List.replicate,List.set];have e4:u 4=_:=hR 4 (by decide);rw [e4];clear e4;have GD6:=Lib.hid (SlR.below intR_fits GD9.out hI);have HI:=Lib.hid hI;clear hI hR;go_wp2_with fail
               refine (none_any ⟨ji,jc,jd⟩ _ df _ GD6.out).mono ?_;rw [HNn.out];rintro e w5 ⟨rfl,b5⟩;have HS5:=Lib.hid (facts_stable hst (b5.chg []));have HI5:=Lib.hid (HI.out.trans (b5.mono HI.out.size));clear b5 hst;go_wp2;exact ⟨rfl,_,rfl,rfl,HI5.out,HS5.out⟩
              ·exact .inr (Owes.k1G 144 113 5)
              ·exact .inr (Owes.k2 144 110 2 114 6)
              ·exact .inr (Owes.k1 144 115 7)
              ·exact .inr (Owes.k0G 144 [(9,.int .i64 (t:Int))])
              ·exact .inr (Owes.k1G 144 117 9)
              ·exact .inr (Owes.k1G 144 118 10)
              ·exact .inr (Owes.k2G 144 119 11 135 27)
             case hend =>
              intro u w' hI hR;simp only [setAll,List.set_cons_zero,List.set_cons_succ];have e8:u 8=_:=hR 8 (by decide);have e28:u 28=_:=hR 28 (by decide);rw [e8,e28];clear e8 e28;have HBo10:=Lib.hid (HBo9.out.below hI);have HC10:=Lib.hid (HC9.out.trans' (hI.chg [bm]));have HYes:Hid (jobGood x0 x1.asked (decide (0<t)) l[k]=true):=Lib.hid (by rw [HD.out,HGd2.out];exact HNn.out);have HGd9:Hid (∀ j (h:j<l.length),j<k+1->jobGood x0 x1.asked (decide (0<t)) l[j]=true):=Lib.hid (good_succ hLk HGd.out HYes.out);have HK1:Hid (k+1<=n):=Lib.hid hlt;have HKn:Hid (Value.int .i64 ((k:Int)+1) = .int .i64 ((k+1:Nat):Int)):=Lib.hid rfl;clear hR hst hI D0 D1 D2 D3 D4 Z0 Z1 Z2;go_wp2
              go_roundw
              case rel=>exact ⟨k+1,HK1.out,HKn.out,HGs9.out,HGd9.out,HBo10.out,HC10.out⟩
              case measure=>simp [intOf];omega
           ·have hz1:((t:Int) == 0)=false:=beq_eq_false_iff_ne.2 (by omega);have hz2:decide (0<(t:Int))=true:=decide_eq_true (by omega);have HD:Hid (decide (0<t)=true):=Lib.hid (decide_eq_true (by omega));have hz3:=HD.out;clear ht0;obtain ⟨nn,hnn⟩:∃ z,rspOk ⟨ji,jc,jd⟩=z:=⟨_,rfl⟩;have HRk:=Lib.hid hnn;clear hnn;cases nn
            ·skip
             have hst:∀ F,F∈[FEq (.int .i64 (t:Int)),FEq (.bool false),FEq (.bool false),FEq undef,FEq undef,FEq undef,FEq undef,FEq (.bool false),FEq (.bool false),FEq (.int .i64 (t:Int)),FEq (.bool true),FEq (.bool true),FEq (.pointer (some ⟨bj,2,none⟩)),FEq (.agg #[.int .i64 ji,.int .i64 jc,.slice dva dvn dvc]),FEq (.bool false),FEq (.bool true),FEq (.bool true),FEq undef,FEq undef,FEq undef,FEq undef,FEq undef,FEq undef,FEq undef,FEq undef,FEq undef,FEq undef,FEq (.bool true),FEq (.bool true)]->Stable [] F:=by repeat first|exact st_nil|refine st_eq ?_
             refine wp_skipH hst tbtlmOk21 (fun _ w'=>Below w9.heap.size w9 w') 144 30 29 [some 108,some 109,some 110,some 111,some 112,some 113,some 114,some 115,some 116,some 117,some 118,some 119,some 120,some 121,some 122,some 123,some 124,some 125,some 126,some 127,some 128,some 129,some 130,some 131,some 132,some 133,some 134,some 135,some 136] _ [3,4,5,6,17,18,19,20,21,22,23,24,25,26] [(11,true),(16,true),(2,false),(8,false)] ?h0 ?hop ?hend
             case h0=>exact (Below.refl _ _).drew
             case hop =>
              refine ⟨⟨⟨⟨⟨⟨⟨⟨⟨⟨⟨⟨⟨⟨⟨⟨⟨⟨⟨⟨⟨⟨⟨⟨⟨⟨⟨⟨⟨trivial,?_⟩,?_⟩,?_⟩,?_⟩,?_⟩,?_⟩,?_⟩,?_⟩,?_⟩,?_⟩,?_⟩,?_⟩,?_⟩,?_⟩,?_⟩,?_⟩,?_⟩,?_⟩,?_⟩,?_⟩,?_⟩,?_⟩,?_⟩,?_⟩,?_⟩,?_⟩,?_⟩,?_⟩,?_⟩
              all_goals first|exact .inl (by decide)|skip
              ·exact .inr (Owes.k0 144 [(9,.int .i64 (t:Int))])
              ·exact .inr (Owes.k1 144 108 0)
              ·exact .inr (Owes.k1 144 109 1)
              ·exact .inr (Owes.k2 144 110 2 114 6)
              ·exact .inr (Owes.k1 144 115 7)
              ·exact .inr (Owes.k0G 144 [(9,.int .i64 (t:Int))])
              ·exact .inr (Owes.k1G 144 117 9)
              ·exact .inr (Owes.k1G 144 118 10)
              ·exact .inr (Owes.k0G 144 [(12,.pointer (some ⟨bj,0,none⟩))])
              ·refine .inr (Owes.qG 144 (fun u=>[(120,u 12)]) fun u w' hI hR=>?_);dsimp only [frm,List.foldl,List.replicate,List.set];obtain ⟨_,hI⟩:=hI;have k2:=keep_cell hI D2;have k3:=keep_cell hI D3;have k4:=keep_cell hI D4;have e12:u 12=_:=hR 12 (by decide);rw [e12];clear hI hst hR;go_wp2;exact ⟨rfl,_,rfl,rfl,rfl⟩
              ·refine .inr (Owes.mkG _ _ rfl rfl (fun _ _ h=>by cases h) fun u m w' hm hI hR=>⟨⟨(frm 144 [(121,u 13)]).toArray,[]⟩,rfl,fun d hd=>by cases hd;exact frm_lt (by decide),?_⟩);dsimp only [frm,List.foldl,List.replicate,List.set];have e13:u 13=_:=hR 13 (by decide);rw [e13];clear e13;have GD6:=Lib.hid (SlR.below intR_fits GD9.out hI);have HI:=Lib.hid hI;clear hI hR;go_wp2_with fail
               refine (iRspOk_any ⟨ji,jc,jd⟩ _ df _ GD6.out).mono ?_;rw [HRk.out];rintro e w5 ⟨rfl,b5⟩;have HS5:=Lib.hid (facts_stable hst (b5.chg []));have HI5:=Lib.hid (HI.out.trans (b5.mono HI.out.size));clear b5 hst;go_wp2;exact ⟨rfl,_,rfl,rfl,HI5.out,HS5.out⟩
              ·exact .inr (Owes.k1G 144 122 14)
              ·exact .inr (Owes.k1G 144 123 15)
              ·exact .inr (Owes.k2G 144 124 16 134 26)
              ·exact .inr (Owes.k2G 144 119 11 135 27)
             case hend =>
              intro u w' hI hR;simp only [setAll,List.set_cons_zero,List.set_cons_succ];have e8:u 8=_:=hR 8 (by decide);have e28:u 28=_:=hR 28 (by decide);rw [e8,e28];clear e8 e28;have BB:=Lib.hid (HBZ.out _ hI);clear hR hst hI D0 D1 D2 D3 D4 Z0 Z1 Z2;go_wp2;go_ret;exact ⟨ret_bool (show tlmOkI x0 x1=false from HNo1.out k hLk (by rw [HD.out,HGd2.out];unfold jobCame;rw [if_pos rfl,HRk.out];rfl)).symm,BB.out⟩
            ·obtain ⟨id2,hid2⟩:∃ z,(ji == rid)=z:=⟨_,rfl⟩;have HEq:=Lib.hid hid2;have hne:(ji != rid) = !id2:=by rw [bne,hid2]
             clear hid2;cases id2
             ·skip
              have hst:∀ F,F∈[FEq (.int .i64 (t:Int)),FEq (.bool false),FEq (.bool false),FEq undef,FEq undef,FEq undef,FEq undef,FEq (.bool false),FEq (.bool false),FEq (.int .i64 (t:Int)),FEq (.bool true),FEq (.bool true),FEq (.pointer (some ⟨bj,2,none⟩)),FEq (.agg #[.int .i64 ji,.int .i64 jc,.slice dva dvn dvc]),FEq (.bool true),FEq (.bool false),FEq (.bool false),FEq (.pointer (some ⟨bj,2,none⟩)),FEq (.pointer (some ⟨bj,2,none⟩)),FEq (.int .i64 ji),FEq (.agg #[v0,v1,.slice ap 3 pc]),FEq (.pointer (some ⟨bj,0,none⟩)),FEq (.int .i64 (uu:Int)),FEq (.pointer (some ⟨bj,1,none⟩)),FEq (.int .i64 (ii:Int)),FEq (.int .i64 rid),FEq (.bool true),FEq (.bool true),FEq (.bool true)]->Stable [] F:=by repeat first|exact st_nil|refine st_eq ?_
              refine wp_skipH hst tbtlmOk21 (fun _ w'=>Below w9.heap.size w9 w') 144 30 29 [some 108,some 109,some 110,some 111,some 112,some 113,some 114,some 115,some 116,some 117,some 118,some 119,some 120,some 121,some 122,some 123,some 124,some 125,some 126,some 127,some 128,some 129,some 130,some 131,some 132,some 133,some 134,some 135,some 136] _ [3,4,5,6] [(11,true),(16,false),(2,false),(8,false)] ?h0 ?hop ?hend
              case h0=>exact (Below.refl _ _).drew
              case hop =>
               refine ⟨⟨⟨⟨⟨⟨⟨⟨⟨⟨⟨⟨⟨⟨⟨⟨⟨⟨⟨⟨⟨⟨⟨⟨⟨⟨⟨⟨⟨trivial,?_⟩,?_⟩,?_⟩,?_⟩,?_⟩,?_⟩,?_⟩,?_⟩,?_⟩,?_⟩,?_⟩,?_⟩,?_⟩,?_⟩,?_⟩,?_⟩,?_⟩,?_⟩,?_⟩,?_⟩,?_⟩,?_⟩,?_⟩,?_⟩,?_⟩,?_⟩,?_⟩,?_⟩,?_⟩
               all_goals first|exact .inl (by decide)|skip
               ·exact .inr (Owes.k0 144 [(9,.int .i64 (t:Int))])
               ·exact .inr (Owes.k1 144 108 0)
               ·exact .inr (Owes.k1 144 109 1)
               ·exact .inr (Owes.k2 144 110 2 114 6)
               ·exact .inr (Owes.k1 144 115 7)
               ·exact .inr (Owes.k0G 144 [(9,.int .i64 (t:Int))])
               ·exact .inr (Owes.k1G 144 117 9)
               ·exact .inr (Owes.k1G 144 118 10)
               ·exact .inr (Owes.k0G 144 [(12,.pointer (some ⟨bj,0,none⟩))])
               ·refine .inr (Owes.qG 144 (fun u=>[(120,u 12)]) fun u w' hI hR=>?_);dsimp only [frm,List.foldl,List.replicate,List.set];obtain ⟨_,hI⟩:=hI;have k2:=keep_cell hI D2;have k3:=keep_cell hI D3;have k4:=keep_cell hI D4;have e12:u 12=_:=hR 12 (by decide);rw [e12];clear hI hst hR;go_wp2;exact ⟨rfl,_,rfl,rfl,rfl⟩
               ·refine .inr (Owes.mkG _ _ rfl rfl (fun _ _ h=>by cases h) fun u m w' hm hI hR=>⟨⟨(frm 144 [(121,u 13)]).toArray,[]⟩,rfl,fun d hd=>by cases hd;exact frm_lt (by decide),?_⟩);dsimp only [frm,List.foldl,List.replicate,List.set];have e13:u 13=_:=hR 13 (by decide);rw [e13];clear e13;have GD6:=Lib.hid (SlR.below intR_fits GD9.out hI);have HI:=Lib.hid hI;clear hI hR;go_wp2_with fail
                refine (iRspOk_any ⟨ji,jc,jd⟩ _ df _ GD6.out).mono ?_;rw [HRk.out];rintro e w5 ⟨rfl,b5⟩;have HS5:=Lib.hid (facts_stable hst (b5.chg []));have HI5:=Lib.hid (HI.out.trans (b5.mono HI.out.size));clear b5 hst;go_wp2;exact ⟨rfl,_,rfl,rfl,HI5.out,HS5.out⟩
               ·exact .inr (Owes.k1G 144 122 14)
               ·exact .inr (Owes.k1G 144 123 15)
               ·exact .inr (Owes.k0G 144 [(12,.pointer (some ⟨bj,0,none⟩))])
               ·exact .inr (Owes.k1G 144 125 17)
               ·exact .inr (Owes.c1G 144 126 18 D2)
               ·refine .inr (Owes.qG 144 (fun u=>[(2,.pointer (some ⟨w.heap.size,0,none⟩))]) fun u w' hI hR=>?_);dsimp only [frm,List.foldl,List.replicate,List.set];obtain ⟨_,hI⟩:=hI;have k5:=keep_cell hI Z0;have k6:=keep_cell hI Z1;have k7:=keep_cell hI Z2;clear hI hst hR;go_wp2;exact ⟨rfl,_,rfl,rfl,rfl⟩
               ·exact .inr (Owes.k0G 144 [(12,.pointer (some ⟨bj,0,none⟩))])
               ·exact .inr (Owes.c1G 144 129 21 D0)
               ·exact .inr (Owes.k0G 144 [(12,.pointer (some ⟨bj,0,none⟩))])
               ·exact .inr (Owes.c1G 144 131 23 D1)
               ·refine .inr (Owes.mkG _ _ rfl rfl (fun _ _ h=>by cases h) fun u m w' hm hI hR=>⟨⟨(frm 144 [(128,u 20),(130,u 22),(132,u 24)]).toArray,[]⟩,rfl,fun d hd=>by cases hd;exact frm_lt (by decide),?_⟩);dsimp only [frm,List.foldl,List.replicate,List.set];have e20:u 20=_:=hR 20 (by decide);have e22:u 22=_:=hR 22 (by decide);have e24:u 24=_:=hR 24 (by decide);rw [e20,e22,e24];clear e20 e22 e24;have G26:=Lib.hid (SlR.below (slR_fits reqR_fits) G29.out hI);have HI:=Lib.hid hI;clear hI hR;go_wp2_with fail
                refine (id_any x0 uu ii hu4 hil _ _ _ fp2 _ G26.out).mono ?_;rw [HId.out];rintro e w5 ⟨rfl,b5⟩;have HS5:=Lib.hid (facts_stable hst (b5.chg []));have HI5:=Lib.hid (HI.out.trans (b5.mono HI.out.size));clear b5 hst;go_wp2;exact ⟨rfl,_,rfl,rfl,HI5.out,HS5.out⟩
               ·exact .inr (Owes.k2G 144 127 19 133 25)
               ·exact .inr (Owes.k2G 144 124 16 134 26)
               ·exact .inr (Owes.k2G 144 119 11 135 27)
              case hend =>
               intro u w' hI hR;simp only [setAll,List.set_cons_zero,List.set_cons_succ];have e8:u 8=_:=hR 8 (by decide);have e28:u 28=_:=hR 28 (by decide);rw [e8,e28];clear e8 e28;have BB:=Lib.hid (HBZ.out _ hI);clear hR hst hI D0 D1 D2 D3 D4 Z0 Z1 Z2;go_wp2;go_ret;exact ⟨ret_bool (show tlmOkI x0 x1=false from HNo1.out k hLk (by rw [HD.out,HGd2.out];unfold jobCame;rw [if_pos rfl,HRk.out,HId.out];exact HEq.out)).symm,BB.out⟩
             ·skip
              have hst:∀ F,F∈[FEq (.int .i64 (t:Int)),FEq (.bool false),FEq (.bool false),FEq undef,FEq undef,FEq undef,FEq undef,FEq (.bool false),FEq (.bool false),FEq (.int .i64 (t:Int)),FEq (.bool true),FEq (.bool true),FEq (.pointer (some ⟨bj,2,none⟩)),FEq (.agg #[.int .i64 ji,.int .i64 jc,.slice dva dvn dvc]),FEq (.bool true),FEq (.bool false),FEq (.bool false),FEq (.pointer (some ⟨bj,2,none⟩)),FEq (.pointer (some ⟨bj,2,none⟩)),FEq (.int .i64 ji),FEq (.agg #[v0,v1,.slice ap 3 pc]),FEq (.pointer (some ⟨bj,0,none⟩)),FEq (.int .i64 (uu:Int)),FEq (.pointer (some ⟨bj,1,none⟩)),FEq (.int .i64 (ii:Int)),FEq (.int .i64 rid),FEq (.bool false),FEq (.bool false),FEq (.bool false)]->Stable [] F:=by repeat first|exact st_nil|refine st_eq ?_
              refine wp_skipH hst tbtlmOk21 (fun _ w'=>Below w9.heap.size w9 w') 144 30 29 [some 108,some 109,some 110,some 111,some 112,some 113,some 114,some 115,some 116,some 117,some 118,some 119,some 120,some 121,some 122,some 123,some 124,some 125,some 126,some 127,some 128,some 129,some 130,some 131,some 132,some 133,some 134,some 135,some 136] _ [3,4,5,6] [(11,true),(16,false),(2,false),(8,false)] ?h0 ?hop ?hend
              case h0=>exact (Below.refl _ _).drew
              case hop =>
               refine ⟨⟨⟨⟨⟨⟨⟨⟨⟨⟨⟨⟨⟨⟨⟨⟨⟨⟨⟨⟨⟨⟨⟨⟨⟨⟨⟨⟨⟨trivial,?_⟩,?_⟩,?_⟩,?_⟩,?_⟩,?_⟩,?_⟩,?_⟩,?_⟩,?_⟩,?_⟩,?_⟩,?_⟩,?_⟩,?_⟩,?_⟩,?_⟩,?_⟩,?_⟩,?_⟩,?_⟩,?_⟩,?_⟩,?_⟩,?_⟩,?_⟩,?_⟩,?_⟩,?_⟩
               all_goals first|exact .inl (by decide)|skip
               ·exact .inr (Owes.k0 144 [(9,.int .i64 (t:Int))])
               ·exact .inr (Owes.k1 144 108 0)
               ·exact .inr (Owes.k1 144 109 1)
               ·exact .inr (Owes.k2 144 110 2 114 6)
               ·exact .inr (Owes.k1 144 115 7)
               ·exact .inr (Owes.k0G 144 [(9,.int .i64 (t:Int))])
               ·exact .inr (Owes.k1G 144 117 9)
               ·exact .inr (Owes.k1G 144 118 10)
               ·exact .inr (Owes.k0G 144 [(12,.pointer (some ⟨bj,0,none⟩))])
               ·refine .inr (Owes.qG 144 (fun u=>[(120,u 12)]) fun u w' hI hR=>?_);dsimp only [frm,List.foldl,List.replicate,List.set];obtain ⟨_,hI⟩:=hI;have k2:=keep_cell hI D2;have k3:=keep_cell hI D3;have k4:=keep_cell hI D4;have e12:u 12=_:=hR 12 (by decide);rw [e12];clear hI hst hR;go_wp2;exact ⟨rfl,_,rfl,rfl,rfl⟩
               ·refine .inr (Owes.mkG _ _ rfl rfl (fun _ _ h=>by cases h) fun u m w' hm hI hR=>⟨⟨(frm 144 [(121,u 13)]).toArray,[]⟩,rfl,fun d hd=>by cases hd;exact frm_lt (by decide),?_⟩);dsimp only [frm,List.foldl,List.replicate,List.set];have e13:u 13=_:=hR 13 (by decide);rw [e13];clear e13;have GD6:=Lib.hid (SlR.below intR_fits GD9.out hI);have HI:=Lib.hid hI;clear hI hR;go_wp2_with fail
                refine (iRspOk_any ⟨ji,jc,jd⟩ _ df _ GD6.out).mono ?_;rw [HRk.out];rintro e w5 ⟨rfl,b5⟩;have HS5:=Lib.hid (facts_stable hst (b5.chg []));have HI5:=Lib.hid (HI.out.trans (b5.mono HI.out.size));clear b5 hst;go_wp2;exact ⟨rfl,_,rfl,rfl,HI5.out,HS5.out⟩
               ·exact .inr (Owes.k1G 144 122 14)
               ·exact .inr (Owes.k1G 144 123 15)
               ·exact .inr (Owes.k0G 144 [(12,.pointer (some ⟨bj,0,none⟩))])
               ·exact .inr (Owes.k1G 144 125 17)
               ·exact .inr (Owes.c1G 144 126 18 D2)
               ·refine .inr (Owes.qG 144 (fun u=>[(2,.pointer (some ⟨w.heap.size,0,none⟩))]) fun u w' hI hR=>?_);dsimp only [frm,List.foldl,List.replicate,List.set];obtain ⟨_,hI⟩:=hI;have k5:=keep_cell hI Z0;have k6:=keep_cell hI Z1;have k7:=keep_cell hI Z2;clear hI hst hR;go_wp2;exact ⟨rfl,_,rfl,rfl,rfl⟩
               ·exact .inr (Owes.k0G 144 [(12,.pointer (some ⟨bj,0,none⟩))])
               ·exact .inr (Owes.c1G 144 129 21 D0)
               ·exact .inr (Owes.k0G 144 [(12,.pointer (some ⟨bj,0,none⟩))])
               ·exact .inr (Owes.c1G 144 131 23 D1)
               ·refine .inr (Owes.mkG _ _ rfl rfl (fun _ _ h=>by cases h) fun u m w' hm hI hR=>⟨⟨(frm 144 [(128,u 20),(130,u 22),(132,u 24)]).toArray,[]⟩,rfl,fun d hd=>by cases hd;exact frm_lt (by decide),?_⟩);dsimp only [frm,List.foldl,List.replicate,List.set];have e20:u 20=_:=hR 20 (by decide);have e22:u 22=_:=hR 22 (by decide);have e24:u 24=_:=hR 24 (by decide);rw [e20,e22,e24];clear e20 e22 e24;have G26:=Lib.hid (SlR.below (slR_fits reqR_fits) G29.out hI);have HI:=Lib.hid hI;clear hI hR;go_wp2_with fail
                refine (id_any x0 uu ii hu4 hil _ _ _ fp2 _ G26.out).mono ?_;rw [HId.out];rintro e w5 ⟨rfl,b5⟩;have HS5:=Lib.hid (facts_stable hst (b5.chg []));have HI5:=Lib.hid (HI.out.trans (b5.mono HI.out.size));clear b5 hst;go_wp2;exact ⟨rfl,_,rfl,rfl,HI5.out,HS5.out⟩
               ·exact .inr (Owes.k2G 144 127 19 133 25)
               ·exact .inr (Owes.k2G 144 124 16 134 26)
               ·exact .inr (Owes.k2G 144 119 11 135 27)
              case hend =>
               intro u w' hI hR;simp only [setAll,List.set_cons_zero,List.set_cons_succ];have e8:u 8=_:=hR 8 (by decide);have e28:u 28=_:=hR 28 (by decide);rw [e8,e28];clear e8 e28;have HBo10:=Lib.hid (HBo9.out.below hI);have HC10:=Lib.hid (HC9.out.trans' (hI.chg [bm]));have HYes:Hid (jobGood x0 x1.asked (decide (0<t)) l[k]=true):=Lib.hid (by rw [HD.out,HGd2.out];unfold jobCame;rw [if_pos rfl,HRk.out,HId.out];exact HEq.out);have HGd9:Hid (∀ j (h:j<l.length),j<k+1->jobGood x0 x1.asked (decide (0<t)) l[j]=true):=Lib.hid (good_succ hLk HGd.out HYes.out);have HK1:Hid (k+1<=n):=Lib.hid hlt;have HKn:Hid (Value.int .i64 ((k:Int)+1) = .int .i64 ((k+1:Nat):Int)):=Lib.hid rfl;clear hR hst hI D0 D1 D2 D3 D4 Z0 Z1 Z2;go_wp2
               go_roundw
               case rel=>exact ⟨k+1,HK1.out,HKn.out,HGs9.out,HGd9.out,HBo10.out,HC10.out⟩
               case measure=>simp [intOf];omega
         ·skip
          have hst:∀ F,F∈[FEq (.pointer (some ⟨bj,0,none⟩)),FEq (.int .i64 (uu:Int)),FEq (.bool true),FEq (.bool false),FEq (.bool false),FEq (.pointer (some ⟨bj,1,none⟩)),FEq (.int .i64 (ii:Int)),FEq (.pointer (some ⟨w.heap.size+1,2,none⟩)),FEq (.slice (some ⟨ab,ao,none⟩) 3 c2),FEq (.pointer (some ⟨bj,0,none⟩)),FEq (.int .i64 (uu:Int)),FEq (.pointer (some ⟨ab,ao+uu,none⟩)),FEq (.int .i64 au),FEq (.int .i64 (au - 1)),FEq (.bool true),FEq (.bool false),FEq (.bool false),FEq (.bool false),FEq (.map (some bm)),FEq (.pointer (some ⟨bj,0,none⟩)),FEq (.int .i64 (uu:Int)),FEq (.pointer (some ⟨bj,1,none⟩)),FEq (.int .i64 (ii:Int)),FEq (.agg #[.int .i64 (uu:Int),.int .i64 (ii:Int)])]->Stable [] F:=by repeat first|exact st_nil|refine st_eq ?_
          refine wp_tailH hst tbtlmOk18 (fun _ w'=>Below w4.heap.size w4 w') 144 26 24 [some 76,some 77,some 78,some 79,some 80,some 81,some 82,some 83,some 84,some 85,some 86,some 87,some 88,some 89,some 90,some 91,some 92,some 93,some 94,some 95,some 96,some 97,some 98,some 99] _ [(17,false),(4,false)] ?h0 ?hop ?hend
          case h0=>exact (Below.refl _ _).drew
          case hop =>
           refine ⟨⟨⟨⟨⟨⟨⟨⟨⟨⟨⟨⟨⟨⟨⟨⟨⟨⟨⟨⟨⟨⟨⟨⟨trivial,?_⟩,?_⟩,?_⟩,?_⟩,?_⟩,?_⟩,?_⟩,?_⟩,?_⟩,?_⟩,?_⟩,?_⟩,?_⟩,?_⟩,?_⟩,?_⟩,?_⟩,?_⟩,?_⟩,?_⟩,?_⟩,?_⟩,?_⟩,?_⟩
           ·exact Owes.k0 144 [(12,.pointer (some ⟨bj,0,none⟩))]
           ·exact Owes.c1 144 76 0 D0
           ·refine Owes.mk _ rfl rfl (fun _ _ h=>by cases h) fun u m w' hm hI hR=>⟨⟨(frm 144 [(77,u 1)]).toArray,[]⟩,rfl,fun d hd=>by cases hd;exact frm_lt (by decide),?_⟩;dsimp only [frm,List.foldl,List.replicate,List.set];have e1:u 1=_:=hR 1 (by decide);rw [e1];clear e1;have HI:=Lib.hid hI;clear hI hR hst;go_wp2_with fail
            refine (isMaster_any _ _).mono ?_;rw [HWho.out];rintro e w5 ⟨rfl,rfl⟩;go_wp2;exact ⟨rfl,_,rfl,rfl,HI.out,fun _ _ h=>h⟩
           ·exact Owes.k1 144 78 2
           ·exact Owes.k1 144 79 3
           ·exact Owes.k0G 144 [(12,.pointer (some ⟨bj,0,none⟩))]
           ·exact Owes.c1G 144 81 5 D1
           ·exact Owes.k0G 144 [(3,.pointer (some ⟨w.heap.size+1,0,none⟩))]
           ·exact Owes.c1G 144 83 7 S2k
           ·exact Owes.k0G 144 [(12,.pointer (some ⟨bj,0,none⟩))]
           ·exact Owes.c1G 144 85 9 D0
           ·exact Owes.k2G 144 84 8 86 10
           ·exact Owes.c1G 144 87 11 A0
           ·refine Owes.mkG _ _ rfl rfl (fun _ _ h=>by cases h) fun u m w' hm hI hR=>⟨⟨(frm 144 [(88,u 12)]).toArray,[]⟩,rfl,fun d hd=>by cases hd;exact frm_lt (by decide),?_⟩;dsimp only [frm,List.foldl,List.replicate,List.set];have e12:u 12=_:=hR 12 (by decide);rw [e12];clear e12;have HI:=Lib.hid hI;clear hI hst hR;go_wp2;exact ⟨rfl,_,rfl,(by show _=_;go_num),HI.out,fun _ _ h=>h⟩
           ·refine Owes.mkG _ _ rfl rfl (fun _ _ h=>by cases h) fun u m w' hm hI hR=>⟨⟨(frm 144 [(82,u 6),(89,u 13)]).toArray,[]⟩,rfl,fun d hd=>by cases hd;exact frm_lt (by decide),?_⟩;dsimp only [frm,List.foldl,List.replicate,List.set];have e6:u 6=_:=hR 6 (by decide);have e13:u 13=_:=hR 13 (by decide);rw [e6,e13];clear e6 e13;have HI:=Lib.hid hI;clear hI hR hst;go_wp2_with fail
            refine (in_any _ _ _ _).mono ?_;rw [HN.out];rintro e w5 ⟨rfl,rfl⟩;go_wp2;exact ⟨rfl,_,rfl,rfl,HI.out,fun _ _ h=>h⟩
           ·exact Owes.k1G 144 90 14
           ·exact Owes.k2 144 80 4 91 15
           ·exact Owes.k1 144 92 16
           ·exact Owes.k0G 144 [(8,.map (some bm))]
           ·exact Owes.k0G 144 [(12,.pointer (some ⟨bj,0,none⟩))]
           ·exact Owes.c1G 144 95 19 D0
           ·exact Owes.k0G 144 [(12,.pointer (some ⟨bj,0,none⟩))]
           ·exact Owes.c1G 144 97 21 D1
           ·exact Owes.k2G 144 96 20 98 22
          case hend =>
           intro u w' hI hR;simp only [setAll,List.set_cons_zero,List.set_cons_succ];have e17:u 17=_:=hR 17 (by decide);have e18:u 18=_:=hR 18 (by decide);have e23:u 23=_:=hR 23 (by decide);rw [e17,e18,e23];clear e17 e18 e23;have hBo5:=HBo4.out.below hI;have HBo5:=Lib.hid hBo5;have BB:=Lib.hid (HBB.out _ hI);clear hR hst hI hBo5 D0 D1 D2 D3 D4 A0 S2k S2k2 c4;refine wpList_guarded rfl ?_;refine wpList_lookB rfl _ _ 140 rfl jkKeyed Try.underlying140 Try.underlying4 (zero_bool _) rfl HBo5.out ((uu:Int),(ii:Int)) lk rfl HKl.out ?_;rw [HMt.out];go_wp2;go_ret;exact ⟨ret_bool (show tlmOkI x0 x1=false from HNo2.out k hLk (by rw [HKj.out];exact HMt.out)).symm,BB.out⟩
      ·obtain rfl:k=n:=by omega
       have htk:l.take k=l:=List.take_of_length_le (by rw [hn.out];omega);have HTk:=Lib.hid htk;have HC2:=Lib.hid hc2;have HLn:Hid ((pre x1 (t+1)).length=(pre x1 t).length+k):=Lib.hid (by rw [HPre.out,List.length_append,hn.out]);clear htk hc2;go_wp2
       go_roundw
       case rel=>exact ⟨t+1,by omega,by go_num,(by rw [HPre.out];have:=HGs2.out;rw [HTk.out] at this;exact this),(fun q hq hqt=>by
        by_cases e:q=t
        ·subst e;have e2:=HLt.out;rw [e2,List.all_eq_true];intro x hx;obtain ⟨j,hj,rfl⟩:=List.mem_iff_getElem.1 hx;exact HGd.out j hj (by rw [hn.out] at hj;exact hj)
        ·exact HAl.out q hq (by omega)),(by rw [HLn.out,HPre.out];have:=HBo2.out;rw [HTk.out] at this;exact this),HC2.out⟩
       case measure=>simp [intOf];omega
    ·obtain rfl:t=3:=by omega
     have HFin:Hid (tlmOkI x0 x1=(((pre x1 3).length:Int) == mn)):=Lib.hid (by rw [HT2.out,HSum.out];exact jobsI_yes (fun q hq=>HAl.out q hq hq) HGs.out.2);have BB:=Lib.hid (HBlow.out.trans (hc.under HBlow.out.size (fun q hq=>by simp at hq;omega)));clear hc;go_wp2_with (refine wpList_lenB rfl _ 140 rfl Try.underlying140 rfl HBo.out ?_)
     go_ret;exact ⟨ret_bool HFin.out.symm,BB.out⟩
end Go.Proofs.Ytmcjklicepaiaaa
