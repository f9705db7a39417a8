/-
 Texts of this claim laid together: TlmN.
-/
import Derived.Test.YtmcjklicepaiaaaPk19
set_option linter.unusedVariables false
set_option linter.unusedSimpArgs false
namespace Go.Proofs.Ytmcjklicepaiaaa
open Go.RowKit Go.ChangeShapes Go.WideShapes
theorem tlmOk_in {c:Bus} {s:Tlm} (h:tlmOk c s=true):s.asked.length=3∧AskOk c s.asked∧toldOk c s.asked s.told=true∧(s.wait.length:Int)+s.done.length+s.told.length=s.asked.sum:=by
 unfold tlmOk tlmJobs at h;simp only [Bool.and_eq_true,decide_eq_true_eq,beq_iff_eq] at h;obtain ⟨hb,-,hl,ha,-,-,ht,hs,-⟩:=h;exact ⟨hl,askIn_ok hb hl ha,ht,hs⟩
theorem tlm_told {c:Bus} {s:Tlm} (h:tlmOk c s=true) (h0:0<s.asked.length) (r:Rsp):tlmOk c ⟨s.atm,s.asked,s.wait,s.done,s.told++[⟨0,s.asked[0],r⟩]⟩=false:=by
 have hg:jobGood c s.asked true (⟨0,s.asked[0],r⟩:Job)=false:=by
  unfold jobGood;rw [fit_at (k:=0) h0 rfl,show inB s.asked[0] 0 (s.asked[0] - 1)=false from by simp [inB];omega];simp
 have ht:toldOk c s.asked (s.told++[⟨0,s.asked[0],r⟩])=false:=told_no1 (k:=s.told.length) (by simp) (by simpa using hg);unfold tlmOk tlmJobs;dsimp only;rw [ht];simp
theorem sum_head {l:List Int} (h:0<l.length):l.sum=l[0]+(l.drop 1).sum:=by
 cases l with
 | nil=>simp at h
 | cons a l=>simp
theorem tlm_asked {c:Bus} {s:Tlm} (h:tlmOk c s=true) (h0:0<s.asked.length):tlmOk c ⟨s.atm,(s.asked[0]+1)::s.asked.drop 1,s.wait,s.done,s.told⟩=false:=by
 obtain ⟨hl,-,-,hs⟩:=tlmOk_in h;have e:=sum_head h0;have hn:((s.wait.length:Int)+s.done.length+s.told.length == ((s.asked[0]+1)::s.asked.drop 1).sum)=false:=by
  rw [List.sum_cons,hs,e];simp;omega
 unfold tlmOk tlmJobs;dsimp only;rw [hn];simp
end Go.Proofs.Ytmcjklicepaiaaa
