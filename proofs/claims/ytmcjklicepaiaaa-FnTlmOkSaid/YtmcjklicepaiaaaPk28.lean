/-
 Texts of this claim laid together: BusAt TS2.
-/
import Derived.Test.YtmcjklicepaiaaaPk25
import Derived.Test.YtmcjklicepaiaaaPk27
set_option linter.unusedVariables false
set_option linter.unusedSimpArgs false
namespace Go.Proofs.Ytmcjklicepaiaaa
open Go.RowKit Go.WideShapes
theorem reqOk_fit {x:Req} (h:reqOk x=true):reqFit x:=by
 unfold reqOk at h;simp only [Bool.and_eq_true,inB_true,beq_iff_eq,Bool.or_eq_true] at h;obtain ⟨h1,h2,h3,h4,h5,-⟩:=h;refine ⟨h1.1,h1.2,fun _ k1 k3=>?_⟩;have e:manyOf x=x.many:=by
  unfold manyOf;have:x.kind=2∨x.kind=4:=by omega
  rcases this with q|q<;>simp [writesB,q]
 rw [e] at h4 h5;exact ⟨h4,h5⟩
variable {L fq fm:List Nat} {rb bx cx:Nat} {T0 T T':Tab} {w0 w w':World} {M M':Int} {lm:List MR} {vm:Value} {la pa:Option Addr} {ln lc pn pc:Nat}
theorem Step.later {fp:List Nat} (s:Step fq T0 w0 T w) (hc:Chg fp w w') (h:∀ b,b∈fp->w0.heap.size<=b):Step fq T0 w0 T w' :=
 ⟨hc.os.trans s.os,hc.tape.trans s.tape,hc.output.trans s.output,Nat.le_trans s.size hc.size,fun b hb hn ht=>(hc.block b (Nat.lt_of_lt_of_le hb s.size) (fun hm=>by have:=h b hm;omega)).trans (s.block b hb hn ht),s.ext,s.fresh⟩
structure BusC (L:List Nat) (rb bx cx:Nat) (fq:List Nat) (w0:World):Prop where
 hrb:rb∈L
 hbx:bx∈L
 hcx:cx∈L
 hfq:∀ b,b∈fq->b∈L
 n1:bx≠rb
 n2:cx≠rb
 n3:bx≠cx
 n4:bx∉fq
 n5:cx∉fq
 l1:w0.heap.size<=bx
 l2:w0.heap.size<=cx
structure BusAt (G:Gd) (L:List Nat) (rb bx cx:Nat) (fq:List Nat) (T0:Tab) (w0:World) (M:Int) (lm:List MR) (fm:List Nat) (vm:Value) (T:Tab) (w:World) (la:Option Addr) (ln lc:Nat) (pa:Option Addr) (pn pc:Nat):Prop where
 th:TH G L T w
 st:Step [rb] T0 w0 T w
 rd:RdAt w rb fq M
 mp:SlR 4 mrR w lm vm fm
 fz:Fz L T w fm
 lat:SlA T 1 la ln lc
 prg:SlA T 4 pa pn pc
 c0:w.cell? ⟨bx,0,none⟩=some vm
 c1:w.cell? ⟨bx,1,none⟩=some (.slice la ln lc)
 c2:w.cell? ⟨bx,2,none⟩=some (.slice pa pn pc)
 fr:∀ o,w.frozen? ⟨bx,o,none⟩=false
 r0:∃ u,w.cell? ⟨cx,0,none⟩=some u
 r1:∃ u,w.cell? ⟨cx,1,none⟩=some u
 r2:∃ u,w.cell? ⟨cx,2,none⟩=some u
 fc:∀ o,w.frozen? ⟨cx,o,none⟩=false
variable {G:Gd}
theorem BusAt.draw (C:BusC L rb bx cx fq w0) (h:BusAt G L rb bx cx fq T0 w0 M lm fm vm T w la ln lc pa pn pc) (hc:Chg [rb] w w') (hr:RdAt w' rb fq M'):BusAt G L rb bx cx fq T0 w0 M' lm fm vm T w' la ln lc pa pn pc:=by
 have q:∀ b,b∈[rb]->b∈L:=by simpa using C.hrb
 have n1:bx∉[rb]:=by simpa using C.n1
 have n2:cx∉[rb]:=by simpa using C.n2
 exact ⟨h.th.chg hc q,h.st.trans (Step.of_chg hc),hr,h.mp.same mrR_fits (h.fz.same (Step.of_chg hc) q) hc.size,h.fz.step (Step.of_chg hc),h.lat,h.prg,keep_cell_chg hc h.c0 n1,keep_cell_chg hc h.c1 n1,keep_cell_chg hc h.c2 n1,
  fun o=>(World.frozen?_of_block (hc.block bx (block_of_cell h.c0) n1)).trans (h.fr o),h.r0.imp fun u e=>keep_cell_chg hc e n2,h.r1.imp fun u e=>keep_cell_chg hc e n2,h.r2.imp fun u e=>keep_cell_chg hc e n2,
  fun o=>(World.frozen?_of_block (hc.block cx (h.th.old cx C.hcx) n2)).trans (h.fc o)⟩
theorem BusAt.step (C:BusC L rb bx cx fq w0) (h:BusAt G L rb bx cx fq T0 w0 M lm fm vm T w la ln lc pa pn pc) (t:TH G L T' w') (s:Step [] T w T' w'):BusAt G L rb bx cx fq T0 w0 M lm fm vm T' w' la ln lc pa pn pc:=by
 have tb:=h.th.rd bx C.hbx;have tc:=h.th.rd cx C.hcx;exact ⟨t,h.st.trans (s.mono (by simp)),h.rd.step s (h.th.rd rb C.hrb) (fun b hb=>h.th.rd b (C.hfq b hb)) rfl,h.mp.same mrR_fits (h.fz.same s (by simp)) s.size,h.fz.step s,h.lat.ext s.ext,h.prg.ext s.ext,s.cell h.c0 (by simp) tb,s.cell h.c1 (by simp) tb,s.cell h.c2 (by simp) tb,
  fun o=>(World.frozen?_of_block (s.block bx (block_of_cell h.c0) (by simp) tb)).trans (h.fr o),h.r0.imp fun u e=>s.cell e (by simp) tc,h.r1.imp fun u e=>s.cell e (by simp) tc,h.r2.imp fun u e=>s.cell e (by simp) tc,
  fun o=>(World.frozen?_of_block (s.block cx (h.th.old cx C.hcx) (by simp) tc)).trans (h.fc o)⟩
theorem BusAt.below (C:BusC L rb bx cx fq w0) (h:BusAt G L rb bx cx fq T0 w0 M lm fm vm T w la ln lc pa pn pc) (hb:Below w.heap.size w w'):BusAt G L rb bx cx fq T0 w0 M lm fm vm T w' la ln lc pa pn pc :=
 h.step C (h.th.below hb) (Step.of_below [] hb)
theorem BusAt.mono (h:BusAt G L rb bx cx fq T0 w0 M lm fm vm T w la ln lc pa pn pc) (hm:M<=M'):BusAt G L rb bx cx fq T0 w0 M' lm fm vm T w la ln lc pa pn pc:={ h with rd:=h.rd.mono hm }
theorem BusAt.setLat (C:BusC L rb bx cx fq w0) (h:BusAt G L rb bx cx fq T0 w0 M lm fm vm T w la ln lc pa pn pc) {la':Option Addr} {ln' lc':Nat} (hA:SlA T 1 la' ln' lc'):BusAt G L rb bx cx fq T0 w0 M lm fm vm T (w.setCell ⟨bx,1,none⟩ (.slice la' ln' lc')) la' ln' lc' pa pn pc:=by
 have hc:Chg [bx] w (w.setCell ⟨bx,1,none⟩ (.slice la' ln' lc')):=store_chg _;have q:∀ b,b∈[bx]->b∈L:=by simpa using C.hbx
 exact ⟨h.th.chg hc q,h.st.later hc (by simpa using C.l1),h.rd.chg hc (by simpa using C.n1.symm) (fun b hb hm=>C.n4 (by simp at hm;subst hm;exact hb)),h.mp.same mrR_fits (h.fz.same (Step.of_chg hc) q) hc.size,h.fz.step (Step.of_chg hc),hA,h.prg,setOther _ (by decide) h.c0,setSame _ h.c1,setOther _ (by decide) h.c2,
  fun o=>(World.frozen?_setCell ..).trans (h.fr o),h.r0.imp fun u e=>setFar _ C.n3 e,h.r1.imp fun u e=>setFar _ C.n3 e,h.r2.imp fun u e=>setFar _ C.n3 e,fun o=>(World.frozen?_setCell ..).trans (h.fc o)⟩
theorem BusAt.setPrg (C:BusC L rb bx cx fq w0) (h:BusAt G L rb bx cx fq T0 w0 M lm fm vm T w la ln lc pa pn pc) {pa':Option Addr} {pn' pc':Nat} (hA:SlA T 4 pa' pn' pc'):BusAt G L rb bx cx fq T0 w0 M lm fm vm T (w.setCell ⟨bx,2,none⟩ (.slice pa' pn' pc')) la ln lc pa' pn' pc':=by
 have hc:Chg [bx] w (w.setCell ⟨bx,2,none⟩ (.slice pa' pn' pc')):=store_chg _;have q:∀ b,b∈[bx]->b∈L:=by simpa using C.hbx
 exact ⟨h.th.chg hc q,h.st.later hc (by simpa using C.l1),h.rd.chg hc (by simpa using C.n1.symm) (fun b hb hm=>C.n4 (by simp at hm;subst hm;exact hb)),h.mp.same mrR_fits (h.fz.same (Step.of_chg hc) q) hc.size,h.fz.step (Step.of_chg hc),h.lat,hA,setOther _ (by decide) h.c0,setOther _ (by decide) h.c1,setSame _ h.c2,
  fun o=>(World.frozen?_setCell ..).trans (h.fr o),h.r0.imp fun u e=>setFar _ C.n3 e,h.r1.imp fun u e=>setFar _ C.n3 e,h.r2.imp fun u e=>setFar _ C.n3 e,fun o=>(World.frozen?_setCell ..).trans (h.fc o)⟩
theorem BusAt.setMap (C:BusC L rb bx cx fq w0) (h:BusAt G L rb bx cx fq T0 w0 M lm fm vm T w la ln lc pa pn pc) {lm':List MR} {fm':List Nat} {vm':Value} (hm:SlR 4 mrR w lm' vm' fm') (hf:Fz L T w fm'):BusAt G L rb bx cx fq T0 w0 M lm' fm' vm' T (w.setCell ⟨bx,0,none⟩ vm') la ln lc pa pn pc:=by
 have hc:Chg [bx] w (w.setCell ⟨bx,0,none⟩ vm'):=store_chg _;have q:∀ b,b∈[bx]->b∈L:=by simpa using C.hbx
 exact ⟨h.th.chg hc q,h.st.later hc (by simpa using C.l1),h.rd.chg hc (by simpa using C.n1.symm) (fun b hb hm=>C.n4 (by simp at hm;subst hm;exact hb)),hm.same mrR_fits (hf.same (Step.of_chg hc) q) hc.size,hf.step (Step.of_chg hc),h.lat,h.prg,setSame _ h.c0,setOther _ (by decide) h.c1,setOther _ (by decide) h.c2,
  fun o=>(World.frozen?_setCell ..).trans (h.fr o),h.r0.imp fun u e=>setFar _ C.n3 e,h.r1.imp fun u e=>setFar _ C.n3 e,h.r2.imp fun u e=>setFar _ C.n3 e,fun o=>(World.frozen?_setCell ..).trans (h.fc o)⟩
structure BusPost (G:Gd) (L:List Nat) (rb:Nat) (fq:List Nat) (T0:Tab) (w0:World) (M:Int) (e:Ending) (w:World) (T:Tab) (lm:List MR) (fm:List Nat) (va:Option Addr) (vn vc:Nat) (la:Option Addr) (ln lc:Nat) (pa:Option Addr) (pn pc:Nat):Prop where
 ret:e = .returned (.agg #[.slice va vn vc,.slice la ln lc,.slice pa pn pc])
 th:TH G L T w
 st:Step [rb] T0 w0 T w
 rd:RdAt w rb fq M
 mp:SlR 4 mrR w lm (.slice va vn vc) fm
 fz:Fz L T w fm
 lat:SlA T 1 la ln lc
 prg:SlA T 4 pa pn pc
theorem BusAt.done {L':List Nat} {va:Option Addr} {vn vc:Nat} (C:BusC L rb bx cx fq w0) (h:BusAt G L rb bx cx fq T0 w0 M lm fm (.slice va vn vc) T w la ln lc pa pn pc) (hs:∀ b,b∈L'->b∈L) (hc:Chg [cx] w w'):BusPost G L' rb fq T0 w0 M (.returned (.agg #[.slice va vn vc,.slice la ln lc,.slice pa pn pc])) w' T lm fm va vn vc la ln lc pa pn pc:=by
 have q:∀ b,b∈[cx]->b∈L:=by simpa using C.hcx
 exact ⟨rfl,(h.th.chg hc q).closed hs,h.st.later hc (by simpa using C.l2),h.rd.chg hc (by simpa using C.n2.symm) (fun b hb hm=>C.n5 (by simp at hm;subst hm;exact hb)),h.mp.same mrR_fits (h.fz.same (Step.of_chg hc) q) hc.size,(h.fz.step (Step.of_chg hc)).closed hs,h.lat,h.prg⟩
end Go.Proofs.Ytmcjklicepaiaaa
namespace Go.Proofs.Ytmcjklicepaiaaa
open Go.RowKit Go.WideShapes
variable {G:Gd} {L:List Nat} {T T':Tab} {w w':World} {fm fw fh fa:List Nat} {lm:List MR} {vm vl vw vh va:Value} {pa:Option Addr} {pc m:Nat}
structure BusV (G:Gd) (L:List Nat) (lm:List MR) (vm vl:Value) (fm:List Nat) (pa:Option Addr) (pc:Nat) (T:Tab) (w:World):Prop where
 mp:SlR 4 mrR w lm vm fm
 fz:Fz L T w fm
 prg:SlA T 4 pa 3 pc
 vl:∃ a n c,vl = .slice a n c
theorem BusV.step {fq:List Nat} (h:BusV G L lm vm vl fm pa pc T w) (s:Step fq T w T' w') (hq:∀ b,b∈fq->b∈L):BusV G L lm vm vl fm pa pc T' w' :=
 ⟨h.mp.same mrR_fits (h.fz.same s hq) s.size,h.fz.step s,h.prg.ext s.ext,h.vl⟩
structure TlmV (L:List Nat) (vw vh va:Value) (fw fh fa:List Nat) (m:Nat) (T:Tab) (w:World) (ms hs qs:List Int) (xa:Option Addr) (xn xc:Nat) (ya:Option Addr) (yn yc:Nat) (za:Option Addr) (zn zc:Nat):Prop where
 lm:ms.length=64
 lh:hs.length=6
 la:qs.length=3
 mem:SlR 1 intR w ms vw fw
 hol:SlR 1 intR w hs vh fh
 ask:SlR 1 intR w qs va fa
 fr:Free (fw++fh++fa) w
 wt:SlA T 3 xa xn xc
 dn:SlA T 3 ya yn yc
 td:SlA T 3 za zn zc
 nx:xn<=m
 ny:yn<=m
 nz:zn<=m
structure TlmC (L fw fh fa:List Nat):Prop where
 inL:∀ b,b∈fw++fh++fa->b∈L
 wh:∀ b,b∈fw->b∉fh
 wa:∀ b,b∈fw->b∉fa
 ha:∀ b,b∈fh->b∉fa
variable {ms hs qs ms' hs' qs':List Int} {xa ya za:Option Addr} {xn xc yn yc zn zc:Nat}
theorem TlmV.step {fq:List Nat} (C:TlmC L fw fh fa) (h:TlmV L vw vh va fw fh fa m T w ms hs qs xa xn xc ya yn yc za zn zc) (hT:TH G L T w) (s:Step fq T w T' w') (hq:∀ b,b∈fq->b∉fw++fh++fa):TlmV L vw vh va fw fh fa m T' w' ms hs qs xa xn xc ya yn yc za zn zc:=by
 have hs':Same (fw++fh++fa) w w':=fun b hb=>s.block b (hT.old b (C.inL b hb)) (fun hm=>hq b hm hb) (hT.rd b (C.inL b hb));exact ⟨h.lm,h.lh,h.la,h.mem.same intR_fits (hs'.mono (fun b hb=>by simp [hb])) s.size,h.hol.same intR_fits (hs'.mono (fun b hb=>by simp [hb])) s.size,h.ask.same intR_fits (hs'.mono (fun b hb=>by simp [hb])) s.size,h.fr.same hs',h.wt.ext s.ext,h.dn.ext s.ext,h.td.ext s.ext,h.nx,h.ny,h.nz⟩
theorem TlmV.mono {m':Nat} (h:TlmV L vw vh va fw fh fa m T w ms hs qs xa xn xc ya yn yc za zn zc) (hm:m<=m'):TlmV L vw vh va fw fh fa m' T w ms hs qs xa xn xc ya yn yc za zn zc :=
 { h with nx:=Nat.le_trans h.nx hm,ny:=Nat.le_trans h.ny hm,nz:=Nat.le_trans h.nz hm }
theorem TlmV.chg {fq:List Nat} (h:TlmV L vw vh va fw fh fa m T w ms hs qs xa xn xc ya yn yc za zn zc) (hc:Chg fq w w') (hq:∀ b,b∈fw++fh++fa->b∉fq):TlmV L vw vh va fw fh fa m T w' ms hs qs xa xn xc ya yn yc za zn zc:=by
 have hl:∀ b,b∈fw++fh++fa->b<w.heap.size:=fun b hb=>by
  simp only [List.mem_append] at hb;rcases hb with (hb|hb)|hb
  ·exact h.mem.lt intR_fits b hb
  ·exact h.hol.lt intR_fits b hb
  ·exact h.ask.lt intR_fits b hb
 exact ⟨h.lm,h.lh,h.la,h.mem.chg intR_fits hc (fun b hb=>hq b (by simp [hb])),h.hol.chg intR_fits hc (fun b hb=>hq b (by simp [hb])),h.ask.chg intR_fits hc (fun b hb=>hq b (by simp [hb])),h.fr.chg hl hc hq,h.wt,h.dn,h.td,h.nx,h.ny,h.nz⟩
theorem atmDo_data (l:List MR) (m h:List Int) (who:Int) (r:Req):(atmDo l m h who r).data.length<=4:=by
 have hb:(burstOf r).length<=4:=adrBurst_len _ _ _;unfold atmDo
 repeat' split
 all_goals first|exact Nat.zero_le _|(simp only [l2get,List.length_map];exact hb)
theorem SlT.req2 {n i:Nat} {a:Option Addr} (h:SlT T 2 a n) (hi:i<n) (hT:TH G L T w):∃ (b off:Nat) (x:Req) (da:Option Addr) (dn dc:Nat) (ea:Option Addr) (en ec:Nat) (fd fl:List Nat),a=some ⟨b,off,none⟩ ∧
 (∀ j (hj:j<([.int .i64 x.id,.int .i64 x.kind,.int .i64 x.addr,.int .i64 x.many,.bool x.wrap,.slice da dn dc,.slice ea en ec]:List Value).length),w.cell? ⟨b,off+i*7+j,none⟩=some ([.int .i64 x.id,.int .i64 x.kind,.int .i64 x.addr,.int .i64 x.many,.bool x.wrap,.slice da dn dc,.slice ea en ec]:List Value)[j])∧SlR 1 intR w x.data (.slice da dn dc) fd∧SlR 1 intR w x.lanes (.slice ea en ec) fl∧G.ok x∧Fz L T w (fd++fl):=by
 rcases h with rfl|⟨b,o,y,rfl,hb,hk,hn⟩
 ·omega
 ·obtain ⟨cs,_,⟨x,fp,⟨v0,v1,fd,fl,rfl,rfl,h0,h1⟩,hG,hF⟩,h3⟩:=hT.at' hb hk hn hi;obtain ⟨da,dn,dc,rfl⟩:=h0.form;obtain ⟨ea,en,ec,rfl⟩:=h1.form;exact ⟨b,_,x,da,dn,dc,ea,en,ec,fd,fl,rfl,h3,h0,h1,hG,hF⟩
def bx (b:Nat):List Nat:=[b,b+1,b+1+1,b+1+1+1]
theorem bx_lo {b c:Nat} (h:c∈bx b):b<=c∧c<b+1+1+1+1:=by simp [bx] at h;omega
structure StB (G:Gd) (L:List Nat) (b:Nat) (T0:Tab) (w0:World) (lm:List MR) (vm vl:Value) (fm:List Nat) (pa:Option Addr) (pc:Nat) (vw vh va:Value) (fw fh fa:List Nat) (m:Nat) (kd wo nn:Int) (T:Tab) (w:World) (ms hs qs:List Int) (xa:Option Addr) (xn xc:Nat) (ya:Option Addr) (yn yc:Nat) (za:Option Addr) (zn zc:Nat):Prop where
 th:TH G (bx b++L) T w
 st:Step (fw++fh++fa) T0 w0 T w
 bv:BusV G (bx b++L) lm vm vl fm pa pc T w
 tv:TlmV L vw vh va fw fh fa m T w ms hs qs xa xn xc ya yn yc za zn zc
 b0:w.cell? ⟨b,0,none⟩=some vm
 b1:w.cell? ⟨b,1,none⟩=some vl
 b2:w.cell? ⟨b,2,none⟩=some (.slice pa 3 pc)
 s0:w.cell? ⟨b+1,0,none⟩=some vw
 s1:w.cell? ⟨b+1,1,none⟩=some vh
 s2:w.cell? ⟨b+1,2,none⟩=some va
 s3:w.cell? ⟨b+1,3,none⟩=some (.slice xa xn xc)
 s4:w.cell? ⟨b+1,4,none⟩=some (.slice ya yn yc)
 s5:w.cell? ⟨b+1,5,none⟩=some (.slice za zn zc)
 e0:w.cell? ⟨b+1+1,0,none⟩=some (.int .i64 kd)
 e1:w.cell? ⟨b+1+1,1,none⟩=some (.int .i64 wo)
 e2:w.cell? ⟨b+1+1,2,none⟩=some (.int .i64 nn)
 fs:∀ o,w.frozen? ⟨b+1,o,none⟩=false
 rs:RoomAt (b+1+1+1) 6 w
structure StC (L:List Nat) (b:Nat) (w0:World) (fm fw fh fa:List Nat):Prop where
 eb:b=w0.heap.size
 c:TlmC L fw fh fa
 lw:∀ c,c∈fw++fh++fa->c<b
 lm:∀ c,c∈fm->c<b
variable {b:Nat} {T0:Tab} {w0:World} {kd wo nn:Int} {xa' ya' za':Option Addr} {xn' xc' yn' yc' zn' zc':Nat}
theorem StB.move {fq:List Nat} (C:StC L b w0 fm fw fh fa) (h:StB G L b T0 w0 lm vm vl fm pa pc vw vh va fw fh fa m kd wo nn T w ms hs qs xa xn xc ya yn yc za zn zc) (t:TH G (bx b++L) T' w') (s:Step fq T w T' w') (hq:∀ c,c∈fq->c∈fw++fh++fa) (tv:TlmV L vw vh va fw fh fa m T' w' ms' hs' qs' xa xn xc ya yn yc za zn zc) :
 StB G L b T0 w0 lm vm vl fm pa pc vw vh va fw fh fa m kd wo nn T' w' ms' hs' qs' xa xn xc ya yn yc za zn zc:=by
 have n:∀ c,b<=c->c∉fq:=fun c hc hm=>by have:=C.lw c (hq c hm);omega
 have r:∀ c,c∈bx b->T c=none:=fun c hc=>h.th.rd c (by simp [hc]);have hL:∀ c,c∈fq->c∈bx b++L:=fun c hm=>by simp [C.c.inL c (hq c hm)]
 have k:∀ {c j:Nat} {v:Value},c∈bx b->w.cell? ⟨c,j,none⟩=some v->w'.cell? ⟨c,j,none⟩=some v:=fun hc hv=>s.cell hv (n _ (bx_lo hc).1) (r _ hc);have f:∀ {c:Nat},c∈bx b->w'.heap[c]?=w.heap[c]?:=fun {c} hc=>s.block c (h.th.old c (by simp [hc])) (n _ (bx_lo hc).1) (r _ hc);refine ⟨t,h.st.trans (s.mono hq),h.bv.step s hL,tv,k (by simp [bx]) h.b0,k (by simp [bx]) h.b1,k (by simp [bx]) h.b2,k (by simp [bx]) h.s0,k (by simp [bx]) h.s1,k (by simp [bx]) h.s2,k (by simp [bx]) h.s3,k (by simp [bx]) h.s4,k (by simp [bx]) h.s5,k (by simp [bx]) h.e0,k (by simp [bx]) h.e1,k (by simp [bx]) h.e2,
  fun o=>(World.frozen?_of_block (f (by simp [bx]))).trans (h.fs o),⟨Nat.lt_of_lt_of_le h.rs.1 s.size,fun j hj=>(h.rs.2.1 j hj).imp fun u e=>k (by simp [bx]) e,fun o=>(World.frozen?_of_block (f (by simp [bx]))).trans (h.rs.2.2 o)⟩⟩
theorem StB.step (C:StC L b w0 fm fw fh fa) (h:StB G L b T0 w0 lm vm vl fm pa pc vw vh va fw fh fa m kd wo nn T w ms hs qs xa xn xc ya yn yc za zn zc) (t:TH G (bx b++L) T' w') (s:Step [] T w T' w') :
 StB G L b T0 w0 lm vm vl fm pa pc vw vh va fw fh fa m kd wo nn T' w' ms hs qs xa xn xc ya yn yc za zn zc :=
 h.move C t s (by simp) (TlmV.step (L:=L) C.c h.tv (h.th.closed (by simp_all)) s (by simp))
theorem StB.below (C:StC L b w0 fm fw fh fa) (h:StB G L b T0 w0 lm vm vl fm pa pc vw vh va fw fh fa m kd wo nn T w ms hs qs xa xn xc ya yn yc za zn zc) (hb:Below w.heap.size w w') :
 StB G L b T0 w0 lm vm vl fm pa pc vw vh va fw fh fa m kd wo nn T w' ms hs qs xa xn xc ya yn yc za zn zc:=h.step C (h.th.below hb) (Step.of_below [] hb)
theorem StB.turn {fq:List Nat} (C:StC L b w0 fm fw fh fa) (h:StB G L b T0 w0 lm vm vl fm pa pc vw vh va fw fh fa m kd wo nn T w ms hs qs xa xn xc ya yn yc za zn zc) (hc:Chg fq w w') (hq:∀ c,c∈fq->c∈fw++fh++fa) (lm':ms'.length=64) (lh':hs'.length=6) (la':qs'.length=3) (g1:SlR 1 intR w' ms' vw fw) (g2:SlR 1 intR w' hs' vh fh) (g3:SlR 1 intR w' qs' va fa) (fr:Free (fw++fh++fa) w') :
 StB G L b T0 w0 lm vm vl fm pa pc vw vh va fw fh fa m kd wo nn T w' ms' hs' qs' xa xn xc ya yn yc za zn zc :=
 h.move C (h.th.chg hc (fun c hm=>by simp [C.c.inL c (hq c hm)])) (Step.of_chg hc) hq ⟨lm',lh',la',g1,g2,g3,fr,h.tv.wt,h.tv.dn,h.tv.td,h.tv.nx,h.tv.ny,h.tv.nz⟩
theorem StB.box (C:StC L b w0 fm fw fh fa) (h:StB G L b T0 w0 lm vm vl fm pa pc vw vh va fw fh fa m kd wo nn T w ms hs qs xa xn xc ya yn yc za zn zc) (hc:Chg [b+1] w w') (s0:w'.cell? ⟨b+1,0,none⟩=some vw) (s1:w'.cell? ⟨b+1,1,none⟩=some vh) (s2:w'.cell? ⟨b+1,2,none⟩=some va)
 (s3:w'.cell? ⟨b+1,3,none⟩=some (.slice xa' xn' xc')) (s4:w'.cell? ⟨b+1,4,none⟩=some (.slice ya' yn' yc')) (s5:w'.cell? ⟨b+1,5,none⟩=some (.slice za' zn' zc')) (fs:∀ o,w'.frozen? ⟨b+1,o,none⟩=false) (hx:SlA T 3 xa' xn' xc') (hy:SlA T 3 ya' yn' yc') (hz:SlA T 3 za' zn' zc') {m':Nat} (h1:xn'<=m') (h2:yn'<=m') (h3:zn'<=m') :
 StB G L b T0 w0 lm vm vl fm pa pc vw vh va fw fh fa m' kd wo nn T w' ms hs qs xa' xn' xc' ya' yn' yc' za' zn' zc':=by
 have hL:∀ c,c∈[b+1]->c∈bx b++L:=fun c hm=>by simp at hm;subst hm;simp [bx]
 have n:∀ c,c∈fw++fh++fa->c∉[b+1]:=fun c hm e=>by have:=C.lw c hm;simp at e;omega
 have nb:∀ c,c≠b+1->c∉[b+1]:=fun c hn hm=>hn (by simpa using hm);have tv:=h.tv.chg hc n;exact ⟨h.th.chg hc hL,h.st.later hc (fun c hm=>by have:=C.eb;simp at hm;omega),h.bv.step (Step.of_chg hc) hL,⟨tv.lm,tv.lh,tv.la,tv.mem,tv.hol,tv.ask,tv.fr,hx,hy,hz,h1,h2,h3⟩,keep_cell_chg hc h.b0 (nb _ (by omega)),keep_cell_chg hc h.b1 (nb _ (by omega)),keep_cell_chg hc h.b2 (nb _ (by omega)),s0,s1,s2,s3,s4,s5,
  keep_cell_chg hc h.e0 (nb _ (by omega)),keep_cell_chg hc h.e1 (nb _ (by omega)),keep_cell_chg hc h.e2 (nb _ (by omega)),fs,h.rs.chg hc (nb _ (by omega))⟩
def StPost (G:Gd) (L:List Nat) (T0:Tab) (w0:World) (lm:List MR) (vm vl:Value) (fm:List Nat) (pa:Option Addr) (pc:Nat) (vw vh va:Value) (fw fh fa:List Nat) (m:Nat) (wo:Int) (e:Ending) (w:World):Prop :=
 ∃ T ms hs qs xa xn xc ya yn yc za zn zc ok,e = .returned (.tuple #[.agg #[vw,vh,va,.slice xa xn xc,.slice ya yn yc,.slice za zn zc],.bool ok])∧TH G L T w∧Step (fw++fh++fa) T0 w0 T w∧BusV G L lm vm vl fm pa pc T w∧TlmV L vw vh va fw fh fa (m+1) T w ms hs qs xa xn xc ya yn yc za zn zc∧(ok=true->0<=wo∧wo<=2)
theorem StB.done {ok:Bool} (C:StC L b w0 fm fw fh fa) (h:StB G L b T0 w0 lm vm vl fm pa pc vw vh va fw fh fa (m+1) kd wo nn T w ms hs qs xa xn xc ya yn yc za zn zc) (hc:Chg [b+1+1+1] w w') (hok:ok=true->0<=wo∧wo<=2) :
 StPost G L T0 w0 lm vm vl fm pa pc vw vh va fw fh fa m wo (.returned (.tuple #[.agg #[vw,vh,va,.slice xa xn xc,.slice ya yn yc,.slice za zn zc],.bool ok])) w':=by
 have hL:∀ c,c∈[b+1+1+1]->c∈bx b++L:=fun c hm=>by simp at hm;subst hm;simp [bx]
 have n:∀ c,c∈fw++fh++fa->c∉[b+1+1+1]:=fun c hm e=>by have:=C.lw c hm;simp at e;omega
 have bv:=h.bv.step (Step.of_chg (T:=T) hc) hL;exact ⟨T,ms,hs,qs,xa,xn,xc,ya,yn,yc,za,zn,zc,ok,rfl,(h.th.chg hc hL).closed (by simp_all),h.st.later hc (fun c hm=>by have:=C.eb;simp at hm;omega),⟨bv.mp,bv.fz.closed (by simp_all),bv.prg,bv.vl⟩,h.tv.chg hc n,hok⟩
theorem StB.mono {m':Nat} (h:StB G L b T0 w0 lm vm vl fm pa pc vw vh va fw fh fa m kd wo nn T w ms hs qs xa xn xc ya yn yc za zn zc) (hm:m<=m'):StB G L b T0 w0 lm vm vl fm pa pc vw vh va fw fh fa m' kd wo nn T w ms hs qs xa xn xc ya yn yc za zn zc :=
 { h with tv:=h.tv.mono hm }
theorem TlmV.re {L':List Nat} (h:TlmV L vw vh va fw fh fa m T w ms hs qs xa xn xc ya yn yc za zn zc):TlmV L' vw vh va fw fh fa m T w ms hs qs xa xn xc ya yn yc za zn zc :=
 ⟨h.lm,h.lh,h.la,h.mem,h.hol,h.ask,h.fr,h.wt,h.dn,h.td,h.nx,h.ny,h.nz⟩
theorem StB.open1 {q:Nat} (C:StC L b w0 fm fw fh fa) (h:StB G L b T0 w0 lm vm vl fm pa pc vw vh va fw fh fa m kd wo nn T w ms hs qs xa xn xc ya yn yc za zn zc) (hb:Below w.heap.size w w') (h1:w.heap.size<=q) (h2:q<w'.heap.size) :
 StB G (q::L) b T0 w0 lm vm vl fm pa pc vw vh va fw fh fa m kd wo nn T w' ms hs qs xa xn xc ya yn yc za zn zc:=by
 have h':=h.below C hb;refine ⟨(h.th.opened hb h1 h2).closed (by simp;exact fun c hc=>by rcases hc with hc|rfl|hc<;>simp [*]),h'.st,⟨h'.bv.mp,fun d hd=>?_,h'.bv.prg,h'.bv.vl⟩,h'.tv.re,h'.b0,h'.b1,h'.b2,h'.s0,h'.s1,h'.s2,h'.s3,h'.s4,h'.s5,h'.e0,h'.e1,h'.e2,h'.fs,h'.rs⟩;obtain ⟨g1,g2,g3⟩:=h.bv.fz d hd;refine ⟨g1,?_,Nat.lt_of_lt_of_le g3 hb.size⟩;simp only [List.mem_append,List.mem_cons,not_or] at g2 ⊢;exact ⟨g2.1,by omega,g2.2⟩
theorem StB.shut {Lx:List Nat} (h:StB G Lx b T0 w0 lm vm vl fm pa pc vw vh va fw fh fa m kd wo nn T w ms hs qs xa xn xc ya yn yc za zn zc) (hs':∀ c,c∈L->c∈Lx) :
 StB G L b T0 w0 lm vm vl fm pa pc vw vh va fw fh fa m kd wo nn T w ms hs qs xa xn xc ya yn yc za zn zc:=by
 have k:∀ c,c∈bx b++L->c∈bx b++Lx:=fun c hc=>by
  rcases List.mem_append.1 hc with hc|hc
  ·simp [hc]
  ·simp [hs' c hc]
 exact ⟨h.th.closed k,h.st,⟨h.bv.mp,h.bv.fz.closed k,h.bv.prg,h.bv.vl⟩,h.tv.re,h.b0,h.b1,h.b2,h.s0,h.s1,h.s2,h.s3,h.s4,h.s5,h.e0,h.e1,h.e2,h.fs,h.rs⟩
theorem StB.far {q:Nat} (C:StC L b w0 fm fw fh fa) (h:StB G L b T0 w0 lm vm vl fm pa pc vw vh va fw fh fa m kd wo nn T w ms hs qs xa xn xc ya yn yc za zn zc) (hc:Chg [q] w w') (hq:q∈L) (hq2:b+1+1+1<q) :
 StB G L b T0 w0 lm vm vl fm pa pc vw vh va fw fh fa m kd wo nn T w' ms hs qs xa xn xc ya yn yc za zn zc:=by
 have hL:∀ c,c∈[q]->c∈bx b++L:=fun c hm=>by simp at hm;subst hm;simp [hq]
 have n:∀ c,c∈fw++fh++fa->c∉[q]:=fun c hm e=>by have:=C.lw c hm;simp at e;omega
 have nb:∀ c,c<=b+1+1+1->c∉[q]:=fun c hn hm=>by simp at hm;omega
 exact ⟨h.th.chg hc hL,h.st.later hc (fun c hm=>by have:=C.eb;simp at hm;omega),h.bv.step (Step.of_chg hc) hL,h.tv.chg hc n,keep_cell_chg hc h.b0 (nb _ (by omega)),keep_cell_chg hc h.b1 (nb _ (by omega)),keep_cell_chg hc h.b2 (nb _ (by omega)),keep_cell_chg hc h.s0 (nb _ (by omega)),keep_cell_chg hc h.s1 (nb _ (by omega)),keep_cell_chg hc h.s2 (nb _ (by omega)),keep_cell_chg hc h.s3 (nb _ (by omega)),keep_cell_chg hc h.s4 (nb _ (by omega)),keep_cell_chg hc h.s5 (nb _ (by omega)),
  keep_cell_chg hc h.e0 (nb _ (by omega)),keep_cell_chg hc h.e1 (nb _ (by omega)),keep_cell_chg hc h.e2 (nb _ (by omega)),fun o=>(World.frozen?_of_block (hc.block (b+1) (block_of_cell h.s0) (nb _ (by omega)))).trans (h.fs o),h.rs.chg hc (nb _ (by omega))⟩
end Go.Proofs.Ytmcjklicepaiaaa
