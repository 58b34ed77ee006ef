import Derived.Test.YtidalepbkljkpaaGreatLocalSpaces34
set_option linter.all false
namespace Go.Proofs.YtidalepbkljkpaaGreat
open Go.RowKit Go.H
set_option maxHeartbeats 2000000
set_option maxRecDepth 100000
section
theorem NodeAt.kids {F:Nat→Prop} {w:World} {n g o id:Nat} {l:List KV} {kvs:List Value} {v:Value} (h:NodeAt F w n g o id l kvs v) (hk:kvs≠[]):v=wInner n∧∃cp,w.cell? ⟨n,2,none⟩=some (.slice (some ⟨g,o,none⟩) kvs.length cp)∧Row (fun _=>True) w (.slice (some ⟨g,o,none⟩) kvs.length cp) kvs.length 1 kvs:=by
 obtain⟨lv,h0,h1,h2,⟨e,_⟩|⟨e1,e2,cp,e3,e4,e5,e6⟩⟩:=h
 · exact absurd e hk
 · exact⟨e2,cp,e3,⟨_,_,rfl,e4,e5,by simp,fun _=>⟨g,o,rfl,trivial,e6⟩⟩⟩
theorem NodeAt.leaf {F:Nat→Prop} {w:World} {n g o id:Nat} {l:List KV} {v:Value} (h:NodeAt F w n g o id l [] v):v=wLeaf n:=by
 obtain⟨lv,h0,h1,h2,⟨_,e⟩|⟨e1,_⟩⟩:=h
 · exact e
 · exact absurd rfl e1
theorem zgd {F:Nat→Prop} {w:World} {vl vr kv vv:Value} {l1 l2:List KV} {k1 k2:List Value} {n1 g1 o1 n2 g2 o2:Nat} {x:KV} (hl:NodeAt F w n1 g1 o1 0 l1 k1 vl) (hr:NodeAt F w n2 g2 o2 0 l2 k2 vr) (hkd:k1=[]↔k2=[]) (ho1:∀u∈k1,u.oneCell'=true) (ho2:∀u∈k2,u.oneCell'=true)
 (hk:BytesAt F w kv x.1) (hv:BytesAt F w vv x.2) (hb:l1.length≤10∧l2.length≤10∧k1.length≤10∧k2.length≤10) :
 Calls Tryz.prog 185 #[vl,.agg #[kv,vv],vr] w fun e w'=>Fr C0 w w'∧∃lv kw,e=.returned (.tuple #[lv,kw])∧∃xs,w'.ownsRow w.heap.size 200 2 lv (l1.length+1+l2.length) xs∧ItemCells F w' xs (l1++x::l2)∧
  ((k1=[]∧kw=.slice none 0 0)∨(k1≠[]∧w'.ownsRow w.heap.size 20 1 kw (k1.length+k2.length) (k1++k2)∧∀b,kw.ownBlock=some b→¬lv.ownBlock=some b)):=by
 obtain⟨b1,b2,b3,b4⟩:=hb
 have HKB:=zhd hk
 have HVB:=zhd hv
 obtain⟨kA,kc,rfl,-⟩:=hk.form
 obtain⟨vA,vc,rfl,-⟩:=hv.form
 obtain⟨lv1,hit1,hc1⟩:=z7g hl
 obtain⟨lv2,hit2,hc2⟩:=z7g hr
 have HC1:=zhd hc1
 have HC2:=zhd hc2
 obtain⟨xs1,hr1,hx1⟩:=hit1.cells
 obtain⟨xs2,hr2,hx2⟩:=hit2.cells
 have HR1:=zhd hr1
 have HR2:=zhd hr2
 have HX1:=zhd hx1
 have HX2:=zhd hx2
 obtain⟨A1,ca1,rfl,-,-⟩:=hr1.form
 obtain⟨A2,ca2,rfl,-,-⟩:=hr2.form
 have F0:=zhd ((Fr.refl C0 w).alloc (.cells #[.slice kA x.1.length kc,.slice vA x.2.length vc] 200))
 have HSZ:=zhd (fun (w_:World) (hf:Fr C0 (w.alloc (.cells #[.slice kA x.1.length kc,.slice vA x.2.length vc] 200)) w_)=>show w.heap.size+1≤w_.heap.size from by have:=hf.size;simpa using this)
 have hbx:=heap_alloc_new w (.cells #[.slice kA x.1.length kc,.slice vA x.2.length vc] 200)
 have HB1:Hid ((((w.alloc (.cells #[.slice kA x.1.length kc,.slice vA x.2.length vc] 200)).alloc (.cells #[.slice kA x.1.length kc,.slice vA x.2.length vc] 200)).drew).heap[w.heap.size+1]?=some (.cells #[.slice kA x.1.length kc,.slice vA x.2.length vc] 200 (0,0))):=zhd (by
  have:=heap_alloc_new (w.alloc (.cells #[.slice kA x.1.length kc,.slice vA x.2.length vc] 200)) (.cells #[.slice kA x.1.length kc,.slice vA x.2.length vc] 200)
  rwa [show(w.alloc (.cells #[.slice kA x.1.length kc,.slice vA x.2.length vc] 200)).heap.size=w.heap.size+1 by simp] at this)
 have x0:=z2k hbx 0 rfl
 have x1:=z2k hbx 1 rfl
 have HL:=zhd hl
 have HRR:=zhd hr
 have HO1:=zhd ho1
 have HO2:=zhd ho2
 by_cases hk0:k1=[]
 · have hk0':=hkd.1 hk0
   subst hk0
   subst hk0'
   obtain rfl:=hl.leaf
   obtain rfl:=hr.leaf
   clear hl hr hkd ho1 ho2 hk hv hit1 hit2 hc1 hc2 hr1 hr2 hx1 hx2 hbx
   go_enter Tryz.func185,Tryz.ntmps185
   go_wp2_with fail
   refine z1z (Fr C0 (w.alloc (.cells #[.slice kA x.1.length kc,.slice vA x.2.length vc] 200))) [] (by kernel_rfl) ?_
   have hSw0:(Fr C0 (w.alloc (.cells #[.slice kA x.1.length kc,.slice vA x.2.length vc] 200))) _:=(Fr.refl C0 _).drew
   refine tk 0 hSw0 ?_
   refine tk 3 hSw0 ?_ (hy:=by intro w_ hS_;have e0:=hS_.cell0 x0;have e1:=hS_.cell0 x1;first|(go_simp;done)|(go_simp;with_reducible rfl))
   refine tk 6 hSw0 ?_
   refine z1x 1 4 rfl rfl (by kernel_rfl) rfl rfl (fun K hK=>?_) (fun K hK=>?_)
   · skip
     go_simp
     refine(HC1.out _ (F0.out.trans0 (by assumption))).mono ?_
     rintro e w5 ⟨rfl,rfl⟩
     simp only[]
     refine hK.out _ _ ?kS1 (fun hSw1=>?kR1)
     case kS1=>assumption
     clear hK K
     try simp only[Act.put,zs1,zs2,zs3]
     refine z1x 2 4 rfl rfl (by kernel_rfl) rfl rfl (fun K hK=>?_) (fun K hK=>?_)
     · skip
       refine z0k z2p _ _ rfl (v:=.slice none 0 0) (xv:=.slice A1 l1.length ca1) rfl rfl (B:=w.heap.size+1) (World.ownsRow_nil _ _ _ _) (HR1.out.fr0 (F0.out.trans0 (by assumption))) (ItemCells.one HX1.out) (by unfold maxLen;omega) (by omega) (HSZ.out _ (by assumption)) ?_
       intro v2 w2 o2 f2 k2 nil2
       rw[Nat.zero_add] at o2
       obtain⟨P2,c2,rfl,-⟩:=z0o o2
       have G2:=zhd (Fr.trans (C:=C0) (a:=w.alloc (.cells #[.slice kA x.1.length kc,.slice vA x.2.length vc] 200)) (by assumption) f2 (fun b _ h=>by simp[Value.ownBlock] at h))
       have O2:=zhd o2
       try (have HB:=zhd (f2.blk HB.out (fun h=>by simp[Value.ownBlock] at h)))
       clear o2 f2 k2 nil2
       refine hK.out _ _ ?kS2 (fun hSw2=>?kR2)
       case kS2=>exact G2.out
       clear hK K
       try simp only[Act.put,zs1,zs2,zs3]
       refine one_ 4 rfl (fun K hK=>?_)
       go_simp
       first|(have O2:=zhd (z0m O2.out ((Fr.refl C0 w2).alloc (.cells #[.slice kA x.1.length kc,.slice vA x.2.length vc] 200)) (fun _ _ h=>h));have HB:=zhd (heap_alloc_new w2 (.cells #[.slice kA x.1.length kc,.slice vA x.2.length vc] 200)))|(have HB:=zhd HB1.out)
       refine hK.out _ _ ?kS3 (fun hSw3=>?kR3)
       case kS3=>first|exact G2.out.alloc _|exact((Fr.refl C0 _).alloc _).drew
       clear hK K
       try simp only[Act.put,zs1,zs2,zs3]
       refine one_ 5 rfl (fun K hK=>?_)
       first|(refine z0k z2p _ _ rfl (v:=.slice P2 l1.length c2) (xv:=.slice (some ⟨w2.heap.size,0,none⟩) 1 1) rfl rfl (B:=w.heap.size+1) O2.out (Row.ofBlock (F:=fun _=>True) HB.out trivial (by unfold maxLen;omega) rfl) (by simp[Value.oneCell']) (by unfold maxLen;omega) (by omega) (HSZ.out _ (by assumption)) ?_)|(refine z0k z2p _ _ rfl (v:=.slice P2 l1.length c2) (xv:=.slice (some ⟨w.heap.size+1,0,none⟩) 1 1) rfl rfl (B:=w.heap.size+1) O2.out (Row.ofBlock (F:=fun _=>True) HB.out trivial (by unfold maxLen;omega) rfl) (by simp[Value.oneCell']) (by unfold maxLen;omega) (by omega) (HSZ.out _ (by assumption)) ?_)
       intro v3 w3 o3 f3 k3 nil3
       obtain⟨P3,c3,rfl,-⟩:=z0o o3
       have G3:=zhd (Fr.transO (C:=C0) (w:=w.alloc (.cells #[.slice kA x.1.length kc,.slice vA x.2.length vc] 200)) (by assumption) f3 (fun b e=>by have:=(O2.out.lt b e).1;simpa using this))
       have O3:=zhd o3
       clear o3 f3 k3 nil3
       refine hK.out _ _ ?kS4 (fun hSw4=>?kR4)
       case kS4=>exact G3.out
       clear hK K
       try simp only[Act.put,zs1,zs2,zs3]
       refine one_ 7 rfl (fun K hK=>?_)
       go_simp
       refine(HC2.out _ (F0.out.trans0 (by assumption))).mono ?_
       rintro e w5 ⟨rfl,rfl⟩
       simp only[]
       refine hK.out _ _ ?kS5 (fun hSw5=>?kR5)
       case kS5=>assumption
       clear hK K
       try simp only[Act.put,zs1,zs2,zs3]
       refine one_ 8 rfl (fun K hK=>?_)
       refine z0k z2p _ _ rfl (v:=.slice P3 (l1.length+1) c3) (xv:=.slice A2 l2.length ca2) rfl rfl (B:=w.heap.size+1) O3.out (HR2.out.fr0 (F0.out.trans0 (by assumption))) (ItemCells.one HX2.out) (by unfold maxLen;omega) (by omega) (HSZ.out _ (by assumption)) ?_
       intro v4 w4 o4 f4 k4 nil4
       obtain⟨P4,c4,rfl,-⟩:=z0o o4
       have G4:=zhd (Fr.transO (C:=C0) (w:=w.alloc (.cells #[.slice kA x.1.length kc,.slice vA x.2.length vc] 200)) (by assumption) f4 (fun b e=>by have:=(O3.out.lt b e).1;simpa using this))
       have O4:=zhd o4
       clear o4 f4 k4 nil4
       refine hK.out _ _ ?kS6 (fun hSw6=>?kR6)
       case kS6=>exact G4.out
       clear hK K
       try simp only[Act.put,zs1,zs2,zs3]
       refine tk 9 hSw6 ?_
       refine z1y (by kernel_rfl) ?_ _
       clear x0 x1
       go_wp2
       go_ret2
       refine⟨F0.out.trans0 G4.out,_,_,rfl,_,z0n O4.out (fun b e=>Nat.le_of_succ_le (O4.out.lt b e).1),?_,rfl⟩
       simp only[List.nil_append,List.append_assoc,List.cons_append]
       have G:=F0.out.trans0 G4.out
       exact ItemCells.append (.cons (HKB.out.fr0 G) (HVB.out.fr0 G) (HX2.out.fr0 G)) (HX1.out.fr0 G)
     · skip
       go_simp
       first|(have O2:=zhd (z0m O2.out ((Fr.refl C0 w2).alloc (.cells #[.slice kA x.1.length kc,.slice vA x.2.length vc] 200)) (fun _ _ h=>h));have HB:=zhd (heap_alloc_new w2 (.cells #[.slice kA x.1.length kc,.slice vA x.2.length vc] 200)))|(have HB:=zhd HB1.out)
       refine hK.out _ _ ?kS7 (fun hSw7=>?kR7)
       case kS7=>first|exact G2.out.alloc _|exact((Fr.refl C0 _).alloc _).drew
       clear hK K
       try simp only[Act.put,zs1,zs2,zs3]
       refine one_ 2 rfl (fun K hK=>?_)
       refine z0k z2p _ _ rfl (v:=.slice none 0 0) (xv:=.slice A1 l1.length ca1) rfl rfl (B:=w.heap.size+1) (World.ownsRow_nil _ _ _ _) (HR1.out.fr0 (F0.out.trans0 (by assumption))) (ItemCells.one HX1.out) (by unfold maxLen;omega) (by omega) (HSZ.out _ (by assumption)) ?_
       intro v2 w2 o2 f2 k2 nil2
       rw[Nat.zero_add] at o2
       obtain⟨P2,c2,rfl,-⟩:=z0o o2
       have G2:=zhd (Fr.trans (C:=C0) (a:=w.alloc (.cells #[.slice kA x.1.length kc,.slice vA x.2.length vc] 200)) (by assumption) f2 (fun b _ h=>by simp[Value.ownBlock] at h))
       have O2:=zhd o2
       try (have HB:=zhd (f2.blk HB.out (fun h=>by simp[Value.ownBlock] at h)))
       clear o2 f2 k2 nil2
       refine hK.out _ _ ?kS8 (fun hSw8=>?kR8)
       case kS8=>exact G2.out
       clear hK K
       try simp only[Act.put,zs1,zs2,zs3]
       refine one_ 5 rfl (fun K hK=>?_)
       first|(refine z0k z2p _ _ rfl (v:=.slice P2 l1.length c2) (xv:=.slice (some ⟨w2.heap.size,0,none⟩) 1 1) rfl rfl (B:=w.heap.size+1) O2.out (Row.ofBlock (F:=fun _=>True) HB.out trivial (by unfold maxLen;omega) rfl) (by simp[Value.oneCell']) (by unfold maxLen;omega) (by omega) (HSZ.out _ (by assumption)) ?_)|(refine z0k z2p _ _ rfl (v:=.slice P2 l1.length c2) (xv:=.slice (some ⟨w.heap.size+1,0,none⟩) 1 1) rfl rfl (B:=w.heap.size+1) O2.out (Row.ofBlock (F:=fun _=>True) HB.out trivial (by unfold maxLen;omega) rfl) (by simp[Value.oneCell']) (by unfold maxLen;omega) (by omega) (HSZ.out _ (by assumption)) ?_)
       intro v3 w3 o3 f3 k3 nil3
       obtain⟨P3,c3,rfl,-⟩:=z0o o3
       have G3:=zhd (Fr.transO (C:=C0) (w:=w.alloc (.cells #[.slice kA x.1.length kc,.slice vA x.2.length vc] 200)) (by assumption) f3 (fun b e=>by have:=(O2.out.lt b e).1;simpa using this))
       have O3:=zhd o3
       clear o3 f3 k3 nil3
       refine hK.out _ _ ?kS9 (fun hSw9=>?kR9)
       case kS9=>exact G3.out
       clear hK K
       try simp only[Act.put,zs1,zs2,zs3]
       refine one_ 7 rfl (fun K hK=>?_)
       go_simp
       refine(HC2.out _ (F0.out.trans0 (by assumption))).mono ?_
       rintro e w5 ⟨rfl,rfl⟩
       simp only[]
       refine hK.out _ _ ?kS10 (fun hSw10=>?kR10)
       case kS10=>assumption
       clear hK K
       try simp only[Act.put,zs1,zs2,zs3]
       refine one_ 8 rfl (fun K hK=>?_)
       refine z0k z2p _ _ rfl (v:=.slice P3 (l1.length+1) c3) (xv:=.slice A2 l2.length ca2) rfl rfl (B:=w.heap.size+1) O3.out (HR2.out.fr0 (F0.out.trans0 (by assumption))) (ItemCells.one HX2.out) (by unfold maxLen;omega) (by omega) (HSZ.out _ (by assumption)) ?_
       intro v4 w4 o4 f4 k4 nil4
       obtain⟨P4,c4,rfl,-⟩:=z0o o4
       have G4:=zhd (Fr.transO (C:=C0) (w:=w.alloc (.cells #[.slice kA x.1.length kc,.slice vA x.2.length vc] 200)) (by assumption) f4 (fun b e=>by have:=(O3.out.lt b e).1;simpa using this))
       have O4:=zhd o4
       clear o4 f4 k4 nil4
       refine hK.out _ _ ?kS11 (fun hSw11=>?kR11)
       case kS11=>exact G4.out
       clear hK K
       try simp only[Act.put,zs1,zs2,zs3]
       refine tk 9 hSw11 ?_
       refine z1y (by kernel_rfl) ?_ _
       clear x0 x1
       go_wp2
       go_ret2
       refine⟨F0.out.trans0 G4.out,_,_,rfl,_,z0n O4.out (fun b e=>Nat.le_of_succ_le (O4.out.lt b e).1),?_,rfl⟩
       simp only[List.nil_append,List.append_assoc,List.cons_append]
       have G:=F0.out.trans0 G4.out
       exact ItemCells.append (.cons (HKB.out.fr0 G) (HVB.out.fr0 G) (HX2.out.fr0 G)) (HX1.out.fr0 G)
   · skip
     go_simp
     first|(have O2:=zhd (z0m O2.out ((Fr.refl C0 w2).alloc (.cells #[.slice kA x.1.length kc,.slice vA x.2.length vc] 200)) (fun _ _ h=>h));have HB:=zhd (heap_alloc_new w2 (.cells #[.slice kA x.1.length kc,.slice vA x.2.length vc] 200)))|(have HB:=zhd HB1.out)
     refine hK.out _ _ ?kS12 (fun hSw12=>?kR12)
     case kS12=>first|exact G2.out.alloc _|exact((Fr.refl C0 _).alloc _).drew
     clear hK K
     try simp only[Act.put,zs1,zs2,zs3]
     refine one_ 1 rfl (fun K hK=>?_)
     go_simp
     refine(HC1.out _ (F0.out.trans0 (by assumption))).mono ?_
     rintro e w5 ⟨rfl,rfl⟩
     simp only[]
     refine hK.out _ _ ?kS13 (fun hSw13=>?kR13)
     case kS13=>assumption
     clear hK K
     try simp only[Act.put,zs1,zs2,zs3]
     refine one_ 2 rfl (fun K hK=>?_)
     refine z0k z2p _ _ rfl (v:=.slice none 0 0) (xv:=.slice A1 l1.length ca1) rfl rfl (B:=w.heap.size+1) (World.ownsRow_nil _ _ _ _) (HR1.out.fr0 (F0.out.trans0 (by assumption))) (ItemCells.one HX1.out) (by unfold maxLen;omega) (by omega) (HSZ.out _ (by assumption)) ?_
     intro v2 w2 o2 f2 k2 nil2
     rw[Nat.zero_add] at o2
     obtain⟨P2,c2,rfl,-⟩:=z0o o2
     have G2:=zhd (Fr.trans (C:=C0) (a:=w.alloc (.cells #[.slice kA x.1.length kc,.slice vA x.2.length vc] 200)) (by assumption) f2 (fun b _ h=>by simp[Value.ownBlock] at h))
     have O2:=zhd o2
     try (have HB:=zhd (f2.blk HB.out (fun h=>by simp[Value.ownBlock] at h)))
     clear o2 f2 k2 nil2
     refine hK.out _ _ ?kS14 (fun hSw14=>?kR14)
     case kS14=>exact G2.out
     clear hK K
     try simp only[Act.put,zs1,zs2,zs3]
     refine one_ 5 rfl (fun K hK=>?_)
     first|(refine z0k z2p _ _ rfl (v:=.slice P2 l1.length c2) (xv:=.slice (some ⟨w2.heap.size,0,none⟩) 1 1) rfl rfl (B:=w.heap.size+1) O2.out (Row.ofBlock (F:=fun _=>True) HB.out trivial (by unfold maxLen;omega) rfl) (by simp[Value.oneCell']) (by unfold maxLen;omega) (by omega) (HSZ.out _ (by assumption)) ?_)|(refine z0k z2p _ _ rfl (v:=.slice P2 l1.length c2) (xv:=.slice (some ⟨w.heap.size+1,0,none⟩) 1 1) rfl rfl (B:=w.heap.size+1) O2.out (Row.ofBlock (F:=fun _=>True) HB.out trivial (by unfold maxLen;omega) rfl) (by simp[Value.oneCell']) (by unfold maxLen;omega) (by omega) (HSZ.out _ (by assumption)) ?_)
     intro v3 w3 o3 f3 k3 nil3
     obtain⟨P3,c3,rfl,-⟩:=z0o o3
     have G3:=zhd (Fr.transO (C:=C0) (w:=w.alloc (.cells #[.slice kA x.1.length kc,.slice vA x.2.length vc] 200)) (by assumption) f3 (fun b e=>by have:=(O2.out.lt b e).1;simpa using this))
     have O3:=zhd o3
     clear o3 f3 k3 nil3
     refine hK.out _ _ ?kS15 (fun hSw15=>?kR15)
     case kS15=>exact G3.out
     clear hK K
     try simp only[Act.put,zs1,zs2,zs3]
     refine one_ 7 rfl (fun K hK=>?_)
     go_simp
     refine(HC2.out _ (F0.out.trans0 (by assumption))).mono ?_
     rintro e w5 ⟨rfl,rfl⟩
     simp only[]
     refine hK.out _ _ ?kS16 (fun hSw16=>?kR16)
     case kS16=>assumption
     clear hK K
     try simp only[Act.put,zs1,zs2,zs3]
     refine one_ 8 rfl (fun K hK=>?_)
     refine z0k z2p _ _ rfl (v:=.slice P3 (l1.length+1) c3) (xv:=.slice A2 l2.length ca2) rfl rfl (B:=w.heap.size+1) O3.out (HR2.out.fr0 (F0.out.trans0 (by assumption))) (ItemCells.one HX2.out) (by unfold maxLen;omega) (by omega) (HSZ.out _ (by assumption)) ?_
     intro v4 w4 o4 f4 k4 nil4
     obtain⟨P4,c4,rfl,-⟩:=z0o o4
     have G4:=zhd (Fr.transO (C:=C0) (w:=w.alloc (.cells #[.slice kA x.1.length kc,.slice vA x.2.length vc] 200)) (by assumption) f4 (fun b e=>by have:=(O3.out.lt b e).1;simpa using this))
     have O4:=zhd o4
     clear o4 f4 k4 nil4
     refine hK.out _ _ ?kS17 (fun hSw17=>?kR17)
     case kS17=>exact G4.out
     clear hK K
     try simp only[Act.put,zs1,zs2,zs3]
     refine tk 9 hSw17 ?_
     refine z1y (by kernel_rfl) ?_ _
     clear x0 x1
     go_wp2
     go_ret2
     refine⟨F0.out.trans0 G4.out,_,_,rfl,_,z0n O4.out (fun b e=>Nat.le_of_succ_le (O4.out.lt b e).1),?_,rfl⟩
     simp only[List.nil_append,List.append_assoc,List.cons_append]
     have G:=F0.out.trans0 G4.out
     exact ItemCells.append (.cons (HKB.out.fr0 G) (HVB.out.fr0 G) (HX2.out.fr0 G)) (HX1.out.fr0 G)
 · have hk0':k2≠[]:=fun e=>hk0 (hkd.2 e)
   obtain⟨rfl,p1,m1,r1⟩:=hl.kids hk0
   obtain⟨rfl,p2,m2,r2⟩:=hr.kids hk0'
   have HM1:=zhd m1
   have HM2:=zhd m2
   have HK1:=zhd r1
   have HK2:=zhd r2
   clear hl hr hkd ho1 ho2 hk hv hit1 hit2 hc1 hc2 hr1 hr2 hx1 hx2 hbx m1 m2 r1 r2
   go_enter Tryz.func185,Tryz.ntmps185
   go_wp2_with fail
   refine z1z (Fr C0 (w.alloc (.cells #[.slice kA x.1.length kc,.slice vA x.2.length vc] 200))) [] (by kernel_rfl) ?_
   have hSw0:(Fr C0 (w.alloc (.cells #[.slice kA x.1.length kc,.slice vA x.2.length vc] 200))) _:=(Fr.refl C0 _).drew
   refine tk 0 hSw0 ?_
   refine tk 3 hSw0 ?_ (hy:=by intro w_ hS_;have e0:=hS_.cell0 x0;have e1:=hS_.cell0 x1;first|(go_simp;done)|(go_simp;with_reducible rfl))
   refine tk 6 hSw0 ?_
   refine z1x 1 4 rfl rfl (by kernel_rfl) rfl rfl (fun K hK=>?_) (fun K hK=>?_)
   · skip
     go_simp
     refine(HC1.out _ (F0.out.trans0 (by assumption))).mono ?_
     rintro e w5 ⟨rfl,rfl⟩
     simp only[]
     refine hK.out _ _ ?kS18 (fun hSw1=>?kR18)
     case kS18=>assumption
     clear hK K
     try simp only[Act.put,zs1,zs2,zs3]
     refine z1x 2 4 rfl rfl (by kernel_rfl) rfl rfl (fun K hK=>?_) (fun K hK=>?_)
     · skip
       refine z0k z2p _ _ rfl (v:=.slice none 0 0) (xv:=.slice A1 l1.length ca1) rfl rfl (B:=w.heap.size+1) (World.ownsRow_nil _ _ _ _) (HR1.out.fr0 (F0.out.trans0 (by assumption))) (ItemCells.one HX1.out) (by unfold maxLen;omega) (by omega) (HSZ.out _ (by assumption)) ?_
       intro v2 w2 o2 f2 k2 nil2
       rw[Nat.zero_add] at o2
       obtain⟨P2,c2,rfl,-⟩:=z0o o2
       have G2:=zhd (Fr.trans (C:=C0) (a:=w.alloc (.cells #[.slice kA x.1.length kc,.slice vA x.2.length vc] 200)) (by assumption) f2 (fun b _ h=>by simp[Value.ownBlock] at h))
       have O2:=zhd o2
       try (have HB:=zhd (f2.blk HB.out (fun h=>by simp[Value.ownBlock] at h)))
       clear o2 f2 k2 nil2
       refine hK.out _ _ ?kS19 (fun hSw2=>?kR19)
       case kS19=>exact G2.out
       clear hK K
       try simp only[Act.put,zs1,zs2,zs3]
       refine one_ 4 rfl (fun K hK=>?_)
       go_simp
       first|(have O2:=zhd (z0m O2.out ((Fr.refl C0 w2).alloc (.cells #[.slice kA x.1.length kc,.slice vA x.2.length vc] 200)) (fun _ _ h=>h));have HB:=zhd (heap_alloc_new w2 (.cells #[.slice kA x.1.length kc,.slice vA x.2.length vc] 200)))|(have HB:=zhd HB1.out)
       refine hK.out _ _ ?kS20 (fun hSw3=>?kR20)
       case kS20=>first|exact G2.out.alloc _|exact((Fr.refl C0 _).alloc _).drew
       clear hK K
       try simp only[Act.put,zs1,zs2,zs3]
       refine one_ 5 rfl (fun K hK=>?_)
       first|(refine z0k z2p _ _ rfl (v:=.slice P2 l1.length c2) (xv:=.slice (some ⟨w2.heap.size,0,none⟩) 1 1) rfl rfl (B:=w.heap.size+1) O2.out (Row.ofBlock (F:=fun _=>True) HB.out trivial (by unfold maxLen;omega) rfl) (by simp[Value.oneCell']) (by unfold maxLen;omega) (by omega) (HSZ.out _ (by assumption)) ?_)|(refine z0k z2p _ _ rfl (v:=.slice P2 l1.length c2) (xv:=.slice (some ⟨w.heap.size+1,0,none⟩) 1 1) rfl rfl (B:=w.heap.size+1) O2.out (Row.ofBlock (F:=fun _=>True) HB.out trivial (by unfold maxLen;omega) rfl) (by simp[Value.oneCell']) (by unfold maxLen;omega) (by omega) (HSZ.out _ (by assumption)) ?_)
       intro v3 w3 o3 f3 k3 nil3
       obtain⟨P3,c3,rfl,-⟩:=z0o o3
       have G3:=zhd (Fr.transO (C:=C0) (w:=w.alloc (.cells #[.slice kA x.1.length kc,.slice vA x.2.length vc] 200)) (by assumption) f3 (fun b e=>by have:=(O2.out.lt b e).1;simpa using this))
       have O3:=zhd o3
       clear o3 f3 k3 nil3
       refine hK.out _ _ ?kS21 (fun hSw4=>?kR21)
       case kS21=>exact G3.out
       clear hK K
       try simp only[Act.put,zs1,zs2,zs3]
       refine one_ 7 rfl (fun K hK=>?_)
       go_simp
       refine(HC2.out _ (F0.out.trans0 (by assumption))).mono ?_
       rintro e w5 ⟨rfl,rfl⟩
       simp only[]
       refine hK.out _ _ ?kS22 (fun hSw5=>?kR22)
       case kS22=>assumption
       clear hK K
       try simp only[Act.put,zs1,zs2,zs3]
       refine one_ 8 rfl (fun K hK=>?_)
       refine z0k z2p _ _ rfl (v:=.slice P3 (l1.length+1) c3) (xv:=.slice A2 l2.length ca2) rfl rfl (B:=w.heap.size+1) O3.out (HR2.out.fr0 (F0.out.trans0 (by assumption))) (ItemCells.one HX2.out) (by unfold maxLen;omega) (by omega) (HSZ.out _ (by assumption)) ?_
       intro v4 w4 o4 f4 k4 nil4
       obtain⟨P4,c4,rfl,-⟩:=z0o o4
       have G4:=zhd (Fr.transO (C:=C0) (w:=w.alloc (.cells #[.slice kA x.1.length kc,.slice vA x.2.length vc] 200)) (by assumption) f4 (fun b e=>by have:=(O3.out.lt b e).1;simpa using this))
       have O4:=zhd o4
       clear o4 f4 k4 nil4
       refine hK.out _ _ ?kS23 (fun hSw6=>?kR23)
       case kS23=>exact G4.out
       clear hK K
       try simp only[Act.put,zs1,zs2,zs3]
       refine tk 9 hSw6 ?_
       refine z1y (by kernel_rfl) ?_ _
       clear x0 x1
       have GG:=zhd (F0.out.trans0 G4.out)
       have m1:=GG.out.cell0 HM1.out
       have m2:=GG.out.cell0 HM2.out
       have hs4:=GG.out.size
       go_wp2_with fail
       refine z1z (Fr C0 w4) [] (by kernel_rfl) ?_
       have hSw0:(Fr C0 w4) _:=(Fr.refl C0 w4).drew
       refine tk 0 hSw0 ?_
       refine tk 1 hSw0 ?_
       refine tk 2 hSw0 ?_
       refine tk 3 hSw0 ?_
       refine tk 4 hSw0 ?_ (hy:=by intro w_ hS_;have e0:=hS_.cell0 m1;have e1:=hS_.cell0 m2;first|(go_simp;done)|(go_simp;with_reducible rfl))
       refine tk 6 hSw0 ?_
       refine tk 7 hSw0 ?_
       refine tk 8 hSw0 ?_
       refine tk 9 hSw0 ?_
       refine tk 10 hSw0 ?_ (hy:=by intro w_ hS_;have e0:=hS_.cell0 m1;have e1:=hS_.cell0 m2;first|(go_simp;done)|(go_simp;with_reducible rfl))
       refine one_ 5 rfl (fun K hK=>?_)
       refine z0k z2q _ _ rfl (v:=.slice none 0 0) (xv:=.slice (some ⟨g1,o1,none⟩) k1.length p1) rfl rfl (B:=w4.heap.size) (World.ownsRow_nil _ _ _ _) ((HK1.out.fr0 GG.out).fr0 (by assumption)) HO1.out (by unfold maxLen;omega) (by omega) (Fr.size (C:=C0) (by assumption)) ?_
       intro v5 w5 o5 f5 k5 nil5
       rw[Nat.zero_add] at o5
       obtain⟨P5,c5,rfl,-⟩:=z0o o5
       have G5:=zhd (Fr.trans (C:=C0) (a:=w4) (by assumption) f5 (fun b _ h=>by simp[Value.ownBlock] at h))
       have O5:=zhd o5
       clear o5 f5 k5 nil5
       refine hK.out _ _ ?kS24 (fun hSw1=>?kR24)
       case kS24=>exact G5.out
       clear hK K
       try simp only[Act.put,zs1,zs2,zs3]
       refine one_ 11 rfl (fun K hK=>?_)
       refine z0k z2q _ _ rfl (v:=.slice P5 k1.length c5) (xv:=.slice (some ⟨g2,o2,none⟩) k2.length p2) rfl rfl (B:=w4.heap.size) O5.out ((HK2.out.fr0 GG.out).fr0 (by assumption)) HO2.out (by unfold maxLen;omega) (by omega) (Fr.size (C:=C0) (by assumption)) ?_
       intro v6 w6 o6 f6 k6 nil6
       obtain⟨P6,c6,rfl,-⟩:=z0o o6
       have G6:=zhd (Fr.transO (C:=C0) (w:=w4) (by assumption) f6 (fun b e=>(O5.out.lt b e).1))
       have O6:=zhd o6
       clear o6 f6 k6 nil6
       refine hK.out _ _ ?kS25 (fun hSw2=>?kR25)
       case kS25=>exact G6.out
       clear hK K
       try simp only[Act.put,zs1,zs2,zs3]
       refine tk 12 hSw2 ?_
       refine tk 13 hSw2 ?_
       refine z1y (by kernel_rfl) ?_ _
       go_wp2
       go_ret2
       have G:=GG.out.trans0 G6.out
       refine⟨G,_,_,rfl,_,z0n (z0m O4.out G6.out (fun _ _ h=>h)) (fun b e=>Nat.le_of_succ_le (O4.out.lt b e).1),?_,.inr ⟨hk0,by have:=z0n O6.out (B':=w.heap.size) (fun b e=>by have:=(O6.out.lt b e).1;omega);simpa using this,fun b e k=>by have:=(O6.out.lt b e).1;have:=(O4.out.lt b k).2;omega⟩⟩
       simp only[List.nil_append,List.append_assoc,List.cons_append]
       exact ItemCells.append (.cons (HKB.out.fr0 G) (HVB.out.fr0 G) (HX2.out.fr0 G)) (HX1.out.fr0 G)
     · skip
       go_simp
       first|(have O2:=zhd (z0m O2.out ((Fr.refl C0 w2).alloc (.cells #[.slice kA x.1.length kc,.slice vA x.2.length vc] 200)) (fun _ _ h=>h));have HB:=zhd (heap_alloc_new w2 (.cells #[.slice kA x.1.length kc,.slice vA x.2.length vc] 200)))|(have HB:=zhd HB1.out)
       refine hK.out _ _ ?kS26 (fun hSw7=>?kR26)
       case kS26=>first|exact G2.out.alloc _|exact((Fr.refl C0 _).alloc _).drew
       clear hK K
       try simp only[Act.put,zs1,zs2,zs3]
       refine one_ 2 rfl (fun K hK=>?_)
       refine z0k z2p _ _ rfl (v:=.slice none 0 0) (xv:=.slice A1 l1.length ca1) rfl rfl (B:=w.heap.size+1) (World.ownsRow_nil _ _ _ _) (HR1.out.fr0 (F0.out.trans0 (by assumption))) (ItemCells.one HX1.out) (by unfold maxLen;omega) (by omega) (HSZ.out _ (by assumption)) ?_
       intro v2 w2 o2 f2 k2 nil2
       rw[Nat.zero_add] at o2
       obtain⟨P2,c2,rfl,-⟩:=z0o o2
       have G2:=zhd (Fr.trans (C:=C0) (a:=w.alloc (.cells #[.slice kA x.1.length kc,.slice vA x.2.length vc] 200)) (by assumption) f2 (fun b _ h=>by simp[Value.ownBlock] at h))
       have O2:=zhd o2
       try (have HB:=zhd (f2.blk HB.out (fun h=>by simp[Value.ownBlock] at h)))
       clear o2 f2 k2 nil2
       refine hK.out _ _ ?kS27 (fun hSw8=>?kR27)
       case kS27=>exact G2.out
       clear hK K
       try simp only[Act.put,zs1,zs2,zs3]
       refine one_ 5 rfl (fun K hK=>?_)
       first|(refine z0k z2p _ _ rfl (v:=.slice P2 l1.length c2) (xv:=.slice (some ⟨w2.heap.size,0,none⟩) 1 1) rfl rfl (B:=w.heap.size+1) O2.out (Row.ofBlock (F:=fun _=>True) HB.out trivial (by unfold maxLen;omega) rfl) (by simp[Value.oneCell']) (by unfold maxLen;omega) (by omega) (HSZ.out _ (by assumption)) ?_)|(refine z0k z2p _ _ rfl (v:=.slice P2 l1.length c2) (xv:=.slice (some ⟨w.heap.size+1,0,none⟩) 1 1) rfl rfl (B:=w.heap.size+1) O2.out (Row.ofBlock (F:=fun _=>True) HB.out trivial (by unfold maxLen;omega) rfl) (by simp[Value.oneCell']) (by unfold maxLen;omega) (by omega) (HSZ.out _ (by assumption)) ?_)
       intro v3 w3 o3 f3 k3 nil3
       obtain⟨P3,c3,rfl,-⟩:=z0o o3
       have G3:=zhd (Fr.transO (C:=C0) (w:=w.alloc (.cells #[.slice kA x.1.length kc,.slice vA x.2.length vc] 200)) (by assumption) f3 (fun b e=>by have:=(O2.out.lt b e).1;simpa using this))
       have O3:=zhd o3
       clear o3 f3 k3 nil3
       refine hK.out _ _ ?kS28 (fun hSw9=>?kR28)
       case kS28=>exact G3.out
       clear hK K
       try simp only[Act.put,zs1,zs2,zs3]
       refine one_ 7 rfl (fun K hK=>?_)
       go_simp
       refine(HC2.out _ (F0.out.trans0 (by assumption))).mono ?_
       rintro e w5 ⟨rfl,rfl⟩
       simp only[]
       refine hK.out _ _ ?kS29 (fun hSw10=>?kR29)
       case kS29=>assumption
       clear hK K
       try simp only[Act.put,zs1,zs2,zs3]
       refine one_ 8 rfl (fun K hK=>?_)
       refine z0k z2p _ _ rfl (v:=.slice P3 (l1.length+1) c3) (xv:=.slice A2 l2.length ca2) rfl rfl (B:=w.heap.size+1) O3.out (HR2.out.fr0 (F0.out.trans0 (by assumption))) (ItemCells.one HX2.out) (by unfold maxLen;omega) (by omega) (HSZ.out _ (by assumption)) ?_
       intro v4 w4 o4 f4 k4 nil4
       obtain⟨P4,c4,rfl,-⟩:=z0o o4
       have G4:=zhd (Fr.transO (C:=C0) (w:=w.alloc (.cells #[.slice kA x.1.length kc,.slice vA x.2.length vc] 200)) (by assumption) f4 (fun b e=>by have:=(O3.out.lt b e).1;simpa using this))
       have O4:=zhd o4
       clear o4 f4 k4 nil4
       refine hK.out _ _ ?kS30 (fun hSw11=>?kR30)
       case kS30=>exact G4.out
       clear hK K
       try simp only[Act.put,zs1,zs2,zs3]
       refine tk 9 hSw11 ?_
       refine z1y (by kernel_rfl) ?_ _
       clear x0 x1
       have GG:=zhd (F0.out.trans0 G4.out)
       have m1:=GG.out.cell0 HM1.out
       have m2:=GG.out.cell0 HM2.out
       have hs4:=GG.out.size
       go_wp2_with fail
       refine z1z (Fr C0 w4) [] (by kernel_rfl) ?_
       have hSw0:(Fr C0 w4) _:=(Fr.refl C0 w4).drew
       refine tk 0 hSw0 ?_
       refine tk 1 hSw0 ?_
       refine tk 2 hSw0 ?_
       refine tk 3 hSw0 ?_
       refine tk 4 hSw0 ?_ (hy:=by intro w_ hS_;have e0:=hS_.cell0 m1;have e1:=hS_.cell0 m2;first|(go_simp;done)|(go_simp;with_reducible rfl))
       refine tk 6 hSw0 ?_
       refine tk 7 hSw0 ?_
       refine tk 8 hSw0 ?_
       refine tk 9 hSw0 ?_
       refine tk 10 hSw0 ?_ (hy:=by intro w_ hS_;have e0:=hS_.cell0 m1;have e1:=hS_.cell0 m2;first|(go_simp;done)|(go_simp;with_reducible rfl))
       refine one_ 5 rfl (fun K hK=>?_)
       refine z0k z2q _ _ rfl (v:=.slice none 0 0) (xv:=.slice (some ⟨g1,o1,none⟩) k1.length p1) rfl rfl (B:=w4.heap.size) (World.ownsRow_nil _ _ _ _) ((HK1.out.fr0 GG.out).fr0 (by assumption)) HO1.out (by unfold maxLen;omega) (by omega) (Fr.size (C:=C0) (by assumption)) ?_
       intro v5 w5 o5 f5 k5 nil5
       rw[Nat.zero_add] at o5
       obtain⟨P5,c5,rfl,-⟩:=z0o o5
       have G5:=zhd (Fr.trans (C:=C0) (a:=w4) (by assumption) f5 (fun b _ h=>by simp[Value.ownBlock] at h))
       have O5:=zhd o5
       clear o5 f5 k5 nil5
       refine hK.out _ _ ?kS31 (fun hSw1=>?kR31)
       case kS31=>exact G5.out
       clear hK K
       try simp only[Act.put,zs1,zs2,zs3]
       refine one_ 11 rfl (fun K hK=>?_)
       refine z0k z2q _ _ rfl (v:=.slice P5 k1.length c5) (xv:=.slice (some ⟨g2,o2,none⟩) k2.length p2) rfl rfl (B:=w4.heap.size) O5.out ((HK2.out.fr0 GG.out).fr0 (by assumption)) HO2.out (by unfold maxLen;omega) (by omega) (Fr.size (C:=C0) (by assumption)) ?_
       intro v6 w6 o6 f6 k6 nil6
       obtain⟨P6,c6,rfl,-⟩:=z0o o6
       have G6:=zhd (Fr.transO (C:=C0) (w:=w4) (by assumption) f6 (fun b e=>(O5.out.lt b e).1))
       have O6:=zhd o6
       clear o6 f6 k6 nil6
       refine hK.out _ _ ?kS32 (fun hSw2=>?kR32)
       case kS32=>exact G6.out
       clear hK K
       try simp only[Act.put,zs1,zs2,zs3]
       refine tk 12 hSw2 ?_
       refine tk 13 hSw2 ?_
       refine z1y (by kernel_rfl) ?_ _
       go_wp2
       go_ret2
       have G:=GG.out.trans0 G6.out
       refine⟨G,_,_,rfl,_,z0n (z0m O4.out G6.out (fun _ _ h=>h)) (fun b e=>Nat.le_of_succ_le (O4.out.lt b e).1),?_,.inr ⟨hk0,by have:=z0n O6.out (B':=w.heap.size) (fun b e=>by have:=(O6.out.lt b e).1;omega);simpa using this,fun b e k=>by have:=(O6.out.lt b e).1;have:=(O4.out.lt b k).2;omega⟩⟩
       simp only[List.nil_append,List.append_assoc,List.cons_append]
       exact ItemCells.append (.cons (HKB.out.fr0 G) (HVB.out.fr0 G) (HX2.out.fr0 G)) (HX1.out.fr0 G)
   · skip
     go_simp
     first|(have O2:=zhd (z0m O2.out ((Fr.refl C0 w2).alloc (.cells #[.slice kA x.1.length kc,.slice vA x.2.length vc] 200)) (fun _ _ h=>h));have HB:=zhd (heap_alloc_new w2 (.cells #[.slice kA x.1.length kc,.slice vA x.2.length vc] 200)))|(have HB:=zhd HB1.out)
     refine hK.out _ _ ?kS33 (fun hSw12=>?kR33)
     case kS33=>first|exact G2.out.alloc _|exact((Fr.refl C0 _).alloc _).drew
     clear hK K
     try simp only[Act.put,zs1,zs2,zs3]
     refine one_ 1 rfl (fun K hK=>?_)
     go_simp
     refine(HC1.out _ (F0.out.trans0 (by assumption))).mono ?_
     rintro e w5 ⟨rfl,rfl⟩
     simp only[]
     refine hK.out _ _ ?kS34 (fun hSw13=>?kR34)
     case kS34=>assumption
     clear hK K
     try simp only[Act.put,zs1,zs2,zs3]
     refine one_ 2 rfl (fun K hK=>?_)
     refine z0k z2p _ _ rfl (v:=.slice none 0 0) (xv:=.slice A1 l1.length ca1) rfl rfl (B:=w.heap.size+1) (World.ownsRow_nil _ _ _ _) (HR1.out.fr0 (F0.out.trans0 (by assumption))) (ItemCells.one HX1.out) (by unfold maxLen;omega) (by omega) (HSZ.out _ (by assumption)) ?_
     intro v2 w2 o2 f2 k2 nil2
     rw[Nat.zero_add] at o2
     obtain⟨P2,c2,rfl,-⟩:=z0o o2
     have G2:=zhd (Fr.trans (C:=C0) (a:=w.alloc (.cells #[.slice kA x.1.length kc,.slice vA x.2.length vc] 200)) (by assumption) f2 (fun b _ h=>by simp[Value.ownBlock] at h))
     have O2:=zhd o2
     try (have HB:=zhd (f2.blk HB.out (fun h=>by simp[Value.ownBlock] at h)))
     clear o2 f2 k2 nil2
     refine hK.out _ _ ?kS35 (fun hSw14=>?kR35)
     case kS35=>exact G2.out
     clear hK K
     try simp only[Act.put,zs1,zs2,zs3]
     refine one_ 5 rfl (fun K hK=>?_)
     first|(refine z0k z2p _ _ rfl (v:=.slice P2 l1.length c2) (xv:=.slice (some ⟨w2.heap.size,0,none⟩) 1 1) rfl rfl (B:=w.heap.size+1) O2.out (Row.ofBlock (F:=fun _=>True) HB.out trivial (by unfold maxLen;omega) rfl) (by simp[Value.oneCell']) (by unfold maxLen;omega) (by omega) (HSZ.out _ (by assumption)) ?_)|(refine z0k z2p _ _ rfl (v:=.slice P2 l1.length c2) (xv:=.slice (some ⟨w.heap.size+1,0,none⟩) 1 1) rfl rfl (B:=w.heap.size+1) O2.out (Row.ofBlock (F:=fun _=>True) HB.out trivial (by unfold maxLen;omega) rfl) (by simp[Value.oneCell']) (by unfold maxLen;omega) (by omega) (HSZ.out _ (by assumption)) ?_)
     intro v3 w3 o3 f3 k3 nil3
     obtain⟨P3,c3,rfl,-⟩:=z0o o3
     have G3:=zhd (Fr.transO (C:=C0) (w:=w.alloc (.cells #[.slice kA x.1.length kc,.slice vA x.2.length vc] 200)) (by assumption) f3 (fun b e=>by have:=(O2.out.lt b e).1;simpa using this))
     have O3:=zhd o3
     clear o3 f3 k3 nil3
     refine hK.out _ _ ?kS36 (fun hSw15=>?kR36)
     case kS36=>exact G3.out
     clear hK K
     try simp only[Act.put,zs1,zs2,zs3]
     refine one_ 7 rfl (fun K hK=>?_)
     go_simp
     refine(HC2.out _ (F0.out.trans0 (by assumption))).mono ?_
     rintro e w5 ⟨rfl,rfl⟩
     simp only[]
     refine hK.out _ _ ?kS37 (fun hSw16=>?kR37)
     case kS37=>assumption
     clear hK K
     try simp only[Act.put,zs1,zs2,zs3]
     refine one_ 8 rfl (fun K hK=>?_)
     refine z0k z2p _ _ rfl (v:=.slice P3 (l1.length+1) c3) (xv:=.slice A2 l2.length ca2) rfl rfl (B:=w.heap.size+1) O3.out (HR2.out.fr0 (F0.out.trans0 (by assumption))) (ItemCells.one HX2.out) (by unfold maxLen;omega) (by omega) (HSZ.out _ (by assumption)) ?_
     intro v4 w4 o4 f4 k4 nil4
     obtain⟨P4,c4,rfl,-⟩:=z0o o4
     have G4:=zhd (Fr.transO (C:=C0) (w:=w.alloc (.cells #[.slice kA x.1.length kc,.slice vA x.2.length vc] 200)) (by assumption) f4 (fun b e=>by have:=(O3.out.lt b e).1;simpa using this))
     have O4:=zhd o4
     clear o4 f4 k4 nil4
     refine hK.out _ _ ?kS38 (fun hSw17=>?kR38)
     case kS38=>exact G4.out
     clear hK K
     try simp only[Act.put,zs1,zs2,zs3]
     refine tk 9 hSw17 ?_
     refine z1y (by kernel_rfl) ?_ _
     clear x0 x1
     have GG:=zhd (F0.out.trans0 G4.out)
     have m1:=GG.out.cell0 HM1.out
     have m2:=GG.out.cell0 HM2.out
     have hs4:=GG.out.size
     go_wp2_with fail
     refine z1z (Fr C0 w4) [] (by kernel_rfl) ?_
     have hSw0:(Fr C0 w4) _:=(Fr.refl C0 w4).drew
     refine tk 0 hSw0 ?_
     refine tk 1 hSw0 ?_
     refine tk 2 hSw0 ?_
     refine tk 3 hSw0 ?_
     refine tk 4 hSw0 ?_ (hy:=by intro w_ hS_;have e0:=hS_.cell0 m1;have e1:=hS_.cell0 m2;first|(go_simp;done)|(go_simp;with_reducible rfl))
     refine tk 6 hSw0 ?_
     refine tk 7 hSw0 ?_
     refine tk 8 hSw0 ?_
     refine tk 9 hSw0 ?_
     refine tk 10 hSw0 ?_ (hy:=by intro w_ hS_;have e0:=hS_.cell0 m1;have e1:=hS_.cell0 m2;first|(go_simp;done)|(go_simp;with_reducible rfl))
     refine one_ 5 rfl (fun K hK=>?_)
     refine z0k z2q _ _ rfl (v:=.slice none 0 0) (xv:=.slice (some ⟨g1,o1,none⟩) k1.length p1) rfl rfl (B:=w4.heap.size) (World.ownsRow_nil _ _ _ _) ((HK1.out.fr0 GG.out).fr0 (by assumption)) HO1.out (by unfold maxLen;omega) (by omega) (Fr.size (C:=C0) (by assumption)) ?_
     intro v5 w5 o5 f5 k5 nil5
     rw[Nat.zero_add] at o5
     obtain⟨P5,c5,rfl,-⟩:=z0o o5
     have G5:=zhd (Fr.trans (C:=C0) (a:=w4) (by assumption) f5 (fun b _ h=>by simp[Value.ownBlock] at h))
     have O5:=zhd o5
     clear o5 f5 k5 nil5
     refine hK.out _ _ ?kS39 (fun hSw1=>?kR39)
     case kS39=>exact G5.out
     clear hK K
     try simp only[Act.put,zs1,zs2,zs3]
     refine one_ 11 rfl (fun K hK=>?_)
     refine z0k z2q _ _ rfl (v:=.slice P5 k1.length c5) (xv:=.slice (some ⟨g2,o2,none⟩) k2.length p2) rfl rfl (B:=w4.heap.size) O5.out ((HK2.out.fr0 GG.out).fr0 (by assumption)) HO2.out (by unfold maxLen;omega) (by omega) (Fr.size (C:=C0) (by assumption)) ?_
     intro v6 w6 o6 f6 k6 nil6
     obtain⟨P6,c6,rfl,-⟩:=z0o o6
     have G6:=zhd (Fr.transO (C:=C0) (w:=w4) (by assumption) f6 (fun b e=>(O5.out.lt b e).1))
     have O6:=zhd o6
     clear o6 f6 k6 nil6
     refine hK.out _ _ ?kS40 (fun hSw2=>?kR40)
     case kS40=>exact G6.out
     clear hK K
     try simp only[Act.put,zs1,zs2,zs3]
     refine tk 12 hSw2 ?_
     refine tk 13 hSw2 ?_
     refine z1y (by kernel_rfl) ?_ _
     go_wp2
     go_ret2
     have G:=GG.out.trans0 G6.out
     refine⟨G,_,_,rfl,_,z0n (z0m O4.out G6.out (fun _ _ h=>h)) (fun b e=>Nat.le_of_succ_le (O4.out.lt b e).1),?_,.inr ⟨hk0,by have:=z0n O6.out (B':=w.heap.size) (fun b e=>by have:=(O6.out.lt b e).1;omega);simpa using this,fun b e k=>by have:=(O6.out.lt b e).1;have:=(O4.out.lt b k).2;omega⟩⟩
     simp only[List.nil_append,List.append_assoc,List.cons_append]
     exact ItemCells.append (.cons (HKB.out.fr0 G) (HVB.out.fr0 G) (HX2.out.fr0 G)) (HX1.out.fr0 G)
end
end Go.Proofs.YtidalepbkljkpaaGreat
