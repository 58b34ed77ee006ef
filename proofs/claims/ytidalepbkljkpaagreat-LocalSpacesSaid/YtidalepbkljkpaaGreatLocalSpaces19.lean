import Derived.Test.YtidalepbkljkpaaGreatLocalSpaces18
import Derived.Test.YtidalepbkljkpaaGreatLocalSpaces15
set_option linter.all false
namespace Go.Proofs.YtidalepbkljkpaaGreat
open Go.RowKit Go.H
set_option maxHeartbeats 2000000
set_option maxRecDepth 100000
section
def rootDirty:Root→Nat
 |none=>0
 |some (d,t)=>dirtyN d t
theorem zae {c:Nat→Nat} {rn:Nat} {w:World} {pg:Nat→Option Bs} {N:Nat} {X:Prop} {o:Root} {v:Value} (h:RootAt c rn w pg N X o v) (hb:rootDirty o≤1000000):Calls Tryz.prog 164 #[v] w fun e w'=>e=.returned (.int .i64 (rootDirty o:Int))∧w=w':=by
 cases o with
 |none=>obtain rfl:=h;exact zac
 |some p=>exact zad h.1 h.2 hb
def TreeCells (st:Nat) (nr:Value) (ns nd:Int) (lr:Value) (ls ld:Int) (lm:Nat) (gv ov:Value) (km:Nat):Array Value:=
 #[.pointer (some ⟨st, 0, none⟩), nr, .int .i64 ns, .int .i64 nd, lr, .int .i64 ls, .int .i64 ld, .map (some lm), gv, ov, .map (some km)]
theorem zaf {c:Nat→Nat} {r rn:Nat} {w:World} {tp st wp:Nat} {S:SSt} {D:DSt} {X:Prop} {o:Root} {rv:Value} {sz dp:Int} (h:Hd c r w tp st S D) (hr:RootAt c rn w (pgs D) D.blocks X o rv) (hb:rootDirty o≤1000000) (hl:S.state.length≤S.pages) (hf:S.pages-S.state.length<rootDirty o) :
 Calls Tryz.prog 147 #[.pointer (some ⟨tp,0,none⟩),.agg #[rv,.int .i64 sz,.int .i64 dp],.pointer (some ⟨wp,0,none⟩)] w fun e w'=>e=.returned (.int .i64 21)∧Fr C0 w w':=by
 have HD:=zhd (fun (w_:World) (hf:Fr C0 w w_)=>zae (hr.fr0 hf) hb)
 have HL:=zhd (fun (w_:World) (hf:Fr C0 w w_)=>by
  obtain⟨sm,d,m,ov,hs⟩:=(h.fr0 hf).store
  exact z52 hs h.alive.small hl)
 have t0:=h.cell
 have hone:rv=.nilIface∨∃tx y,rv=.iface tx y:=by
  cases o with
  |none=>exact .inl hr
  |some p=>exact .inr hr.1.iface
 have hf':((S.pages-S.state.length:Nat):Int)<(rootDirty o:Int):=by omega
 generalize rootDirty o=R at *
 generalize S.pages-S.state.length=Lf at *
 clear h hr
 rcases hone with rfl|⟨tx,y,rfl⟩
 · go_enter Tryz.func147,Tryz.ntmps147
   go_wp2_with fail
   have x0:(w.alloc (.cells #[.nilIface,.int .i64 sz,.int .i64 dp] 135)).cell? ⟨w.heap.size,0,none⟩=some (.nilIface):=z2k (heap_alloc_new _ _) 0 rfl
   have t0':=((Fr.refl C0 w).alloc (.cells #[.nilIface,.int .i64 sz,.int .i64 dp] 135)).cell0 t0
   have F0:=zhd ((Fr.refl C0 w).alloc (.cells #[.nilIface,.int .i64 sz,.int .i64 dp] 135))
   refine z1z (Fr C0 (w.alloc (.cells #[.nilIface,.int .i64 sz,.int .i64 dp] 135))) [] (by kernel_rfl) ?_
   have hSw0:(Fr C0 (w.alloc (.cells #[.nilIface,.int .i64 sz,.int .i64 dp] 135))) _:=(Fr.refl C0 _).drew
   refine tk 0 hSw0 ?_
   refine tk 1 hSw0 ?_ (hy:=by intro w_ hS_;have b0:=hS_.cell0 x0;have b1:=hS_.cell0 t0';first|(go_simp;done)|(go_simp;with_reducible rfl))
   refine tk 3 hSw0 ?_
   refine tk 4 hSw0 ?_
   refine tk 5 hSw0 ?_
   refine tk 6 hSw0 ?_ (hy:=by intro w_ hS_;have b0:=hS_.cell0 x0;have b1:=hS_.cell0 t0';first|(go_simp;done)|(go_simp;with_reducible rfl))
   refine tk 7 hSw0 ?_
   refine tk 8 hSw0 ?_
   refine one_ 2 rfl (fun K hK=>?_)
   go_simp
   refine(HD.out _ (F0.out.trans0 (by assumption))).mono ?_
   rintro e w5 ⟨rfl,rfl⟩
   simp only[]
   refine hK.out _ _ ?kS1 (fun hSw1=>?kR1)
   case kS1=>assumption
   clear hK K
   try simp only[Act.put,zs1,zs2,zs3]
   refine one_ 9 rfl (fun K hK=>?_)
   go_simp
   refine(HL.out _ (F0.out.trans0 (by assumption))).mono ?_
   rintro e w5 ⟨rfl,rfl⟩
   simp only[]
   refine hK.out _ _ ?kS2 (fun hSw2=>?kR2)
   case kS2=>exact Fr.drew (by assumption)
   clear hK K
   try simp only[Act.put,zs1,zs2,zs3]
   refine tk 10 hSw2 ?_
   refine z1y (by kernel_rfl) ?_ _
   go_wp2
   go_ret
   exact⟨rfl,by first|exact F0.out.drew.drew|exact F0.out.drew|exact F0.out⟩
 · go_enter Tryz.func147,Tryz.ntmps147
   go_wp2_with fail
   have x0:(w.alloc (.cells #[.iface tx y,.int .i64 sz,.int .i64 dp] 135)).cell? ⟨w.heap.size,0,none⟩=some (.iface tx y):=z2k (heap_alloc_new _ _) 0 rfl
   have t0':=((Fr.refl C0 w).alloc (.cells #[.iface tx y,.int .i64 sz,.int .i64 dp] 135)).cell0 t0
   have F0:=zhd ((Fr.refl C0 w).alloc (.cells #[.iface tx y,.int .i64 sz,.int .i64 dp] 135))
   refine z1z (Fr C0 (w.alloc (.cells #[.iface tx y,.int .i64 sz,.int .i64 dp] 135))) [] (by kernel_rfl) ?_
   have hSw0:(Fr C0 (w.alloc (.cells #[.iface tx y,.int .i64 sz,.int .i64 dp] 135))) _:=(Fr.refl C0 _).drew
   refine tk 0 hSw0 ?_
   refine tk 1 hSw0 ?_ (hy:=by intro w_ hS_;have b0:=hS_.cell0 x0;have b1:=hS_.cell0 t0';first|(go_simp;done)|(go_simp;with_reducible rfl))
   refine tk 3 hSw0 ?_
   refine tk 4 hSw0 ?_
   refine tk 5 hSw0 ?_
   refine tk 6 hSw0 ?_ (hy:=by intro w_ hS_;have b0:=hS_.cell0 x0;have b1:=hS_.cell0 t0';first|(go_simp;done)|(go_simp;with_reducible rfl))
   refine tk 7 hSw0 ?_
   refine tk 8 hSw0 ?_
   refine one_ 2 rfl (fun K hK=>?_)
   go_simp
   refine(HD.out _ (F0.out.trans0 (by assumption))).mono ?_
   rintro e w5 ⟨rfl,rfl⟩
   simp only[]
   refine hK.out _ _ ?kS3 (fun hSw1=>?kR3)
   case kS3=>assumption
   clear hK K
   try simp only[Act.put,zs1,zs2,zs3]
   refine one_ 9 rfl (fun K hK=>?_)
   go_simp
   refine(HL.out _ (F0.out.trans0 (by assumption))).mono ?_
   rintro e w5 ⟨rfl,rfl⟩
   simp only[]
   refine hK.out _ _ ?kS4 (fun hSw2=>?kR4)
   case kS4=>exact Fr.drew (by assumption)
   clear hK K
   try simp only[Act.put,zs1,zs2,zs3]
   refine tk 10 hSw2 ?_
   refine z1y (by kernel_rfl) ?_ _
   go_wp2
   go_ret
   exact⟨rfl,by first|exact F0.out.drew.drew|exact F0.out.drew|exact F0.out⟩
theorem zag {c:Nat→Nat} {r rn q:Nat} {w:World} {tp st wp tq lm km:Nat} {S:SSt} {D:DSt} {X:Prop} {o:Root} {rv nr lr gv ov:Value} {sz dp ns nd ls ld:Int} {gone gone2:List Nat} (h:Hd c r w tp st S D) (hc:Cl w c) (hr:RootAt c rn w (pgs D) D.blocks X o rv) (hb:rootDirty o≤1000000) (hl:S.state.length≤S.pages) (hf:rootDirty o≤S.pages-S.state.length) (ht:w.heap[tp]?=some (.cells (TreeCells st nr ns nd lr ls ld lm gv ov km) 139 (0,0))) (hg:w.ownsRow 0 3 1 gv gone.length (gone.map natV)) (hgo:∀b,gv.ownBlock=some b→c b=r) (hr0:r≠0) (hqr:q≠r) (hw:WorkAt c q w wp tq gone2) (hlen:gone.length+gone2.length≤1000000) :
 Calls Tryz.prog 147 #[.pointer (some ⟨tp,0,none⟩),.agg #[rv,.int .i64 sz,.int .i64 dp],.pointer (some ⟨wp,0,none⟩)] w fun e w'=>e=.returned (.int .i64 0)∧Fr (fun b=>b=tp∨gv.ownBlock=some b) w w'∧∃gv' c',Ag w.heap.size c c'∧Cl w' c'∧w'.heap[tp]?=some (.cells (TreeCells st rv sz dp lr ls ld lm gv' ov km) 139 (0,0))∧w'.ownsRow 0 3 1 gv' (gone++gone2).length ((gone++gone2).map natV)∧∀b,gv'.ownBlock=some b→c' b=r:=by
 have HD:=zhd (fun (w_:World) (hf:Fr C0 w w_)=>zae (hr.fr0 hf) hb)
 have HL:=zhd (fun (w_:World) (hf:Fr C0 w w_)=>by
  obtain⟨sm,d,m,ov,hs⟩:=(h.fr0 hf).store
  exact z52 hs h.alive.small hl)
 have HOWN:=zhd h.own
 have hone:rv=.nilIface∨∃tx y,rv=.iface tx y:=by
  cases o with
  |none=>exact .inl hr
  |some p=>exact .inr hr.1.iface
 obtain⟨wgv,hwb,hwo,hwq,hwg⟩:=hw.ex
 have hf':¬((S.pages-S.state.length:Nat):Int)<(rootDirty o:Int):=by omega
 generalize rootDirty o=R at *
 generalize S.pages-S.state.length=Lf at *
 have htw:tp≠wp:=by
  intro e
  rw[e,hwb] at ht
  simp[TreeCells] at ht
 have hgt:∀b,gv.ownBlock=some b→b≠tp:=by
  intro b e h2
  obtain⟨cur,h3⟩:=z4y hg e
  rw[h2,ht] at h3
  simp[TreeCells] at h3
 have HT:=zhd ht
 have HG:=zhd hg
 have HGO:=zhd hgo
 have HWB:=zhd hwb
 have HWO:=zhd hwo
 have HC:=zhd hc
 have HGT:=zhd hgt
 have t0:w.cell? ⟨tp,0,none⟩=some (.pointer (some ⟨st,0,none⟩)):=z2k ht 0 rfl
 have t1:w.cell? ⟨tp,1,none⟩=some nr:=z2k ht 1 rfl
 have t2:w.cell? ⟨tp,2,none⟩=some (.int .i64 ns):=z2k ht 2 rfl
 have t3:w.cell? ⟨tp,3,none⟩=some (.int .i64 nd):=z2k ht 3 rfl
 have s1:=z2i 1 ht
 have s2:=z2i 2 ht
 have s3:=z2i 3 ht
 obtain⟨GA,gc,rfl,-⟩:=z0o hg
 obtain⟨WA,wcp,rfl,-⟩:=z0o hwo
 have hnwp:∀b,(Value.slice GA gone.length gc).ownBlock=some b→b≠wp:=fun b e h2=>by
  have h3:=hgo b e
  rw[h2,hwq] at h3
  exact hqr h3
 have HNW:=zhd hnwp
 clear h hr ht hg hgo hwb hwo hwg hc hw hgt hnwp
 rcases hone with rfl|⟨tx,y,rfl⟩
 · go_enter Tryz.func147,Tryz.ntmps147
   go_wp2_with fail
   have hbx:(w.alloc (.cells #[.nilIface,.int .i64 sz,.int .i64 dp] 135)).heap[w.heap.size]?=some (.cells #[.nilIface,.int .i64 sz,.int .i64 dp] 135 (0,0)):=heap_alloc_new _ _
   have x0:=z2k hbx 0 rfl
   have x1:=z2k hbx 1 rfl
   have x2:=z2k hbx 2 rfl
   have F0:=zhd ((Fr.refl C0 w).alloc (.cells #[.nilIface,.int .i64 sz,.int .i64 dp] 135))
   have t0':=F0.out.cell0 t0
   have HT1:=F0.out.blk HT.out (fun h=>h)
   have y1:(w.alloc (.cells #[.nilIface,.int .i64 sz,.int .i64 dp] 135)).cell? ⟨tp,1,none⟩=some nr:=z2k HT1 1 rfl
   have y2:(w.alloc (.cells #[.nilIface,.int .i64 sz,.int .i64 dp] 135)).cell? ⟨tp,2,none⟩=some (.int .i64 ns):=z2k HT1 2 rfl
   have y3:(w.alloc (.cells #[.nilIface,.int .i64 sz,.int .i64 dp] 135)).cell? ⟨tp,3,none⟩=some (.int .i64 nd):=z2k HT1 3 rfl
   have z1:=z2i 1 HT1
   have z2:=z2i 2 HT1
   have z3:=z2i 3 HT1
   have HTT:=zhd HT1
   have htl:tp<w.heap.size:=(Array.getElem?_eq_some_iff.1 HT.out).1
   have hte:¬tp=w.heap.size:=by omega
   have hte2:¬w.heap.size=tp:=by omega
   have hwl:wp<w.heap.size:=(Array.getElem?_eq_some_iff.1 HWB.out).1
   clear hbx HT1
   refine z1z (Fr C0 (w.alloc (.cells #[.nilIface,.int .i64 sz,.int .i64 dp] 135))) [] (by kernel_rfl) ?_
   have hSw0:(Fr C0 (w.alloc (.cells #[.nilIface,.int .i64 sz,.int .i64 dp] 135))) _:=(Fr.refl C0 _).drew
   refine tk 0 hSw0 ?_
   refine tk 1 hSw0 ?_ (hy:=by intro w_ hS_;have b0:=hS_.cell0 x0;have b1:=hS_.cell0 t0';first|(go_simp;done)|(go_simp;with_reducible rfl))
   refine tk 3 hSw0 ?_
   refine tk 4 hSw0 ?_
   refine tk 5 hSw0 ?_
   refine tk 6 hSw0 ?_ (hy:=by intro w_ hS_;have b0:=hS_.cell0 x0;have b1:=hS_.cell0 t0';first|(go_simp;done)|(go_simp;with_reducible rfl))
   refine tk 7 hSw0 ?_
   refine tk 8 hSw0 ?_
   refine one_ 2 rfl (fun K hK=>?_)
   go_simp
   refine(HD.out _ (F0.out.trans0 (by assumption))).mono ?_
   rintro e w5 ⟨rfl,rfl⟩
   simp only[]
   refine hK.out _ _ ?kS5 (fun hSw1=>?kR5)
   case kS5=>assumption
   clear hK K
   try simp only[Act.put,zs1,zs2,zs3]
   refine one_ 9 rfl (fun K hK=>?_)
   go_simp
   refine(HL.out _ (F0.out.trans0 (by assumption))).mono ?_
   rintro e w5 ⟨rfl,rfl⟩
   simp only[]
   refine hK.out _ _ ?kS6 (fun hSw2=>?kR6)
   case kS6=>exact Fr.drew (by assumption)
   clear hK K
   try simp only[Act.put,zs1,zs2,zs3]
   refine tk 10 hSw2 ?_
   refine z1y (by kernel_rfl) ?_ _
   have HTV:Hid (((((w.setCell ⟨tp,1,none⟩ (.nilIface)).setCell ⟨tp,2,none⟩ (.int .i64 sz)).setCell ⟨tp,3,none⟩ (.int .i64 dp)).alloc (.cells #[.nilIface,.int .i64 sz,.int .i64 dp] 135)).heap[tp]?=some (.cells (TreeCells st (.nilIface) sz dp lr ls ld lm (.slice GA gone.length gc) ov km) 139 (0,0))):=zhd (((Fr.refl C0 _).alloc _).blk (z2j (i:=3) (z2j (i:=2) (z2j (i:=1) HT.out (.nilIface)) (.int .i64 sz)) (.int .i64 dp)) (fun h=>h))
   have FV:=zhd (((((Fr.refl (fun b=>b=tp) w).setCell (p:=⟨tp,1,none⟩) (.inr rfl) (.nilIface)).setCell (p:=⟨tp,2,none⟩) (.inr rfl) (.int .i64 sz)).setCell (p:=⟨tp,3,none⟩) (.inr rfl) (.int .i64 dp)).alloc (.cells #[.nilIface,.int .i64 sz,.int .i64 dp] 135))
   have HGV:=zhd (z0m HG.out FV.out (fun b e h=>HGT.out b e h))
   have HWV:=zhd (z0m HWO.out FV.out (fun b e h=>by
    obtain⟨cur,h3⟩:=z4y HWO.out e
    rw[h,HT.out] at h3
    simp[TreeCells] at h3))
   have k8:((((w.setCell ⟨tp,1,none⟩ (.nilIface)).setCell ⟨tp,2,none⟩ (.int .i64 sz)).setCell ⟨tp,3,none⟩ (.int .i64 dp)).alloc (.cells #[.nilIface,.int .i64 sz,.int .i64 dp] 135)).cell? ⟨tp,8,none⟩=some (.slice GA gone.length gc):=z2k HTV.out 8 rfl
   have hwpV:=FV.out.blk HWB.out (fun h=>htw h.symm)
   have k1:((((w.setCell ⟨tp,1,none⟩ (.nilIface)).setCell ⟨tp,2,none⟩ (.int .i64 sz)).setCell ⟨tp,3,none⟩ (.int .i64 dp)).alloc (.cells #[.nilIface,.int .i64 sz,.int .i64 dp] 135)).cell? ⟨wp,1,none⟩=some (.slice WA gone2.length wcp):=z2k hwpV 1 rfl
   have hn1:¬(Value.slice GA gone.length gc).ownBlock=some tp:=fun e=>HGT.out _ e rfl
   have hn2:¬(Value.slice GA gone.length gc).ownBlock=some wp:=fun e=>HNW.out _ e rfl
   have hsV:=FV.out.size
   clear hwpV
   go_wp2_with fail
   refine z1z (Fr (fun b=>(Value.slice GA gone.length gc).ownBlock=some b) ((((w.setCell ⟨tp,1,none⟩ (.nilIface)).setCell ⟨tp,2,none⟩ (.int .i64 sz)).setCell ⟨tp,3,none⟩ (.int .i64 dp)).alloc (.cells #[.nilIface,.int .i64 sz,.int .i64 dp] 135))) [12] (by kernel_rfl) ?_
   have hSw0:(Fr (fun b=>(Value.slice GA gone.length gc).ownBlock=some b) ((((w.setCell ⟨tp,1,none⟩ (.nilIface)).setCell ⟨tp,2,none⟩ (.int .i64 sz)).setCell ⟨tp,3,none⟩ (.int .i64 dp)).alloc (.cells #[.nilIface,.int .i64 sz,.int .i64 dp] 135))) _:=(Fr.refl _ _).drew.drew.drew
   refine tk 0 hSw0 ?_
   refine tk 1 hSw0 ?_
   refine tk 2 hSw0 ?_
   refine tk 3 hSw0 ?_
   refine tk 4 hSw0 ?_ (hy:=by intro w_ hS_;have j8:=hS_.cell k8 hn1;have j1:=hS_.cell k1 hn2;first|(go_simp;done)|(go_simp;with_reducible rfl))
   refine tk 5 hSw0 ?_
   refine tk 6 hSw0 ?_
   refine tk 7 hSw0 ?_
   refine tk 8 hSw0 ?_ (hy:=by intro w_ hS_;have j8:=hS_.cell k8 hn1;have j1:=hS_.cell k1 hn2;first|(go_simp;done)|(go_simp;with_reducible rfl))
   refine one_ 9 rfl (fun K hK=>?_)
   refine z0k z2r _ _ rfl (v:=.slice GA gone.length gc) (xv:=.slice WA gone2.length wcp) rfl rfl (z0m HGV.out ((Fr.refl C0 _).drew.drew.drew) (fun _ _ h=>h)) (Row.ofOwn (z0m HWV.out ((Fr.refl C0 _).drew.drew.drew) (fun _ _ h=>h)) (F:=fun _=>True) (fun _ _=>trivial)) (fun u hu=>by obtain⟨z,_,rfl⟩:=List.mem_map.1 hu;rfl) (by unfold maxLen;omega) (by omega) (Nat.zero_le _) ?_
   intro v6 w6 o6 f6 k6 nil6
   obtain⟨A6,c6,rfl,-⟩:=z0o o6
   have F6:=zhd ((Fr.refl (fun b=>(Value.slice GA gone.length gc).ownBlock=some b) ((((w.setCell ⟨tp,1,none⟩ (.nilIface)).setCell ⟨tp,2,none⟩ (.int .i64 sz)).setCell ⟨tp,3,none⟩ (.int .i64 dp)).alloc (.cells #[.nilIface,.int .i64 sz,.int .i64 dp] 135))).drew.drew.drew.trans f6 (fun _ _ h=>h))
   have O6:=zhd o6
   have K6:Hid (∀b,(Value.slice A6 (gone.length+gone2.length) c6).ownBlock=some b→(Value.slice GA gone.length gc).ownBlock=some b∨w.heap.size≤b):=zhd (fun b e=>(k6 b e).imp (fun h=>h) (fun h=>Nat.le_trans hsV h))
   have ht6:=F6.out.blk HTV.out hn1
   have m8:w6.cell? ⟨tp,8,none⟩=some (.slice GA gone.length gc):=z2k ht6 8 rfl
   have z8:=z2i 8 ht6
   have HT6:=zhd ht6
   clear o6 f6 k6 nil6 ht6
   refine hK.out _ _ ?kS7 (fun hSw1=>?kR7)
   case kS7=>exact F6.out
   clear hK K
   try simp only[Act.put,zs1,zs2,zs3]
   refine tk 10 hSw1 ?_
   refine tk 11 hSw1 ?_
   refine z1v 12 rfl (fun K hK=>?_)
   go_simp
   refine hK.out _ _ ?_;clear hK K
   try simp only[Act.put,zs1,zs2,zs3]
   refine z1y (by kernel_rfl) ?_ _
   go_wp2
   go_ret
   have hS:=(Fr.refl (fun b=>b=tp) w6).setCell (p:=⟨tp,8,none⟩) (.inr rfl) (.slice A6 (gone.length+gone2.length) c6)
   have hag:Ag w.heap.size c (setc c (Value.slice A6 (gone.length+gone2.length) c6).ownBlock r):=z2m HGO.out K6.out
   have hgs:=F6.out.size
   refine⟨rfl,((FV.out.mono (fun b _ h=>.inl h)).trans F6.out (fun b _ h=>.inr h)).trans hS (fun b _ h=>.inl h),.slice A6 (gone.length+gone2.length) c6,_,hag,fun b hb=>?_,z2j (i:=8) HT6.out _,?_,fun b e=>by simp[setc,e]⟩
   · have h2:=hS.size
     unfold setc
     split
     · rename_i e;have:=(O6.out.lt b e).2;omega
     · exact HC.out b (by omega)
   · have:=z0m O6.out hS (fun b e h=>(K6.out b e).elim (fun h2=>HGT.out b h2 h) (fun h2=>by omega))
     simpa using this
 · go_enter Tryz.func147,Tryz.ntmps147
   go_wp2_with fail
   have hbx:(w.alloc (.cells #[.iface tx y,.int .i64 sz,.int .i64 dp] 135)).heap[w.heap.size]?=some (.cells #[.iface tx y,.int .i64 sz,.int .i64 dp] 135 (0,0)):=heap_alloc_new _ _
   have x0:=z2k hbx 0 rfl
   have x1:=z2k hbx 1 rfl
   have x2:=z2k hbx 2 rfl
   have F0:=zhd ((Fr.refl C0 w).alloc (.cells #[.iface tx y,.int .i64 sz,.int .i64 dp] 135))
   have t0':=F0.out.cell0 t0
   have HT1:=F0.out.blk HT.out (fun h=>h)
   have y1:(w.alloc (.cells #[.iface tx y,.int .i64 sz,.int .i64 dp] 135)).cell? ⟨tp,1,none⟩=some nr:=z2k HT1 1 rfl
   have y2:(w.alloc (.cells #[.iface tx y,.int .i64 sz,.int .i64 dp] 135)).cell? ⟨tp,2,none⟩=some (.int .i64 ns):=z2k HT1 2 rfl
   have y3:(w.alloc (.cells #[.iface tx y,.int .i64 sz,.int .i64 dp] 135)).cell? ⟨tp,3,none⟩=some (.int .i64 nd):=z2k HT1 3 rfl
   have z1:=z2i 1 HT1
   have z2:=z2i 2 HT1
   have z3:=z2i 3 HT1
   have HTT:=zhd HT1
   have htl:tp<w.heap.size:=(Array.getElem?_eq_some_iff.1 HT.out).1
   have hte:¬tp=w.heap.size:=by omega
   have hte2:¬w.heap.size=tp:=by omega
   have hwl:wp<w.heap.size:=(Array.getElem?_eq_some_iff.1 HWB.out).1
   clear hbx HT1
   refine z1z (Fr C0 (w.alloc (.cells #[.iface tx y,.int .i64 sz,.int .i64 dp] 135))) [] (by kernel_rfl) ?_
   have hSw0:(Fr C0 (w.alloc (.cells #[.iface tx y,.int .i64 sz,.int .i64 dp] 135))) _:=(Fr.refl C0 _).drew
   refine tk 0 hSw0 ?_
   refine tk 1 hSw0 ?_ (hy:=by intro w_ hS_;have b0:=hS_.cell0 x0;have b1:=hS_.cell0 t0';first|(go_simp;done)|(go_simp;with_reducible rfl))
   refine tk 3 hSw0 ?_
   refine tk 4 hSw0 ?_
   refine tk 5 hSw0 ?_
   refine tk 6 hSw0 ?_ (hy:=by intro w_ hS_;have b0:=hS_.cell0 x0;have b1:=hS_.cell0 t0';first|(go_simp;done)|(go_simp;with_reducible rfl))
   refine tk 7 hSw0 ?_
   refine tk 8 hSw0 ?_
   refine one_ 2 rfl (fun K hK=>?_)
   go_simp
   refine(HD.out _ (F0.out.trans0 (by assumption))).mono ?_
   rintro e w5 ⟨rfl,rfl⟩
   simp only[]
   refine hK.out _ _ ?kS8 (fun hSw1=>?kR8)
   case kS8=>assumption
   clear hK K
   try simp only[Act.put,zs1,zs2,zs3]
   refine one_ 9 rfl (fun K hK=>?_)
   go_simp
   refine(HL.out _ (F0.out.trans0 (by assumption))).mono ?_
   rintro e w5 ⟨rfl,rfl⟩
   simp only[]
   refine hK.out _ _ ?kS9 (fun hSw2=>?kR9)
   case kS9=>exact Fr.drew (by assumption)
   clear hK K
   try simp only[Act.put,zs1,zs2,zs3]
   refine tk 10 hSw2 ?_
   refine z1y (by kernel_rfl) ?_ _
   have HTV:Hid (((((w.setCell ⟨tp,1,none⟩ (.iface tx y)).setCell ⟨tp,2,none⟩ (.int .i64 sz)).setCell ⟨tp,3,none⟩ (.int .i64 dp)).alloc (.cells #[.iface tx y,.int .i64 sz,.int .i64 dp] 135)).heap[tp]?=some (.cells (TreeCells st (.iface tx y) sz dp lr ls ld lm (.slice GA gone.length gc) ov km) 139 (0,0))):=zhd (((Fr.refl C0 _).alloc _).blk (z2j (i:=3) (z2j (i:=2) (z2j (i:=1) HT.out (.iface tx y)) (.int .i64 sz)) (.int .i64 dp)) (fun h=>h))
   have FV:=zhd (((((Fr.refl (fun b=>b=tp) w).setCell (p:=⟨tp,1,none⟩) (.inr rfl) (.iface tx y)).setCell (p:=⟨tp,2,none⟩) (.inr rfl) (.int .i64 sz)).setCell (p:=⟨tp,3,none⟩) (.inr rfl) (.int .i64 dp)).alloc (.cells #[.iface tx y,.int .i64 sz,.int .i64 dp] 135))
   have HGV:=zhd (z0m HG.out FV.out (fun b e h=>HGT.out b e h))
   have HWV:=zhd (z0m HWO.out FV.out (fun b e h=>by
    obtain⟨cur,h3⟩:=z4y HWO.out e
    rw[h,HT.out] at h3
    simp[TreeCells] at h3))
   have k8:((((w.setCell ⟨tp,1,none⟩ (.iface tx y)).setCell ⟨tp,2,none⟩ (.int .i64 sz)).setCell ⟨tp,3,none⟩ (.int .i64 dp)).alloc (.cells #[.iface tx y,.int .i64 sz,.int .i64 dp] 135)).cell? ⟨tp,8,none⟩=some (.slice GA gone.length gc):=z2k HTV.out 8 rfl
   have hwpV:=FV.out.blk HWB.out (fun h=>htw h.symm)
   have k1:((((w.setCell ⟨tp,1,none⟩ (.iface tx y)).setCell ⟨tp,2,none⟩ (.int .i64 sz)).setCell ⟨tp,3,none⟩ (.int .i64 dp)).alloc (.cells #[.iface tx y,.int .i64 sz,.int .i64 dp] 135)).cell? ⟨wp,1,none⟩=some (.slice WA gone2.length wcp):=z2k hwpV 1 rfl
   have hn1:¬(Value.slice GA gone.length gc).ownBlock=some tp:=fun e=>HGT.out _ e rfl
   have hn2:¬(Value.slice GA gone.length gc).ownBlock=some wp:=fun e=>HNW.out _ e rfl
   have hsV:=FV.out.size
   clear hwpV
   go_wp2_with fail
   refine z1z (Fr (fun b=>(Value.slice GA gone.length gc).ownBlock=some b) ((((w.setCell ⟨tp,1,none⟩ (.iface tx y)).setCell ⟨tp,2,none⟩ (.int .i64 sz)).setCell ⟨tp,3,none⟩ (.int .i64 dp)).alloc (.cells #[.iface tx y,.int .i64 sz,.int .i64 dp] 135))) [12] (by kernel_rfl) ?_
   have hSw0:(Fr (fun b=>(Value.slice GA gone.length gc).ownBlock=some b) ((((w.setCell ⟨tp,1,none⟩ (.iface tx y)).setCell ⟨tp,2,none⟩ (.int .i64 sz)).setCell ⟨tp,3,none⟩ (.int .i64 dp)).alloc (.cells #[.iface tx y,.int .i64 sz,.int .i64 dp] 135))) _:=(Fr.refl _ _).drew.drew.drew
   refine tk 0 hSw0 ?_
   refine tk 1 hSw0 ?_
   refine tk 2 hSw0 ?_
   refine tk 3 hSw0 ?_
   refine tk 4 hSw0 ?_ (hy:=by intro w_ hS_;have j8:=hS_.cell k8 hn1;have j1:=hS_.cell k1 hn2;first|(go_simp;done)|(go_simp;with_reducible rfl))
   refine tk 5 hSw0 ?_
   refine tk 6 hSw0 ?_
   refine tk 7 hSw0 ?_
   refine tk 8 hSw0 ?_ (hy:=by intro w_ hS_;have j8:=hS_.cell k8 hn1;have j1:=hS_.cell k1 hn2;first|(go_simp;done)|(go_simp;with_reducible rfl))
   refine one_ 9 rfl (fun K hK=>?_)
   refine z0k z2r _ _ rfl (v:=.slice GA gone.length gc) (xv:=.slice WA gone2.length wcp) rfl rfl (z0m HGV.out ((Fr.refl C0 _).drew.drew.drew) (fun _ _ h=>h)) (Row.ofOwn (z0m HWV.out ((Fr.refl C0 _).drew.drew.drew) (fun _ _ h=>h)) (F:=fun _=>True) (fun _ _=>trivial)) (fun u hu=>by obtain⟨z,_,rfl⟩:=List.mem_map.1 hu;rfl) (by unfold maxLen;omega) (by omega) (Nat.zero_le _) ?_
   intro v6 w6 o6 f6 k6 nil6
   obtain⟨A6,c6,rfl,-⟩:=z0o o6
   have F6:=zhd ((Fr.refl (fun b=>(Value.slice GA gone.length gc).ownBlock=some b) ((((w.setCell ⟨tp,1,none⟩ (.iface tx y)).setCell ⟨tp,2,none⟩ (.int .i64 sz)).setCell ⟨tp,3,none⟩ (.int .i64 dp)).alloc (.cells #[.iface tx y,.int .i64 sz,.int .i64 dp] 135))).drew.drew.drew.trans f6 (fun _ _ h=>h))
   have O6:=zhd o6
   have K6:Hid (∀b,(Value.slice A6 (gone.length+gone2.length) c6).ownBlock=some b→(Value.slice GA gone.length gc).ownBlock=some b∨w.heap.size≤b):=zhd (fun b e=>(k6 b e).imp (fun h=>h) (fun h=>Nat.le_trans hsV h))
   have ht6:=F6.out.blk HTV.out hn1
   have m8:w6.cell? ⟨tp,8,none⟩=some (.slice GA gone.length gc):=z2k ht6 8 rfl
   have z8:=z2i 8 ht6
   have HT6:=zhd ht6
   clear o6 f6 k6 nil6 ht6
   refine hK.out _ _ ?kS10 (fun hSw1=>?kR10)
   case kS10=>exact F6.out
   clear hK K
   try simp only[Act.put,zs1,zs2,zs3]
   refine tk 10 hSw1 ?_
   refine tk 11 hSw1 ?_
   refine z1v 12 rfl (fun K hK=>?_)
   go_simp
   refine hK.out _ _ ?_;clear hK K
   try simp only[Act.put,zs1,zs2,zs3]
   refine z1y (by kernel_rfl) ?_ _
   go_wp2
   go_ret
   have hS:=(Fr.refl (fun b=>b=tp) w6).setCell (p:=⟨tp,8,none⟩) (.inr rfl) (.slice A6 (gone.length+gone2.length) c6)
   have hag:Ag w.heap.size c (setc c (Value.slice A6 (gone.length+gone2.length) c6).ownBlock r):=z2m HGO.out K6.out
   have hgs:=F6.out.size
   refine⟨rfl,((FV.out.mono (fun b _ h=>.inl h)).trans F6.out (fun b _ h=>.inr h)).trans hS (fun b _ h=>.inl h),.slice A6 (gone.length+gone2.length) c6,_,hag,fun b hb=>?_,z2j (i:=8) HT6.out _,?_,fun b e=>by simp[setc,e]⟩
   · have h2:=hS.size
     unfold setc
     split
     · rename_i e;have:=(O6.out.lt b e).2;omega
     · exact HC.out b (by omega)
   · have:=z0m O6.out hS (fun b e h=>(K6.out b e).elim (fun h2=>HGT.out b h2 h) (fun h2=>by omega))
     simpa using this
end
section
theorem zah {w:World} {tp st lm km:Nat} {nr lr gv ov:Value} {ns nd ls ld:Int} (ht:w.heap[tp]?=some (.cells (TreeCells st nr ns nd lr ls ld lm gv ov km) 139 (0,0))) :
 Calls Tryz.prog 119 #[.pointer (some ⟨tp,0,none⟩)] w fun e w'=>e=.returned (.int .i64 ns)∧w=w':=by
 have c2:w.cell? ⟨tp,2,none⟩=some (.int .i64 ns):=z2k ht 2 rfl
 clear ht
 go_enter Tryz.func119,Tryz.ntmps119
 go_wp2
 go_ret
 exact⟨rfl,rfl⟩
theorem zai {r rn q st tp n lm km:Nat} {S:SSt} {D:DSt} {X:Prop} {lo hi:List UInt8} {lov hiv nr lr gv ov:Value} {ns nd ls ld:Int} {c:Nat→Nat} {w:World} {o:Root} (hq0:q≠0) (hqr:q≠r) (hqn:q≠rn) (hqc:∀b,c b≠q) (hn:n≤9223372036854775807) (hh:Hd c r w tp st S D) (hc:Cl w c) (ht:w.heap[tp]?=some (.cells (TreeCells st nr ns nd lr ls ld lm gv ov km) 139 (0,0))) (hr:RootAt c rn w (pgs D) D.blocks X o nr) (hso:Sorted (rootL o)) (hlo:BytesAt (Dt c) w lov lo) (hhi:BytesAt (Dt c) w hiv hi) (hl1:lo.length≤64) (hl2:hi.length≤64) (hL:(rootL o).length≤100000) :
 Calls Tryz.prog 60 #[.pointer (some ⟨tp,0,none⟩),lov,hiv,.int .i64 (n:Int)] w (RngRes w.heap.size c q w X ((rangeL lo hi (rootL o)).take n)):=by
 have H:=zhd (za8 (n:=n) hq0 hqr hqn hqc hn hh hc hr hso hlo hhi hl1 hl2 hL)
 have c1:w.cell? ⟨tp,1,none⟩=some nr:=z2k ht 1 rfl
 clear hh hc ht hr hso hlo hhi hqc
 go_enter Tryz.func60,Tryz.ntmps60
 go_wp2_with fail
 refine H.out.mono ?_
 rintro e w1 ⟨f1,h1⟩
 have HR:=zhd (show RngRes w.heap.size c q w X ((rangeL lo hi (rootL o)).take n) e w1 from⟨f1,h1⟩)
 rcases h1 with⟨hX,rfl⟩|⟨v',c',rfl,_⟩
 · clear f1
   go_wp2
   go_ret2
   exact HR.out
 · clear f1
   go_wp2
   go_ret2
   exact HR.out
end
section
def GetP (w w':World) (X:Prop) (e:Ending) (o:Option Bs):Prop:=
 Fr C0 w w'∧((X∧e=.returned (.tuple #[.slice none 0 0,.bool false,.int .i64 22]))∨match o with
  |some b=>∃v,e=.returned (.tuple #[v,.bool true,.int .i64 0])∧BytesAt (fun b=>w.heap.size≤b) w' v b
  |none=>e=.returned (.tuple #[.slice none 0 0,.bool false,.int .i64 0]))
theorem zaj {c:Nat→Nat} {r rn:Nat} {w:World} {tp st:Nat} {S:SSt} {D:DSt} {X:Prop} {o:Root} {v kv:Value} {key:Bs} (h:Hd c r w tp st S D) (hc:Cl w c) (hr:RootAt c rn w (pgs D) D.blocks X o v) (ho:Sorted (rootL o)) (hk:BytesAt (Dt c) w kv key) :
 Calls Tryz.prog 94 #[.pointer (some ⟨tp,0,none⟩),v,kv] w fun e w'=>GetT w w' X e (getL key (rootL o)):=by
 cases o with
 | none =>
   obtain rfl:=hr
   refine z8f.mono ?_
   rintro e w' ⟨rfl,rfl⟩
   exact⟨Fr.refl _ _,.inr rfl⟩
 |some p=>exact z8g h hc hr.1 hr.2 (Nat.le_refl _) ho hk
theorem zak {c:Nat→Nat} {r rn:Nat} {w:World} {tp st lm km:Nat} {S:SSt} {D:DSt} {X:Prop} {o:Root} {nr lr gv ov kv:Value} {ns nd ls ld:Int} {key:Bs} (h:Hd c r w tp st S D) (hc:Cl w c) (ht:w.heap[tp]?=some (.cells (TreeCells st nr ns nd lr ls ld lm gv ov km) 139 (0,0))) (hr:RootAt c rn w (pgs D) D.blocks X o nr) (ho:Sorted (rootL o)) (hk:BytesAt (Dt c) w kv key) (hw:wrong key []=0) :
 Calls Tryz.prog 66 #[.pointer (some ⟨tp,0,none⟩),kv] w fun e w'=>GetP w w' X e (getL key (rootL o)):=by
 have HM:=zhd (fun (w_:World) (hf:Fr C0 w w_)=>za9 (G:=fun _=>True) (vv:=.slice none 0 0) (v:=[]) (h.fr0 hf) (hk.fr0 hf) ⟨none,0,rfl,Nat.le_refl _,by unfold maxLen;omega,fun h=>absurd rfl h⟩)
 rw[hw] at HM
 have HG:=zhd (fun (w_:World) (hf:Fr C0 w w_)=>zaj (h.fr0 hf) (hc.mono hf.size) (hr.fr0 hf) ho (hk.fr0 hf))
 have t1:w.cell? ⟨tp,1,none⟩=some nr:=z2k ht 1 rfl
 obtain⟨A,cc,rfl,-⟩:=hk.form
 have F0:=zhd ((Fr.refl C0 w).alloc (.cells #[.int .i64 0] 33))
 have t1':=F0.out.cell0 t1
 have hs0:(w.alloc (.cells #[.int .i64 0] 33)).heap.size=w.heap.size+1:=by simp
 clear h hc ht hr ho hk hw
 go_enter_defers Tryz.func66,Tryz.ntmps66
 go_wp2_with fail
 refine(HM.out _ F0.out).mono ?_
 rintro e w1 ⟨rfl,rfl⟩
 go_wp2_with fail
 refine(HG.out _ F0.out.drew).mono ?_
 clear HM HG
 rintro e w2 ⟨f2,h2⟩
 have F2:=zhd (F0.out.drew.trans0 f2)
 have hbe:w2.heap[w.heap.size]?=some (.cells #[.int .i64 0] 33 (0,0)):=f2.blk ((Fr.refl C0 _).drew.blk (heap_alloc_new w _) (fun h=>h)) (fun h=>h)
 have e0:=z2k hbe 0 rfl
 have ze:=z2i 0 hbe
 clear f2 hbe
 have HFE:=zhd (F2.out.setCell (p:=⟨w.heap.size,0,none⟩) (.inl (Nat.le_refl _)) (.int .i64 0))
 rcases h2 with⟨hX,rfl⟩|h2
 · go_wp2_with fail
   refine leaves_cons (f:=86) (args:=#[.pointer (some ⟨w.heap.size,0,none⟩)]) (by simp) (by simp[go_sem]) ?_
   refine(z9z ⟨w.heap.size,0,none⟩ 0 22 [] w2 e0 ze).mono ?_
   rintro e u' w3 ⟨rfl,rfl,rfl⟩
   simp[Leaves,settle,results,Tryz.results66,go_sem,e0]
   exact⟨F2.out.setCell (p:=⟨w.heap.size,0,none⟩) (.inl (Nat.le_refl _)) _,.inl ⟨hX,rfl⟩⟩
 · cases hg:getL key (rootL o) with
   | none =>
     rw[hg] at h2
     obtain rfl:=h2
     go_wp2_with fail
     refine leaves_cons (f:=86) (args:=#[.pointer (some ⟨w.heap.size,0,none⟩)]) (by simp) (by simp[go_sem]) ?_
     refine(za2 _ _).mono ?_
     rintro e u' w3 ⟨rfl,rfl,rfl⟩
     simp[Leaves,settle,results,Tryz.results66,go_sem,e0]
     exact⟨HFE.out,.inr (by rw[hg])⟩
   | some b =>
     rw[hg] at h2
     obtain⟨v,rfl,hv⟩:=h2
     have HV:=zhd hv
     obtain⟨A2,c2,rfl,-⟩:=hv.form
     clear hv
     go_wp2_with fail
     refine leaves_cons (f:=86) (args:=#[.pointer (some ⟨w.heap.size,0,none⟩)]) (by simp) (by simp[go_sem]) ?_
     refine(za2 _ _).mono ?_
     rintro e u' w3 ⟨rfl,rfl,rfl⟩
     simp[Leaves,settle,results,Tryz.results66,go_sem,e0]
     refine⟨HFE.out,.inr ?_⟩
     rw[hg]
     refine⟨_,rfl,?_⟩
     have hb:=(HV.out.mono (F':=fun b=>w.heap.size+1≤b) (fun b h _=>by rw[←hs0];exact h)).fr ((Fr.refl (fun b=>b=w.heap.size) w2).setCell (p:=⟨w.heap.size,0,none⟩) (.inr rfl) (.int .i64 0)) (fun b h e=>by omega)
     exact hb.mono (fun b h _=>by omega)
end
section
theorem zal {c:Nat→Nat} {r:Nat} {w:World} {tp st lm km:Nat} {S:SSt} {D:DSt} {nr lr gv ov:Value} {ns nd ls ld:Int} (h:Hd c r w tp st S D) (ht:w.heap[tp]?=some (.cells (TreeCells st nr ns nd lr ls ld lm gv ov km) 139 (0,0))) (hl:lr=.nilIface∨∃tx y,lr=.iface tx y) :
 Calls Tryz.prog 92 #[.pointer (some ⟨tp,0,none⟩)] w fun e w'=>e=.returned (.int .i64 0)∧w'.heap[tp]?=some (.cells (TreeCells st lr ls ld lr ls ld lm (.slice none 0 0) ov km) 139 (0,0))∧Fr (fun b=>b=tp) w w':=by
 have H:=zhd (za7 h)
 have HT:=zhd ht
 have t1:w.cell? ⟨tp,1,none⟩=some nr:=z2k ht 1 rfl
 have t2:w.cell? ⟨tp,2,none⟩=some (.int .i64 ns):=z2k ht 2 rfl
 have t3:w.cell? ⟨tp,3,none⟩=some (.int .i64 nd):=z2k ht 3 rfl
 have t4:w.cell? ⟨tp,4,none⟩=some lr:=z2k ht 4 rfl
 have t5:w.cell? ⟨tp,5,none⟩=some (.int .i64 ls):=z2k ht 5 rfl
 have t6:w.cell? ⟨tp,6,none⟩=some (.int .i64 ld):=z2k ht 6 rfl
 have t8:w.cell? ⟨tp,8,none⟩=some gv:=z2k ht 8 rfl
 have s1:=z2i 1 ht
 have s2:=z2i 2 ht
 have s3:=z2i 3 ht
 have s8:=z2i 8 ht
 clear h ht
 have hf:=(((((Fr.refl (fun b=>b=tp) w).setCell (p:=⟨tp,1,none⟩) (.inr rfl) lr).setCell (p:=⟨tp,2,none⟩) (.inr rfl) (.int .i64 ls)).setCell (p:=⟨tp,3,none⟩) (.inr rfl) (.int .i64 ld)).setCell (p:=⟨tp,8,none⟩) (.inr rfl) (.slice none 0 0))
 have HF:=zhd hf
 have HB:=zhd (z2j (i:=8) (z2j (i:=3) (z2j (i:=2) (z2j (i:=1) HT.out lr) (.int .i64 ls)) (.int .i64 ld)) (.slice none 0 0))
 clear hf
 rcases hl with rfl|⟨tx,y,rfl⟩
 · go_enter Tryz.func92,Tryz.ntmps92
   go_wp2_with fail
   refine H.out.mono ?_
   rintro e w1 ⟨rfl,rfl⟩
   go_wp2
   go_ret
   exact⟨rfl,HB.out,HF.out.drew⟩
 · go_enter Tryz.func92,Tryz.ntmps92
   go_wp2_with fail
   refine H.out.mono ?_
   rintro e w1 ⟨rfl,rfl⟩
   go_wp2
   go_ret
   exact⟨rfl,HB.out,HF.out.drew⟩
end
section
end
section
end
end Go.Proofs.YtidalepbkljkpaaGreat
