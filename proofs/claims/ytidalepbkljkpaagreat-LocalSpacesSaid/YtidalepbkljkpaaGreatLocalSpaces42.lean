import Derived.Test.YtidalepbkljkpaaGreatLocalSpaces41
import Derived.Test.YtidalepbkljkpaaGreatLocalSpaces03
import Derived.Test.YtidalepbkljkpaaGreatLocalSpaces34
set_option linter.all false
namespace Go.Proofs.YtidalepbkljkpaaGreat
open Go.RowKit Go.H
set_option maxRecDepth 100000
section
set_option maxHeartbeats 4000000
theorem zhs {c:Nat→Nat} {r rn:Nat} {w:World} {tp st lm km:Nat} {S:SSt} {D:DSt} {X:Prop} {o:Root} {nr lr gv ov kv:Value} {ns nd ls ld:Int} {k:Bs} (h:Hd c r w tp st S D) (hc:Cl w c) (ht:w.heap[tp]?=some (.cells (TreeCells st nr ns nd lr ls ld lm gv ov km) 139 (0,0))) (hr:RootAt c rn w (pgs D) D.blocks X o nr) (hX:¬X) (hso:Sorted (rootL o)) (hk:BytesAt (Dt c) w kv k) (hw:wrong k []=0) (hg:getL k (rootL o)=none) :
 Calls Tryz.prog 120 #[.pointer (some ⟨tp,0,none⟩),kv] w fun e w'=>e=.returned (.tuple #[.bool false,.int .i64 0])∧Fr C0 w w':=by
 have hmf:∀(fn:Fn) (first cap:Array Value) (w:World),(Instr.makeFunc fn first cap).run Tryz.prog w=.ok (.func fn first cap) w:=fun _ _ _ _=>rfl
 have HM:=zhd (fun (w_:World) (hf:Fr C0 w w_)=>za9 (G:=fun _=>True) (vv:=.slice none 0 0) (v:=[]) (h.fr0 hf) (hk.fr0 hf) ⟨none,0,rfl,Nat.le_refl _,by unfold maxLen;omega,fun h=>absurd rfl h⟩)
 rw[hw] at HM
 have HG:=zhd (fun (w_:World) (hf:Fr C0 w w_)=>zaj (h.fr0 hf) (hc.mono hf.size) (hr.fr0 hf) hso (hk.fr0 hf))
 rw[hg] at HG
 obtain⟨A,cc,rfl,-⟩:=hk.form
 have F0:=zhd (((Fr.refl C0 w).alloc (.cells #[.bool false] 4)).alloc (.cells #[.int .i64 0] 33))
 have t1:w.cell? ⟨tp,1,none⟩=some nr:=z2k ht 1 rfl
 have t2:w.cell? ⟨tp,2,none⟩=some (.int .i64 ns):=z2k ht 2 rfl
 have t3:w.cell? ⟨tp,3,none⟩=some (.int .i64 nd):=z2k ht 3 rfl
 have hb0:=((Fr.refl C0 _).alloc (.cells #[.int .i64 0] 33)).blk (heap_alloc_new w (.cells #[.bool false] 4)) (fun h=>h)
 have hb1:=heap_alloc_new (w.alloc (.cells #[.bool false] 4)) (.cells #[.int .i64 0] 33)
 rw[show(w.alloc (.cells #[.bool false] 4)).heap.size=w.heap.size+1 by simp] at hb1
 have hsz:((w.alloc (.cells #[.bool false] 4)).alloc (.cells #[.int .i64 0] 33)).heap.size=w.heap.size+2:=by simp
 have hone:nr=.nilIface∨∃tx y,nr=.iface tx y:=by
  cases o with
  |none=>exact .inl hr
  |some p=>exact .inr hr.1.iface
 have HB0:=zhd hb0
 have HB1:=zhd hb1
 have HSZ:=zhd hsz
 have HXX:=zhd hX
 clear h hc ht hr hk hw hb0 hb1 hsz hX hg
 rcases hone with rfl|⟨tx0,y0,rfl⟩
 · go_enter_defers Tryz.func120,Tryz.ntmps120
   go_wp2_with fail
   refine(HM.out _ F0.out).mono ?_
   rintro e w1 ⟨rfl,rfl⟩
   have t1':=F0.out.cell0 t1
   have t2':=F0.out.cell0 t2
   have t3':=F0.out.cell0 t3
   have e0:=z2k HB0.out 0 rfl
   have e1:=z2k HB1.out 0 rfl
   have z0:=z2i 0 HB0.out
   have z1:=z2i 0 HB1.out
   go_upto_region 7 with fail
   have fA:=((Fr.refl C0 ((w.alloc (.cells #[.bool false] 4)).alloc (.cells #[.int .i64 0] 33))).alloc (.cells #[.nilIface,.int .i64 ns,.int .i64 nd] 135)).drew
   have hsb:=heap_alloc_new ((w.alloc (.cells #[.bool false] 4)).alloc (.cells #[.int .i64 0] 33)) (.cells #[.nilIface,.int .i64 ns,.int .i64 nd] 135)
   rw[HSZ.out] at hsb
   have hsb':=((Fr.refl C0 _).drew).blk hsb (fun h=>h)
   generalize ((((w.alloc (.cells #[.bool false] 4)).alloc (.cells #[.int .i64 0] 33)).alloc (.cells #[.nilIface,.int .i64 ns,.int .i64 nd] 135)).drew)=wA at *
   have FA:=zhd (F0.out.trans0 fA)
   have bA0:=fA.blk HB0.out (fun h=>h)
   have bA1:=fA.blk HB1.out (fun h=>h)
   have y0_:=z2k hsb' 0 rfl
   have BA0:=zhd bA0
   have BA1:=zhd bA1
   clear fA hsb hsb' bA0 bA1 t1 t2 t3 t1' t2' t3' e0 e1 z0 z1
   go_wp2_with fail
   refine(HG.out _ FA.out).mono ?_
   rintro e w2 ⟨f2,(⟨hx,_⟩|rfl)⟩
   · exact absurd hx HXX.out
   have b20:=f2.blk BA0.out (fun h=>h)
   have b21:=f2.blk BA1.out (fun h=>h)
   have e0:=z2k b20 0 rfl
   have e1:=z2k b21 0 rfl
   have z0:=z2i 0 b20
   have z1:=z2i 0 b21
   have F2:=zhd (FA.out.trans0 f2)
   clear f2 b20 b21 y0_
   go_wp2_with fail
   refine leaves_cons (f:=86) (args:=#[.pointer (some ⟨w.heap.size+1,0,none⟩)]) (by simp) (by simp[go_sem]) ?_
   refine(za2 _ _).mono ?_
   rintro e u' w3 ⟨rfl,rfl,rfl⟩
   refine leaves_cons (f:=145) (args:=#[.pointer (some ⟨w.heap.size,0,none⟩),.pointer (some ⟨w.heap.size+1,0,none⟩)]) (by simp[settle]) (by simp[go_sem]) ?_
   refine(zhr w.heap.size (w.heap.size+1) false 0 _ ?_ ?_ ?_).mono ?_
   · simp[go_sem,e0]
   · simp[go_sem,e1]
   · simp[go_sem,z0]
   rintro e u' w4 ⟨rfl,rfl,rfl⟩
   simp[Leaves,settle,results,Tryz.results120,go_sem,e0,e1]
   exact((F2.out.setCell (p:=⟨w.heap.size,0,none⟩) (.inl (Nat.le_refl _)) _).setCell (p:=⟨w.heap.size+1,0,none⟩) (.inl (by simp)) _).setCell (p:=⟨w.heap.size,0,none⟩) (.inl (Nat.le_refl _)) _
 · go_enter_defers Tryz.func120,Tryz.ntmps120
   go_wp2_with fail
   refine(HM.out _ F0.out).mono ?_
   rintro e w1 ⟨rfl,rfl⟩
   have t1':=F0.out.cell0 t1
   have t2':=F0.out.cell0 t2
   have t3':=F0.out.cell0 t3
   have e0:=z2k HB0.out 0 rfl
   have e1:=z2k HB1.out 0 rfl
   have z0:=z2i 0 HB0.out
   have z1:=z2i 0 HB1.out
   go_upto_region 7 with fail
   have fA:=((Fr.refl C0 ((w.alloc (.cells #[.bool false] 4)).alloc (.cells #[.int .i64 0] 33))).alloc (.cells #[.iface tx0 y0,.int .i64 ns,.int .i64 nd] 135)).drew
   have hsb:=heap_alloc_new ((w.alloc (.cells #[.bool false] 4)).alloc (.cells #[.int .i64 0] 33)) (.cells #[.iface tx0 y0,.int .i64 ns,.int .i64 nd] 135)
   rw[HSZ.out] at hsb
   have hsb':=((Fr.refl C0 _).drew).blk hsb (fun h=>h)
   generalize ((((w.alloc (.cells #[.bool false] 4)).alloc (.cells #[.int .i64 0] 33)).alloc (.cells #[.iface tx0 y0,.int .i64 ns,.int .i64 nd] 135)).drew)=wA at *
   have FA:=zhd (F0.out.trans0 fA)
   have bA0:=fA.blk HB0.out (fun h=>h)
   have bA1:=fA.blk HB1.out (fun h=>h)
   have y0_:=z2k hsb' 0 rfl
   have BA0:=zhd bA0
   have BA1:=zhd bA1
   clear fA hsb hsb' bA0 bA1 t1 t2 t3 t1' t2' t3' e0 e1 z0 z1
   go_wp2_with fail
   refine(HG.out _ FA.out).mono ?_
   rintro e w2 ⟨f2,(⟨hx,_⟩|rfl)⟩
   · exact absurd hx HXX.out
   have b20:=f2.blk BA0.out (fun h=>h)
   have b21:=f2.blk BA1.out (fun h=>h)
   have e0:=z2k b20 0 rfl
   have e1:=z2k b21 0 rfl
   have z0:=z2i 0 b20
   have z1:=z2i 0 b21
   have F2:=zhd (FA.out.trans0 f2)
   clear f2 b20 b21 y0_
   go_wp2_with fail
   refine leaves_cons (f:=86) (args:=#[.pointer (some ⟨w.heap.size+1,0,none⟩)]) (by simp) (by simp[go_sem]) ?_
   refine(za2 _ _).mono ?_
   rintro e u' w3 ⟨rfl,rfl,rfl⟩
   refine leaves_cons (f:=145) (args:=#[.pointer (some ⟨w.heap.size,0,none⟩),.pointer (some ⟨w.heap.size+1,0,none⟩)]) (by simp[settle]) (by simp[go_sem]) ?_
   refine(zhr w.heap.size (w.heap.size+1) false 0 _ ?_ ?_ ?_).mono ?_
   · simp[go_sem,e0]
   · simp[go_sem,e1]
   · simp[go_sem,z0]
   rintro e u' w4 ⟨rfl,rfl,rfl⟩
   simp[Leaves,settle,results,Tryz.results120,go_sem,e0,e1]
   exact((F2.out.setCell (p:=⟨w.heap.size,0,none⟩) (.inl (Nat.le_refl _)) _).setCell (p:=⟨w.heap.size+1,0,none⟩) (.inl (by simp)) _).setCell (p:=⟨w.heap.size,0,none⟩) (.inl (Nat.le_refl _)) _
theorem zht {c:Nat→Nat} {r rn:Nat} {w:World} {tp st lm km:Nat} {S:SSt} {D:DSt} {d:Nat} {t:T} {nr lr gv ov kv:Value} {ns nd ls ld:Int} {k b0:Bs} {gone:List Nat} (hr0:r≠0) (hrn:rn≠0) (hrr:rn≠r) (h:Hd c r w tp st S D) (hc:Cl w c) (ht:w.heap[tp]?=some (.cells (TreeCells st nr ns nd lr ls ld lm gv ov km) 139 (0,0))) (hg:w.ownsRow 0 3 1 gv gone.length (gone.map natV)) (hgo:∀b,gv.ownBlock=some b→c b=r) (hr:Rep c rn w (pgs D) D.blocks False (d+1) t nr) (hs:Shape (d+1) 1 t) (hso:Sorted (flat (d+1) t)) (hns:ns=((flat (d+1) t).length:Int)) (hnd:nd=((d+1:Nat):Int)) (hd:d≤90000) (hlb:(flat (d+1) t).length≤90000) (hdb:dirtyN (d+1) t≤90000)
 (hk:BytesAt (Dt c) w kv k) (hw:wrong k []=0) (hl:S.state.length≤S.pages) (hlen:gone.length≤700000) (hgk:getL k (flat (d+1) t)=some b0) :
 Calls Tryz.prog 120 #[.pointer (some ⟨tp,0,none⟩),kv] w fun e w'=>∃i:Int,(i=0∨i=21)∧e=.returned (.tuple #[.bool (i == 0),.int .i64 i])∧TDelRes c r rn w tp st lm km S D (some (d+1,t)) lr ov ls ld gone (delL k (flat (d+1) t)) i w':=by
 have hmf:∀(fn:Fn) (first cap:Array Value) (w:World),(Instr.makeFunc fn first cap).run Tryz.prog w=.ok (.func fn first cap) w:=fun _ _ _ _=>rfl
 have HM:=zhd (fun (w_:World) (hf:Fr C0 w w_)=>za9 (G:=fun _=>True) (vv:=.slice none 0 0) (v:=[]) (h.fr0 hf) (hk.fr0 hf) ⟨none,0,rfl,Nat.le_refl _,by unfold maxLen;omega,fun h=>absurd rfl h⟩)
 rw[hw] at HM
 have HG:=zhd (fun (w_:World) (hf:Fr C0 w w_)=>zaj (o:=some (d+1,t)) (X:=False) (h.fr0 hf) (hc.mono hf.size) (RootAt.fr0 (o:=some (d+1,t)) ⟨hr,hs⟩ hf) hso (hk.fr0 hf))
 rw[show rootL (some (d+1,t))=flat (d+1) t from rfl,hgk] at HG
 obtain⟨A,cc,rfl,-⟩:=hk.form
 obtain⟨tx0,y0,rfl⟩:=hr.iface
 have F0:=zhd (((Fr.refl C0 w).alloc (.cells #[.bool false] 4)).alloc (.cells #[.int .i64 0] 33))
 have t1:w.cell? ⟨tp,1,none⟩=some (.iface tx0 y0):=z2k ht 1 rfl
 have t2:w.cell? ⟨tp,2,none⟩=some (.int .i64 ns):=z2k ht 2 rfl
 have t3:w.cell? ⟨tp,3,none⟩=some (.int .i64 nd):=z2k ht 3 rfl
 have hb0:=((Fr.refl C0 _).alloc (.cells #[.int .i64 0] 33)).blk (heap_alloc_new w (.cells #[.bool false] 4)) (fun h=>h)
 have hb1:=heap_alloc_new (w.alloc (.cells #[.bool false] 4)) (.cells #[.int .i64 0] 33)
 rw[show(w.alloc (.cells #[.bool false] 4)).heap.size=w.heap.size+1 by simp] at hb1
 have hsz:((w.alloc (.cells #[.bool false] 4)).alloc (.cells #[.int .i64 0] 33)).heap.size=w.heap.size+1+1:=by simp
 have HB0:=zhd hb0
 have HB1:=zhd hb1
 have HSZ:=zhd hsz
 have HT:=zhd ht
 have HH:=zhd h
 have HC:=zhd hc
 have HGR:=zhd hg
 have HGO:=zhd hgo
 have HR:=zhd hr
 have HS:=zhd hs
 have HSO:=zhd hso
 have HNS:=zhd hns
 have HND:=zhd hnd
 have HK:=zhd hk
 have hfl1:1≤(flat (d+1) t).length:=List.length_pos_iff.2 (zhc (Nat.le_refl _) hs)
 have HGK:=zhd (show getL k (flat (d+1) t)≠none by rw[hgk];simp)
 clear h hc ht hr hk hw hb0 hb1 hsz hgk hg hgo hs hso hns hnd
 go_enter_defers Tryz.func120,Tryz.ntmps120
 go_wp2_with fail
 refine(HM.out _ F0.out).mono ?_
 rintro e w1 ⟨rfl,rfl⟩
 have t1':=F0.out.cell0 t1
 have t2':=F0.out.cell0 t2
 have t3':=F0.out.cell0 t3
 have e0:=z2k HB0.out 0 rfl
 have e1:=z2k HB1.out 0 rfl
 have z0:=z2i 0 HB0.out
 have z1:=z2i 0 HB1.out
 go_upto_region 7 with fail
 have fA:=((Fr.refl C0 ((w.alloc (.cells #[.bool false] 4)).alloc (.cells #[.int .i64 0] 33))).alloc (.cells #[.iface tx0 y0,.int .i64 ns,.int .i64 nd] 135)).drew
 have hsb:=heap_alloc_new ((w.alloc (.cells #[.bool false] 4)).alloc (.cells #[.int .i64 0] 33)) (.cells #[.iface tx0 y0,.int .i64 ns,.int .i64 nd] 135)
 rw[HSZ.out] at hsb
 have hsb':=((Fr.refl C0 _).drew).blk hsb (fun h=>h)
 generalize ((((w.alloc (.cells #[.bool false] 4)).alloc (.cells #[.int .i64 0] 33)).alloc (.cells #[.iface tx0 y0,.int .i64 ns,.int .i64 nd] 135)).drew)=wA at *
 have FA:=zhd (F0.out.trans0 fA)
 have BA0:=zhd (fA.blk HB0.out (fun h=>h))
 have BA1:=zhd (fA.blk HB1.out (fun h=>h))
 have BAS:=zhd hsb'
 have y0_:=z2k hsb' 0 rfl
 clear fA hsb hsb' t1 t2 t3 t1' t2' t3' e0 e1 z0 z1
 go_wp2_with fail
 refine(HG.out _ FA.out).mono ?_
 rintro e w2 ⟨f2,(⟨hx,_⟩|⟨gvv,rfl,_⟩)⟩
 · exact hx.elim
 have F2:=zhd (FA.out.trans0 f2)
 have B20:=zhd (f2.blk BA0.out (fun h=>h))
 have B21:=zhd (f2.blk BA1.out (fun h=>h))
 have B2S:=zhd (f2.blk BAS.out (fun h=>h))
 have ys:=z2k B2S.out 0 rfl
 have hl2:=(Array.getElem?_eq_some_iff.1 B2S.out).1
 clear f2 y0_ HG HM
 go_upto_region 11 with fail
 have f23:=(Fr.refl C0 w2).alloc (.cells #[.pointer (some ⟨tp,0,none⟩),.slice none 0 0] 229)
 have hbw:=heap_alloc_new w2 (.cells #[.pointer (some ⟨tp,0,none⟩),.slice none 0 0] 229)
 generalize w2.alloc (.cells #[.pointer (some ⟨tp,0,none⟩),.slice none 0 0] 229)=w3 at *
 have f03:=F2.out.trans0 f23
 have hl3:=(Array.getElem?_eq_some_iff.1 hbw).1
 have ys3:=f23.cell0 ys
 obtain⟨q,hq0,hq1,hq2,hq3⟩:=zbp HC.out r rn
 obtain⟨c1,hce0,hce1,hcs,hcw,hag,hcl,hother⟩:∃c1:Nat→Nat,c1 w.heap.size=q+r+rn+1∧c1 (w.heap.size+1)=q+r+rn+1∧c1 (w.heap.size+1+1)=q+r+rn+1∧c1 w2.heap.size=q∧Ag w.heap.size c c1∧Cl w3 c1∧∀b,c1 b=q→b=w2.heap.size:=by
  refine⟨fun b=>if b=w2.heap.size then q else if w.heap.size≤b∧b<w.heap.size+3 then q+r+rn+1 else c b,?_,?_,?_,by simp,fun b hb=>?_,fun b hb=>?_,fun b e=>?_⟩
  · simp only[];rw[if_neg (by omega),if_pos (by omega)]
  · simp only[];rw[if_neg (by omega),if_pos (by omega)]
  · simp only[];rw[if_neg (by omega),if_pos (by omega)]
  · simp only[];rw[if_neg (by omega),if_neg (by omega)]
  · simp only[];rw[if_neg (by omega),if_neg (by omega)];exact HC.out b (by omega)
  · simp only[] at e
    by_cases h1:b=w2.heap.size
    · exact h1
    · rw[if_neg h1] at e
      split at e
      · omega
      · exact absurd e (hq0 b)
 have HTK:=zhd (zhn (S:=S) (D:=D) (st:=st) (tp:=tp) (wp:=w2.heap.size) (kv:=.slice A (List.length k) cc) (key:=k) hq1 hq2 hq3 hrn (d+1) (m:=1) (gone:=[]) ((HH.out.ag hag).fr0 f03) hcl ⟨_,hbw,World.ownsRow_nil _ _ _ _,hcw,fun b e=>by simp[Value.ownBlock] at e⟩ ((Rep.ag hag HR.out).fr0 f03) HS.out (Nat.le_refl _) HSO.out HGK.out ((zgi HK.out hag).fr0 f03) (by show 0+2*(d+1)≤_;omega))
 have HAG:=zhd hag
 have F03:=zhd f03
 have HOT:=zhd hother
 have HCE:=zhd (And.intro hce0 (And.intro hce1 hcs))
 have HQ0:=zhd hq0
 have B30:=zhd (f23.blk B20.out (fun h=>h))
 have B31:=zhd (f23.blk B21.out (fun h=>h))
 have B3S:=zhd (f23.blk B2S.out (fun h=>h))
 clear f23 hbw f03 hq0 hce0 hce1 hcs hcw hag hcl hother ys
 go_wp2_with fail
 refine HTK.out.mono ?_
 rintro e w4 ⟨tx,y,rfl,RT⟩
 have hne:∀b,b<w2.heap.size→¬c1 b=q:=fun b h e=>by have:=HOT.out b e;omega
 have B40:=zhd (RT.fr.blk B30.out (hne _ (by omega)))
 have B41:=zhd (RT.fr.blk B31.out (hne _ (by omega)))
 have B4S:=zhd (RT.fr.blk B3S.out (hne _ (by omega)))
 have F04:=zhd (F03.out.trans RT.fr (fun b hb e=>hne b (by omega) e))
 have hs34:=RT.fr.size
 have HRT:=zhd RT.ex
 have y0w:=z2k B4S.out 0 rfl
 have y1w:=z2k B4S.out 1 rfl
 have y2w:=z2k B4S.out 2 rfl
 have z0w:=z2i 0 B4S.out
 have z1w:=z2i 1 B4S.out
 have z2w:=z2i 2 B4S.out
 have HWN:Hid (IntKind.i64.wrap (ns-1)=ns-1):=zhd (by have:=HNS.out;exact z0t _ (by omega) (by omega))
 have hwn:=HWN.out
 clear RT HTK ys3 hne
 go_upto_region 14 with fail
 have F45:=(((Fr.refl (fun b=>b=w.heap.size+1+1) w4).setCell (p:=⟨w.heap.size+1+1,1,none⟩) (.inr rfl) (.int .i64 (ns-1))).setCell (p:=⟨w.heap.size+1+1,0,none⟩) (.inr rfl) (.iface tx y))
 have bs5:((w4.setCell ⟨w.heap.size+1+1,1,none⟩ (.int .i64 (ns-1))).setCell ⟨w.heap.size+1+1,0,none⟩ (.iface tx y)).heap[w.heap.size+1+1]?=some (.cells #[.iface tx y,.int .i64 (ns-1),.int .i64 nd] 135 (0,0)):=z2j (i:=0) (z2j (i:=1) B4S.out (.int .i64 (ns-1))) (.iface tx y)
 generalize (w4.setCell ⟨w.heap.size+1+1,1,none⟩ (.int .i64 (ns-1))).setCell ⟨w.heap.size+1+1,0,none⟩ (.iface tx y)=w5 at *
 have BS5:=zhd bs5
 obtain⟨c4,gone2,ta,ag4,cl4,wk4,hg2,hra,hma,hsa,hfa,acc⟩:=HRT.out
 obtain⟨nm,l,ks⟩:=ta
 obtain⟨n,g,o,hnm⟩:=hma
 obtain rfl:nm=.mem n g o:=hnm
 have hcs4:c4 (w.heap.size+1+1)=q+r+rn+1:=(ag4 _ (by omega)).trans HCE.out.2.2
 have hx1:∀b,b=w.heap.size+1+1→c4 b≠rn:=fun b e=>by rw[e,hcs4];omega
 have hx2:∀b,b=w.heap.size+1+1→c4 b≠0:=fun b e=>by rw[e,hcs4];omega
 have HRA:=zhd (fun (w_:World) (hf:Fr (fun b=>b=w.heap.size+1+1) w5 w_)=>Rep.fr hf hx1 hx2 (Rep.fr F45 hx1 hx2 hra))
 obtain⟨kvs,nat,hcn,hcg,hkk,_,_⟩:=HRA.out w5 (Fr.refl _ _)
 obtain⟨lv,hit,hic⟩:=z7g nat
 have HIT5:=zhd (hic w5 (Fr.refl _ _))
 obtain⟨_,hrow,_⟩:=hit.cells
 obtain⟨A5,cp5,rfl,-,-⟩:=hrow.form
 have NAT:=zhd nat
 have HKK:=zhd hkk
 have HSA:=zhd hsa
 have HFA:=zhd hfa
 have hs45:=F45.size
 have HNE:Hid (¬n=w.heap.size+1+1∧(kvs≠[]→¬g=w.heap.size+1+1)):=zhd ⟨fun e=>hx1 _ e hcn,fun hk e=>hx1 _ e (hcg hk)⟩
 have HB:=zhd (fun (w6:World) (g6:Fr (fun b=>b=w.heap.size+1+1) w5 w6) (o':Root) (rv:Value) (sz dp:Int) (hr':RootAt c4 rn w6 (pgs D) D.blocks False o' rv) (h1:rootL o'=delL k (flat (d+1) t)) (hpg:∀id,rcnt (.pg id) o'=cnt (d+1) (.pg id) (.node (.mem n g o) l ks)) (hcl:∀b j,rcnt (.cl b j) o'≤cnt (d+1) (.cl b j) (.node (.mem n g o) l ks)) (hdi:rootDirty o'≤dirtyN (d+1) (.node (.mem n g o) l ks)) (hsz:sz=((rootL o').length:Int)) (hdp:dp=(rootD o':Int))=>
  zhq (o:=some (d+1,t)) (o':=o') (nr:=.iface tx0 y0) (gone2:=gone2) (q:=q) (q3:=q+r+rn+1) (e0:=w.heap.size) (e1:=w.heap.size+1) (wp:=w2.heap.size) (c6:=c4) hr0 hrr (by omega) (by omega) (by omega) hq2 HH.out HT.out HGR.out HGO.out (Ag.trans HAG.out ag4 F03.out.size) (cl4.mono (by have:=g6.size;omega)) ((F04.out.trans F45 (fun b hb e=>by omega)).trans g6 (fun b hb e=>by omega)) hr' h1 (zho acc F03.out.size (fun b j hb=>Rep.cl0 hb HR.out) hpg hcl hdi) (by have:=acc.dirty;simp only[List.map_cons,List.map_nil,sumN] at this;omega) hl hsz hdp ⟨Nat.le_refl _,by omega⟩
   (g6.blk (F45.blk B40.out (by omega)) (by omega)) (g6.blk (F45.blk B41.out (by omega)) (by omega)) ⟨(ag4 _ (by omega)).trans HCE.out.1,(ag4 _ (by omega)).trans HCE.out.2.1⟩ ((wk4.fr F45 (fun b e k=>by rw[e,hcs4] at k;omega)).fr g6 (fun b e k=>by rw[e,hcs4] at k;omega)) (by simp at hg2;omega))
 have y0w:=z2k BS5.out 0 rfl
 have y1w:=z2k BS5.out 1 rfl
 have y2w:=z2k BS5.out 2 rfl
 have z0w:=z2i 0 BS5.out
 have z1w:=z2i 1 BS5.out
 have z2w:=z2i 2 BS5.out
 have HDL:Hid ((delL k (flat (d+1) t)).length+1=(flat (d+1) t).length):=zhd (zfd HGK.out)
 clear hwn nat hkk hsa hfa hra hit hic hrow hcn hcg F45 bs5 ag4 cl4 wk4 hg2 acc hcs4 hx1 hx2 B40 B41
 by_cases hl0:l.length=0
 · obtain rfl:l=[]:=List.length_eq_zero_iff.1 hl0
   have hwd:IntKind.i64.wrap (nd-1)=nd-1:=by have:=HND.out;exact z0t _ (by omega) (by omega)
   have HNAT:=NAT.out
   obtain⟨lv',h0,h1,h2,hcase⟩:=HNAT
   have hkl:=All2.length HKK.out
   rcases hcase with⟨rfl,hv⟩|⟨hk0,hv,cp2,hc2,_,_,hcc⟩
   · injection hv with e1 e2
     subst e1
     subst e2
     obtain rfl:ks=[]:=List.length_eq_zero_iff.1 hkl
     obtain rfl:d=0:=by
      have:=HSA.out.2.2.2
      by_cases hd:d=0
      · exact hd
      · rw[if_neg hd] at this;have:=this.1;simp at this
     have HFL:Hid ([]=delL k (flat (0+1) t)):=zhd HFA.out
     clear h0 h1 h2 hkl HKK NAT
     go_wp2_with fail
     refine HIT5.out.mono ?_
     rintro e w6 ⟨rfl,rfl⟩
     go_upto_region 20 with fail
     have g6:=((Fr.refl (fun b=>b=w.heap.size+1+1) w5).setCell (p:=⟨w.heap.size+1+1,0,none⟩) (.inr rfl) .nilIface).setCell (p:=⟨w.heap.size+1+1,2,none⟩) (.inr rfl) (.int .i64 (nd-1))
     have b6:((w5.setCell ⟨w.heap.size+1+1,0,none⟩ .nilIface).setCell ⟨w.heap.size+1+1,2,none⟩ (.int .i64 (nd-1))).heap[w.heap.size+1+1]?=some (.cells #[.nilIface,.int .i64 (ns-1),.int .i64 (nd-1)] 135 (0,0)):=z2j (i:=2) (z2j (i:=0) BS5.out .nilIface) (.int .i64 (nd-1))
     generalize (w5.setCell ⟨w.heap.size+1+1,0,none⟩ .nilIface).setCell ⟨w.heap.size+1+1,2,none⟩ (.int .i64 (nd-1))=w6 at *
     have HBX:=zhd (HB.out w6 g6 none .nilIface (ns-1) (nd-1) rfl HFL.out (fun id=>by simp[rcnt,cnt,Nm.cnt,sumN]) (fun b j=>Nat.zero_le _) (Nat.zero_le _) (by have h1:=HNS.out;have h2:=HDL.out;have h3:(delL k (flat (0+1) t)).length=0:=(by rw[←HFL.out];rfl);show _=((0:Nat):Int);omega) (by have:=HND.out;show _=((0:Nat):Int);omega))
     have y0w:=z2k b6 0 rfl
     have y1w:=z2k b6 1 rfl
     have y2w:=z2k b6 2 rfl
     clear HB g6 b6
     go_wp2_with fail
     refine HBX.out.mono ?_
     rintro e w7 ⟨i,hi,rfl,H7⟩
     have e0:=z2k H7.out.1 0 rfl
     have e1:=z2k H7.out.2.1 0 rfl
     have z0:=z2i 0 H7.out.1
     have z1:=z2i 0 H7.out.2.1
     go_wp2_with fail
     refine leaves_cons (f:=86) (args:=#[.pointer (some ⟨w.heap.size+1,0,none⟩)]) (by simp) (by simp[go_sem]) ?_
     refine(za2 _ _).mono ?_
     rintro e u' wq ⟨rfl,rfl,rfl⟩
     refine leaves_cons (f:=145) (args:=#[.pointer (some ⟨w.heap.size,0,none⟩),.pointer (some ⟨w.heap.size+1,0,none⟩)]) (by simp[settle]) (by simp[go_sem]) ?_
     refine(zhr w.heap.size (w.heap.size+1) true i _ ?_ ?_ ?_).mono ?_
     · simp[go_sem,e0]
     · simp[go_sem,e1]
     · simp[go_sem,z0]
     rintro e u' wr ⟨rfl,rfl,rfl⟩
     have hres:=H7.out.2.2 _ ((((Fr.refl (fun b=>b=w.heap.size∨b=w.heap.size+1) w7).setCell (p:=⟨w.heap.size,0,none⟩) (.inr (.inl rfl)) (.bool true)).setCell (p:=⟨w.heap.size+1,0,none⟩) (.inr (.inr rfl)) (.int .i64 i)).setCell (p:=⟨w.heap.size,0,none⟩) (.inr (.inl rfl)) (.bool (true && (i == 0))))
     rcases hi with rfl|rfl
     all_goals
      simp[Leaves,settle,results,Tryz.results120,go_sem,e0,e1]
      simpa using hres
   · injection hv with e1 e2
     subst e1
     subst e2
     have hd0:¬d=0:=fun hd=>hk0 (by
      have:=HSA.out.2.2.2
      rw[if_pos hd] at this
      subst this
      exact List.length_eq_zero_iff.1 hkl.symm)
     have hkz:=HSA.out.2.2.2
     rw[if_neg hd0] at hkz
     obtain⟨k0,rfl⟩:∃k0,ks=[k0]:=List.length_eq_one_iff.1 (by simpa using hkz.1)
     obtain⟨u,rfl⟩:∃u,kvs=[u]:=List.length_eq_one_iff.1 (by simpa using hkl.symm)
     obtain⟨txu,yu,rfl⟩:=(All2.at_ 0 (by simp) (by simp) HKK.out).iface
     have g00:w5.cell? ⟨g,o,none⟩=some (.iface txu yu):=hcc 0 _ rfl
     have HFL:Hid (flat d k0=delL k (flat (d+1) t)):=zhd (by
      have:=HFA.out
      rw[zgv,if_neg hd0] at this
      simpa [inter,interT] using this)
     have hnsb:=HNE.out.1
     have hgsb:=HNE.out.2 (by simp)
     have hsbn:¬w.heap.size+1+1=n:=fun e=>hnsb e.symm
     have HSK:=zhd (hkz.2 k0 (by simp))
     clear h0 h1 h2 hkl HKK NAT hcc hkz
     go_wp2_with fail
     refine HIT5.out.mono ?_
     rintro e w6 ⟨rfl,rfl⟩
     go_upto_region 20 with fail
     have g6:=(((Fr.refl (fun b=>b=w.heap.size+1+1) w5).setCell (p:=⟨w.heap.size+1+1,0,none⟩) (.inr rfl) .nilIface).setCell (p:=⟨w.heap.size+1+1,0,none⟩) (.inr rfl) (.iface txu yu)).setCell (p:=⟨w.heap.size+1+1,2,none⟩) (.inr rfl) (.int .i64 (nd-1))
     have b6:(((w5.setCell ⟨w.heap.size+1+1,0,none⟩ .nilIface).setCell ⟨w.heap.size+1+1,0,none⟩ (.iface txu yu)).setCell ⟨w.heap.size+1+1,2,none⟩ (.int .i64 (nd-1))).heap[w.heap.size+1+1]?=some (.cells #[.iface txu yu,.int .i64 (ns-1),.int .i64 (nd-1)] 135 (0,0)):=z2j (i:=2) (z2j (i:=0) (z2j (i:=0) BS5.out .nilIface) (.iface txu yu)) (.int .i64 (nd-1))
     generalize ((w5.setCell ⟨w.heap.size+1+1,0,none⟩ .nilIface).setCell ⟨w.heap.size+1+1,0,none⟩ (.iface txu yu)).setCell ⟨w.heap.size+1+1,2,none⟩ (.int .i64 (nd-1))=w6 at *
     have hrk:Rep c4 rn w6 (pgs D) D.blocks False d k0 (.iface txu yu):=by
      obtain⟨kvs6,nat6,_,_,hkk6,_,_⟩:=HRA.out w6 g6
      obtain⟨lv6,a0,a1,a2,acase⟩:=nat6
      have hkl6:=All2.length hkk6
      obtain⟨u6,rfl⟩:∃u,kvs6=[u]:=List.length_eq_one_iff.1 (by simpa using hkl6.symm)
      rcases acase with⟨a3,_⟩|⟨_,_,cp6,_,_,_,acc6⟩
      · simp at a3
      · have hu6:=acc6 0 _ rfl
        have:=g6.cell g00 hgsb
        rw[show w6.cell? ⟨g,o,none⟩=some u6 from hu6] at this
        injection this with this
        subst this
        exact All2.at_ 0 (by simp) (by simp) hkk6
     have HBX:=zhd (HB.out w6 g6 (some (d,k0)) (.iface txu yu) (ns-1) (nd-1) ⟨hrk,HSK.out.mono (by omega)⟩ HFL.out (fun id=>by rw[zba];simp[rcnt,sumN]) (fun b j=>by have:=zb4 d b j (.node (.mem n g o) [] [k0]);simpa [rcnt,sumN,T.ks] using this) (by simp[rootDirty,dirtyN,sumN]) (by have h1:=HNS.out;have h2:=HDL.out;show _=((flat d k0).length:Int);rw[HFL.out];omega) (by have:=HND.out;show _=((d:Nat):Int);omega))
     have y0w:=z2k b6 0 rfl
     have y1w:=z2k b6 1 rfl
     have y2w:=z2k b6 2 rfl
     clear HB g6 b6 hrk g00 hc2
     go_wp2_with fail
     refine HBX.out.mono ?_
     rintro e w7 ⟨i,hi,rfl,H7⟩
     have e0:=z2k H7.out.1 0 rfl
     have e1:=z2k H7.out.2.1 0 rfl
     have z0:=z2i 0 H7.out.1
     have z1:=z2i 0 H7.out.2.1
     go_wp2_with fail
     refine leaves_cons (f:=86) (args:=#[.pointer (some ⟨w.heap.size+1,0,none⟩)]) (by simp) (by simp[go_sem]) ?_
     refine(za2 _ _).mono ?_
     rintro e u' wq ⟨rfl,rfl,rfl⟩
     refine leaves_cons (f:=145) (args:=#[.pointer (some ⟨w.heap.size,0,none⟩),.pointer (some ⟨w.heap.size+1,0,none⟩)]) (by simp[settle]) (by simp[go_sem]) ?_
     refine(zhr w.heap.size (w.heap.size+1) true i _ ?_ ?_ ?_).mono ?_
     · simp[go_sem,e0]
     · simp[go_sem,e1]
     · simp[go_sem,z0]
     rintro e u' wr ⟨rfl,rfl,rfl⟩
     have hres:=H7.out.2.2 _ ((((Fr.refl (fun b=>b=w.heap.size∨b=w.heap.size+1) w7).setCell (p:=⟨w.heap.size,0,none⟩) (.inr (.inl rfl)) (.bool true)).setCell (p:=⟨w.heap.size+1,0,none⟩) (.inr (.inr rfl)) (.int .i64 i)).setCell (p:=⟨w.heap.size,0,none⟩) (.inr (.inl rfl)) (.bool (true && (i == 0))))
     rcases hi with rfl|rfl
     all_goals
      simp[Leaves,settle,results,Tryz.results120,go_sem,e0,e1]
      simpa using hres
 · have hli:¬(l.length:Int)=0:=by omega
   go_wp2_with fail
   refine HIT5.out.mono ?_
   rintro e w6 ⟨rfl,rfl⟩
   have hsh:Shape (d+1) 1 (.node (.mem n g o) l ks):=⟨by omega,HSA.out.2⟩
   have HBX:=zhd (HB.out w5 (Fr.refl _ _) (some (d+1,.node (.mem n g o) l ks)) (.iface tx y) (ns-1) nd ⟨HRA.out w5 (Fr.refl _ _),hsh⟩ HFA.out (fun _=>rfl) (fun _ _=>Nat.le_refl _) (Nat.le_refl _) (by show _=((flat (d+1) _).length:Int);rw[HFA.out];have:=HNS.out;have:=HDL.out;omega) (by rw[HND.out];rfl))
   clear HB hsh
   go_wp2_with fail
   refine HBX.out.mono ?_
   rintro e w7 ⟨i,hi,rfl,H7⟩
   have e0:=z2k H7.out.1 0 rfl
   have e1:=z2k H7.out.2.1 0 rfl
   have z0:=z2i 0 H7.out.1
   have z1:=z2i 0 H7.out.2.1
   go_wp2_with fail
   refine leaves_cons (f:=86) (args:=#[.pointer (some ⟨w.heap.size+1,0,none⟩)]) (by simp) (by simp[go_sem]) ?_
   refine(za2 _ _).mono ?_
   rintro e u' wq ⟨rfl,rfl,rfl⟩
   refine leaves_cons (f:=145) (args:=#[.pointer (some ⟨w.heap.size,0,none⟩),.pointer (some ⟨w.heap.size+1,0,none⟩)]) (by simp[settle]) (by simp[go_sem]) ?_
   refine(zhr w.heap.size (w.heap.size+1) true i _ ?_ ?_ ?_).mono ?_
   · simp[go_sem,e0]
   · simp[go_sem,e1]
   · simp[go_sem,z0]
   rintro e u' wr ⟨rfl,rfl,rfl⟩
   have hres:=H7.out.2.2 _ ((((Fr.refl (fun b=>b=w.heap.size∨b=w.heap.size+1) w7).setCell (p:=⟨w.heap.size,0,none⟩) (.inr (.inl rfl)) (.bool true)).setCell (p:=⟨w.heap.size+1,0,none⟩) (.inr (.inr rfl)) (.int .i64 i)).setCell (p:=⟨w.heap.size,0,none⟩) (.inr (.inl rfl)) (.bool (true && (i == 0))))
   rcases hi with rfl|rfl
   all_goals
    simp[Leaves,settle,results,Tryz.results120,go_sem,e0,e1]
    simpa using hres
end
section
set_option maxHeartbeats 2000000
theorem zhu {c:Nat→Nat} {r rn rm:Nat} {w:World} {tp:Nat} {Z:TSt} {k:Nat} {kv:Value} {key:Bs} (ho:Owners r rn rm) (h:TreeAt c r rn rm w tp Z k) (hk:BytesAt (Dt c) w kv key) (hw:wrong key []=0) :
 Calls Tryz.prog 120 #[.pointer (some ⟨tp,0,none⟩),kv] w fun e w'=>
  (getL key (rootL Z.now)=none∧e=.returned (.tuple #[.bool false,.int .i64 0])∧Fr C0 w w')∨
  (getL key (rootL Z.now)≠none∧((e=.returned (.tuple #[.bool false,.int .i64 21])∧Fr C0 w w'∧∃o',rootL o'=delL key (rootL Z.now)∧RootSh o'∧rootDirty o'≤rootDirty Z.now+2*rootD Z.now∧Z.S.pages-Z.S.state.length<rootDirty o')∨
  (e=.returned (.tuple #[.bool true,.int .i64 0])∧Fr (fun b=>c b=r) w w'∧∃c' o' gone',Ag w.heap.size c c'∧TreeAt c' r rn rm w' tp { Z with now:=o',gone:=gone' } k∧rootL o'=delL key (rootL Z.now)))):=by
 obtain⟨st,lm,km,nr,lr,gv,ov,sn,h⟩:=h
 cases hg:getL key (rootL Z.now) with
 | none =>
   refine(zhs h.hd h.cl h.blk h.now (fun h=>h) h.bk.sn hk hw hg).mono ?_
   rintro e w' ⟨rfl,f⟩
   exact .inl ⟨rfl,rfl,f⟩
 | some b0 =>
   have hsh:=h.now.sh
   have hdb:=zdk hsh h.bk.bn
   have hD:=zdi hsh
   have hgl:=h.bk.glen
   have hsm:=h.hd.alive.small
   have hbn:=h.bk.bn
   have H:Calls Tryz.prog 120 #[.pointer (some ⟨tp,0,none⟩),kv] w fun e w'=>∃i:Int,(i=0∨i=21)∧e=.returned (.tuple #[.bool (i == 0),.int .i64 i])∧TDelRes c r rn w tp st lm km Z.S Z.D Z.now lr ov ((rootL Z.last).length:Int) (rootD Z.last:Int) Z.gone (delL key (rootL Z.now)) i w':=by
    have hnow:=h.now
    have hblk:=h.blk
    have hsn:=h.bk.sn
    cases hz:Z.now with
    | none =>
      rw[hz] at hg
      simp[rootL,getL] at hg
    | some p =>
      obtain⟨d,t⟩:=p
      cases d with
      |zero=>rw[hz] at hnow;exact hnow.1.elim
      | succ d =>
        rw[hz] at hnow hblk hdb hD hsn hg hbn
        exact zht ho.r0 ho.n0 ho.nr h.hd h.cl hblk h.gr h.go hnow.1 hnow.2 hsn rfl rfl (by have h1:d+1≤_:=hD;omega) hbn hdb hk hw h.bk.slen (by omega) hg
   refine H.mono ?_
   rintro e w' ⟨i,hi,rfl,o',gone',h1,h2,h3,hcase⟩
   refine .inr ⟨by simp,?_⟩
   rcases hcase with⟨rfl,h4,h5⟩|⟨rfl,h4,h5,gv',rv',c',ag',cl',hd',ht',og',oc',hr'⟩
   · exact .inl ⟨rfl,h5,o',h1,h2,h3.dirty,h4⟩
   · have hsl:Sorted (rootL o'):=by rw[h1];exact zfc h.bk.sn
     have hpl:(rootL o').length≤(rootL Z.now).length:=by rw[h1];exact(zfb key _).length_le
     refine .inr ⟨rfl,h5,c',o',gone',ag',⟨st,lm,km,rv',lr,gv',ov,sn,hd',cl',ht',og',oc',z0m h.orow h5 (fun b hb e=>ho.mr ((h.oo b hb).symm.trans e)),fun b hb=>(ag' b (h.orow.lt b hb).2).trans (h.oo b hb),h.live.fr h5 (fun e=>ho.mr (h.lmo.symm.trans e)),(ag' _ h.live.lt).trans h.lmo,h.kept.fr h5 (fun e=>ho.mr (h.kmo.symm.trans e)),(ag' _ h.kept.lt).trans h.kmo,h.lk,hr',RootAt.pageW h.bk.lp h.last,zdj h.sns h.bk.kp h5 ag' (fun b _ e h9=>ho.mr (h9.symm.trans e)) (fun b _ e h9=>ho.r0 (e.symm.trans h9)),?_⟩,h1⟩
     refine⟨h.bk.st,h.bk.hn,h.bk.ln,h.bk.hl,h.bk.hb,fun id=>?_,h.bk.b2,fun b j=>?_,h.bk.lp,h4,h.bk.opn,h.bk.ok,hsl,h.bk.sl,h.bk.num,by show(rootL o').length≤_;have:=h.bk.bn;omega,h.bk.bl,h.bk.head,h.bk.kp⟩
     · show rcnt (.pg id) o'+gone'.count id=_
       rw[h3.pg id];exact h.bk.b1 id
     · have h6:=h3.cl b j
       have h7:=h.bk.bc b j
       show rcnt (.cl b j) o'≤1
       split at h6<;>omega
end
section
set_option maxHeartbeats 2000000
theorem TreeAt.moveC {C:Nat→Prop} {c c':Nat→Nat} {r rn rm:Nat} {w w':World} {tp:Nat} {Z:TSt} {k:Nat} (h:TreeAt c r rn rm w tp Z k) (hf:Fr C w w') (ha:Ag w.heap.size c c') (hc:Cl w' c') (h0:∀b,C b→c' b≠0) (h1:∀b,C b→c' b≠r) (h2:∀b,C b→c' b≠rn) (h3:∀b,C b→c' b≠rm):TreeAt c' r rn rm w' tp Z k:=by
 obtain⟨st,lm,km,nr,lr,gv,ov,sn,h⟩:=h
 have hgo:∀b,gv.ownBlock=some b→c' b=r:=fun b hb=>(ha b (h.gr.lt b hb).2).trans (h.go b hb)
 have hoo:∀b,ov.ownBlock=some b→c' b=rm:=fun b hb=>(ha b (h.orow.lt b hb).2).trans (h.oo b hb)
 have hlm:c' lm=rm:=(ha _ h.live.lt).trans h.lmo
 have hkm:c' km=rm:=(ha _ h.kept.lt).trans h.kmo
 have hhd:=h.hd.ag ha
 exact⟨st,lm,km,nr,lr,gv,ov,sn,hhd.fr hf h1 h0,hc,hf.blk h.blk (fun e=>h1 _ e hhd.own),z0m h.gr hf (fun b hb e=>h1 b e (hgo b hb)),hgo,z0m h.orow hf (fun b hb e=>h3 b e (hoo b hb)),hoo,h.live.fr hf (fun e=>h3 _ e hlm),hlm,h.kept.fr hf (fun e=>h3 _ e hkm),hkm,h.lk,(h.now.ag ha).fr hf h2 h0,(h.last.ag ha).fr hf h2 h0,zdj h.sns h.bk.kp hf ha (fun b hb e h9=>h3 b e ((ha b hb).trans h9)) (fun b hb e h9=>h0 b e ((ha b hb).trans h9)),h.bk⟩
def OX (r r':Nat):Prop:=1≤r∧1≤r'∧(r+3≤r'∨r'+3≤r)
end
end Go.Proofs.YtidalepbkljkpaaGreat
namespace Go.H
open Go.RowKit
section
section
variable {P : Program} {ops : Array Oper} {Q : Exit → Act → World → Prop} {md : Region.Mode} {S : World → Prop} {late : Nat → Bool}
def lateOK2 (md:Region.Mode) (ops:Array Oper) (late:Nat→Bool) (listed:Array Bool) (i:Nat):Bool:=
 let D:=desc md ops i
 (List.range ops.size).all (fun j=>!late j || D.contains j || listed.getD j true) &&
 D.all fun x=>(listed.getD x true == false) && (match ops[x]? with
  |some o=>o.after.any (fun e=>Region.binds md e && (e.on == i || D.contains e.on))
  |none=>false)
end
end
end Go.H
namespace Go.Proofs.YtidalepbkljkpaaGreat
open Go.RowKit Go.H
set_option maxHeartbeats 1000000
set_option maxRecDepth 100000
section
theorem zhv:SlTy Tryz.prog 31 57 4 64:=z2n Tryz.underlying31 (z:=.agg #[.int .i64 0,.slice none 0 0,.slice none 0 0,.bool false]) (by kernel_rfl) rfl (by decide)
structure DrfAt (c:Nat→Nat) (w:World) (dp sp tp:Nat) (Z:TSt) (lv:Value) (L:List Chg):Prop where
 s:LocAt c w sp tp Z 0
 em:rootL Z.now=[]
 blk:w.heap[dp]?=some (.cells #[.pointer (some ⟨sp,0,none⟩),lv] 102 (0,0))
 own:c dp=7
 row:∃xs,w.ownsRow 0 57 4 lv L.length xs∧ChgCells (Dt c) w xs L
 l7:∀b,lv.ownBlock=some b→c b=7
 ok:∀x∈L,okC x
variable {c c' : Nat → Nat} {w w' : World} {dp sp tp : Nat} {Z : TSt} {lv : Value} {L : List Chg}
end
end Go.Proofs.YtidalepbkljkpaaGreat
