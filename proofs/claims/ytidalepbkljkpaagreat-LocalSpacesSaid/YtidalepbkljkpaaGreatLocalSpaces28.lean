import Derived.Test.YtidalepbkljkpaaGreatLocalSpaces27
import Derived.Test.YtidalepbkljkpaaGreatLocalSpaces07
import Derived.Test.YtidalepbkljkpaaGreatLocalSpaces25
set_option linter.all false
namespace Go.Proofs.YtidalepbkljkpaaGreat
open Go.RowKit Go.H
set_option maxRecDepth 100000
section
set_option maxHeartbeats 2000000
theorem zd0 {c:Nat→Nat} {r rn:Nat} {w:World} {tp st lm km:Nat} {S:SSt} {D:DSt} {d:Nat} {t:T} {nr lr gv ov kv vv:Value} {ns nd ls ld:Int} {k v:Bs} {gone:List Nat} (hr0:r≠0) (hrn:rn≠0) (hrr:rn≠r) (h:Hd c r w tp st S D) (hc:Cl w c) (ht:w.heap[tp]?=some (.cells (TreeCells st nr ns nd lr ls ld lm gv ov km) 139 (0,0))) (hg:w.ownsRow 0 3 1 gv gone.length (gone.map natV)) (hgo:∀b,gv.ownBlock=some b→c b=r) (hr:Rep c rn w (pgs D) D.blocks False d t nr) (hs:Shape d 1 t) (hso:Sorted (flat d t)) (hns:ns=((flat d t).length:Int)) (hnd:nd=(d:Int)) (hd:d≤90000) (hnl:(flat d t).length≤1000000) (hdi:dirtyN d t≤500000)
 (hk:BytesAt (Dt c) w kv k) (hv:BytesAt (Dt c) w vv v) (hw:wrong k v=0) (hl:S.state.length≤S.pages) (hlen:gone.length≤900000) :
 Calls Tryz.prog 121 #[.pointer (some ⟨tp,0,none⟩),kv,vv] w (TPutRes c r rn w tp st lm km S D (some (d,t)) lr ov ls ld gone (k,v)):=by
 have HM:=zhd (fun (w_:World) (hf:Fr C0 w w_)=>za9 (h.fr0 hf) (hk.fr0 hf) (hv.fr0 hf))
 rw[hw] at HM
 have hkl:k.length≤64∧v.length≤1800:=by
  unfold wrong at hw
  split at hw
  · cases hw
  · split at hw
    · cases hw
    · omega
 have HKV:Hid (KVok (k,v)):=zhd (by
  refine⟨?_,hkl.1,hkl.2⟩
  show 1≤k.length
  unfold wrong at hw
  split at hw
  · cases hw
  · rename_i h;exact List.length_pos_iff.2 h)
 have HCK:=zhd (fun (w_:World) (hf:Fr C0 w w_)=>z35 (hk.fr0 hf) (by omega))
 have HCV:=zhd (fun (w_:World) (hf:Fr C0 w w_)=>z35 (hv.fr0 hf) (by omega))
 obtain⟨A,cc,rfl,-⟩:=hk.form
 obtain⟨A',cc',rfl,-⟩:=hv.form
 obtain⟨tx0,y0,rfl⟩:=hr.iface
 have F0:=zhd ((Fr.refl C0 w).alloc (.cells #[.int .i64 0] 33))
 have F1:=zhd ((F0.out.drew).alloc (.cells #[.pointer (some ⟨tp,0,none⟩),.slice none 0 0] 229))
 have t1:w.cell? ⟨tp,1,none⟩=some (.iface tx0 y0):=z2k ht 1 rfl
 have t2:w.cell? ⟨tp,2,none⟩=some (.int .i64 ns):=z2k ht 2 rfl
 have t3:w.cell? ⟨tp,3,none⟩=some (.int .i64 nd):=z2k ht 3 rfl
 have HT:=zhd ht
 have HH:=zhd h
 have HC:=zhd hc
 have HG:=zhd hg
 have HGO:=zhd hgo
 have HR:=zhd hr
 have HS:=zhd hs
 have HSO:=zhd hso
 have HNS:=zhd hns
 have HND:=zhd hnd
 clear h hc ht hg hgo hk hv hw hr hs hso hns hnd
 go_enter_defers Tryz.func121,Tryz.ntmps121
 go_wp2_with fail
 refine(HM.out _ F0.out).mono ?_
 rintro e w1 ⟨rfl,rfl⟩
 go_wp2_with fail
 refine(HCK.out _ F1.out).mono ?_
 rintro e w2 ⟨k2,rfl,f2,b2⟩
 have F2:=zhd (F1.out.trans0 f2)
 have F12:=zhd f2
 have B2:=zhd b2
 obtain⟨A2,c2,rfl,-⟩:=b2.form
 have S2:=f2.size
 clear HM HCK f2 b2
 go_wp2_with fail
 refine(HCV.out _ F2.out).mono ?_
 rintro e w3 ⟨v3,rfl,f3,b3⟩
 have F3:=zhd (F2.out.trans0 f3)
 have F23:=zhd f3
 have B3:=zhd b3
 obtain⟨A3,c3,rfl,-⟩:=b3.form
 clear HCV f3 b3
 have F4:=zhd (F3.out.alloc (.cells #[.slice A2 k.length c2,.slice A3 v.length c3] 200))
 have t1':=F4.out.cell0 t1
 have t2':=F4.out.cell0 t2
 have t3':=F4.out.cell0 t3
 clear t1 t2 t3
 go_wp2_with fail
 have f34:=(((Fr.refl C0 w3).alloc (.cells #[.slice A2 k.length c2,.slice A3 v.length c3] 200)).alloc (.cells #[.iface tx0 y0,.int .i64 ns,.int .i64 nd] 135))
 have hsb:=heap_alloc_new (w3.alloc (.cells #[.slice A2 k.length c2,.slice A3 v.length c3] 200)) (.cells #[.iface tx0 y0,.int .i64 ns,.int .i64 nd] 135)
 rw[show(w3.alloc (.cells #[.slice A2 k.length c2,.slice A3 v.length c3] 200)).heap.size=w3.heap.size+1 by simp] at hsb
 generalize (w3.alloc (.cells #[.slice A2 k.length c2,.slice A3 v.length c3] 200)).alloc (.cells #[.iface tx0 y0,.int .i64 ns,.int .i64 nd] 135)=w4 at *
 have hl4:w3.heap.size+1<w4.heap.size:=(Array.getElem?_eq_some_iff.1 hsb).1
 have hs1:((w.alloc (.cells #[.int .i64 0] 33)).drew.alloc (.cells #[.pointer (some ⟨tp,0,none⟩),.slice none 0 0] 229)).heap.size=w.heap.size+2:=by simp
 have hs3:=F23.out.size
 have f14:Fr C0 ((w.alloc (.cells #[.int .i64 0] 33)).drew.alloc (.cells #[.pointer (some ⟨tp,0,none⟩),.slice none 0 0] 229)) w4:=(F12.out.trans0 F23.out).trans0 f34
 have hbe:w4.heap[w.heap.size]?=some (.cells #[.int .i64 0] 33 (0,0)):=f14.blk (((Fr.refl C0 _).drew.alloc _).blk (heap_alloc_new w _) (fun h=>h)) (fun h=>h)
 have hbw:w4.heap[w.heap.size+1]?=some (.cells #[.pointer (some ⟨tp,0,none⟩),.slice none 0 0] 229 (0,0)):=f14.blk (by
  have:=heap_alloc_new ((w.alloc (.cells #[.int .i64 0] 33)).drew) (.cells #[.pointer (some ⟨tp,0,none⟩),.slice none 0 0] 229)
  rwa [show((w.alloc (.cells #[.int .i64 0] 33)).drew).heap.size=w.heap.size+1 by simp] at this) (fun h=>h)
 have f04:Fr C0 w w4:=F3.out.trans0 f34
 obtain⟨q,hq0,hq1,hq2,hq3⟩:=zbp HC.out r rn
 obtain⟨c1,hce,hcw,hcn,hc0,hag,hcl⟩:∃c1:Nat→Nat,c1 w.heap.size=q+r+rn+1∧c1 (w.heap.size+1)=q∧c1 (w3.heap.size+1)=q+r+rn+1∧(∀b,w.heap.size+2≤b→b≠w3.heap.size+1→c1 b=0)∧Ag w.heap.size c c1∧Cl w4 c1:=by
  refine⟨fun b=>if b=w.heap.size then q+r+rn+1 else if b=w.heap.size+1 then q else if b=w3.heap.size+1 then q+r+rn+1 else c b,by simp,by simp,?_,fun b h1 h2=>?_,fun b hb=>?_,fun b hb=>?_⟩
  · simp only[];rw[if_neg (by omega),if_neg (by omega)];simp
  · simp only[];rw[if_neg (by omega),if_neg (by omega),if_neg h2];exact HC.out b (by omega)
  · simp only[];rw[if_neg (by omega),if_neg (by omega),if_neg (by omega)]
  · simp only[];rw[if_neg (by omega),if_neg (by omega),if_neg (by omega)];exact HC.out b (by omega)
 have k2:=((B2.out.mono (F':=fun b=>w.heap.size+2≤b∧b<w3.heap.size) (fun b h hl=>⟨by omega,by omega⟩)).fr0 (F23.out.trans0 f34)).mono (F':=Dt c1) (fun b h _=>hc0 b h.1 (by omega))
 have k3:=((B3.out.mono (F':=fun b=>w.heap.size+2≤b∧b<w3.heap.size) (fun b h hl=>⟨by omega,by omega⟩)).fr0 f34).mono (F':=Dt c1) (fun b h _=>hc0 b h.1 (by omega))
 refine(zbo (x:=(k,v)) hq1 hq2 hq3 hrn d 1 c1 w4 t (.iface tx0 y0) [] ((HH.out.ag hag).fr0 f04) hcl ⟨_,hbw,World.ownsRow_nil _ _ _ _,hcw,fun b e=>by simp[Value.ownBlock] at e⟩ ((Rep.ag hag HR.out).fr0 f04) HS.out (Nat.le_refl _) HSO.out k2 k3 HKV.out (by show 0+d≤_;omega)).mono ?_
 rintro e w5 ⟨f5,c5,gone2,ag5,cl5,wk5,hgl,hend⟩
 have hX:∀b,b<w4.heap.size→c1 b=q→b=w.heap.size+1∨False:=fun b hb e=>by
  by_cases h1:b<w.heap.size
  · exact absurd ((hag b h1).symm.trans e) (hq0 b)
  · by_cases h2:b=w.heap.size
    · rw[h2,hce] at e;omega
    · by_cases h3:b=w.heap.size+1
      · exact .inl h3
      · by_cases h4:b=w3.heap.size+1
        · rw[h4,hcn] at e;omega
        · exact absurd ((hc0 b (by omega) h4).symm.trans e) (fun e=>hq1 e.symm)
 have hne:∀b,b≠w.heap.size+1→b<w4.heap.size→¬c1 b=q:=fun b h hb e=>(hX b hb e).elim h id
 have hs5:=f5.size
 have hbe5:=f5.blk hbe (hne _ (by omega) (by omega))
 have hsb5:=f5.blk hsb (hne _ (by omega) (by omega))
 have f05:Fr C0 w w5:=f04.trans f5 (fun b hb e=>hne b (by omega) (by omega) e)
 have hag5:Ag w.heap.size c c5:=Ag.trans hag ag5 (by omega)
 have hce5:c5 w.heap.size=q+r+rn+1:=(ag5 _ (by omega)).trans hce
 have hcn5:c5 (w3.heap.size+1)=q+r+rn+1:=(ag5 _ (by omega)).trans hcn
 have hw15:c5 (w.heap.size+1)=q:=(ag5 _ (by omega)).trans hcw
 obtain⟨tx,y,nx,kA2,kn,kc2,vA2,vn,vc2,rfl,hend2⟩:=hend.uni
 clear hend
 have hz:∀b j,w.heap.size≤b→cnt d (.cl b j) t=0:=fun b j hb=>Rep.cl0 hb HR.out
 have hsb5u:=((Fr.refl C0 w5).alloc (.cells #[.slice kA2 kn kc2,.slice vA2 vn vc2] 200)).blk hsb5 (fun h=>h)
 have y0_:=z2k hsb5u 0 rfl
 have y1_:=z2k hsb5u 1 rfl
 have y2_:=z2k hsb5u 2 rfl
 have z0_:=z2i 0 hsb5u
 have z1_:=z2i 1 hsb5u
 have z2_:=z2i 2 hsb5u
 have hsbl:=(Array.getElem?_eq_some_iff.1 hsb5).1
 have y0w:=z2k hsb5 0 rfl
 have y1w:=z2k hsb5 1 rfl
 have y2w:=z2k hsb5 2 rfl
 have z0w:=z2i 0 hsb5
 have z1w:=z2i 1 hsb5
 have z2w:=z2i 2 hsb5
 have hsbne:¬w5.heap.size=w3.heap.size+1:=by omega
 have hsbne2:¬w3.heap.size+1=w5.heap.size:=by omega
 have HWN:Hid (wrap64 (ns+1)=ns+1):=zhd (by have:=HNS.out;exact IntWalk.wrap64_in _ (by omega))
 have HWD:Hid (wrap64 (nd+1)=nd+1):=zhd (by have:=HND.out;exact IntWalk.wrap64_in _ (by omega))
 have hml:((putL (k,v) (flat d t)).length:Int)=if getL k (flat d t)=none then ns+1 else ns:=by
  rw[zbq HSO.out]
  have:=HNS.out
  split<;>omega
 have HE5:=zhd hbe5
 have HW5:=zhd wk5
 have HF5:=zhd f05
 have HA5:=zhd hag5
 have HCL5:=zhd cl5
 have HZ:=zhd hz
 have HGL:=zhd hgl
 have HML:=zhd hml
 have HSB:=zhd hsb5
 have HAG5:=zhd ag5
 have HC5:=zhd (And.intro hce5 (And.intro hcn5 hw15))
 rcases hend2 with⟨rfl,ta,h1,h2,h3,h4⟩|⟨tx2,y2,ta,tb,x2,rfl,h1,h2,h3,h4,h5,h6,h7,h8,h9⟩
 · have HB:=zhd (fun (w6:World) (g6:Fr (fun b=>b=w3.heap.size+1) w5 w6) (sz:Int) (hsz:sz=if getL k (flat d t)=none then ns+1 else ns)=>
    zcz (o:=some (d,t)) (o':=some (d,ta)) (x:=(k,v)) (nr:=.iface tx0 y0) (sz:=sz) (dp:=nd) (gone2:=gone2) (q:=q) (q3:=q+r+rn+1) (eb:=w.heap.size) (wp:=w.heap.size+1) (c6:=c5) hr0 hrr (by omega) (by omega) (by omega) hq2 HH.out HT.out HG.out HGO.out HA5.out (HCL5.out.mono g6.size) (HF5.out.trans g6 (fun b hb e=>by omega)) ⟨Rep.fr g6 (fun b e h=>by rw[e,HC5.out.2.1] at h;omega) (fun b e h=>by rw[e,HC5.out.2.1] at h;omega) h1,h2⟩ h3 (zbu h4 (by omega) HZ.out (by simpa using HGL.out)) (by have:=h4.dirty;simp only[List.map_cons,List.map_nil,sumN] at this;show dirtyN d ta≤_;omega) hl (by rw[hsz];show _=((flat d ta).length:Int);rw[h3,HML.out]) HND.out (Nat.le_refl _) (g6.blk HE5.out (by omega)) HC5.out.1 (HW5.out.fr g6 (fun b e h=>by rw[e,HC5.out.2.1] at h;omega)) (by have:=HGL.out;simp at this;omega))
   clear hsb5u h1 h2 h3 h4 hbe5 wk5 f05 hag5 cl5 hz hgl hml hsb5 ag5 hne hX f5 f04 f14 f34 hbe hbw hsb hce5 hcn5 hw15 hce hcw hcn hc0 hag hcl k2 k3
   cases hm:decide (getL k (flat d t)=none) with
   | true =>
     have hsz:=zhd (show ns+1=if getL k (flat d t)=none then ns+1 else ns by rw[if_pos (of_decide_eq_true hm)])
     clear hm
     go_wp2_with fail
     refine(HB.out _ ((((Fr.refl (fun b=>b=w3.heap.size+1) w5).setCell (p:=⟨w3.heap.size+1,0,none⟩) (.inr rfl) _).setCell (p:=⟨w3.heap.size+1,1,none⟩) (.inr rfl) _).alloc _) _ (by rw[←hsz.out];exact HWN.out)).mono ?_
     rintro e w7 ⟨i,rfl,e7,z7,FE⟩
     go_wp2_with fail
     refine leaves_cons (f:=86) (args:=#[.pointer (some ⟨w.heap.size,0,none⟩)]) (by simp) (by simp[go_sem]) ?_
     refine(za2 _ _).mono ?_
     rintro e u' wq ⟨rfl,rfl,rfl⟩
     simp[Leaves,settle,results,Tryz.results121,go_sem,e7]
     exact FE.out _
   | false =>
     have hsz:=zhd (show ns=if getL k (flat d t)=none then ns+1 else ns by rw[if_neg (of_decide_eq_false hm)])
     clear hm
     go_wp2_with fail
     refine(HB.out _ (((Fr.refl (fun b=>b=w3.heap.size+1) w5).setCell (p:=⟨w3.heap.size+1,0,none⟩) (.inr rfl) _).alloc _) _ hsz.out).mono ?_
     rintro e w7 ⟨i,rfl,e7,z7,FE⟩
     go_wp2_with fail
     refine leaves_cons (f:=86) (args:=#[.pointer (some ⟨w.heap.size,0,none⟩)]) (by simp) (by simp[go_sem]) ?_
     refine(za2 _ _).mono ?_
     rintro e u' wq ⟨rfl,rfl,rfl⟩
     simp[Leaves,settle,results,Tryz.results121,go_sem,e7]
     exact FE.out _
 · have hd0:¬d=0:=by rintro rfl;exact h3.elim
   have HB:=zhd (fun (w6:World) (g6:Fr (fun b=>b=w3.heap.size+1) w5 w6) (hr6:w6.heap[w5.heap.size+1]?=some (.cells #[.slice kA2 kn kc2,.slice vA2 vn vc2] 200 (0,0))) (hk6:w6.heap[w5.heap.size+2]?=some (.cells #[.iface tx y,.iface tx2 y2] 20 (0,0))) (hn6:w6.heap[w5.heap.size+3]?=some (.cells #[.int .i64 0,.slice (some ⟨w5.heap.size+1,0,none⟩) 1 1,.slice (some ⟨w5.heap.size+2,0,none⟩) 2 2] 198 (0,0))) (sz:Int) (hsz:sz=if getL k (flat d t)=none then ns+1 else ns) (dp:Int) (hdp:dp=nd+1)=>by
    have hl6:=(Array.getElem?_eq_some_iff.1 hn6).1
    have hx6:∀b,b<w5.heap.size→ownN c5 [w5.heap.size+2,w5.heap.size+3] rn b=c5 b:=fun b hb=>z8n (by simp;omega)
    have hx0:∀b,c5 b=0→b<w5.heap.size→ownN c5 [w5.heap.size+2,w5.heap.size+3] rn b=0:=fun b h hb=>(hx6 b hb).trans h
    have hag6:Ag w5.heap.size c5 (ownN c5 [w5.heap.size+2,w5.heap.size+3] rn):=hx6
    have hcr:c5 (w5.heap.size+1)=0:=HCL5.out _ (by omega)
    have hsbc:∀b,b=w3.heap.size+1→ownN c5 [w5.heap.size+2,w5.heap.size+3] rn b=q+r+rn+1:=fun b e=>by rw[e,hx6 _ (by omega)];exact HC5.out.2.1
    have hk7:=(((h5.mono (F':=fun b=>c5 b=0∧b<w5.heap.size) (fun b h hl=>⟨h,hl⟩)).fr g6 (fun b h e=>by rw[e,HC5.out.2.1] at h;omega)).mono (F':=Dt (ownN c5 [w5.heap.size+2,w5.heap.size+3] rn)) (fun b h _=>hx0 b h.1 h.2))
    have hv7:=(((h6.mono (F':=fun b=>c5 b=0∧b<w5.heap.size) (fun b h hl=>⟨h,hl⟩)).fr g6 (fun b h e=>by rw[e,HC5.out.2.1] at h;omega)).mono (F':=Dt (ownN c5 [w5.heap.size+2,w5.heap.size+3] rn)) (fun b h _=>hx0 b h.1 h.2))
    have hit:ItemsAt (Dt (ownN c5 [w5.heap.size+2,w5.heap.size+3] rn)) w6 (.slice (some ⟨w5.heap.size+1,0,none⟩) 1 1) [x2]:=ItemsAt.ofCells (xs:=[.slice kA2 kn kc2,.slice vA2 vn vc2]) (Row.ofBlock hr6 (show ownN c5 _ rn _=0 by rw[z8n (by simp)];exact hcr) (by unfold maxLen;simp) rfl) (.cons hk7 hv7 .nil)
    have hra:=Rep.fr g6 (fun b e h=>by rw[hsbc b e] at h;omega) (fun b e h=>by rw[hsbc b e] at h;omega) (Rep.ag hag6 h1)
    have hrb:=Rep.fr g6 (fun b e h=>by rw[hsbc b e] at h;omega) (fun b e h=>by rw[hsbc b e] at h;omega) (Rep.ag hag6 h2)
    have hroot:Rep (ownN c5 [w5.heap.size+2,w5.heap.size+3] rn) rn w6 (pgs D) D.blocks False (d+1) (.node (.mem (w5.heap.size+3) (w5.heap.size+2) 0) [x2] [ta,tb]) (wInner (w5.heap.size+3)):=z8s (kvs:=[.iface tx y,.iface tx2 y2]) hn6 hit (z8m (by simp)) (z8m (by simp)) (by simp) (by simp) (by unfold maxLen;omega) (fun i u hi=>by
     match i,hi with
     |0,hi=>injection hi with hi;subst hi;exact z2k hk6 0 rfl
     |1,hi=>injection hi with hi;subst hi;exact z2k hk6 1 rfl
     |n+2,hi=>simp at hi) (.cons hra (.cons hrb .nil)) ⟨_,_,hk6⟩
    have hfl:flat (d+1) (.node (.mem (w5.heap.size+3) (w5.heap.size+2) 0) [x2] [ta,tb])=putL (k,v) (flat d t):=by rw[zby hd0];exact h8
    exact zcz (o:=some (d,t)) (o':=some (d+1,.node (.mem (w5.heap.size+3) (w5.heap.size+2) 0) [x2] [ta,tb])) (x:=(k,v)) (nr:=.iface tx0 y0) (rv:=wInner (w5.heap.size+3)) (sz:=sz) (dp:=dp) (gone2:=gone2) (q:=q) (q3:=q+r+rn+1) (eb:=w.heap.size) (wp:=w.heap.size+1) (c6:=ownN c5 [w5.heap.size+2,w5.heap.size+3] rn) hr0 hrr (by omega) (by omega) (by omega) hq2 HH.out HT.out HG.out HGO.out (Ag.trans HA5.out hag6 (by omega)) (z8p (HCL5.out.mono g6.size) (fun b hb=>by simp at hb;omega)) (HF5.out.trans g6 (fun b hb e=>by omega)) ⟨hroot,zbx h7 h3 h4⟩ hfl (zbv h9 (show w.heap.size≤w4.heap.size by omega) hs5 (by omega) (by omega) (by omega) HZ.out (fun b j hb=>⟨Rep.cl0 hb h1,Rep.cl0 hb h2⟩) (by simpa using HGL.out)) (by have:=h9.dirty;simp only[List.map_cons,List.map_nil,sumN] at this;show dirtyN (d+1) _≤_;simp only[dirtyN,List.map_cons,List.map_nil,sumN];omega) hl (by rw[hsz];show _=((flat (d+1) _).length:Int);rw[hfl,HML.out]) (by rw[hdp,HND.out];show _=((d+1:Nat):Int);omega) (Nat.le_refl _) (g6.blk HE5.out (by omega)) (by rw[hx6 _ (by omega)];exact HC5.out.1) ((HW5.out.ag hag6).fr g6 (fun b e h=>by rw[hsbc b e] at h;omega)) (by have:=HGL.out;simp at this;omega))
   clear hsb5u h1 h2 h3 h4 h5 h6 h7 h8 h9 hbe5 wk5 f05 hag5 cl5 hz hgl hml hsb5 ag5 hne hX f5 f04 f14 f34 hbe hbw hsb hce5 hcn5 hw15 hce hcw hcn hc0 hag hcl k2 k3
   have gW:=((((Fr.refl C0 (w5.setCell ⟨w3.heap.size+1,0,none⟩ (.iface tx y))).alloc (.cells #[.slice kA2 kn kc2,.slice vA2 vn vc2] 200)).alloc (.cells #[.slice kA2 kn kc2,.slice vA2 vn vc2] 200)).alloc (.cells #[.iface tx y,.iface tx2 y2] 20)).alloc (.cells #[.int .i64 0,.slice (some ⟨w5.heap.size+1,0,none⟩) 1 1,.slice (some ⟨w5.heap.size+1+1,0,none⟩) 2 2] 198)
   have hW:=gW.blk (z2j (i:=0) HSB.out (.iface tx y)) (fun h=>h)
   have a0:=z2k hW 0 rfl
   have a1:=z2k hW 1 rfl
   have a2:=z2k hW 2 rfl
   have b0:=z2i 0 hW
   have b1:=z2i 1 hW
   have b2:=z2i 2 hW
   have GW:=zhd (((Fr.refl (fun b=>b=w3.heap.size+1) w5).setCell (p:=⟨w3.heap.size+1,0,none⟩) (.inr rfl) (.iface tx y)).trans0 gW)
   have hr6:=(((Fr.refl C0 _).alloc (.cells #[.iface tx y,.iface tx2 y2] 20)).alloc (.cells #[.int .i64 0,.slice (some ⟨w5.heap.size+1,0,none⟩) 1 1,.slice (some ⟨w5.heap.size+1+1,0,none⟩) 2 2] 198)).blk (heap_alloc_new ((w5.setCell ⟨w3.heap.size+1,0,none⟩ (.iface tx y)).alloc (.cells #[.slice kA2 kn kc2,.slice vA2 vn vc2] 200)) (.cells #[.slice kA2 kn kc2,.slice vA2 vn vc2] 200)) (fun h=>h)
   have hk6:=((Fr.refl C0 _).alloc (.cells #[.int .i64 0,.slice (some ⟨w5.heap.size+1,0,none⟩) 1 1,.slice (some ⟨w5.heap.size+1+1,0,none⟩) 2 2] 198)).blk (heap_alloc_new (((w5.setCell ⟨w3.heap.size+1,0,none⟩ (.iface tx y)).alloc (.cells #[.slice kA2 kn kc2,.slice vA2 vn vc2] 200)).alloc (.cells #[.slice kA2 kn kc2,.slice vA2 vn vc2] 200)) (.cells #[.iface tx y,.iface tx2 y2] 20)) (fun h=>h)
   have hn6:=heap_alloc_new ((((w5.setCell ⟨w3.heap.size+1,0,none⟩ (.iface tx y)).alloc (.cells #[.slice kA2 kn kc2,.slice vA2 vn vc2] 200)).alloc (.cells #[.slice kA2 kn kc2,.slice vA2 vn vc2] 200)).alloc (.cells #[.iface tx y,.iface tx2 y2] 20)) (.cells #[.int .i64 0,.slice (some ⟨w5.heap.size+1,0,none⟩) 1 1,.slice (some ⟨w5.heap.size+1+1,0,none⟩) 2 2] 198)
   rw[show((w5.setCell ⟨w3.heap.size+1,0,none⟩ (.iface tx y)).alloc (.cells #[.slice kA2 kn kc2,.slice vA2 vn vc2] 200)).heap.size=w5.heap.size+1 by simp] at hr6
   rw[show(((w5.setCell ⟨w3.heap.size+1,0,none⟩ (.iface tx y)).alloc (.cells #[.slice kA2 kn kc2,.slice vA2 vn vc2] 200)).alloc (.cells #[.slice kA2 kn kc2,.slice vA2 vn vc2] 200)).heap.size=w5.heap.size+2 by simp] at hk6
   rw[show((((w5.setCell ⟨w3.heap.size+1,0,none⟩ (.iface tx y)).alloc (.cells #[.slice kA2 kn kc2,.slice vA2 vn vc2] 200)).alloc (.cells #[.slice kA2 kn kc2,.slice vA2 vn vc2] 200)).alloc (.cells #[.iface tx y,.iface tx2 y2] 20)).heap.size=w5.heap.size+3 by simp] at hn6
   have HR6:=zhd hr6
   have HK6:=zhd hk6
   have HN6:=zhd hn6
   clear gW hW hr6 hk6 hn6
   cases hm:decide (getL k (flat d t)=none) with
   | true =>
     have hsz:=zhd (show ns+1=if getL k (flat d t)=none then ns+1 else ns by rw[if_pos (of_decide_eq_true hm)])
     clear hm
     go_upto_region 15 with fail
     generalize ((((w5.setCell ⟨w3.heap.size+1,0,none⟩ (.iface tx y)).alloc (.cells #[.slice kA2 kn kc2,.slice vA2 vn vc2] 200)).alloc (.cells #[.slice kA2 kn kc2,.slice vA2 vn vc2] 200)).alloc (.cells #[.iface tx y,.iface tx2 y2] 20)).alloc (.cells #[.int .i64 0,.slice (some ⟨w5.heap.size+1,0,none⟩) 1 1,.slice (some ⟨w5.heap.size+1+1,0,none⟩) 2 2] 198)=W at *
     go_wp2_with fail
     have gF:=((((Fr.refl (fun b=>b=w3.heap.size+1) W).setCell (p:=⟨w3.heap.size+1,0,none⟩) (.inr rfl) (wInner (w5.heap.size+3))).setCell (p:=⟨w3.heap.size+1,2,none⟩) (.inr rfl) (.int .i64 (wrap64 (nd+1)))).setCell (p:=⟨w3.heap.size+1,1,none⟩) (.inr rfl) (.int .i64 (wrap64 (ns+1))))
     refine(HB.out _ (GW.out.trans gF (fun _ _ h=>h)) (gF.blk HR6.out (by omega)) (gF.blk HK6.out (by omega)) (gF.blk HN6.out (by omega)) _ (by rw[←hsz.out];exact HWN.out) _ HWD.out).mono ?_
     rintro e w7 ⟨i,rfl,e7,z7,FE⟩
     go_wp2_with fail
     refine leaves_cons (f:=86) (args:=#[.pointer (some ⟨w.heap.size,0,none⟩)]) (by simp) (by simp[go_sem]) ?_
     refine(za2 _ _).mono ?_
     rintro e u' wq ⟨rfl,rfl,rfl⟩
     simp[Leaves,settle,results,Tryz.results121,go_sem,e7]
     exact FE.out _
   | false =>
     have hsz:=zhd (show ns=if getL k (flat d t)=none then ns+1 else ns by rw[if_neg (of_decide_eq_false hm)])
     clear hm
     go_upto_region 15 with fail
     generalize ((((w5.setCell ⟨w3.heap.size+1,0,none⟩ (.iface tx y)).alloc (.cells #[.slice kA2 kn kc2,.slice vA2 vn vc2] 200)).alloc (.cells #[.slice kA2 kn kc2,.slice vA2 vn vc2] 200)).alloc (.cells #[.iface tx y,.iface tx2 y2] 20)).alloc (.cells #[.int .i64 0,.slice (some ⟨w5.heap.size+1,0,none⟩) 1 1,.slice (some ⟨w5.heap.size+1+1,0,none⟩) 2 2] 198)=W at *
     go_wp2_with fail
     have gF:=(((Fr.refl (fun b=>b=w3.heap.size+1) W).setCell (p:=⟨w3.heap.size+1,0,none⟩) (.inr rfl) (wInner (w5.heap.size+3))).setCell (p:=⟨w3.heap.size+1,2,none⟩) (.inr rfl) (.int .i64 (wrap64 (nd+1))))
     refine(HB.out _ (GW.out.trans gF (fun _ _ h=>h)) (gF.blk HR6.out (by omega)) (gF.blk HK6.out (by omega)) (gF.blk HN6.out (by omega)) _ hsz.out _ HWD.out).mono ?_
     rintro e w7 ⟨i,rfl,e7,z7,FE⟩
     go_wp2_with fail
     refine leaves_cons (f:=86) (args:=#[.pointer (some ⟨w.heap.size,0,none⟩)]) (by simp) (by simp[go_sem]) ?_
     refine(za2 _ _).mono ?_
     rintro e u' wq ⟨rfl,rfl,rfl⟩
     simp[Leaves,settle,results,Tryz.results121,go_sem,e7]
     exact FE.out _
end
section
set_option maxHeartbeats 1000000
def openStep (acc:Int×Nat×Nat) (i:Nat) (h:(Nat×Nat)×Bool):Int×Nat×Nat:=
 if h.2=true∧(acc.1<0∨acc.2.1<h.1.1) then((i:Int),h.1) else acc
def openAcc (f:Nat→(Nat×Nat)×Bool):Nat→Int×Nat×Nat
 |0=>(-1,0,0)
 |k+1=>openStep (openAcc f k) k (f k)
def openF (f:Nat→(Nat×Nat)×Bool):Option (Nat×Nat):=
 if (openAcc f 2).1<0 then none else if (openAcc f 2).2.1≠0∧(((openAcc f 2).2.1 % 2:Nat):Int)≠(openAcc f 2).1 then none else some (openAcc f 2).2
theorem zd1 (f:Nat→(Nat×Nat)×Bool):∀k,-1≤(openAcc f k).1∧(openAcc f k).1<k
 |0=>by simp[openAcc]
 | k + 1 => by
   have ih:=zd1 f k
   simp only[openAcc,openStep]
   split
   · simp;omega
   · omega
def headsOf (D:DSt) (k:Nat):(Nat×Nat)×Bool:=readHeadF (D.read k) D.blocks
theorem zd2 {n root blocks:Nat} (hn:n≠0) (hn2:n≤4611686018427387904) (hr:root≠1) (hr2:root<blocks) (hb:blocks≤5002):readHeadF (padB (headB n root)) blocks=((n,root),true):=by
 have hp:padB (headB n root)=headB n root++List.replicate 8172 0:=by rw[padB,z4k]
 have hz:zeroB (padB (headB n root))=false:=by
  unfold zeroB
  rw[decide_eq_false]
  intro h
  have h2:=congrArg (fun l=>l[0]?) h
  rw[hp] at h2
  simp[headB,List.getElem?_append,List.getElem?_replicate,z1f] at h2
 have e8:(bigB n 8).length=8:=z1f _ _
 have e4:(bigB root 4).length=4:=z1f _ _
 have e5:(bigB (n % 4294967296) 4).length=4:=z1f _ _
 have hd4:(padB (headB n root)).drop 4=bigB n 8++(bigB root 4++(bigB (n % 4294967296) 4++List.replicate 8172 0)):=by
  rw[hp];simp[headB]
 have hd12:(padB (headB n root)).drop 12=bigB root 4++(bigB (n % 4294967296) 4++List.replicate 8172 0):=by
  rw[show 12=4+8 from rfl,←List.drop_drop,hd4,List.drop_append_of_le_length (by omega),List.drop_of_length_le (by omega)];rfl
 have h1:smallN (((padB (headB n root)).drop 4).take 8)=n:=by
  rw[hd4,List.take_append_of_le_length (by omega),List.take_of_length_le (by omega),z1i]
  exact Nat.mod_eq_of_lt (by omega)
 have h2:smallN (((padB (headB n root)).drop 12).take 4)=root:=by
  rw[hd12,List.take_append_of_le_length (by omega),List.take_of_length_le (by omega),z1i]
  exact Nat.mod_eq_of_lt (by omega)
 have ht:(padB (headB n root)).take 20=headB n root:=by
  rw[hp,List.take_append_of_le_length (by rw[z4k];omega),List.take_of_length_le (by rw[z4k];omega)]
 have hd:zeroB ((padB (headB n root)).drop 20)=true:=by
  rw[hp,List.drop_append_of_le_length (by rw[z4k];omega),List.drop_of_length_le (by rw[z4k];omega)]
  unfold zeroB
  rw[List.nil_append,List.length_replicate];simp
 have ho:headOf (padB (headB n root))=(n,root):=by unfold headOf;rw[h1,h2]
 unfold readHeadF
 rw[hz]
 simp only[Bool.false_eq_true,if_false,ho]
 congr 1
 unfold headFine
 rw[ho,ht,hd]
 simp[hn,hn2,hr,hr2]
end
section
set_option maxHeartbeats 1000000
def mix {α:Type} (n:Nat) (x y:List α):List α:=x.take n++y.drop n
theorem zd3 {α:Type} {n:Nat} {x y:List α} (h:x.length=y.length) (i:Nat):(mix n x y)[i]?=if i<n then x[i]? else y[i]?:=by
 unfold mix
 by_cases hi:i<n
 · rw[if_pos hi]
   by_cases hx:i<x.length
   · rw[List.getElem?_append_left (by simp;omega),List.getElem?_take_of_lt hi]
   · rw[List.getElem?_eq_none (l:=x) (by omega),List.getElem?_eq_none (by simp;omega)]
 · rw[if_neg hi]
   by_cases hx:n≤x.length
   · rw[List.getElem?_append_right (by simp;omega),List.length_take,List.getElem?_drop]
     congr 1;omega
   · rw[List.getElem?_eq_none (l:=y) (by omega),List.getElem?_eq_none (by simp;omega)]
def fld {α:Type} (k n:Nat) (l:List α):List α:=(l.drop k).take n
theorem zd4 {n root:Nat} (hn:n<4294967296) (l:Bs):fld 4 8 (headB n root++l)=bigB n 8∧fld 16 4 (headB n root++l)=bigB n 4:=by
 have e8:(bigB n 8).length=8:=z1f _ _
 have e4:(bigB root 4).length=4:=z1f _ _
 have e5:(bigB n 4).length=4:=z1f _ _
 have hh:headB n root++l=[104,101,97,100]++(bigB n 8++(bigB root 4++(bigB n 4++l))):=by
  simp only[headB,Nat.mod_eq_of_lt hn,List.append_assoc]
 constructor
 · unfold fld
   rw[hh,List.drop_append_of_le_length (by simp),List.drop_of_length_le (by simp),List.nil_append,List.take_append_of_le_length (by omega),List.take_of_length_le (by omega)]
 · unfold fld
   rw[hh,show 16=4+(8+4) from rfl,←List.drop_drop,List.drop_append_of_le_length (by simp),List.drop_of_length_le (l:=[104,101,97,100]) (by simp),List.nil_append,←List.drop_drop,List.drop_append_of_le_length (by omega),List.drop_of_length_le (l:=bigB n 8) (by omega),List.nil_append,List.drop_append_of_le_length (by omega),List.drop_of_length_le (l:=bigB root 4) (by omega),List.nil_append,List.take_append_of_le_length (by omega),List.take_of_length_le (by omega)]
def Stale (num:Nat) (b:Bs):Prop:=b.length=8192∧b.drop 20=List.replicate 8172 0∧∃N O,N≤19∧O≤num∧(O<num∨num=0)∧O % 256≠(num+1) % 256∧fld 4 8 b=mix (N-4) (bigB (num+1) 8) (bigB O 8)∧fld 16 4 b=mix (N-16) (bigB (num+1) 4) (bigB O 4)
theorem zd5 {u v n:Nat} (hu:u<256 ^ n) (hv:v<256 ^ n) (h:bigB u n=bigB v n):u=v:=by
 have h1:=congrArg smallN h
 rwa [z1i,z1i,Nat.mod_eq_of_lt hu,Nat.mod_eq_of_lt hv] at h1
theorem zd6 (u:Nat):∀n,(bigB u (n+1))[n]?=some (UInt8.ofNat u)
 |0=>by simp[bigB]
 | n + 1 => by
   have ih:=zd6 u n
   show(UInt8.ofNat (u / 256 ^ (n+1))::bigB u (n+1))[n+1]?=_
   rw[List.getElem?_cons_succ];exact ih
theorem zd7 (u:Nat) (n:Nat):∀k,(bigB u (k+n)).take k=bigB (u / 256 ^ n) k
 |0=>rfl
 | k + 1 => by
   have ih:=zd7 u n k
   rw[show k+1+n=(k+n)+1 by omega]
   simp only[bigB,List.take_succ_cons]
   rw[ih,Nat.div_div_eq_div_mul,←Nat.pow_add]
   congr 3
   rw[Nat.add_comm]
theorem zd8 {a b:Nat} (h:a % 256≠b % 256):UInt8.ofNat a≠UInt8.ofNat b:=fun e=>h (by
 have:=congrArg UInt8.toNat e
 simpa using this)
theorem zd9 {num blocks:Nat} {b:Bs} (h:Stale num b) (hn:num<1000001):(readHeadF b blocks).2=true→((readHeadF b blocks).1.1<num∨num=0∧(readHeadF b blocks).1=(0,0)):=by
 obtain⟨h1,h2,N,O,hN,hO,hO2,hO3,f1,f2⟩:=h
 unfold readHeadF
 by_cases hz:zeroB b=true
 · rw[if_pos hz]
   intro _
   by_cases h0:num=0
   · exact .inr ⟨h0,rfl⟩
   · exact .inl (by show 0<num;omega)
 · rw[if_neg hz]
   intro hf
   simp only[] at hf⊢
   unfold headFine at hf
   simp only[Bool.and_eq_true,Bool.or_eq_true,decide_eq_true_eq] at hf
   obtain⟨⟨⟨⟨⟨t1,t2⟩,t3⟩,t4⟩,t5⟩,t6⟩:=hf
   obtain⟨y,hy⟩:∃y,y=(headOf b).2:=⟨_,rfl⟩
   rw[←hy] at t1 t4 t5 t6
   obtain⟨x,hx⟩:∃x,x=(headOf b).1:=⟨_,rfl⟩
   rw[←hx] at t1 t3 t6⊢
   have hb:b=headB x y++b.drop 20:=by
    conv=>lhs;rw[←List.take_append_drop 20 b]
    rw[t1]
   have g1:fld 4 8 b=bigB x 8:=by
    have e8:(bigB x 8).length=8:=z1f _ _
    rw[hb]
    unfold fld
    rw[show headB x y=[104,101,97,100]++(bigB x 8++(bigB y 4++bigB (x % 4294967296) 4)) by simp only[headB,List.append_assoc],List.append_assoc,List.drop_append_of_le_length (by simp),List.drop_of_length_le (by simp),List.nil_append,List.append_assoc,List.take_append_of_le_length (by omega),List.take_of_length_le (by omega)]
   have hx32:x<4294967296:=by
    have h5:(bigB x 8).take 4=bigB 0 4:=by
     rw[←g1,f1]
     refine List.ext_getElem? fun i=>?_
     by_cases hi:i<4
     · rw[List.getElem?_take_of_lt hi,zd3 (by rw[z1f,z1f])]
       have hq:∀q:Nat,q<4294967296→(bigB q 8)[i]?=(bigB 0 4)[i]?:=fun q hq=>by
        have:=zd7 q 4 4
        rw[Nat.div_eq_of_lt (by omega)] at this
        rw[←this,List.getElem?_take_of_lt hi]
       split
       · exact hq _ (by omega)
       · exact hq _ (by omega)
     · rw[List.getElem?_eq_none (by simp;omega),List.getElem?_eq_none (by rw[z1f];omega)]
    rw[zd7 x 4 4] at h5
    have h6:=zd5 (n:=4) (by have:x / 256 ^ 4<256 ^ 4:=(by omega);exact this) (by decide) h5
    omega
   have g2:fld 16 4 b=bigB x 4:=by rw[hb];exact(zd4 hx32 _).2
   by_cases h16:N≤16
   · have h7:bigB x 4=bigB O 4:=by
      rw[←g2,f2,show N-16=0 by omega]
      rfl
     have h8:=zd5 (n:=4) (by omega) (by omega) h7
     rcases hO2 with hO2|hO2
     · exact .inl (by omega)
     · refine .inr ⟨hO2,?_⟩
       have:x=0:=by omega
       rcases t6 with t6|t6
       · exact absurd this t6
       · exact Prod.ext (hx.symm.trans this) (hy.symm.trans t6)
   · exfalso
     have h7:bigB x 8=bigB (num+1) 8:=by
      rw[←g1,f1]
      unfold mix
      rw[List.take_of_length_le (by rw[z1f];omega),List.drop_of_length_le (by rw[z1f];omega),List.append_nil]
     have h8:=zd5 (n:=8) (by omega) (by omega) h7
     have h9:(bigB x 4)[3]?=(bigB O 4)[3]?:=by
      rw[←g2,f2,zd3 (by rw[z1f,z1f]),if_neg (by omega)]
     rw[zd6 x 3,zd6 O 3] at h9
     injection h9 with h9
     exact zd8 (by rw[h8];exact fun e=>hO3 e.symm) h9
theorem zda {num rt:Nat} (hn:num<1000000):Stale (num+1) (padB (headB num rt)):=by
 have hp:padB (headB num rt)=headB num rt++List.replicate 8172 0:=by rw[padB,z4k]
 obtain⟨q1,q2⟩:=zd4 (n:=num) (root:=rt) (by omega) (List.replicate 8172 0)
 rw[←hp] at q1 q2
 refine⟨by rw[hp];simp[z4k],?_,0,num,by omega,by omega,.inl (by omega),by omega,by rw[q1];rfl,by rw[q2];rfl⟩
 rw[hp,List.drop_append_of_le_length (by rw[z4k];omega),List.drop_of_length_le (by rw[z4k];omega)];rfl
theorem zdb:∀n,bigB 0 n=List.replicate n 0
 |0=>rfl
 |n+1=>by simp only[bigB,Nat.zero_div,List.replicate_succ,zdb n];rfl
theorem zdc {num:Nat} (hn:num<1000000) (h0:num=0∨num=1):Stale num (List.replicate 8192 0):=by
 have hf:∀k n,k+n≤8192→fld k n (List.replicate 8192 (0:UInt8))=bigB 0 n:=fun k n h=>by
  rw[zdb]
  unfold fld
  rw[List.drop_replicate,List.take_replicate]
  congr 1;omega
 exact⟨List.length_replicate,by rw[List.drop_replicate],0,0,by omega,by omega,by omega,by omega,by rw[hf 4 8 (by omega)];rfl,by rw[hf 16 4 (by omega)];rfl⟩
def HeadsOk (rd:Nat→Bs) (num root:Nat):Prop:=(if num=0 then root=0∧rd 0=List.replicate 8192 0 else rd (num % 2)=padB (headB num root))∧Stale num (rd ((num+1) % 2))
theorem zdd (blocks:Nat):readHeadF (List.replicate 8192 0) blocks=((0,0),true):=by
 unfold readHeadF
 rw[if_pos]
 unfold zeroB
 rw[decide_eq_true]
 rw[List.length_replicate]
theorem zde {rd:Nat→Bs} {num root blocks:Nat} (h:HeadsOk rd num root) (hn:num<1000001) (hr:root≠1) (hr2:root<blocks) (hb:blocks≤5002):openF (fun k=>readHeadF (rd k) blocks)=some (num,root):=by
 obtain⟨h1,h2⟩:=h
 have h3:=zd9 (blocks:=blocks) h2 hn
 obtain⟨⟨⟨a,q⟩,o⟩,e⟩:∃x,x=readHeadF (rd ((num+1) % 2)) blocks:=⟨_,rfl⟩
 rw[←e] at h3
 simp only[Prod.mk.injEq] at h3
 by_cases h0:num=0
 · subst h0
   rw[if_pos rfl] at h1
   obtain⟨rfl,h1⟩:=h1
   have e0:readHeadF (rd 0) blocks=((0,0),true):=by rw[h1];exact zdd _
   have e1:readHeadF (rd 1) blocks=((a,q),o):=e.symm
   unfold openF
   simp only[openAcc,openStep,e0,e1]
   cases o
   · simp
   · have:=h3 rfl
     have:a=0:=by omega
     subst this
     simp
 · rw[if_neg h0] at h1
   have em:readHeadF (rd (num % 2)) blocks=((num,root),true):=by rw[h1];exact zd2 h0 (by omega) hr hr2 hb
   have hlt:o=true→a<num:=fun ho=>by have:=h3 ho;omega
   rcases Nat.mod_two_eq_zero_or_one num with hm|hm
   · have hm2:(num+1) % 2=1:=by omega
     rw[hm] at em
     rw[hm2] at e
     unfold openF
     simp only[openAcc,openStep,em,←e]
     cases o
     · simp;omega
     · have:=hlt rfl
       have h5:¬num<a:=by omega
       simp[h5];omega
   · have hm2:(num+1) % 2=0:=by omega
     rw[hm] at em
     rw[hm2] at e
     unfold openF
     simp only[openAcc,openStep,em,←e]
     cases o
     · simp;omega
     · have:=hlt rfl
       simp[this];omega
theorem zdf {rd rd':Nat→Bs} {num root root':Nat} (h:HeadsOk rd num root) (hn:num<1000000) (h1:rd' ((num+1) % 2)=padB (headB (num+1) root')) (h2:rd' (num % 2)=rd (num % 2)):HeadsOk rd' (num+1) root':=by
 refine⟨by rw[if_neg (by omega)];exact h1,?_⟩
 rw[show(num+1+1) % 2=num % 2 by omega,h2]
 by_cases h0:num=0
 · have h3:=h.1
   rw[if_pos h0] at h3
   subst h0
   rw[show rd (0 % 2)=_ from h3.2]
   exact zdc (by omega) (.inr rfl)
 · have h3:=h.1
   rw[if_neg h0] at h3
   rw[h3]
   exact zda hn
theorem zdg {D:DSt} (h:∀k,D.read k=List.replicate 8192 0):HeadsOk D.read 0 0:=⟨by rw[if_pos rfl];exact⟨rfl,h 0⟩,by rw[h];exact zdc (by omega) (.inl rfl)⟩
end
end Go.Proofs.YtidalepbkljkpaaGreat
