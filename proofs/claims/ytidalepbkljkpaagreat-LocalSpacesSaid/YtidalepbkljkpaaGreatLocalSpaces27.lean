import Derived.Test.YtidalepbkljkpaaGreatLocalSpaces26
import Derived.Test.YtidalepbkljkpaaGreatLocalSpaces25
import Derived.Test.YtidalepbkljkpaaGreatLocalSpaces16
set_option linter.all false
namespace Go.Proofs.YtidalepbkljkpaaGreat
open Go.RowKit Go.H
set_option maxHeartbeats 2000000
set_option maxRecDepth 100000
section
structure SnapS where
 sp:Nat
 pm:Nat
 root:Root
 pages:List Nat
def wRoot:Root→Value
 |none=>.nilIface
 |some (_,t)=>wPage t.id
structure SnapM (c:Nat→Nat) (rm:Nat) (w:World) (tp:Nat) (v:Value) (s:SnapS):Prop where
 v:v=.pointer (some ⟨s.sp,0,none⟩)
 blk:w.heap[s.sp]?=some (.cells #[.pointer (some ⟨tp,0,none⟩),wRoot s.root,.map (some s.pm),.bool false] 257 (0,0))
 own:c s.sp=rm
 map:MapIs w s.pm (vmap (ones s.pages))
 mo:c s.pm=0
theorem SnapM.fr {C:Nat→Prop} {c c':Nat→Nat} {rm:Nat} {w w':World} {tp:Nat} {v:Value} {s:SnapS} (h:SnapM c rm w tp v s) (hf:Fr C w w') (ha:Ag w.heap.size c c') (h1:¬C s.sp) (h2:¬C s.pm):SnapM c' rm w' tp v s:=
 ⟨h.v,hf.blk h.blk h1,(ha _ (Array.getElem?_eq_some_iff.1 h.blk).1).trans h.own,h.map.fr hf h2,(ha _ h.map.lt).trans h.mo⟩
structure RelIn (c:Nat→Nat) (r rm:Nat) (w:World) (tp st lm km:Nat) (ov:Value) (ns:List Nat) (S:SSt) (D:DSt) (held back live kept:List Nat) (snaps:List SnapS) (sn:List Value):Prop where
 hd:Hd c r w tp st S D
 cl:Cl w c
 ap:Apart c r w ns
 tpn:tp∈ns
 t7:w.cell? ⟨tp,7,none⟩=some (.map (some lm))
 t9:w.cell? ⟨tp,9,none⟩=some ov
 t10:w.cell? ⟨tp,10,none⟩=some (.map (some km))
 mp:MapIs w lm (vmap (ones live))
 ml:c lm=rm
 kp:MapIs w km (vmap (ones kept))
 mo:c km=rm
 lk:lm≠km
 st:S.state=marks held back
 nd:held.Nodup
 orow:w.ownsRow 0 255 1 ov snaps.length sn
 oo:∀b,ov.ownBlock=some b→c b=rm
 sns:All2 (SnapM c rm w tp) sn snaps
theorem zcr {w:World} {b m:Nat} {L:List (Int×Value)} {cs:Array Value} {t:Nat} {f:Nat×Nat} (h:w.heap[b]?=some (.cells cs t f)) (hm:MapIs w m L):b≠m:=fun e=>by
 obtain⟨es,k,h2,_⟩:=hm
 rw[e,h2] at h;cases h
theorem RelIn.turn {c:Nat→Nat} {r rm:Nat} {w w':World} {tp st lm km:Nat} {ov:Value} {ns:List Nat} {S S':SSt} {D:DSt} {held back back' live live' kept kept':List Nat} {snaps:List SnapS} {sn:List Value} (hr0:r≠0) (hmr:rm≠r) (hm0:rm≠0) (h:RelIn c r rm w tp st lm km ov ns S D held back live kept snaps sn) (hf:Fr (fun b=>(c b=r∧b∉ns)∨b=lm∨b=km) w w') (hs:StoreOk c r w' st S' D) (ha:Alive S' D) (hm:MapIs w' lm (vmap (ones live'))) (hk:MapIs w' km (vmap (ones kept'))) (hst:S'.state=marks held back'):RelIn c r rm w' tp st lm km ov ns S' D held back' live' kept' snaps sn:=by
 have hns:∀b∈ns,¬((c b=r∧b∉ns)∨b=lm∨b=km):=fun b hb e=>e.elim (fun e=>e.2 hb) (fun e=>e.elim (fun e=>hmr (by rw[←h.ml,←e];exact(h.ap b hb).1)) (fun e=>hmr (by rw[←h.mo,←e];exact(h.ap b hb).1)))
 have hrm:∀{b:Nat} {cs:Array Value} {t:Nat} {f:Nat×Nat},c b=rm→w.heap[b]?=some (.cells cs t f)→¬((c b=r∧b∉ns)∨b=lm∨b=km):=fun hb h1 e=>by
  rcases e with e|e|e
  · exact hmr (hb.symm.trans e.1)
  · exact zcr h1 h.mp e
  · exact zcr h1 h.kp e
 have h0:∀b,c b=0→¬((c b=r∧b∉ns)∨b=lm∨b=km):=fun b hb e=>by
  rcases e with e|e|e
  · exact hr0 (e.1.symm.trans hb)
  · exact hm0 (by rw[←h.ml,←e];exact hb)
  · exact hm0 (by rw[←h.mo,←e];exact hb)
 exact⟨⟨hf.cell h.hd.cell (hns tp h.tpn),hs,ha,h.hd.own⟩,h.cl.mono hf.size,h.ap.fr hf hns,h.tpn,hf.cell h.t7 (hns tp h.tpn),hf.cell h.t9 (hns tp h.tpn),hf.cell h.t10 (hns tp h.tpn),hm,h.ml,hk,h.mo,h.lk,hst,h.nd,z0m h.orow hf (fun b e=>by
  obtain⟨cur,h3⟩:=z4y h.orow e
  exact hrm (h.oo b e) h3),h.oo,h.sns.imp fun v s a=>a.fr hf (Ag.refl _ _) (hrm a.own a.blk) (h0 _ a.mo)⟩
def addK (id:Nat) (l:List Nat):List Nat:=if id∈l then l else l++[id]
theorem zcs {k:Nat}:∀{l:List Nat},k∈l→aset (k:Int) 1 (ones l)=ones l
 |[],h=>by simp at h
 | j :: l, h => by
   simp only[ones,marks,List.map_cons,aset]
   by_cases e:j=k
   · subst e;simp
   · have h1:¬(j:Int)=(k:Int):=by omega
     have hm:k∈l:=by rcases List.mem_cons.1 h with h|h;exact absurd h.symm e;exact h
     have ih:=zcs hm
     simp only[ones,marks] at ih
     rw[if_neg h1,ih]
theorem zct (k:Nat) (l:List Nat):aset (k:Int) 1 (ones l)=ones (addK k l):=by
 unfold addK
 split
 · exact zcs (by assumption)
 · exact z91 (by assumption)
def Wants (snaps:List SnapS) (id:Nat):Prop:=∃s∈snaps,id∈s.pages
def RelR (c:Nat→Nat) (r rm:Nat) (w:World) (tp st lm km id:Nat) (ov:Value) (ns:List Nat) (S:SSt) (D:DSt) (held back live kept:List Nat) (snaps:List SnapS) (sn:List Value) (w':World):Prop:=
 Fr (fun b=>(c b=r∧b∉ns)∨b=lm∨b=km) w w'∧((Wants snaps id∧RelIn c r rm w' tp st lm km ov ns S D held back live (addK id kept) snaps sn)∨(¬Wants snaps id∧RelIn c r rm w' tp st lm km ov ns (S.set id 2) D held (id::back) live (kept.filter fun j=>decide (j≠id)) snaps sn))
theorem zcu {c:Nat→Nat} {r rm:Nat} {w:World} {tp st lm km id:Nat} {ov:Value} {ns:List Nat} {S:SSt} {D:DSt} {held back live kept:List Nat} {snaps:List SnapS} {sn:List Value} (hr0:r≠0) (hm0:rm≠0) (hmr:rm≠r) (h:RelIn c r rm w tp st lm km ov ns S D held back live kept snaps sn) (hid:id∈held) (hib:id∉back) :
 Calls Tryz.prog 150 #[.pointer (some ⟨tp,0,none⟩),.int .i64 (id:Int)] w fun e w'=>e=.returned (.tuple #[])∧Hid (RelR c r rm w tp st lm km id ov ns S D held back live kept snaps sn w'):=by
 have t9:=h.t9
 have t0:=h.hd.cell
 have t10:=h.t10
 have HF:=zhd (fun (w_:World) (hf:Fr C0 w w_)=>z8y (k:=id) (h.hd.fr0 hf).store h.hd.alive hr0 (h.ap.fr hf (fun _ _ h=>h)) (by rw[z9c h.st,if_pos hid,if_neg hib]))
 have HH:=zhd h
 have HR:=zhd (Row.ofOwn h.orow (F:=fun _=>True) (fun _ _=>trivial))
 have HSN:=zhd h.sns
 have hln:=All2.length h.sns
 obtain⟨A,cp,rfl,hA1,hA2⟩:=HR.out.form
 unfold maxLen at hA2
 clear h
 go_enter Tryz.func150,Tryz.ntmps150
 go_wp2
 go_loopw [11] (fun i wr=>∃k:Nat,k≤snaps.length∧i=.int .i64 (k:Int)∧w=wr∧Hid (∀(j:Nat) (s:SnapS),j<k→snaps[j]?=some s→id∉s.pages)) (fun i _=>snaps.length-(intOf i).toNat)
 case atStart=>exact⟨0,Nat.zero_le _,by go_num,rfl,zhd (fun j s hj=>by omega)⟩
 case round=>
  obtain⟨k,hk,rfl,rfl,HNO⟩:=hrel
  by_cases hlt:k<snaps.length
  · have hs:=All2.get k (by omega) hlt HSN.out
    obtain⟨g,o,hga,-,hc⟩:=HR.out.cells (show sn[k]?=some sn[k] from List.getElem?_eq_getElem (by omega))
    have hc1:=hc k sn[k] (List.getElem?_eq_getElem (by omega))
    subst hga
    have hsk:snaps[k]?=some snaps[k]:=List.getElem?_eq_getElem hlt
    generalize snaps[k]=s at *
    rw[hs.v] at hc1
    have c2:=z2k hs.blk 2 rfl
    have hl:=z4x hs.map (id:Int)
    rw[z90] at hl
    have HSK:=zhd hsk
    clear hc hsk
    by_cases hw:id∈s.pages
    · rw[if_pos hw] at hl
      have HKP:=zhd HH.out.kp
      have HW:=zhd hw
      clear hw
      simp only[List.not_mem_nil,if_false,Option.getD_some] at hl
      go_wp2_with (refine z24 rfl Tryz.underlying136 Tryz.underlying3 _ _ _ rfl (m:=km) (k:=(id:Int)) (v:=.int .i64 1) rfl rfl rfl HKP.out ?_;intro w4 n4 f4)
      refine bodyPost_ret (results_none rfl _ _ _) rfl ?_
      rw[z4w,zct] at n4
      have f5:Fr (fun b=>(c b=r∧b∉ns)∨b=lm∨b=km) w w4:=f4.mono (fun b _ e=>.inr (.inr e))
      refine⟨rfl,zhd ⟨f5,.inl ⟨⟨s,List.mem_of_getElem? HSK.out,HW.out⟩,HH.out.turn hr0 hmr hm0 f5 (HH.out.hd.store.fr f4 (fun b e h=>hmr (by rw[←h,e];exact HH.out.mo.symm)) (fun b e h=>hm0 (by rw[←h,e];exact HH.out.mo.symm))) HH.out.hd.alive (HH.out.mp.fr f4 HH.out.lk) n4 HH.out.st⟩⟩⟩
    · rw[if_neg hw] at hl
      have HNO2:Hid (∀(j:Nat) (s:SnapS),j<k+1→snaps[j]?=some s→id∉s.pages):=zhd (fun j s' hj hs'=>by
       by_cases e:j=k
       · subst e
         rw[HSK.out] at hs';injection hs' with hs';subst hs';exact hw
       · exact HNO.out j s' (by omega) hs')
      simp only[Option.getD_none] at hl
      clear hw
      go_wp2
      go_roundw
      case rel=>exact⟨k+1,by omega,by go_num,by trivial,HNO2⟩
      case measure=>simp[intOf];omega
  · obtain rfl:k=snaps.length:=by omega
    have HNW:Hid (¬Wants snaps id):=zhd (fun ⟨s,hs1,hs2⟩=>by
     obtain⟨j,hj,he⟩:=List.getElem_of_mem hs1
     exact HNO.out j s hj (by rw[List.getElem?_eq_getElem hj,he]) hs2)
    clear HNO hlt hk
    go_wp2_with fail
    refine(HF.out _ (Fr.refl C0 _)).mono ?_
    rintro e w2 ⟨rfl,s2,f2⟩
    have F2:=zhd f2
    have S2:=zhd s2
    have K2:=zhd (HH.out.kp.fr f2 (fun e=>hmr (HH.out.mo.symm.trans e.1)))
    have M2:=zhd (HH.out.mp.fr f2 (fun e=>hmr (HH.out.ml.symm.trans e.1)))
    have t10':=f2.cell t10 (fun e=>e.2 HH.out.tpn)
    clear f2 s2 HF
    go_wp2_with (refine z26 rfl Tryz.underlying136 Tryz.underlying3 _ _ rfl (m:=km) (k:=(id:Int)) rfl rfl K2.out ?_;intro w4 n4 f4)
    go_end0
    rw[z97] at n4
    have f24:=(F2.out.mono (C2:=fun b=>(c b=r∧b∉ns)∨b=lm∨b=km) (fun _ _ h=>.inl h)).trans f4 (fun b hb e=>.inr (.inr e))
    have ha:=HH.out.hd.alive
    refine⟨rfl,zhd ⟨f24,.inr ⟨HNW.out,HH.out.turn hr0 hmr hm0 f24 (S2.out.fr f4 (fun b e h=>hmr (by rw[←h,e];exact HH.out.mo.symm)) (fun b e h=>hm0 (by rw[←h,e];exact HH.out.mo.symm))) ⟨ha.down,ha.life,ha.size,ha.small⟩ (M2.out.fr f4 HH.out.lk) n4 ?_⟩⟩⟩
    show aset (id:Int) 2 S.state=_
    rw[HH.out.st,z95 HH.out.nd hid]
end
section
def ownL (v:Value):List Nat:=match v.ownBlock with|some b=>[b]|none=>[]
theorem zcv {v:Value} {b:Nat}:b∈ownL v↔v.ownBlock=some b:=by
 unfold ownL
 cases v.ownBlock with
 |none=>simp
 |some a=>simp;exact eq_comm
theorem zcw {c:Nat→Nat} {r:Nat} {w:World} {tp n:Nat} {gv:Value} {cs:Array Value} {xs:List Value} (hct:c tp=r) (ht:w.heap[tp]?=some (.cells cs 139 (0,0))) (hg:w.ownsRow 0 3 1 gv n xs) (hgo:∀b,gv.ownBlock=some b→c b=r):Apart c r w (tp::ownL gv):=by
 intro b hb
 rcases List.mem_cons.1 hb with rfl|hb
 · exact⟨hct,_,_,_,ht,by decide,by decide,by decide⟩
 · have:=zcv.1 hb
   obtain⟨cur,h⟩:=z4y hg this
   exact⟨hgo b this,_,_,_,h,by decide,by decide,by decide⟩
theorem zcx {c c1 c5:Nat→Nat} {r rn q3 eb:Nat} {w w4 w5:World} {tp st lm km:Nat} {S:SSt} {D:DSt} {o o':Root} {lr gv gv' ov rv:Value} {ls ld:Int} {gone gone':List Nat} {x:KV} {cs:Array Value} {n:Nat} {xs:List Value} (hr0:r≠0) (hrr:rn≠r) (hq0:q3≠0) (hqr:q3≠r) (hqn:q3≠rn) (hh:Hd c r w tp st S D) (ht:w.heap[tp]?=some (.cells cs 139 (0,0))) (hg:w.ownsRow 0 3 1 gv n xs) (hgo:∀b,gv.ownBlock=some b→c b=r) (hag:Ag w.heap.size c c1) (f4:Fr C0 w w4) (hr:RootAt c1 rn w4 (pgs D) D.blocks False o' rv)
 (h1:rootL o'=putL x (rootL o)) (h2:RootSh o') (h3:RAcc w.heap.size o o' gone gone') (h4:rootDirty o'≤S.pages-S.state.length) (f5:Fr (fun b=>b=tp∨gv.ownBlock=some b) w4 w5) (ag5:Ag w4.heap.size c1 c5) (cl5:Cl w5 c5)
 (ht5:w5.heap[tp]?=some (.cells (TreeCells st rv ((rootL o').length:Int) (rootD o':Int) lr ls ld lm gv' ov km) 139 (0,0))) (og5:w5.ownsRow 0 3 1 gv' gone'.length (gone'.map natV)) (oc5:∀b,gv'.ownBlock=some b→c5 b=r) (he1:w.heap.size≤eb) (he2:eb<w4.heap.size) (hce:c1 eb=q3) (u:Value) :
 TPutRes c r rn w tp st lm km S D o lr ov ls ld gone x (.returned (.int .i64 0)) (w5.setCell ⟨eb,0,none⟩ u):=by
 have fs:=(Fr.refl (fun b=>b=eb) w5).setCell (p:=⟨eb,0,none⟩) (.inr rfl) u
 have hce5:c5 eb=q3:=(ag5 eb he2).trans hce
 have hs4:=f4.size
 have hs5:=f5.size
 have htl:=(Array.getElem?_eq_some_iff.1 ht).1
 have hct:=hh.own
 have hag5:Ag w.heap.size c c5:=Ag.trans hag ag5 hs4
 have hc1:∀b,(b=tp∨gv.ownBlock=some b)→c5 b=r∧c b=r∧b<w.heap.size:=fun b hb=>by
  rcases hb with rfl|hb
  · exact⟨(hag5 _ htl).trans hct,hct,htl⟩
  · have:=(hg.lt b hb).2;exact⟨(hag5 b this).trans (hgo b hb),hgo b hb,this⟩
 have r5:=((hr.ag ag5).fr f5 (fun b hb e=>hrr (e.symm.trans (hc1 b hb).1)) (fun b hb e=>hr0 ((hc1 b hb).1.symm.trans e))).fr fs (fun b hb e=>hqn (by rw[←hce5,←hb];exact e)) (fun b hb e=>hq0 (by rw[←hce5,←hb];exact e))
 have hap:Apart c5 r w4 (tp::ownL gv):=zcw (hc1 tp (.inl rfl)).1 (f4.blk ht (fun h=>h)) (z0m hg f4 (fun _ _ h=>h)) (fun b hb=>(hc1 b (.inr hb)).1)
 have s5:=((((hh.store.ag hag).fr f4 (fun _ h=>h.elim) (fun _ h=>h.elim)).ag ag5).apart hr0 hap (f5.mono fun b _ h=>by rcases h with rfl|h;exact List.mem_cons_self;exact List.mem_cons_of_mem _ (zcv.2 h))).fr fs (fun b hb e=>hqr (by rw[←hce5,←hb];exact e)) (fun b hb e=>hq0 (by rw[←hce5,←hb];exact e))
 have ht6:=fs.blk ht5 (fun e:tp=eb=>by omega)
 exact⟨o',gone',h1,h2,h3,.inr ⟨rfl,h4,((f4.mono (fun _ _ h=>h.elim)).trans f5 (fun b hb h=>(hc1 b h).2.1)).setCell (.inl he1) u,gv',rv,c5,hag5,cl5.mono fs.size,⟨z2k ht6 0 rfl,s5,hh.alive,(hc1 tp (.inl rfl)).1⟩,ht6,z0m og5 fs (fun b hb e=>hqr (by rw[←hce5,←e];exact oc5 b hb)),oc5,r5⟩⟩
theorem zcy {c:Nat→Nat} {r rn:Nat} {w:World} {tp st lm km:Nat} {S:SSt} {D:DSt} {lr gv ov kv vv:Value} {ns nd ls ld:Int} {k v:Bs} {gone:List Nat} (hr0:r≠0) (hrn:rn≠0) (hrr:rn≠r) (h:Hd c r w tp st S D) (hc:Cl w c) (ht:w.heap[tp]?=some (.cells (TreeCells st .nilIface ns nd lr ls ld lm gv ov km) 139 (0,0))) (hg:w.ownsRow 0 3 1 gv gone.length (gone.map natV)) (hgo:∀b,gv.ownBlock=some b→c b=r) (hk:BytesAt (Dt c) w kv k) (hv:BytesAt (Dt c) w vv v) (hw:wrong k v=0) (hl:S.state.length≤S.pages) (hlen:gone.length≤900000) :
 Calls Tryz.prog 121 #[.pointer (some ⟨tp,0,none⟩),kv,vv] w (TPutRes c r rn w tp st lm km S D none lr ov ls ld gone (k,v)):=by
 have HM:=zhd (fun (w_:World) (hf:Fr C0 w w_)=>za9 (h.fr0 hf) (hk.fr0 hf) (hv.fr0 hf))
 rw[hw] at HM
 have hkl:k.length≤64∧v.length≤1800:=by
  unfold wrong at hw
  split at hw
  · cases hw
  · split at hw
    · cases hw
    · omega
 have HCK:=zhd (fun (w_:World) (hf:Fr C0 w w_)=>z35 (hk.fr0 hf) (by omega))
 have HCV:=zhd (fun (w_:World) (hf:Fr C0 w w_)=>z35 (hv.fr0 hf) (by omega))
 obtain⟨A,cc,rfl,-⟩:=hk.form
 obtain⟨A',cc',rfl,-⟩:=hv.form
 have F0:=zhd ((Fr.refl C0 w).alloc (.cells #[.int .i64 0] 33))
 have F1:=zhd ((F0.out.drew).alloc (.cells #[.pointer (some ⟨tp,0,none⟩),.slice none 0 0] 229))
 have t1:w.cell? ⟨tp,1,none⟩=some .nilIface:=z2k ht 1 rfl
 have t2:w.cell? ⟨tp,2,none⟩=some (.int .i64 ns):=z2k ht 2 rfl
 have t3:w.cell? ⟨tp,3,none⟩=some (.int .i64 nd):=z2k ht 3 rfl
 have HT:=zhd ht
 have HH:=zhd h
 have HC:=zhd hc
 have HG:=zhd hg
 have HGO:=zhd hgo
 have HKV:Hid (KVok (k,v)):=zhd (by
  refine⟨?_,hkl.1,hkl.2⟩
  show 1≤k.length
  unfold wrong at hw
  split at hw
  · cases hw
  · rename_i h;exact List.length_pos_iff.2 h)
 clear h hc ht hg hgo hk hv hw
 go_enter_defers Tryz.func121,Tryz.ntmps121
 go_wp2_with fail
 refine(HM.out _ F0.out).mono ?_
 rintro e w1 ⟨rfl,rfl⟩
 go_wp2_with fail
 refine(HCK.out _ F1.out).mono ?_
 rintro e w2 ⟨k2,rfl,f2,b2⟩
 have F2:=zhd (F1.out.trans0 f2)
 have F12:=zhd f2
 have B2:=zhd b2
 obtain⟨A2,c2,rfl,-⟩:=b2.form
 have S2:=f2.size
 clear HM HCK f2 b2
 go_wp2_with fail
 refine(HCV.out _ F2.out).mono ?_
 rintro e w3 ⟨v3,rfl,f3,b3⟩
 have F3:=zhd (F2.out.trans0 f3)
 have F23:=zhd f3
 have B3:=zhd b3
 obtain⟨A3,c3,rfl,-⟩:=b3.form
 clear HCV f3 b3
 have F4:=zhd (F3.out.alloc (.cells #[.slice A2 k.length c2,.slice A3 v.length c3] 200))
 have t1':=F4.out.cell0 t1
 have t2':=F4.out.cell0 t2
 have t3':=F4.out.cell0 t3
 clear t1 t2 t3
 go_wp2_with fail
 have f34:=(((((Fr.refl C0 w3).alloc (.cells #[.slice A2 k.length c2,.slice A3 v.length c3] 200)).alloc (.cells #[wLeaf (w3.heap.size+1+1+1),.int .i64 1,.int .i64 1] 135)).alloc (.cells #[.slice A2 k.length c2,.slice A3 v.length c3] 200)).alloc (.cells #[.int .i64 0,.slice (some ⟨w3.heap.size+1+1,0,none⟩) 1 1] 223))
 have hb2:=((Fr.refl C0 _).alloc (.cells #[.int .i64 0,.slice (some ⟨w3.heap.size+1+1,0,none⟩) 1 1] 223)).blk (heap_alloc_new (((w3.alloc (.cells #[.slice A2 k.length c2,.slice A3 v.length c3] 200)).alloc (.cells #[wLeaf (w3.heap.size+1+1+1),.int .i64 1,.int .i64 1] 135))) (.cells #[.slice A2 k.length c2,.slice A3 v.length c3] 200)) (fun h=>h)
 have hb3:=heap_alloc_new (((w3.alloc (.cells #[.slice A2 k.length c2,.slice A3 v.length c3] 200)).alloc (.cells #[wLeaf (w3.heap.size+1+1+1),.int .i64 1,.int .i64 1] 135)).alloc (.cells #[.slice A2 k.length c2,.slice A3 v.length c3] 200)) (.cells #[.int .i64 0,.slice (some ⟨w3.heap.size+1+1,0,none⟩) 1 1] 223)
 rw[show((w3.alloc (.cells #[.slice A2 k.length c2,.slice A3 v.length c3] 200)).alloc (.cells #[wLeaf (w3.heap.size+1+1+1),.int .i64 1,.int .i64 1] 135)).heap.size=w3.heap.size+1+1 by simp] at hb2
 rw[show(((w3.alloc (.cells #[.slice A2 k.length c2,.slice A3 v.length c3] 200)).alloc (.cells #[wLeaf (w3.heap.size+1+1+1),.int .i64 1,.int .i64 1] 135)).alloc (.cells #[.slice A2 k.length c2,.slice A3 v.length c3] 200)).heap.size=w3.heap.size+1+1+1 by simp] at hb3
 generalize (((w3.alloc (.cells #[.slice A2 k.length c2,.slice A3 v.length c3] 200)).alloc (.cells #[wLeaf (w3.heap.size+1+1+1),.int .i64 1,.int .i64 1] 135)).alloc (.cells #[.slice A2 k.length c2,.slice A3 v.length c3] 200)).alloc (.cells #[.int .i64 0,.slice (some ⟨w3.heap.size+1+1,0,none⟩) 1 1] 223)=w4 at *
 have hl4:w3.heap.size+1+1+1<w4.heap.size:=(Array.getElem?_eq_some_iff.1 hb3).1
 have hs1:((w.alloc (.cells #[.int .i64 0] 33)).drew.alloc (.cells #[.pointer (some ⟨tp,0,none⟩),.slice none 0 0] 229)).heap.size=w.heap.size+2:=by simp
 have hs3:=F23.out.size
 have f14:Fr C0 ((w.alloc (.cells #[.int .i64 0] 33)).drew.alloc (.cells #[.pointer (some ⟨tp,0,none⟩),.slice none 0 0] 229)) w4:=(F12.out.trans0 F23.out).trans0 f34
 have hbe:w4.heap[w.heap.size]?=some (.cells #[.int .i64 0] 33 (0,0)):=f14.blk (((Fr.refl C0 _).drew.alloc _).blk (heap_alloc_new w _) (fun h=>h)) (fun h=>h)
 have hbw:w4.heap[w.heap.size+1]?=some (.cells #[.pointer (some ⟨tp,0,none⟩),.slice none 0 0] 229 (0,0)):=f14.blk (by
  have:=heap_alloc_new ((w.alloc (.cells #[.int .i64 0] 33)).drew) (.cells #[.pointer (some ⟨tp,0,none⟩),.slice none 0 0] 229)
  rwa [show((w.alloc (.cells #[.int .i64 0] 33)).drew).heap.size=w.heap.size+1 by simp] at this) (fun h=>h)
 have f04:Fr C0 w w4:=F3.out.trans0 f34
 obtain⟨q,hq0,hq1,hq2,hq3⟩:=zbp HC.out r rn
 obtain⟨c1,hce,hcw,hcn,hc0,hag,hcl⟩:∃c1:Nat→Nat,c1 w.heap.size=q+r+rn+1∧c1 (w.heap.size+1)=q∧c1 (w3.heap.size+1+1+1)=rn∧(∀b,w.heap.size+2≤b→b≠w3.heap.size+1+1+1→c1 b=0)∧Ag w.heap.size c c1∧Cl w4 c1:=by
  refine⟨fun b=>if b=w.heap.size then q+r+rn+1 else if b=w.heap.size+1 then q else if b=w3.heap.size+1+1+1 then rn else c b,by simp,by simp,?_,fun b h1 h2=>?_,fun b hb=>?_,fun b hb=>?_⟩
  · simp only[];rw[if_neg (by omega),if_neg (by omega)];simp
  · simp only[];rw[if_neg (by omega),if_neg (by omega),if_neg h2];exact HC.out b (by omega)
  · simp only[];rw[if_neg (by omega),if_neg (by omega),if_neg (by omega)]
  · simp only[];rw[if_neg (by omega),if_neg (by omega),if_neg (by omega)];exact HC.out b (by omega)
 have hrep:RootAt c1 rn w4 (pgs D) D.blocks False (some (1,.node (.mem (w3.heap.size+1+1+1) 0 0) [(k,v)] [])) (wLeaf (w3.heap.size+1+1+1)):=by
  refine⟨z8r hb3 (ItemsAt.ofCells (xs:=[.slice A2 k.length c2,.slice A3 v.length c3]) (Row.ofBlock hb2 (hc0 _ (by omega) (by omega)) (by unfold maxLen;simp) rfl) ?_) hcn,zbw _ HKV.out⟩
  have k2:=((B2.out.mono (F':=fun b=>w.heap.size+2≤b∧b<w3.heap.size) (fun b h hl=>⟨by omega,by omega⟩)).fr0 (F23.out.trans0 f34)).mono (F':=Dt c1) (fun b h _=>hc0 b h.1 (by omega))
  have k3:=((B3.out.mono (F':=fun b=>w.heap.size+2≤b∧b<w3.heap.size) (fun b h hl=>⟨by omega,by omega⟩)).fr0 f34).mono (F':=Dt c1) (fun b h _=>hc0 b h.1 (by omega))
  exact .cons k2 k3 .nil
 have hacc:=zbt (n0:=w.heap.size) (k,v) gone (show w.heap.size≤w3.heap.size+1+1+1 by omega)
 have HE:=zhd (fun w5 gv' c5=>@zcx c c1 c5 r rn (q+r+rn+1) w.heap.size w w4 w5 tp st lm km S D none (some (1,.node (.mem (w3.heap.size+1+1+1) 0 0) [(k,v)] [])) lr gv gv' ov (wLeaf (w3.heap.size+1+1+1)) ls ld gone (gone++[]) (k,v) _ _ _ hr0 hrr (by omega) (by omega) (by omega) HH.out HT.out HG.out HGO.out hag f04 hrep rfl hrep.2 hacc)
 have hrd:rootDirty (some (1,.node (.mem (w3.heap.size+1+1+1) 0 0) [(k,v)] []))=1:=by simp[rootDirty,dirtyN,sumN]
 have e0:=z2k hbe 0 rfl
 by_cases hfull:S.pages-S.state.length<1
 · refine(zaf ((HH.out.ag hag).fr0 f04) hrep (by rw[hrd];omega) hl (by rw[hrd];exact hfull)).mono ?_
   rintro e w5 ⟨rfl,f5⟩
   have hbe5:=f5.blk hbe (fun h=>h)
   have e5:=z2k hbe5 0 rfl
   have ze:=z2i 0 hbe5
   have FE:=zhd ((f04.trans0 f5).setCell (p:=⟨w.heap.size,0,none⟩) (.inl (Nat.le_refl _)) (.int .i64 21))
   have HACC:=zhd (And.intro hrep.2 (And.intro hacc hrd))
   have HFU:=zhd hfull
   clear hbe hbw hbe5 f5 f04 f14 f34 hb2 hb3 hrep hacc hce hcw hcn hc0 hag hcl e0 hrd hfull
   go_wp2_with fail
   refine leaves_cons (f:=86) (args:=#[.pointer (some ⟨w.heap.size,0,none⟩)]) (by simp) (by simp[go_sem]) ?_
   refine(za2 _ _).mono ?_
   rintro e u' wq ⟨rfl,rfl,rfl⟩
   simp[Leaves,settle,results,Tryz.results121,go_sem,e5]
   exact⟨some (1,.node (.mem (w3.heap.size+1+1+1) 0 0) [(k,v)] []),_,rfl,HACC.out.1,HACC.out.2.1,.inl ⟨rfl,by rw[HACC.out.2.2];exact HFU.out,FE.out⟩⟩
 · refine(zag (gone2:=[]) ((HH.out.ag hag).fr0 f04) hcl hrep (by rw[hrd];omega) hl (by rw[hrd];omega) (f04.blk HT.out (fun h=>h)) (z0m HG.out f04 (fun _ _ h=>h)) (fun b hb=>(hag b (HG.out.lt b hb).2).trans (HGO.out b hb)) hr0 hq2 ⟨_,hbw,World.ownsRow_nil _ _ _ _,hcw,fun b e=>by simp[Value.ownBlock] at e⟩ (by simp;omega)).mono ?_
   rintro e w5 ⟨rfl,f5,gv5,c5,ag5,cl5,ht5,og5,oc5⟩
   have hbe5:=f5.blk hbe (fun h=>by
    rcases h with h|h
    · have:=(Array.getElem?_eq_some_iff.1 HT.out).1;omega
    · have:=(HG.out.lt _ h).2;omega)
   have e5:=z2k hbe5 0 rfl
   have ze:=z2i 0 hbe5
   have FE:=zhd (fun u=>HE.out w5 gv5 c5 (by rw[hrd];omega) f5 ag5 cl5 ht5 og5 oc5 (Nat.le_refl _) (by omega) hce u)
   clear hbe hbw hbe5 f5 f04 f14 f34 hb2 hb3 hrep hacc hce hcw hcn hc0 hag hcl e0 ag5 cl5 ht5 og5 oc5 HE
   go_wp2_with fail
   refine leaves_cons (f:=86) (args:=#[.pointer (some ⟨w.heap.size,0,none⟩)]) (by simp) (by simp[go_sem]) ?_
   refine(za2 _ _).mono ?_
   rintro e u' wq ⟨rfl,rfl,rfl⟩
   simp[Leaves,settle,results,Tryz.results121,go_sem,e5]
   exact FE.out _
theorem zcz {c c6:Nat→Nat} {r rn q q3 eb wp:Nat} {w w6:World} {tp st lm km:Nat} {S:SSt} {D:DSt} {o o':Root} {nr lr gv ov rv:Value} {ns nd ls ld sz dp:Int} {gone gone2:List Nat} {x:KV} (hr0:r≠0) (hrr:rn≠r) (hq0:q3≠0) (hqr:q3≠r) (hqn:q3≠rn) (hqq:q≠r) (hh:Hd c r w tp st S D) (ht:w.heap[tp]?=some (.cells (TreeCells st nr ns nd lr ls ld lm gv ov km) 139 (0,0))) (hg:w.ownsRow 0 3 1 gv gone.length (gone.map natV)) (hgo:∀b,gv.ownBlock=some b→c b=r) (hag:Ag w.heap.size c c6) (hcl:Cl w6 c6) (f6:Fr C0 w w6) (hr:RootAt c6 rn w6 (pgs D) D.blocks False o' rv)
 (h1:rootL o'=putL x (rootL o)) (h3:RAcc w.heap.size o o' gone (gone++gone2)) (hb:rootDirty o'≤1000000) (hl:S.state.length≤S.pages) (hsz:sz=((rootL o').length:Int)) (hdp:dp=(rootD o':Int)) (he1:w.heap.size≤eb) (hbe:w6.heap[eb]?=some (.cells #[.int .i64 0] 33 (0,0))) (hce:c6 eb=q3) (hwk:WorkAt c6 q w6 wp tp gone2) (hlen:gone.length+gone2.length≤1000000) :
 Calls Tryz.prog 147 #[.pointer (some ⟨tp,0,none⟩),.agg #[rv,.int .i64 sz,.int .i64 dp],.pointer (some ⟨wp,0,none⟩)] w6 fun e w7=>∃i:Int,e=.returned (.int .i64 i)∧w7.cell? ⟨eb,0,none⟩=some (.int .i64 0)∧w7.frozen? ⟨eb,0,none⟩=false∧Hid (∀u,TPutRes c r rn w tp st lm km S D o lr ov ls ld gone x (.returned (.int .i64 i)) (w7.setCell ⟨eb,0,none⟩ u)):=by
 subst hsz hdp
 have hsh:RootSh o':=by cases o' with|none=>trivial|some p=>exact hr.2
 by_cases hfull:S.pages-S.state.length<rootDirty o'
 · refine(zaf ((hh.ag hag).fr0 f6) hr hb hl hfull).mono ?_
   rintro e w7 ⟨rfl,f7⟩
   have hbe7:=f7.blk hbe (fun h=>h)
   exact⟨21,rfl,z2k hbe7 0 rfl,z2i 0 hbe7,zhd fun u=>⟨o',gone++gone2,h1,hsh,h3,.inl ⟨rfl,hfull,(f6.trans0 f7).setCell (p:=⟨eb,0,none⟩) (.inl he1) u⟩⟩⟩
 · refine(zag ((hh.ag hag).fr0 f6) hcl hr hb hl (by omega) (f6.blk ht (fun h=>h)) (z0m hg f6 (fun _ _ h=>h)) (fun b hb=>(hag b (hg.lt b hb).2).trans (hgo b hb)) hr0 hqq hwk hlen).mono ?_
   rintro e w7 ⟨rfl,f7,gv7,c7,ag7,cl7,ht7,og7,oc7⟩
   have hbe7:=f7.blk hbe (fun h=>by
    rcases h with h|h
    · have:=(Array.getElem?_eq_some_iff.1 ht).1;omega
    · have:=(hg.lt _ h).2;omega)
   exact⟨0,rfl,z2k hbe7 0 rfl,z2i 0 hbe7,zhd fun u=>zcx hr0 hrr hq0 hqr hqn hh ht hg hgo hag f6 hr h1 hsh h3 (by omega) f7 ag7 cl7 ht7 og7 oc7 he1 (Array.getElem?_eq_some_iff.1 hbe).1 hce u⟩
end
end Go.Proofs.YtidalepbkljkpaaGreat
