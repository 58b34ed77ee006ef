import Derived.Test.YtcmicdcikechkaaGreatPlays49
import Derived.Test.YtcmicdcikechkaaGreatPlays30
import Derived.Test.YtcmicdcikechkaaGreatPlays36
set_option linter.all false
set_option autoImplicit true
set_option relaxedAutoImplicit true
namespace Go.Proofs.YtcmicdcikechkaaGreat
open Go.RowKit Go.H
set_option maxHeartbeats 2000000
set_option maxRecDepth 100000
section
structure Cls (Z:TSt) (sn':List SnapS) (P back kept:List Nat):Prop where
 bk:∀x,x∈back↔x∈Z.back∨(x∈P∧x∈Z.kept∧¬Wants sn' x)
 kp:∀x,x∈kept↔x∈Z.kept∧¬(x∈P∧¬Wants sn' x)
 kn:kept.Nodup
theorem Cls.start (h:Books Z):Cls Z sn' [] Z.back Z.kept:=⟨fun x=>by simp,fun x=>by simp,h.kp.kn⟩
theorem Cls.skip {id:Nat} (h:Cls Z sn' P back kept) (hk:id∉kept) (hp:id∉P):Cls Z sn' (P++[id]) back kept:=by
 have h0:id∉Z.kept:=fun e=>hk ((h.kp id).2 ⟨e,fun a=>hp a.1⟩)
 refine⟨fun x=>?_,fun x=>?_,h.kn⟩
 · rw[h.bk x,List.mem_append,List.mem_singleton]
   grind
 · rw[h.kp x,List.mem_append,List.mem_singleton]
   grind
theorem Cls.wants {id:Nat} (h:Cls Z sn' P back kept) (hk:id∈kept) (hw:Wants sn' id):Cls Z sn' (P++[id]) back (addK id kept):=by
 rw[show addK id kept=kept by unfold addK;rw[if_pos hk]]
 refine⟨fun x=>?_,fun x=>?_,h.kn⟩
 · rw[h.bk x,List.mem_append,List.mem_singleton]
   grind
 · rw[h.kp x,List.mem_append,List.mem_singleton]
   grind
theorem Cls.free {id:Nat} (h:Cls Z sn' P back kept) (hk:id∈kept) (hw:¬Wants sn' id):Cls Z sn' (P++[id]) (id::back) (kept.filter fun j=>decide (j≠id)):=by
 have h0:=((h.kp id).1 hk).1
 refine⟨fun x=>?_,fun x=>?_,h.kn.filter _⟩
 · rw[List.mem_cons,h.bk x,List.mem_append,List.mem_singleton]
   grind
 · rw[List.mem_filter,h.kp x,List.mem_append,List.mem_singleton,decide_eq_true_eq]
   grind
def TSt.closed (Z:TSt) (s:SnapS) (back kept:List Nat):TSt:={ Z with S:={ Z.S with state:=marks Z.held back },back:=back,kept:=kept,snaps:=Z.snaps.filter fun x=>decide (x.sp≠s.sp) }
theorem zjn (h:Books Z) (hm:s∈Z.snaps) (hp:∀x∈s.pages,x∈P) (hc:Cls Z (Z.snaps.filter fun x=>decide (x.sp≠s.sp)) P back kept):Books (Z.closed s back kept):=by
 have hhl:=h.hl
 have hlk:=h.kp.lk
 have hkb:=h.kp.kb
 have hw2:∀s'∈Z.snaps,s'.sp=s.sp→s'=s:=fun s' hs' e=>zg0 h.kp.sd hs' hm e
 refine⟨rfl,h.hn,h.ln,fun x=>?_,h.hb,h.b1,h.b2,h.bc,h.lp,?_,h.opn,h.ok,h.sn,h.sl,h.num,h.bn,h.bl,h.head,⟨fun x hx=>?_,fun x hx=>?_,hc.kn,fun s' hs'=>?_,fun x hx=>?_,?_⟩⟩
 · show x∈Z.held↔x∈Z.live∨x∈kept∨x∈back
   have q1:=hc.bk x
   have q2:=hc.kp x
   rw[hhl x,q1,q2]
   grind
 · show rootDirty Z.now≤Z.S.pages-(marks Z.held back).length
   have h1:=h.room
   rw[h.st,z96] at h1
   rw[z96]
   exact h1
 · have q1:=hc.bk x
   have q2:=hc.kp x
   have q3:=hlk x hx
   show x∉kept∧x∉back
   grind
 · have q1:=hc.bk x
   have q2:=(hc.kp x).1 hx
   have q3:=hkb x q2.1
   show x∉back
   grind
 · have hs2:=List.mem_filter.1 hs'
   obtain⟨s1,s2,s3,s4,s5,s6⟩:=h.kp.ok s' hs2.1
   refine⟨s1,fun x hx=>?_,s3,s4,s5,s6⟩
   have q0:=s2 x hx
   have q2:=hc.kp x
   have q3:Wants (Z.snaps.filter fun x=>decide (x.sp≠s.sp)) x:=⟨s',hs',hx⟩
   show x∈Z.live∨x∈kept
   grind
 · have q2:=(hc.kp x).1 hx
   obtain⟨s2,h1,h2⟩:=h.kp.kw x q2.1
   by_cases e:s2.sp=s.sp
   · have:=hw2 s2 h1 e
     subst this
     have:=hp x h2
     have h3:Wants (Z.snaps.filter fun x=>decide (x.sp≠s2.sp)) x:=Classical.not_not.1 fun e=>q2.2 ⟨this,e⟩
     exact h3
   · exact⟨s2,List.mem_filter.2 ⟨h1,by simp[e]⟩,h2⟩
 · exact List.Nodup.sublist (List.Sublist.map _ List.filter_sublist) h.kp.sd
theorem SnapM.ptrs {rm:Nat} {tp:Nat}:∀{sn:List Value} {l:List SnapS},All2 (SnapM c rm w tp) sn l→sn=(l.map SnapS.sp).map snapV
 |_,_,.nil=>rfl
 | _, _, .cons h k => by
   rw[List.map_cons,List.map_cons,←SnapM.ptrs k,h.v]
   rfl
theorem zjo {α β:Type} {R:β→α→Prop} {f:α→β}:∀{l:List α},(∀a∈l,R (f a) a)→All2 R (l.map f) l
 |[],_=>.nil
 |a::l,h=>.cons (h a (by simp)) (zjo fun b hb=>h b (List.mem_cons_of_mem _ hb))
theorem RelIn.step {r rm:Nat} {tp st lm km:Nat} (h:RelIn c r rm w tp st lm km ov ns S D held back live kept snaps sn) (hf:Fr C0 w w') (ha:Ag w.heap.size c c') (hc:Cl w' c'):RelIn c' r rm w' tp st lm km ov ns S D held back live kept snaps sn:=
 ⟨(h.hd.ag ha).fr0 hf,hc,(h.ap.ag ha).fr hf (fun _ _ e=>e),h.tpn,hf.cell0 h.t7,hf.cell0 h.t9,hf.cell0 h.t10,h.mp.fr hf (fun e=>e),(ha _ h.mp.lt).trans h.ml,h.kp.fr hf (fun e=>e),(ha _ h.kp.lt).trans h.mo,h.lk,h.st,h.nd,z0m h.orow hf (fun _ _ e=>e),fun b e=>(ha b (h.orow.lt b e).2).trans (h.oo b e),h.sns.imp fun v s a=>a.fr hf ha (fun e=>e) (fun e=>e)⟩
theorem RelIn.iter {r rm it:Nat} {tp st lm km:Nat} {a1 a3:Nat} (hmr:rm≠r) (hm0:rm≠0) (h:RelIn c r rm w tp st lm km ov ns S D held back live kept snaps sn) (hf:Fr (fun b=>b=it) w w') (hit:c it=rm) (hI:w.heap[it]?=some (.mapIter q a1 a2 a3)):RelIn c r rm w' tp st lm km ov ns S D held back live kept snaps sn:=by
 have hr:∀b,b=it→c b≠r:=fun b e k=>hmr (by rw[←hit,←e];exact k)
 have h0:∀b,b=it→c b≠0:=fun b e k=>hm0 (by rw[←hit,←e];exact k)
 have hcl:∀{b:Nat} {cs:Array Value} {t:Nat} {f:Nat×Nat},w.heap[b]?=some (.cells cs t f)→¬b=it:=fun hb e=>by
  rw[e,hI] at hb;cases hb
 have hmp:∀{b:Nat} {L:List (Int×Value)},MapIs w b L→¬b=it:=fun hb e=>by
  obtain⟨es,k,h2,_⟩:=hb
  rw[e,hI] at h2;cases h2
 exact⟨h.hd.fr hf hr h0,h.cl.mono hf.size,h.ap.fr hf (fun b hb e=>hr b e (h.ap b hb).1),h.tpn,hf.cell h.t7 (fun e=>hr _ e h.hd.own),hf.cell h.t9 (fun e=>hr _ e h.hd.own),hf.cell h.t10 (fun e=>hr _ e h.hd.own),h.mp.fr hf (hmp h.mp),h.ml,h.kp.fr hf (hmp h.kp),h.mo,h.lk,h.st,h.nd,z0m h.orow hf (fun b e=>by
  obtain⟨cur,h3⟩:=z4v h.orow e
  exact hcl h3),h.oo,h.sns.imp fun v s a=>a.fr hf (Ag.refl _ _) (hcl a.blk) (hmp a.map)⟩
def CloseR (c:Nat→Nat) (r rn rm:Nat) (w:World) (tp st lm km:Nat) (nr lr gv:Value) (Z:TSt) (s:SnapS) (w':World):Prop:=Fr (fun b=>c b=r∨c b=rm) w w'∧∃c' ov' back kept sn',Ag w.heap.size c c'∧TreeIn c' r rn rm w' tp st lm km nr lr gv ov' (Z.closed s back kept) (Z.snaps.filter fun x=>decide (x.sp≠s.sp)).length sn'∧w'.heap[s.sp]?=some (.cells #[.pointer (some ⟨tp,0,none⟩),wRoot s.root,.map (some s.pm),.bool true] 130 (0,0))
theorem zjp {r rn rm:Nat} {tp st lm km:Nat} {k:Nat} (ho:Owners r rn rm) (h:TreeIn c r rn rm w tp st lm km nr lr gv ov Z k sn) (hm:s∈Z.snaps):
 Calls Tryz.prog 31 #[.pointer (some ⟨s.sp,0,none⟩)] w fun e w'=>e=.returned (.tuple #[])∧Hid (CloseR c r rn rm w tp st lm km nr lr gv Z s w'):=by
 have hmf:∀(fn:Fn) (first cap:Array Value) (w:World),(Instr.makeFunc fn first cap).run Tryz.prog w=.ok (.func fn first cap) w:=fun _ _ _ _=>rfl
 obtain⟨v,hsm⟩:=All2.memL h.sns.2.1 hm
 have hne:¬s.sp=tp:=fun e=>ho.mr (hsm.own.symm.trans (by rw[e];exact h.hd.own))
 have hsl:=(Array.getElem?_eq_some_iff.1 hsm.blk).1
 have htl:=(Array.getElem?_eq_some_iff.1 h.blk).1
 have f1:=(Fr.refl C0 w).alloc (.cells #[.pointer (some ⟨s.sp,0,none⟩)] 57)
 have b1:=heap_alloc_new w (.cells #[.pointer (some ⟨s.sp,0,none⟩)] 57)
 have s1:=f1.blk hsm.blk (fun h=>h)
 have HH:=zhd h
 have HO:=zhd ho
 have HSM:=zhd hsm
 have HM:=zhd hm
 have F1:=zhd f1
 have B1:=zhd b1
 have S1:=zhd s1
 have hs1:(w.alloc (.cells #[.pointer (some ⟨s.sp,0,none⟩)] 57)).heap.size=w.heap.size+1:=by simp
 clear h ho hsm hm f1 b1 s1
 go_enter Tryz.func31,Tryz.ntmps31
 go_upto_region 1 with fail
 generalize w.alloc (.cells #[.pointer (some ⟨s.sp,0,none⟩)] 57)=w1 at *
 have s1_3:=z2g S1.out 3 rfl
 have z1_3:=z2e 3 S1.out
 have c1_0:=z2g B1.out 0 rfl
 go_upto_region 3 with fail
 have f12:=(Fr.refl (fun b=>b=s.sp) w1).setCell (p:=⟨s.sp,3,none⟩) (.inr rfl) (.bool true)
 have s2:(w1.setCell ⟨s.sp,3,none⟩ (.bool true)).heap[s.sp]?=some (.cells #[.pointer (some ⟨tp,0,none⟩),wRoot s.root,.map (some s.pm),.bool true] 130 (0,0)):=z2f (i:=3) S1.out (.bool true)
 have b2:=f12.blk B1.out (fun e=>by omega)
 have t2:=f12.blk (F1.out.blk HH.out.blk (fun h=>h)) (fun e=>hne e.symm)
 have hs2:=f12.size
 have S2:=zhd s2
 have B2:=zhd b2
 have T2:=zhd t2
 have F12:=zhd f12
 clear s2 b2 t2 f12 s1_3 z1_3 c1_0
 generalize w1.setCell ⟨s.sp,3,none⟩ (.bool true)=w2 at *
 have d2_0:=z2g B2.out 0 rfl
 have s2_0:=z2g S2.out 0 rfl
 have t2_9:=z2g T2.out 9 rfl
 have hlap:∀x∈Z.snaps.map SnapS.sp,∃s'∈Z.snaps,s'.sp=x∧∃u,SnapM c rm w tp u s':=fun x hx=>by
  obtain⟨s',h1,h2⟩:=List.mem_map.1 hx
  obtain⟨u,h3⟩:=All2.memL HH.out.sns.2.1 h1
  exact⟨s',h1,h2,u,h3⟩
 have HLAP:=zhd hlap
 have hown:∀(x:Nat) (cs:Array Value) (T:Nat) (f:Nat×Nat),w.heap[x]?=some (.cells cs T f)→T≠57→ov.ownBlock≠some x:=fun _ _ _ _ hx hT e=>by
  obtain⟨cur,h3⟩:=z4v HH.out.orow e
  rw[hx] at h3
  injection h3 with h3;injection h3 with _ h3 _
  exact hT h3
 have hovl:∀b,ov.ownBlock=some b→b<w.heap.size:=fun b e=>(HH.out.orow.lt b e).2
 have HOWN:=zhd hown
 have hsp2:ov.ownBlock≠some s.sp:=hown _ _ _ _ HSM.out.blk (by decide)
 have how2:=z0m (z0m HH.out.orow F1.out (fun _ _ h=>h)) F12.out (fun b e h2=>hsp2 (by rw[e,h2]))
 rw[SnapM.ptrs HH.out.sns.2.1,←HH.out.sns.1,show Z.snaps.length=(Z.snaps.map SnapS.sp).length by simp] at how2
 have HDF:=zhd (zjm (B:=w.heap.size) (sp:=s.sp) how2 (fun x hx=>by
  obtain⟨s',h1,h2,u,h3⟩:=HLAP.out x hx
  by_cases e:x=s.sp
  · rw[e];exact⟨_,_,S2.out⟩
  · exact⟨_,_,F12.out.blk (F1.out.blk (by rw[←h2];exact h3.blk) (fun h=>h)) e⟩) (List.mem_map_of_mem HM.out) d2_0 (fun e=>by have:=hovl _ e;omega) (fun x hx=>by
  obtain⟨s',h1,h2,u,h3⟩:=HLAP.out x hx
  rw[←h2]
  exact hown _ _ _ _ h3.blk (by decide)))
 clear hlap hown how2
 have HS2:=zhd hsp2
 have HOVL:=zhd hovl
 clear hsp2 hovl
 go_wp2_with fail
 refine HDF.out.mono ?_
 rintro e w3 ⟨ov',rfl,hob,ow3,f23⟩
 obtain⟨A3,cp3,rfl,-⟩:=z0o ow3
 obtain⟨NL,hNL⟩:∃NL,NL=((Z.snaps.map SnapS.sp).filter fun x=>decide (x≠s.sp)).length:=⟨_,rfl⟩
 rw[←hNL] at ow3 hob⊢
 have HNL:=zhd hNL
 clear hNL
 have OW3:=zhd ow3
 have F23:=zhd f23
 have HOB:=zhd hob
 have ntp:ov.ownBlock≠some tp:=HOWN.out _ _ _ _ HH.out.blk (by decide)
 have T3:=zhd (f23.blk T2.out ntp)
 have B3:=zhd (f23.blk B2.out (fun e=>by have:=HOVL.out _ e;omega))
 have S3:=zhd (f23.blk S2.out HS2.out)
 have hs3:=f23.size
 have NTP:=zhd ntp
 clear HDF ow3 f23 hob ntp d2_0 s2_0 t2_9
 have z3_9:=z2e 9 T3.out
 have t3_9:=z2g T3.out 9 rfl
 go_upto_region 5 with fail
 generalize Value.slice A3 NL cp3=ov' at *
 have gs:=(Fr.refl (fun b=>b=tp) w3).setCell (p:=⟨tp,9,none⟩) (.inr rfl) ov'
 have T4:=zhd (z2f (i:=9) T3.out ov')
 have B4:=zhd (gs.blk B3.out (fun e=>by omega))
 have S4:=zhd (gs.blk S3.out hne)
 have hs4:=gs.size
 have F34:=zhd gs
 clear gs z3_9 t3_9
 generalize w3.setCell ⟨tp,9,none⟩ ov'=w4 at *
 have d4_0:=z2g B4.out 0 rfl
 have s4_2:=z2g S4.out 2 rfl
 have F13:Hid (Fr (fun b=>b=s.sp∨ov.ownBlock=some b) w w3):=zhd (((F1.out.mono (C2:=fun b=>b=s.sp∨ov.ownBlock=some b) (fun _ _ h=>h.elim)).trans F12.out (fun b _ e=>.inl e)).trans F23.out (fun b _ e=>.inr e))
 have hrel:RelIn c r rm w4 tp st lm km ov' (tp::ownL gv) { Z.S with state:=marks Z.held Z.back } Z.D Z.held Z.back Z.live Z.kept (Z.snaps.filter fun x=>decide (x.sp≠s.sp)) (((Z.snaps.filter fun x=>decide (x.sp≠s.sp)).map SnapS.sp).map snapV):=by
  have hct:=HH.out.hd.own
  have hrmo:∀b,ov.ownBlock=some b→c b=rm:=HH.out.oo
  have hC:∀b,(b=s.sp∨ov.ownBlock=some b)→c b=rm:=fun b e=>e.elim (fun e=>by rw[e];exact HSM.out.own) (hrmo b)
  have f13r:∀b,c b=r→¬(b=s.sp∨ov.ownBlock=some b):=fun b e h=>HO.out.mr ((hC b h).symm.trans e)
  have f130:∀b,c b=0→¬(b=s.sp∨ov.ownBlock=some b):=fun b e h=>HO.out.m0 ((hC b h).symm.trans e)
  have gr3:=z0m HH.out.gr F13.out (fun b e=>f13r b (HH.out.go b e))
  have hgt:∀b,gv.ownBlock=some b→¬b=tp:=fun b e h2=>by
   obtain⟨cur,h3⟩:=z4v HH.out.gr e
   rw[h2,HH.out.blk] at h3
   simp[TreeCells] at h3
  have gr4:=z0m gr3 F34.out hgt
  have hap:Apart c r w3 [tp]:=fun b hb=>by
   simp at hb;subst hb
   exact⟨hct,_,_,_,T3.out,by decide,by decide,by decide⟩
  have hst3:=HH.out.hd.store.fr F13.out (fun b e h=>f13r b h e) (fun b e h=>f130 b h e)
  have hmap:∀{m:Nat} {L:List (Int×Value)},MapIs w m L→¬(m=s.sp∨ov.ownBlock=some m):=fun {m L} hm e=>by
   rcases e with e|e
   · exact zct HSM.out.blk hm e.symm
   · obtain⟨cur,h3⟩:=z4v HH.out.orow e
     exact zct h3 hm rfl
  have hmt:∀b,c b=rm→¬b=tp:=fun b e h=>HO.out.mr (e.symm.trans (by rw[h];exact hct))
  have hz:({ Z.S with state:=marks Z.held Z.back }:SSt)=Z.S:=by
   have:=HH.out.bk.st
   cases hS:Z.S
   rw[hS] at this
   simp only[] at this⊢
   rw[this]
  rw[hz]
  have hsz4:w.heap.size≤w4.heap.size:=by omega
  refine⟨⟨z2g T4.out 0 rfl,hst3.apart HO.out.r0 hap (F34.out.mono fun b _ e=>by rw[e];simp),HH.out.hd.alive,hct⟩,HH.out.cl.mono hsz4,zcy hct T4.out gr4 HH.out.go,List.mem_cons_self,z2g T4.out 7 rfl,z2g T4.out 9 rfl,z2g T4.out 10 rfl,(HH.out.live.fr F13.out (hmap HH.out.live)).fr F34.out (hmt _ HH.out.lmo),HH.out.lmo,(HH.out.kept.fr F13.out (hmap HH.out.kept)).fr F34.out (hmt _ HH.out.kmo),HH.out.kmo,HH.out.lk,HH.out.bk.st,HH.out.bk.hn,?_,fun b e=>hrmo b (by rw[←HOB.out];exact e),?_⟩
  · have h1:=z0m OW3.out F34.out (fun b e=>hmt b (hrmo b (by rw[←HOB.out];exact e)))
    rw[HNL.out,List.filter_map,List.length_map] at h1
    exact h1
  · rw[List.map_map]
    refine zjo fun s' hs'=>?_
    have h1:=List.mem_filter.1 hs'
    have h2:s'.sp≠s.sp:=by simpa using h1.2
    obtain⟨u,h3⟩:=All2.memL HH.out.sns.2.1 h1.1
    have h4:=h3.fr F13.out (Ag.refl _ _) (fun e=>by
     rcases e with e|e
     · exact h2 e
     · exact HOWN.out _ _ _ _ h3.blk (by decide) e) (f130 _ h3.mo)
    have h5:=h4.fr F34.out (Ag.refl _ _) (hmt _ h3.own) (fun e=>HO.out.r0 (hct.symm.trans (by rw[←e];exact h3.mo)))
    exact⟨rfl,h5.blk,h5.own,h5.map,h5.mo⟩
 have HREL0:=zhd hrel
 clear hrel
 have hsz4:w.heap.size<w4.heap.size:=by omega
 obtain⟨c',hag,hcit,hclw⟩:∃c':Nat→Nat,Ag w4.heap.size c c'∧c' w4.heap.size=rm∧∀w':World,w4.heap.size+1≤w'.heap.size→Cl w' c':=by
  refine⟨fun b=>if b=w4.heap.size then rm else c b,fun b hb=>?_,by simp,fun w' hw b hb=>?_⟩
  · simp only[];rw[if_neg (by omega)]
  · simp only[];rw[if_neg (by omega)];exact HH.out.cl b (by omega)
 have hpm:s.pm<w.heap.size:=HSM.out.map.lt
 have htl4:tp<w4.heap.size:=by omega
 have hll4:lm<w.heap.size:=HH.out.live.lt
 have hkl4:km<w.heap.size:=HH.out.kept.lt
 have hpm0':c s.pm=0:=HSM.out.mo
 have hpm0:c' s.pm=0:=(hag _ (by omega)).trans hpm0'
 have hct:c' tp=r:=(hag _ htl4).trans HH.out.hd.own
 have hclm:c' lm=rm:=(hag _ (by omega)).trans HH.out.lmo
 have hckm:c' km=rm:=(hag _ (by omega)).trans HH.out.kmo
 have hcsp:c' s.sp=rm:=(hag _ (by omega)).trans HSM.out.own
 have hgo:∀b,gv.ownBlock=some b→c' b=r:=fun b e=>(hag b (by have:=(HH.out.gr.lt b e).2;omega)).trans (HH.out.go b e)
 have HAG:=zhd hag
 have HCLW:=zhd hclw
 have HGO:=zhd hgo
 clear hag hclw hgo
 have hC4:∀b,c' b=0→¬((c' b=r∧b∉tp::ownL gv)∨b=lm∨b=km):=fun b hb e=>by
  rcases e with e|e|e
  · exact HO.out.r0 (e.1.symm.trans hb)
  · exact HO.out.m0 (by rw[←hclm,←e];exact hb)
  · exact HO.out.m0 (by rw[←hckm,←e];exact hb)
 have hmp:MapIs w4 s.pm (vmap (ones s.pages)):=by
  have hC:∀b,(b=s.sp∨ov.ownBlock=some b)→c b=rm:=fun b e=>e.elim (fun e=>by rw[e];exact HSM.out.own) (HH.out.oo b)
  exact(HSM.out.map.fr F13.out (fun e=>HO.out.m0 ((hC _ e).symm.trans hpm0'))).fr F34.out (fun e=>HO.out.r0 (by rw[←HH.out.hd.own,←(show s.pm=tp from e)];exact hpm0'))
 obtain⟨es,clock,hb,he⟩:=hmp
 have hrg:=run_range_map (P:=Tryz.prog) w4 74 3 3 s.pm es clock Tryz.underlying74 hb
 have HE:=zhd he
 have HB:=zhd hb
 have hlt:s.pm<w4.heap.size:=(Array.getElem?_eq_some_iff.1 hb).1
 have HC4:=zhd hC4
 have F14:Hid (Fr (fun b=>c b=r∨c b=rm) w w4):=zhd ((F13.out.mono (C2:=fun b=>c b=r∨c b=rm) (fun b _ e=>.inr (e.elim (fun e=>by rw[e];exact HSM.out.own) (HH.out.oo b)))).trans F34.out (fun b _ e=>.inl (by rw[e];exact HH.out.hd.own)))
 clear he hb hC4
 have hg0:=HREL0.out.hd.cell
 go_wp2
 go_loopw [3] (fun _ wr=>∃(seen:Array Nat) (P:List Nat) (c0:Nat) (back kept:List Nat),Hid (wr.heap[w4.heap.size]?=some (.mapIter (some s.pm) clock seen c0))∧Hid (clock≤c0)∧Hid (Fr (fun b=>(c' b=r∧b∉tp::ownL gv)∨b=lm∨b=km) w4 wr)∧Hid (w4.heap.size<wr.heap.size)∧Hid (∀x∈es.toList,(seen.contains x.born=true↔∃k∈P,x.key=natV k))∧Hid (∀k∈P,k∈s.pages)∧Hid (RelIn c' r rm wr tp st lm km ov' (tp::ownL gv) { Z.S with state:=marks Z.held back } Z.D Z.held back Z.live kept (Z.snaps.filter fun x=>decide (x.sp≠s.sp)) (((Z.snaps.filter fun x=>decide (x.sp≠s.sp)).map SnapS.sp).map snapV))∧Hid (Cls Z (Z.snaps.filter fun x=>decide (x.sp≠s.sp)) P back kept)) (fun _ wr=>leftAt wr s.pm w4.heap.size)
 case atStart=>
  exact⟨#[],[],clock,Z.back,Z.kept,zhd (heap_alloc_new _ _),zhd (Nat.le_refl _),zhd ((Fr.refl _ _).alloc _),zhd (by simp),zhd (by simp),zhd (by simp),zhd (HREL0.out.step ((Fr.refl C0 w4).alloc _) HAG.out (HCLW.out _ (by simp))),zhd (Cls.start HH.out.bk)⟩
 case round=>
  obtain⟨seen,P,c0,back,kept,HI,HC0,HF,HL,HS,HP,HR,HCL⟩:=hrel
  have hlt1:¬s.pm=w4.heap.size:=by omega
  have HB1:=zhd (HF.out.blk HB.out (HC4.out _ hpm0))
  rcases run_next_at (P:=Tryz.prog) wr 0 w4.heap.size s.pm clock c0 seen es clock HI.out HB1.out HE.out.clock HC0.out with⟨h0,hrun⟩|⟨e,hel,w5,hal,hrun⟩
  · have H0:=zhd h0
    clear h0
    go_wp2
    go_end0
    have hall:∀x∈es.toList,seen.contains x.born=true:=by
     intro x hx
     cases hc:seen.contains x.born with
     |true=>rfl
     | false =>
       have h1:x∈leftOf es seen:=by unfold leftOf;rw[Array.mem_filter];exact⟨by simpa using hx,by simpa using hc⟩
       have:=Array.size_pos_of_mem h1
       have:=H0.out
       omega
    have hPall:∀x∈s.pages,x∈P:=fun x hx=>by
     obtain⟨y,hy,hk,-⟩:=z59 HE.out (zfy.1 hx)
     obtain⟨k,hk2,hk3⟩:=(HS.out y hy).1 (hall y hy)
     rw[hk] at hk3
     injection hk3 with _ hk3
     have:x=k:=by omega
     rw[this];exact hk2
    have hbk:=zjn HH.out.bk HM.out hPall HCL.out
    have hC2:∀b,b<w.heap.size→((c' b=r∧b∉tp::ownL gv)∨b=lm∨b=km)→c b=r∨c b=rm:=fun b hb e=>by
     rcases e with e|e|e
     · exact .inl ((HAG.out b (by omega)).symm.trans e.1)
     · exact .inr (by rw[e];exact HH.out.lmo)
     · exact .inr (by rw[e];exact HH.out.kmo)
    have F:=F14.out.trans HF.out (fun b hb e=>hC2 b hb e)
    have htp:¬((c' tp=r∧tp∉tp::ownL gv)∨tp=lm∨tp=km):=fun e=>by
     rcases e with e|e|e
     · exact e.2 List.mem_cons_self
     · exact HO.out.mr (by rw[←hclm,←e];exact hct)
     · exact HO.out.mr (by rw[←hckm,←e];exact hct)
    have gr4:=z0m (z0m (z0m HH.out.gr F13.out (fun b e h=>HO.out.mr (((h.elim (fun h=>by rw[h];exact HSM.out.own) (HH.out.oo b)).symm:rm=c b).trans (HH.out.go b e)))) F34.out (fun b e h2=>by
     obtain⟨cur,h3⟩:=z4v HH.out.gr e
     rw[h2,HH.out.blk] at h3
     simp[TreeCells] at h3)) HF.out (fun b e h=>by
     rcases h with h|h|h
     · exact h.2 (List.mem_cons_of_mem _ (zcx.2 e))
     · exact HO.out.mr (by rw[←hclm,←h];exact HGO.out b e)
     · exact HO.out.mr (by rw[←hckm,←h];exact HGO.out b e))
    have hT:=HF.out.blk T4.out htp
    have hS:=HF.out.blk S4.out (fun e=>by
     rcases e with e|e|e
     · exact HO.out.mr (hcsp.symm.trans e.1)
     · exact zct S4.out HREL0.out.mp e
     · exact zct S4.out HREL0.out.kp e)
    refine⟨rfl,zhd ⟨F,c',ov',back,kept,_,fun b hb=>HAG.out b (by omega),⟨HR.out.hd,HR.out.cl,hT,gr4,HGO.out,HR.out.orow,HR.out.oo,HR.out.mp,hclm,HR.out.kp,hckm,HH.out.lk,(HH.out.now.ag (fun b hb=>HAG.out b (by omega))).fr F (fun b h e=>?_) (fun b h e=>?_),RootAt.pageW HH.out.bk.lp HH.out.last,⟨rfl,HR.out.sns,fun s' hs'=>RootAt.pageW (hbk.kp.ok s' hs').page (HH.out.sns.2.2 s' (List.mem_filter.1 hs').1)⟩,hbk⟩,hS⟩⟩
    · by_cases hb:b<w.heap.size
      · have h9:=HAG.out b (by omega)
        rcases h with h|h
        · exact HO.out.nr (e.symm.trans (h9.trans h))
        · exact HO.out.nm (e.symm.trans (h9.trans h))
      · have h9:=HH.out.cl b (by omega)
        rcases h with h|h
        · exact HO.out.r0 (h.symm.trans h9)
        · exact HO.out.m0 (h.symm.trans h9)
    · by_cases hb:b<w.heap.size
      · have h9:=HAG.out b (by omega)
        rcases h with h|h
        · exact HO.out.r0 (h.symm.trans (h9.symm.trans e))
        · exact HO.out.m0 (h.symm.trans (h9.symm.trans e))
      · have h9:=HH.out.cl b (by omega)
        rcases h with h|h
        · exact HO.out.r0 (h.symm.trans h9)
        · exact HO.out.m0 (h.symm.trans h9)
  · obtain⟨he1,hns⟩:e∈es.toList∧seen.contains e.born=false:=by
     unfold leftOf at hel
     simpa using hel
    obtain⟨p,hp,hk,hv⟩:=z5a HE.out he1
    obtain⟨k,rfl,hkL⟩:∃k:Nat,p=((k:Int),(1:Int))∧k∈s.pages:=by
     unfold ones marks at hp
     obtain⟨k,hk1,rfl⟩:=List.mem_map.1 hp
     exact⟨k,by simp,hk1⟩
    have F5:Fr (fun b=>b=w4.heap.size) wr (ChangeMaps.setBlock w5 w4.heap.size (.mapIter (some s.pm) clock (seen.push e.born) clock)):=by
     rcases hal with rfl|rfl
     · exact Fr.putObj (C:=fun b=>b=w4.heap.size) (r:=w4.heap.size) (Fr.refl _ _) (.inr rfl) _
     · exact Fr.putObj (C:=fun b=>b=w4.heap.size) (r:=w4.heap.size) (Fr.refl _ wr).drew (.inr rfl) _
    have hs5:w4.heap.size<w5.heap.size:=by rcases hal with rfl|rfl<;>exact HL.out
    have hI5:(ChangeMaps.setBlock w5 w4.heap.size (.mapIter (some s.pm) clock (seen.push e.born) clock)).heap[w4.heap.size]?=some (.mapIter (some s.pm) clock (seen.push e.born) clock):=z02 hs5
    generalize ChangeMaps.setBlock w5 w4.heap.size (.mapIter (some s.pm) clock (seen.push e.born) clock)=w6 at *
    have hB6:=F5.blk HB1.out hlt1
    have hent:=run_entry_at (P:=Tryz.prog) w6 w4.heap.size s.pm clock seen es clock e hI5 hB6 he1 HE.out.born
    rw[hk,hv] at hrun hent
    have hrel6:=HR.out.iter HO.out.mr HO.out.m0 F5 hcit HI.out
    have HR6:=zhd hrel6
    have HI6:=zhd hI5
    have HB6:=zhd hB6
    have F6:=zhd F5
    have t10:=hrel6.t10
    have hl:=z4u hrel6.kp (k:Int)
    rw[z8y] at hl
    have hkP:k∉P:=fun hk2=>by
     have:=(HS.out e he1).2 ⟨k,hk2,hk⟩
     rw[hns] at this;cases this
    have HKP:=zhd hkP
    have HKL:=zhd hkL
    have hs6:w4.heap.size<w6.heap.size:=Nat.lt_of_lt_of_le HL.out F5.size
    have hS6:∀x∈es.toList,((seen.push e.born).contains x.born=true↔∃j∈P++[k],x.key=natV j):=fun x hx=>by
     have hx0:(seen.push e.born).contains x.born=true↔(seen.contains x.born=true∨x=e):=by
      constructor
      · intro hc
        simp at hc
        rcases hc with hc|hc
        · exact .inl (by simpa using hc)
        · exact .inr (z5c HE.out.born hx he1 hc)
      · rintro(hc|rfl)
        · simp at hc⊢;exact .inl hc
        · simp
     rw[hx0,HS.out x hx]
     constructor
     · rintro(⟨k2,h2,h3⟩|rfl)
       · exact⟨k2,by simp[h2],h3⟩
       · exact⟨k,by simp,hk⟩
     · rintro⟨k2,h2,h3⟩
       rcases List.mem_append.1 h2 with h2|h2
       · exact .inl ⟨k2,h2,h3⟩
       · simp at h2
         subst h2
         exact .inr (zg1 HE.out hx he1 (h3.trans hk.symm))
    have HS6:=zhd hS6
    have HP6:Hid (∀j∈P++[k],j∈s.pages):=zhd (fun j hj=>by
     rcases List.mem_append.1 hj with h|h
     · exact HP.out j h
     · simp at h;rw[h];exact HKL.out)
    have HMEA:Hid (leftAt w6 s.pm w4.heap.size<leftAt wr s.pm w4.heap.size):=zhd (by
     rw[zfz HB6.out HI6.out,zfz HB1.out HI.out]
     exact z5b (List.Sublist.refl _) he1 hns)
    clear hS6 hkP hkL hI5 hB6 F5 hrel6 hal hs5
    have FW6:Hid (Fr (fun b=>(c' b=r∧b∉tp::ownL gv)∨b=lm∨b=km) w4 w6):=zhd ⟨F6.out.os.trans HF.out.os,F6.out.output.trans HF.out.output,Nat.le_trans HF.out.size F6.out.size,fun j hj hn=>by
     rw[F6.out.block j (Nat.lt_of_lt_of_le hj HF.out.size) (by omega)];exact HF.out.block j hj hn⟩
    have hit4:¬((c' w4.heap.size=r∧w4.heap.size∉tp::ownL gv)∨w4.heap.size=lm∨w4.heap.size=km):=fun e=>by
     rcases e with e|e|e
     · exact HO.out.mr (hcit.symm.trans e.1)
     · omega
     · omega
    have HIT4:=zhd hit4
    clear hit4
    by_cases hkk:k∈kept
    · rw[if_pos hkk,if_neg List.not_mem_nil,Option.getD_some] at hl
      have HKK:=zhd hkk
      clear hkk
      have HR4:=zhd (zcw (id:=k) HO.out.r0 HO.out.m0 HO.out.mr HR6.out ((HH.out.bk.hl k).2 (.inr (.inl ((HCL.out.kp k).1 HKK.out).1))) (fun e=>by
       rcases(HCL.out.bk k).1 e with e|e
       · exact HH.out.bk.kp.kb k ((HCL.out.kp k).1 HKK.out).1 e
       · exact HKP.out e.1))
      go_wp2_with fail
      refine HR4.out.mono ?_
      rintro e7 w7 ⟨rfl,R7⟩
      have HI7:=zhd (R7.out.1.blk HI6.out HIT4.out)
      have HB7:=zhd (R7.out.1.blk HB6.out (HC4.out _ hpm0))
      have hs7:=R7.out.1.size
      have hs76:w4.heap.size<w7.heap.size:=by omega
      have F47:=zhd (FW6.out.trans R7.out.1 (fun _ _ e=>e))
      clear HR4 hl hent hrun t10
      go_wp2
      go_roundw
      case rel=>
       rcases R7.out.2 with⟨hw,h1⟩|⟨hw,h1⟩
       · exact⟨seen.push e.born,P++[k],clock,back,addK k kept,HI7,zhd (Nat.le_refl _),F47,zhd hs76,HS6,HP6,zhd h1,zhd (HCL.out.wants HKK.out hw)⟩
       · have h2:({ Z.S with state:=marks Z.held back }:SSt).set k 2={ Z.S with state:=marks Z.held (k::back) }:=by
          show SSt.mk _ _ _ _ _ _=_
          simp only[z93 HH.out.bk.hn ((HH.out.bk.hl k).2 (.inr (.inl ((HCL.out.kp k).1 HKK.out).1)))]
         rw[h2] at h1
         exact⟨seen.push e.born,P++[k],clock,k::back,_,HI7,zhd (Nat.le_refl _),F47,zhd hs76,HS6,HP6,zhd h1,zhd (HCL.out.free HKK.out hw)⟩
      case measure=>
       have h1:=HMEA.out
       rw[zfz HB6.out HI6.out] at h1
       rw[zfz HB7.out HI7.out]
       exact h1
    · rw[if_neg hkk,Option.getD_none] at hl
      have HKK:=zhd hkk
      clear hkk
      go_wp2
      go_roundw
      case rel=>exact⟨seen.push e.born,P++[k],clock,back,kept,HI6,zhd (Nat.le_refl _),FW6,zhd hs6,HS6,HP6,HR6,zhd (HCL.out.skip HKK.out HKP.out)⟩
      case measure=>exact HMEA.out
end
end Go.Proofs.YtcmicdcikechkaaGreat
