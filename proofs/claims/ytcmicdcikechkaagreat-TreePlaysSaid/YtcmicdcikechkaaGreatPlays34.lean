import Derived.Test.YtcmicdcikechkaaGreatPlays29
import Derived.Test.YtcmicdcikechkaaGreatPlays19
set_option linter.all false
set_option autoImplicit true
set_option relaxedAutoImplicit true
namespace Go.Proofs.YtcmicdcikechkaaGreat
open Go.RowKit Go.H
set_option maxHeartbeats 2000000
set_option maxRecDepth 100000
section
theorem zev {m:Nat} {k:Nat} (h:w.heap[m]?=some (.map es k)):(callFunc 97 #[.iface 74 (.map (some m))]).run Tryz.prog w=.ok (.value (.iface 74 (.map (some w.heap.size)))) (w.alloc (.map es k)):=by
 have e:Extern.MapsClone.clone #[.iface 74 (.map (some m))]=(getObj m >>= fun o=>match o with
  |.map entries clock=>(newObj (.map entries clock) >>= fun n=>pure (.iface 74 (.map (some n))))
  |_=>stuck "maps.clone: a map expected"):=rfl
 rw[run_callFunc_extern (e:=Extern.MapsClone.clone) Tryz.func97 (by kernel_rfl) rfl (by kernel_rfl) (by kernel_rfl),e]
 simp[Go.H.run_getObj_map h,Result.andThen,go_sem]
@[go_sem] theorem zew (v : Value) (w : World) : (Instr.typeAssert (.iface 74 v) 20 74 false).run Tryz.prog w = .ok v w := by kernel_rfl
theorem zex {m:Nat} (h:MapIs w m L):
 Calls Tryz.prog 64 #[.map (some m)] w fun e w'=>e=.returned (.map (some w.heap.size))∧MapIs w' w.heap.size L∧Fr C0 w w':=by
 obtain⟨es,k,hb,he⟩:=h
 have hx:=zev hb
 have hq:∀w_,(binOp .eql 74 (.map (some m)) (.map none)).run Tryz.prog w_=.ok (.bool false) w_:=fun w_=>by kernel_rfl
 clear hb
 go_enter Tryz.func64,Tryz.ntmps64
 go_wp2
 go_ret
 exact⟨rfl,⟨es,k,heap_alloc_new _ _,he⟩,(Fr.refl C0 w).alloc _⟩
theorem zey {r rn rm:Nat} {tp st lm km:Nat} {k:Nat} (ho:Owners r rn rm) (h:TreeIn c r rn rm w tp st lm km nr lr gv ov Z k sn) (hk:k≤3):
 Calls Tryz.prog 29 #[.pointer (some ⟨tp,0,none⟩)] w fun e w'=>∃sp,e=.returned (.tuple #[.pointer (some ⟨sp,0,none⟩),.int .i64 0])∧Fr (fun b=>c b=r∨c b=rm) w w'∧∃pm ov' c',Ag w.heap.size c c'∧TreeIn c' r rn rm w' tp st lm km nr lr gv ov' (Z.snapped sp pm) (k+1) (sn++[.pointer (some ⟨sp,0,none⟩)])∧w'.heap[sp]?=some (.cells #[.pointer (some ⟨tp,0,none⟩),lr,.map (some pm),.bool false] 130 (0,0))∧c' sp=rm:=by
 have HD:=zhd (za5 h.hd)
 have t4:w.cell? ⟨tp,4,none⟩=some lr:=z2g h.blk 4 rfl
 have t7:w.cell? ⟨tp,7,none⟩=some (.map (some lm)):=z2g h.blk 7 rfl
 have t9:w.cell? ⟨tp,9,none⟩=some ov:=z2g h.blk 9 rfl
 have HM:=zhd (fun (w_:World) (hf:Fr C0 w w_)=>zex (h.live.fr hf (fun h=>h)))
 have HL:Hid (lr=.nilIface∨∃tx y,lr=.iface tx y):=zhd (by
  have:=h.last
  cases hz:Z.last with
  |none=>rw[hz] at this;exact .inl this
  |some p=>rw[hz] at this;exact .inr this.1.iface)
 obtain⟨A,cp,rfl,-⟩:=z0o h.orow
 have hkc:¬(4:Int)≤(k:Int):=by omega
 have HH:=zhd h
 have HO:=zhd ho
 have HK:=zhd hk
 have HWR:Hid (lr=wRoot Z.last):=zhd (h.last.isW h.bk.lp)
 clear h ho
 go_enter Tryz.func29,Tryz.ntmps29
 go_wp2_with fail
 refine HD.out.mono ?_
 rintro e w1 ⟨rfl,rfl⟩
 go_wp2_with fail
 rcases HL.out with rfl|⟨tx,y,rfl⟩
 · skip
   refine z1r (Fr C0 w) [] (by kernel_rfl) ?_
   have hSw0:(Fr C0 w) _:=(Fr.refl C0 w).drew.drew
   refine tk 0 hSw0 ?_
   refine tk 1 hSw0 ?_
   refine tk 2 hSw0 ?_
   refine tk 3 hSw0 ?_
   refine tk 4 hSw0 ?_
   refine tk 5 hSw0 ?_ (hy:=by intro w_ hS_;have b4:=hS_.cell0 t4;have b7:=hS_.cell0 t7;first|(go_simp;done)|(go_simp;with_reducible rfl))
   refine tk 6 hSw0 ?_
   refine tk 7 hSw0 ?_
   refine tk 8 hSw0 ?_
   refine tk 9 hSw0 ?_ (hy:=by intro w_ hS_;have b4:=hS_.cell0 t4;have b7:=hS_.cell0 t7;first|(go_simp;done)|(go_simp;with_reducible rfl))
   refine one_ 10 rfl (fun K hK=>?_)
   go_simp
   refine(HM.out _ (Fr.refl C0 w).drew.drew).mono ?_
   rintro e w2 ⟨rfl,m2,f2⟩
   simp only[]
   have F2:=zhd ((Fr.refl C0 w).drew.drew.trans0 f2)
   have M2:=zhd m2
   have hs2:=f2.size
   clear f2 m2
   refine hK.out _ _ ?kS1 (fun hSw1=>?kR1)
   case kS1=>exact F2.out
   clear hK K
   try simp only[Act.put,zs1,zs2,zs3]
   refine tk 11 hSw1 ?_
   refine one_ 12 rfl (fun K hK=>?_)
   go_simp
   refine hK.out _ _ ?kS2 (fun hSw2=>?kR2)
   case kS2=>exact F2.out.alloc _
   clear hK K
   try simp only[Act.put,zs1,zs2,zs3]
   refine tk 13 hSw2 ?_
   refine z1q (by kernel_rfl) ?_ _
   have hS:=heap_alloc_new w2 (.cells #[.pointer (some ⟨tp,0,none⟩),.nilIface,.map (some w.heap.size),.bool false] 130)
   have F3:=zhd (F2.out.alloc (.cells #[.pointer (some ⟨tp,0,none⟩),.nilIface,.map (some w.heap.size),.bool false] 130))
   have M3:=zhd (M2.out.fr ((Fr.refl C0 w2).alloc (.cells #[.pointer (some ⟨tp,0,none⟩),.nilIface,.map (some w.heap.size),.bool false] 130)) (fun h=>h))
   have hsw:(w2.alloc (.cells #[.pointer (some ⟨tp,0,none⟩),.nilIface,.map (some w.heap.size),.bool false] 130)).heap.size=w2.heap.size+1:=by simp
   have hM2l:w.heap.size<w2.heap.size:=M2.out.lt
   have HSW:=zhd hsw
   clear F2 M2 hsw
   generalize w2.alloc (.cells #[.pointer (some ⟨tp,0,none⟩),.nilIface,.map (some w.heap.size),.bool false] 130)=w3 at *
   have HSP:=zhd hS
   have hsp:∃sp,sp=w2.heap.size:=⟨_,rfl⟩
   have f3r:=F3.out.alloc (.cells #[.pointer (some ⟨w2.heap.size,0,none⟩)] 57)
   have HOW:=zhd (z0m HH.out.orow f3r (fun _ _ h=>h))
   have hB4:=(Fr.refl C0 w3).alloc (.cells #[.pointer (some ⟨w2.heap.size,0,none⟩)] 57)
   have k9:=f3r.cell0 t9
   have hbt:=f3r.blk HH.out.blk (fun h=>h)
   have hne:∀b,(Value.slice A k cp).ownBlock=some b→b≠tp:=fun b e h2=>by
    obtain⟨cur,h3⟩:=z4v HH.out.orow e
    rw[h2,HH.out.blk] at h3
    simp[TreeCells] at h3
   have hntp:¬(Value.slice A k cp).ownBlock=some tp:=fun e=>hne tp e rfl
   have HNE:=zhd hne
   have HBT:=zhd hbt
   have F3R:=zhd f3r
   have HB4:=zhd hB4
   have t9':=F3.out.cell0 t9
   have hs3:=F3.out.size
   clear hS f3r hB4 hbt hne hsp
   go_wp2_with (at_builtin;go_must (refine z0l z2q rfl _ _ rfl (v:=.slice A k cp) (xv:=.slice (some ⟨w3.heap.size,0,none⟩) 1 1) rfl rfl (B:=0) HOW.out (Row.ofBlock (F:=fun _=>True) (heap_alloc_new _ _) trivial (by unfold maxLen;omega) rfl) (by simp[Value.oneCell']) (by unfold maxLen;omega) (by omega) (Nat.zero_le _) ?_);intro v5 w5 o5 f5 k5 nil5;have k9':=f5.cell k9 hntp;have z9:=z2e 9 (f5.blk HBT.out hntp);obtain⟨A5,c5,rfl,-⟩:=z0o o5)
   go_ret2
   have hsw2:=HSW.out
   have hbt5:=f5.blk HBT.out hntp
   have F5:Fr (fun b=>(Value.slice A k cp).ownBlock=some b) w w5:=(F3R.out.mono (fun _ _ h=>h.elim)).trans f5 (fun _ _ h=>h)
   have gs:=(Fr.refl (fun b=>b=tp) w5).setCell (p:=⟨tp,9,none⟩) (.inr rfl) (.slice A5 (k+1) c5)
   have htl:=(Array.getElem?_eq_some_iff.1 HH.out.blk).1
   have hsz4:(w3.alloc (.cells #[.pointer (some ⟨w2.heap.size,0,none⟩)] 57)).heap.size=w3.heap.size+1:=by simp
   have hs5:=f5.size
   obtain⟨c',hcs,hcm,hco,hag,hcl⟩:∃c':Nat→Nat,c' w2.heap.size=rm∧c' w.heap.size=0∧(∀b,(Value.slice A5 (k+1) c5).ownBlock=some b→c' b=rm)∧Ag w.heap.size c c'∧Cl (w5.setCell ⟨tp,9,none⟩ (.slice A5 (k+1) c5)) c':=by
    refine⟨setc (fun b=>if b=w2.heap.size then rm else c b) (Value.slice A5 (k+1) c5).ownBlock rm,?_,?_,fun b hb=>by simp[setc,hb],fun b hb=>?_,fun b hb=>?_⟩
    · unfold setc;split
      · rfl
      · simp
    · unfold setc;split
      · rename_i e
        rcases k5 _ e with h|h
        · have:=(HH.out.orow.lt _ h).2;omega
        · omega
      · simp only[];rw[if_neg (by omega)];exact HH.out.cl _ (Nat.le_refl _)
    · unfold setc;split
      · rename_i e
        rcases k5 b e with h|h
        · exact(HH.out.oo b h).symm
        · omega
      · simp only[];rw[if_neg (by omega)]
    · have:=gs.size
      unfold setc;split
      · rename_i e;have:=(o5.lt b e).2;omega
      · simp only[];rw[if_neg (by omega)];exact HH.out.cl b (by omega)
   have hrm:∀b,(Value.slice A k cp).ownBlock=some b→c' b=rm∧b<w.heap.size:=fun b e=>⟨(hag b (HH.out.orow.lt b e).2).trans (HH.out.oo b e),(HH.out.orow.lt b e).2⟩
   have hct:c' tp=r:=(hag tp htl).trans HH.out.hd.own
   have hb6:=z2f (i:=9) hbt5 (.slice A5 (k+1) c5)
   have hap:Apart c' r w5 [tp]:=fun b hb=>by
    simp at hb;subst hb
    exact⟨hct,_,_,_,hbt5,by decide,by decide,by decide⟩
   have hnl:∀x L,MapIs w x L→¬(Value.slice A k cp).ownBlock=some x:=fun x L hx e=>by
    obtain⟨cur,h4⟩:=z4v HH.out.orow e
    obtain⟨es,kk,h5,_⟩:=hx
    rw[h5] at h4;injection h4 with h4;cases h4
   have hntp2:∀b,c b=rm→¬b=tp:=fun b e h=>HO.out.mr (e.symm.trans (by rw[h];exact HH.out.hd.own))
   have hS5:w5.heap[w2.heap.size]?=some (.cells #[.pointer (some ⟨tp,0,none⟩),.nilIface,.map (some w.heap.size),.bool false] 130 (0,0)):=f5.blk (HB4.out.blk HSP.out (fun h=>h)) (fun e=>by have:=(hrm _ e).2;have:=hM2l;omega)
   refine⟨w2.heap.size,rfl,(F5.mono (fun b _ e=>.inr (HH.out.oo b e))).trans gs (fun b _ e=>by rw[e];exact .inl HH.out.hd.own),w.heap.size,.slice A5 (k+1) c5,c',hag,⟨⟨z2g hb6 0 rfl,((HH.out.hd.store.ag hag).fr F5 (fun b e h=>HO.out.mr (by rw[←(hrm b e).1];exact h)) (fun b e h=>HO.out.m0 (by rw[←(hrm b e).1];exact h))).apart HO.out.r0 hap (gs.mono fun b _ e=>by rw[e];simp),HH.out.hd.alive,hct⟩,hcl,hb6,z0m (z0m HH.out.gr F5 (fun b e h=>HO.out.mr ((HH.out.oo b h).symm.trans (HH.out.go b e)))) gs (fun b e h=>by
    obtain⟨cur,h3⟩:=z4v HH.out.gr e
    rw[h,HH.out.blk] at h3
    simp[TreeCells] at h3),fun b e=>(hag b (HH.out.gr.lt b e).2).trans (HH.out.go b e),z0m (by simpa using o5) gs (fun b e h=>HO.out.mr (by rw[←hco b e,h];exact hct)),hco,(HH.out.live.fr F5 (hnl lm _ HH.out.live)).fr gs (hntp2 lm HH.out.lmo),(hag _ HH.out.live.lt).trans HH.out.lmo,(HH.out.kept.fr F5 (hnl km _ HH.out.kept)).fr gs (hntp2 km HH.out.kmo),(hag _ HH.out.kept.lt).trans HH.out.kmo,HH.out.lk,((HH.out.now.ag hag).fr F5 (fun b e h=>HO.out.nm (by rw[←(hrm b e).1];exact h.symm)) (fun b e h=>HO.out.m0 (by rw[←(hrm b e).1];exact h))).fr gs (fun b e h=>HO.out.nr (by rw[←h,e];exact hct)) (fun b e h=>HO.out.r0 (by rw[←h,e];exact hct.symm)),RootAt.pageW HH.out.bk.lp HH.out.last,⟨?_,All2.append (HH.out.sns.2.1.imp fun v s a=>?_) (.cons ⟨rfl,?_,hcs,?_,hcm⟩ .nil),fun s hs=>?_⟩,HH.out.bk.snapped fun s hs e=>?_⟩,gs.blk hS5 (fun e=>by omega),hcs⟩
   · show(Z.snaps++[_]).length=_
     rw[List.length_append,HH.out.sns.1];rfl
   · have hsm:=a.map.lt
     have b:=a.fr F5 hag (fun e=>by
      obtain⟨cur,h3⟩:=z4v HH.out.orow e
      rw[a.blk] at h3
      simp at h3) (hnl _ _ a.map)
     exact b.fr gs (Ag.refl _ _) (fun e=>HO.out.mr (b.own.symm.trans (by rw[e];exact hct))) (fun e=>HO.out.r0 (hct.symm.trans (by rw[←e];exact b.mo)))
   · have h9:=gs.blk hS5 (fun e=>by omega)
     rw[HWR.out] at h9
     exact h9
   · have hm3:MapIs w3 w.heap.size (vmap (ones Z.live)):=M3.out
     exact((hm3.fr HB4.out (fun h=>h)).fr f5 (fun e=>by have:=(hrm _ e).2;omega)).fr gs (fun e=>by omega)
   · rcases List.mem_append.1 hs with hs|hs
     · exact RootAt.pageW (HH.out.bk.kp.ok s hs).page (HH.out.sns.2.2 s hs)
     · rw[List.mem_singleton] at hs
       subst hs
       have h9:RootAt c rn w (pgs Z.D) Z.D.blocks False Z.last (wRoot Z.last):=by
        rw[←HWR.out];exact HH.out.last
       exact RootAt.pageW HH.out.bk.lp h9
   · obtain⟨v,hv⟩:=All2.memL HH.out.sns.2.1 hs
     have:=(Array.getElem?_eq_some_iff.1 hv.blk).1
     omega
 · skip
   refine z1r (Fr C0 w) [] (by kernel_rfl) ?_
   have hSw0:(Fr C0 w) _:=(Fr.refl C0 w).drew.drew
   refine tk 0 hSw0 ?_
   refine tk 1 hSw0 ?_
   refine tk 2 hSw0 ?_
   refine tk 3 hSw0 ?_
   refine tk 4 hSw0 ?_
   refine tk 5 hSw0 ?_ (hy:=by intro w_ hS_;have b4:=hS_.cell0 t4;have b7:=hS_.cell0 t7;first|(go_simp;done)|(go_simp;with_reducible rfl))
   refine tk 6 hSw0 ?_
   refine tk 7 hSw0 ?_
   refine tk 8 hSw0 ?_
   refine tk 9 hSw0 ?_ (hy:=by intro w_ hS_;have b4:=hS_.cell0 t4;have b7:=hS_.cell0 t7;first|(go_simp;done)|(go_simp;with_reducible rfl))
   refine one_ 10 rfl (fun K hK=>?_)
   go_simp
   refine(HM.out _ (Fr.refl C0 w).drew.drew).mono ?_
   rintro e w2 ⟨rfl,m2,f2⟩
   simp only[]
   have F2:=zhd ((Fr.refl C0 w).drew.drew.trans0 f2)
   have M2:=zhd m2
   have hs2:=f2.size
   clear f2 m2
   refine hK.out _ _ ?kS3 (fun hSw1=>?kR3)
   case kS3=>exact F2.out
   clear hK K
   try simp only[Act.put,zs1,zs2,zs3]
   refine tk 11 hSw1 ?_
   refine one_ 12 rfl (fun K hK=>?_)
   go_simp
   refine hK.out _ _ ?kS4 (fun hSw2=>?kR4)
   case kS4=>exact F2.out.alloc _
   clear hK K
   try simp only[Act.put,zs1,zs2,zs3]
   refine tk 13 hSw2 ?_
   refine z1q (by kernel_rfl) ?_ _
   have hS:=heap_alloc_new w2 (.cells #[.pointer (some ⟨tp,0,none⟩),.iface tx y,.map (some w.heap.size),.bool false] 130)
   have F3:=zhd (F2.out.alloc (.cells #[.pointer (some ⟨tp,0,none⟩),.iface tx y,.map (some w.heap.size),.bool false] 130))
   have M3:=zhd (M2.out.fr ((Fr.refl C0 w2).alloc (.cells #[.pointer (some ⟨tp,0,none⟩),.iface tx y,.map (some w.heap.size),.bool false] 130)) (fun h=>h))
   have hsw:(w2.alloc (.cells #[.pointer (some ⟨tp,0,none⟩),.iface tx y,.map (some w.heap.size),.bool false] 130)).heap.size=w2.heap.size+1:=by simp
   have hM2l:w.heap.size<w2.heap.size:=M2.out.lt
   have HSW:=zhd hsw
   clear F2 M2 hsw
   generalize w2.alloc (.cells #[.pointer (some ⟨tp,0,none⟩),.iface tx y,.map (some w.heap.size),.bool false] 130)=w3 at *
   have HSP:=zhd hS
   have hsp:∃sp,sp=w2.heap.size:=⟨_,rfl⟩
   have f3r:=F3.out.alloc (.cells #[.pointer (some ⟨w2.heap.size,0,none⟩)] 57)
   have HOW:=zhd (z0m HH.out.orow f3r (fun _ _ h=>h))
   have hB4:=(Fr.refl C0 w3).alloc (.cells #[.pointer (some ⟨w2.heap.size,0,none⟩)] 57)
   have k9:=f3r.cell0 t9
   have hbt:=f3r.blk HH.out.blk (fun h=>h)
   have hne:∀b,(Value.slice A k cp).ownBlock=some b→b≠tp:=fun b e h2=>by
    obtain⟨cur,h3⟩:=z4v HH.out.orow e
    rw[h2,HH.out.blk] at h3
    simp[TreeCells] at h3
   have hntp:¬(Value.slice A k cp).ownBlock=some tp:=fun e=>hne tp e rfl
   have HNE:=zhd hne
   have HBT:=zhd hbt
   have F3R:=zhd f3r
   have HB4:=zhd hB4
   have t9':=F3.out.cell0 t9
   have hs3:=F3.out.size
   clear hS f3r hB4 hbt hne hsp
   go_wp2_with (at_builtin;go_must (refine z0l z2q rfl _ _ rfl (v:=.slice A k cp) (xv:=.slice (some ⟨w3.heap.size,0,none⟩) 1 1) rfl rfl (B:=0) HOW.out (Row.ofBlock (F:=fun _=>True) (heap_alloc_new _ _) trivial (by unfold maxLen;omega) rfl) (by simp[Value.oneCell']) (by unfold maxLen;omega) (by omega) (Nat.zero_le _) ?_);intro v5 w5 o5 f5 k5 nil5;have k9':=f5.cell k9 hntp;have z9:=z2e 9 (f5.blk HBT.out hntp);obtain⟨A5,c5,rfl,-⟩:=z0o o5)
   go_ret2
   have hsw2:=HSW.out
   have hbt5:=f5.blk HBT.out hntp
   have F5:Fr (fun b=>(Value.slice A k cp).ownBlock=some b) w w5:=(F3R.out.mono (fun _ _ h=>h.elim)).trans f5 (fun _ _ h=>h)
   have gs:=(Fr.refl (fun b=>b=tp) w5).setCell (p:=⟨tp,9,none⟩) (.inr rfl) (.slice A5 (k+1) c5)
   have htl:=(Array.getElem?_eq_some_iff.1 HH.out.blk).1
   have hsz4:(w3.alloc (.cells #[.pointer (some ⟨w2.heap.size,0,none⟩)] 57)).heap.size=w3.heap.size+1:=by simp
   have hs5:=f5.size
   obtain⟨c',hcs,hcm,hco,hag,hcl⟩:∃c':Nat→Nat,c' w2.heap.size=rm∧c' w.heap.size=0∧(∀b,(Value.slice A5 (k+1) c5).ownBlock=some b→c' b=rm)∧Ag w.heap.size c c'∧Cl (w5.setCell ⟨tp,9,none⟩ (.slice A5 (k+1) c5)) c':=by
    refine⟨setc (fun b=>if b=w2.heap.size then rm else c b) (Value.slice A5 (k+1) c5).ownBlock rm,?_,?_,fun b hb=>by simp[setc,hb],fun b hb=>?_,fun b hb=>?_⟩
    · unfold setc;split
      · rfl
      · simp
    · unfold setc;split
      · rename_i e
        rcases k5 _ e with h|h
        · have:=(HH.out.orow.lt _ h).2;omega
        · omega
      · simp only[];rw[if_neg (by omega)];exact HH.out.cl _ (Nat.le_refl _)
    · unfold setc;split
      · rename_i e
        rcases k5 b e with h|h
        · exact(HH.out.oo b h).symm
        · omega
      · simp only[];rw[if_neg (by omega)]
    · have:=gs.size
      unfold setc;split
      · rename_i e;have:=(o5.lt b e).2;omega
      · simp only[];rw[if_neg (by omega)];exact HH.out.cl b (by omega)
   have hrm:∀b,(Value.slice A k cp).ownBlock=some b→c' b=rm∧b<w.heap.size:=fun b e=>⟨(hag b (HH.out.orow.lt b e).2).trans (HH.out.oo b e),(HH.out.orow.lt b e).2⟩
   have hct:c' tp=r:=(hag tp htl).trans HH.out.hd.own
   have hb6:=z2f (i:=9) hbt5 (.slice A5 (k+1) c5)
   have hap:Apart c' r w5 [tp]:=fun b hb=>by
    simp at hb;subst hb
    exact⟨hct,_,_,_,hbt5,by decide,by decide,by decide⟩
   have hnl:∀x L,MapIs w x L→¬(Value.slice A k cp).ownBlock=some x:=fun x L hx e=>by
    obtain⟨cur,h4⟩:=z4v HH.out.orow e
    obtain⟨es,kk,h5,_⟩:=hx
    rw[h5] at h4;injection h4 with h4;cases h4
   have hntp2:∀b,c b=rm→¬b=tp:=fun b e h=>HO.out.mr (e.symm.trans (by rw[h];exact HH.out.hd.own))
   have hS5:w5.heap[w2.heap.size]?=some (.cells #[.pointer (some ⟨tp,0,none⟩),.iface tx y,.map (some w.heap.size),.bool false] 130 (0,0)):=f5.blk (HB4.out.blk HSP.out (fun h=>h)) (fun e=>by have:=(hrm _ e).2;have:=hM2l;omega)
   refine⟨w2.heap.size,rfl,(F5.mono (fun b _ e=>.inr (HH.out.oo b e))).trans gs (fun b _ e=>by rw[e];exact .inl HH.out.hd.own),w.heap.size,.slice A5 (k+1) c5,c',hag,⟨⟨z2g hb6 0 rfl,((HH.out.hd.store.ag hag).fr F5 (fun b e h=>HO.out.mr (by rw[←(hrm b e).1];exact h)) (fun b e h=>HO.out.m0 (by rw[←(hrm b e).1];exact h))).apart HO.out.r0 hap (gs.mono fun b _ e=>by rw[e];simp),HH.out.hd.alive,hct⟩,hcl,hb6,z0m (z0m HH.out.gr F5 (fun b e h=>HO.out.mr ((HH.out.oo b h).symm.trans (HH.out.go b e)))) gs (fun b e h=>by
    obtain⟨cur,h3⟩:=z4v HH.out.gr e
    rw[h,HH.out.blk] at h3
    simp[TreeCells] at h3),fun b e=>(hag b (HH.out.gr.lt b e).2).trans (HH.out.go b e),z0m (by simpa using o5) gs (fun b e h=>HO.out.mr (by rw[←hco b e,h];exact hct)),hco,(HH.out.live.fr F5 (hnl lm _ HH.out.live)).fr gs (hntp2 lm HH.out.lmo),(hag _ HH.out.live.lt).trans HH.out.lmo,(HH.out.kept.fr F5 (hnl km _ HH.out.kept)).fr gs (hntp2 km HH.out.kmo),(hag _ HH.out.kept.lt).trans HH.out.kmo,HH.out.lk,((HH.out.now.ag hag).fr F5 (fun b e h=>HO.out.nm (by rw[←(hrm b e).1];exact h.symm)) (fun b e h=>HO.out.m0 (by rw[←(hrm b e).1];exact h))).fr gs (fun b e h=>HO.out.nr (by rw[←h,e];exact hct)) (fun b e h=>HO.out.r0 (by rw[←h,e];exact hct.symm)),RootAt.pageW HH.out.bk.lp HH.out.last,⟨?_,All2.append (HH.out.sns.2.1.imp fun v s a=>?_) (.cons ⟨rfl,?_,hcs,?_,hcm⟩ .nil),fun s hs=>?_⟩,HH.out.bk.snapped fun s hs e=>?_⟩,gs.blk hS5 (fun e=>by omega),hcs⟩
   · show(Z.snaps++[_]).length=_
     rw[List.length_append,HH.out.sns.1];rfl
   · have hsm:=a.map.lt
     have b:=a.fr F5 hag (fun e=>by
      obtain⟨cur,h3⟩:=z4v HH.out.orow e
      rw[a.blk] at h3
      simp at h3) (hnl _ _ a.map)
     exact b.fr gs (Ag.refl _ _) (fun e=>HO.out.mr (b.own.symm.trans (by rw[e];exact hct))) (fun e=>HO.out.r0 (hct.symm.trans (by rw[←e];exact b.mo)))
   · have h9:=gs.blk hS5 (fun e=>by omega)
     rw[HWR.out] at h9
     exact h9
   · have hm3:MapIs w3 w.heap.size (vmap (ones Z.live)):=M3.out
     exact((hm3.fr HB4.out (fun h=>h)).fr f5 (fun e=>by have:=(hrm _ e).2;omega)).fr gs (fun e=>by omega)
   · rcases List.mem_append.1 hs with hs|hs
     · exact RootAt.pageW (HH.out.bk.kp.ok s hs).page (HH.out.sns.2.2 s hs)
     · rw[List.mem_singleton] at hs
       subst hs
       have h9:RootAt c rn w (pgs Z.D) Z.D.blocks False Z.last (wRoot Z.last):=by
        rw[←HWR.out];exact HH.out.last
       exact RootAt.pageW HH.out.bk.lp h9
   · obtain⟨v,hv⟩:=All2.memL HH.out.sns.2.1 hs
     have:=(Array.getElem?_eq_some_iff.1 hv.blk).1
     omega
end
end Go.Proofs.YtcmicdcikechkaaGreat
