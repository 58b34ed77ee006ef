import Derived.Test.YtidalepbkljkpaaGreatLocalSpaces30
import Derived.Test.YtidalepbkljkpaaGreatLocalSpaces12
import Derived.Test.YtidalepbkljkpaaGreatLocalSpaces14
import Derived.Test.YtidalepbkljkpaaGreatLocalSpaces11
import Derived.Test.YtidalepbkljkpaaGreatLocalSpaces29
import Derived.Deep.CutRange
import Derived.Deep.CutBlock
import Derived.Deep.DeepCutAuto
set_option linter.all false
namespace Go.Proofs.YtidalepbkljkpaaGreat
open Go.RowKit Go.H
set_option maxHeartbeats 2000000
set_option maxRecDepth 100000
section
def TQ (Z:TSt) (D':DSt):Prop:=LayQ Z.D Z.held D'∨∃S1 D1 o' new c1 rn w1 rv,Laid2 Z.S Z.D Z.held new S1 D1∧DOk D1∧RootAt c1 rn w1 (pgs D1) Z.D.blocks False o' rv∧rootPage o'∧rootL o'=rootL Z.now∧(∀id,rcnt (.pg id) o'=rcnt (.pg id) Z.now+new.count id)∧rootId o'≠1∧rootId o'<Z.D.blocks∧ComQ D1 (Z.S.num+1) (rootId o') D'
def TComR (c:Nat→Nat) (r rn rm:Nat) (w:World) (tp st lm km:Nat) (ov:Value) (Z:TSt) (ks:Nat) (sn:List Value) (err:Int) (w':World):Prop:=Fr (fun b=>c b=r∨c b=rn∨c b=rm) w w'∧((err=0∧∃c' o' new S1 D1 R rv back kept,Ag w.heap.size c c'∧TreeIn c' r rn rm w' tp st lm km rv rv (.slice none 0 0) ov (Z.commit o' new S1 D1 R back kept) ks sn∧rootL o'=rootL Z.now∧rootD o'=rootD Z.now∧S1.pages=Z.S.pages∧S1.num=Z.S.num∧S1.dk=Z.S.dk∧(Z.D.after<1→(dcommit D1 (S1.num+1) R).after<1))∨(err=20∧Fell c r w w' Z.S.dk Z.D (TQ Z)))
theorem ze5 {c:Nat→Nat} {r rn rm:Nat} {w:World} {tp st lm km:Nat} {nr lr gv ov:Value} {Z:TSt} {ks:Nat} {sn:List Value} (ho:Owners r rn rm) (h:TreeIn c r rn rm w tp st lm km nr lr gv ov Z ks sn) (hnum:Z.S.num<1000000) :
 Calls Tryz.prog 123 #[.pointer (some ⟨tp,0,none⟩)] w fun e w'=>∃err:Int,e=.returned (.int .i64 err)∧Hid (TComR c r rn rm w tp st lm km ov Z ks sn err w'):=by
 have HDEAD:=zhd (za7 h.hd)
 have HLAY:=zhd (fun (w_:World) (hf:Fr C0 w w_)=>zdz ho (h.fr hf (fun _ e=>e.elim) (fun _ e=>e.elim) (fun _ e=>e.elim) (fun _ e=>e.elim)))
 have t1:w.cell? ⟨tp,1,none⟩=some nr:=z2k h.blk 1 rfl
 have hone:nr=.nilIface∨∃tx y,nr=.iface tx y:=by
  have:=h.now
  cases hz:Z.now with
  |none=>rw[hz] at this;exact .inl this
  |some p=>rw[hz] at this;exact .inr this.1.iface
 have HH:=zhd h
 obtain⟨oA,oc,rfl,-⟩:=z0o h.orow
 obtain⟨GA,gcp,rfl,-⟩:=z0o h.gr
 have hgl:=h.bk.glen
 have hsm:=h.hd.alive.small
 have HO:=zhd ho
 clear h ho
 rcases hone with rfl|⟨tx,y,rfl⟩
 · go_enter Tryz.func123,Tryz.ntmps123
   go_wp2_with fail
   refine HDEAD.out.mono ?_
   rintro e w0 ⟨rfl,rfl⟩
   go_wp2_with fail
   refine(HLAY.out _ (Fr.refl C0 w).drew).mono ?_
   rintro e w1 (⟨rfl,c1,o',new,S1,D1,R,rv,RL0⟩|hno)
   case inr=>
    obtain⟨rfl,f9,hfell⟩:=hno
    have HE:Hid (TComR c r rn rm w tp st lm km (.slice oA ks oc) Z ks sn 20 w1):=zhd ⟨(Fr.refl _ w).drew.trans (f9.mono fun b _ e=>by
     rcases e with e|e|e
     · exact .inl e.1
     · exact .inr (.inl e)
     · exact .inr (.inr (by rw[e];exact HH.out.lmo))) (fun _ _ h=>h),.inr ⟨rfl,hfell.later (Ag.refl _ _) (Nat.le_refl _) (fun h=>h) rfl (fun _ h=>.inl h)⟩⟩
    clear f9 hfell HDEAD HLAY
    go_wp2
    go_ret
    exact⟨20,rfl,HE⟩
   have RL:=zhd RL0
   have HHD:=zhd (HH.out.fr (Fr.refl C0 w).drew (fun _ e=>e.elim) (fun _ e=>e.elim) (fun _ e=>e.elim) (fun _ e=>e.elim))
   clear RL0 HDEAD HLAY
   have hb1:w1.heap[tp]?=some (.cells (TreeCells st .nilIface ((rootL Z.now).length:Int) (rootD Z.now:Int) lr ((rootL Z.last).length:Int) (rootD Z.last:Int) lm (.slice GA Z.gone.length gcp) (.slice oA ks oc) km) 139 (0,0)):=by
    obtain⟨d,t,lf⟩:=RL.out.lfr
    rw[lf.blk tp (Array.getElem?_eq_some_iff.1 HH.out.blk).1 (fun _=>List.mem_cons_self) (fun e=>HO.out.nr (e.symm.trans HH.out.hd.own)) (fun e=>HO.out.mr (by rw[←HH.out.hd.own,e];exact HH.out.lmo.symm))]
    exact HH.out.blk
   have HB1:=zhd hb1
   have k1:w1.cell? ⟨tp,1,none⟩=some .nilIface:=z2k hb1 1 rfl
   have z1:=z2i 1 hb1
   have k8:w1.cell? ⟨tp,8,none⟩=some (.slice GA Z.gone.length gcp):=z2k hb1 8 rfl
   clear hb1
   obtain⟨-,hR,rfl,ho'⟩:Value.nilIface=.nilIface∧R=0∧rv=.nilIface∧o'=none:=by
    rcases RL.out.way with h|⟨⟨_,_,h⟩,_⟩
    · exact h
    · cases h
   have HRR:=zhd (show(0:Int)=(R:Int) by rw[hR];rfl)
   clear hR ho'
   go_wp2
   have HB2:Hid (w1.heap[tp]?=some (.cells (TreeCells st (.nilIface) ((rootL Z.now).length:Int) (rootD Z.now:Int) lr ((rootL Z.last).length:Int) (rootD Z.last:Int) lm (.slice GA Z.gone.length gcp) (.slice oA ks oc) km) 139 (0,0))):=HB1
   have F2:Hid (Fr (fun b=>b=tp) w1 w1):=zhd (Fr.refl _ _)
   obtain⟨w2,rfl⟩:∃x,x=w1:=⟨_,rfl⟩
   clear k1 z1 k8
   have hgone:=HH.out.bk.gn
   have hst0:=ze1 HO.out HHD.out RL.out HB2.out F2.out
   have HREL0:=zhd hst0.1
   have HG2:=zhd hst0.2.1
   have HFW2:=zhd hst0.2.2
   have HGN:=zhd hgone
   clear hst0 hgone
   go_loopw [6,43] (fun _ i wr=>∃k:Nat,k≤Z.gone.length∧i=.int .i64 (k:Int)∧Hid (∃back kept,RelIn c1 r rm wr tp st lm km (.slice oA ks oc) (tp::ownL (.slice GA Z.gone.length gcp)) { S1 with state:=marks (Z.held++new) back } D1 (Z.held++new) back ((Z.live++new).filter fun j=>decide (j∉Z.gone.take k)) kept Z.snaps sn∧Gone Z (Z.gone.take k) back kept∧Fr (fun b=>(c1 b=r∧b∉tp::ownL (.slice GA Z.gone.length gcp))∨b=lm∨b=km) w2 wr)) (fun _ i _=>Z.gone.length-(intOf i).toNat)
   case atStart=>
    refine⟨0,Nat.zero_le _,rfl,zhd ⟨Z.back,Z.kept,?_,Gone.start HH.out.bk,Fr.refl _ _⟩⟩
    have h1:=HREL0.out
    have h2:({ S1 with state:=marks (Z.held++new) Z.back }:SSt)=S1:=by
     have:=h1.st
     cases S1;simp only[] at this⊢;rw[this]
    have h3:(Z.live++new).filter (fun j=>decide (j∉Z.gone.take 0))=Z.live++new:=List.filter_eq_self.2 (by simp)
    rw[h2,h3]
    exact h1
   case round=>
    obtain⟨k,hk,rfl,HL⟩:=hrel
    obtain⟨back,kept,hrel,hbk,hf⟩:=HL.out
    have HREL:=zhd hrel
    have HBK:=zhd hbk
    have HF:=zhd hf
    clear HL hrel hbk hf
    by_cases hlt:k<Z.gone.length
    · have hgv:wr.ownsRow 0 3 1 (.slice GA Z.gone.length gcp) Z.gone.length (Z.gone.map natV):=z0m HG2.out HF.out (fun b e h2=>by
       rcases h2 with h2|h2|h2
       · exact h2.2 (List.mem_cons_of_mem _ (zcv.2 e))
       · obtain⟨cur,h4⟩:=z4y HG2.out e
         obtain⟨es,kk,h5,_⟩:=HREL0.out.mp
         rw[h2,h5] at h4;injection h4 with h4;cases h4
       · obtain⟨cur,h4⟩:=z4y HG2.out e
         obtain⟨es,kk,h5,_⟩:=HREL0.out.kp
         rw[h2,h5] at h4;injection h4 with h4;cases h4)
      obtain⟨gg,go,hga,-,hgc⟩:=(Row.ofOwn hgv (F:=fun _=>True) (fun _ _=>trivial)).cells (show(Z.gone.map natV)[k]?=some (natV Z.gone[k]) by simp[hlt])
      have hcell:wr.cell? ⟨gg,go+k,none⟩=some (.int .i64 ((Z.gone[k]:Nat):Int)):=hgc k _ (by simp[hlt,natV])
      have hcL:=zhd (show Z.gone[k]∈Z.live from HGN.out.2 _ (List.getElem_mem hlt))
      have hck:=zhd (show Z.gone[k]∉Z.gone.take k by
       intro hm
       obtain⟨i,hi,he⟩:=List.getElem_of_mem hm
       have hi2:i<k:=by simp at hi;omega
       have:=(List.nodup_iff_pairwise_ne.1 HGN.out.1)
       rw[List.pairwise_iff_getElem] at this
       exact this i k (by omega) hlt hi2 (by simpa using he))
      have hct:=zhd (List.take_succ_eq_append_getElem hlt)
      generalize Z.gone[k]=idk at *
      have k7:=HREL.out.t7
      clear hgv hgc
      subst hga
      go_wp2_with (refine z26 rfl Tryz.underlying136 Tryz.underlying3 _ _ rfl (m:=lm) (k:=(idk:Int)) rfl rfl HREL.out.mp ?_;intro w4 n4 f4)
      rw[z97,List.filter_filter] at n4
      have hlv:(Z.live++new).filter (fun j=>decide (j≠idk) && decide (j∉Z.gone.take k))=(Z.live++new).filter (fun j=>decide (j∉Z.gone.take (k+1))):=by
       congr 1
       funext j
       rw[hct.out]
       simp[and_comm]
      rw[hlv] at n4
      have hap:=HREL.out.ap
      have hml:=HREL.out.ml
      have rel4:=HREL.out.turn HO.out.r0 HO.out.mr HO.out.m0 (f4.mono fun b _ e=>.inr (.inl e)) (HREL.out.hd.store.fr f4 (fun b e h=>HO.out.mr (by rw[←h,e];exact hml.symm)) (fun b e h=>HO.out.m0 (by rw[←h,e];exact hml.symm))) HREL.out.hd.alive n4 (HREL.out.kp.fr f4 HREL.out.lk.symm) HREL.out.st
      have HR4:=zhd (zcu (id:=idk) HO.out.r0 HO.out.m0 HO.out.mr rel4 (List.mem_append_left _ ((HH.out.bk.hl idk).2 (.inl hcL.out))) (fun e=>by
       rcases(HBK.out.bk idk).1 e with e|e
       · exact(HH.out.bk.kp.lk _ hcL.out).2 e
       · exact hck.out e.1))
      have F4:=zhd f4
      clear rel4 f4 n4 hlv hap hml k7
      refine HR4.out.mono ?_
      rintro e w5 ⟨rfl,R5⟩
      clear HR4
      go_wp2
      refine⟨⟨k+1,by omega,by go_num,zhd ?_⟩,?_⟩
      · have hfr:=(HF.out.trans F4.out (fun b _ e=>.inr (.inl e))).trans R5.out.1 (fun _ _ e=>e)
        rw[hct.out]
        rcases R5.out.2 with⟨hw,h1⟩|⟨hw,h1⟩
        · exact⟨back,addK idk kept,by rw[hct.out] at h1;exact h1,HBK.out.wants hw,hfr⟩
        · have h2:({ S1 with state:=marks (Z.held++new) back }:SSt).set idk 2={ S1 with state:=marks (Z.held++new) (idk::back) }:=by
           show SSt.mk _ _ _ _ _ _=_
           simp only[z95 HREL0.out.nd (List.mem_append_left _ ((HH.out.bk.hl idk).2 (.inl hcL.out)))]
          rw[h2] at h1
          exact⟨idk::back,_,by rw[hct.out] at h1;exact h1,HBK.out.free hw (HH.out.bk.kp.lk _ hcL.out).1,hfr⟩
      · simp[intOf];omega
    · obtain rfl:k=Z.gone.length:=by omega
      have hre:=HREL.out
      rw[List.take_length] at hre
      have hbe:=HBK.out
      rw[List.take_length] at hbe
      have HRE:=zhd hre
      have HBE:=zhd hbe
      have hmo:=RL.out.more HHD.out.bk hsm
      have HSC:=zhd (z8z (root:=R) (R:=0) hre.hd.store hre.hd.alive HO.out.r0 hre.cl hre.ap hmo.1 HRR.out (by
       rcases hmo.2 with h|⟨h,h2,h3,h4⟩
       · exact .inl (by rfl)
       · refine .inr ⟨by intro e;have:=HRR.out;omega,?_⟩
         have hz:=z90 R back (Z.held++new)
         rw[if_pos h2,if_neg (fun e=>((hbe.bk R).1 e).elim h4 (fun e=>h3 e.1)),←HRR.out] at hz
         show(aget (0:Int) (marks (Z.held++new) back)).getD 0=1
         rw[hz];rfl) (by have:=HRR.out;omega) (by show S1.num<_;rw[RL.out.laid.st];show Z.S.num<_;omega))
      have t0:=hre.hd.cell
      clear hre hbe HREL HBK hmo
      go_wp2_with fail
      refine HSC.out.mono ?_
      rintro e w6 ⟨err6,rfl,HR6⟩
      obtain⟨f6,(⟨rfl,c6,ag6,cl6,s6⟩|⟨rfl,hfell⟩)⟩:=HR6.out
      case inr=>
       have hrid:=RL.out.rid (by have:=HHD.out.hd.alive.size;omega)
       have hS1:S1.num=Z.S.num∧S1.dk=Z.S.dk:=by rw[RL.out.laid.st];exact⟨rfl,rfl⟩
       have HE:Hid (TComR c r rn rm w tp st lm km (.slice oA ks oc) Z ks sn 20 w6):=zhd ⟨(Fr.refl _ w).drew.trans ((HFW2.out.trans HF.out (fun b hb e=>by
        rcases e with e|e|e
        · exact .inl ((RL.out.ag b hb).symm.trans e.1)
        · exact .inr (.inr (by rw[e];exact HH.out.lmo))
        · exact .inr (.inr (by rw[e];exact HH.out.kmo)))).trans f6 (fun b hb e=>.inl ((RL.out.ag b hb).symm.trans e.1))) (fun _ _ h=>h),.inr ⟨rfl,by
        have hf2:Fell c1 r wr w6 Z.S.dk D1 (ComQ D1 (S1.num+1) R):=by rw[←hS1.2];exact hfell
        exact hf2.later (fun b hb=>RL.out.ag b hb) (by have:=HFW2.out.size;have:=HF.out.size;have:w.drew.heap.size=w.heap.size:=rfl;omega) RL.out.laid.af RL.out.laid.blocks (fun D' hq=>.inr ⟨S1,D1,o',new,c1,rn,_,_,RL.out.laid,RL.out.inn.ok,RL.out.root,RL.out.page,RL.out.flat,RL.out.cnts,by rw[←hrid.1];exact hrid.2.1,by rw[←hrid.1];exact hrid.2.2,by rw[←hrid.1,←hS1.1];exact hq⟩)⟩⟩
       clear f6 hfell HR6 HSC t0 hrid hS1
       go_wp2
       go_ret
       exact⟨20,rfl,HE⟩
      clear HR6
      have hb6:=f6.blk (HF.out.blk HB2.out (fun e=>by
       rcases e with e|e|e
       · exact e.2 List.mem_cons_self
       · exact HO.out.mr (by rw[←HREL0.out.ml,←e];exact HREL0.out.hd.own)
       · exact HO.out.mr (by rw[←HREL0.out.mo,←e];exact HREL0.out.hd.own))) (fun e=>e.2 List.mem_cons_self)
      have HB6:=zhd hb6
      have k8:w6.cell? ⟨tp,8,none⟩=some (.slice GA Z.gone.length gcp):=z2k hb6 8 rfl
      have z8:=z2i 8 hb6
      have hb7:=z2j (i:=8) hb6 (.slice none 0 0)
      have HEND:=zhd (fun w7 f7 hb7=>ze4 (w5:=w7) HO.out HHD.out hnum RL.out HFW2.out HRE.out rfl HBE.out HF.out ag6 cl6 s6 f6 f7 ⟨_,hb6⟩ hb7)
      have F67:=zhd ((Fr.refl (fun b=>b=tp) w6).setCell (p:=⟨tp,8,none⟩) (.inr rfl) (.slice none 0 0))
      clear hb6 ag6 cl6 s6 f6 HSC
      go_upto_region 20 with fail
      generalize w6.setCell ⟨tp,8,none⟩ (.slice none 0 0)=w7 at *
      have HB7:=zhd hb7
      have k1:w7.cell? ⟨tp,1,none⟩=some (.nilIface):=z2k hb7 1 rfl
      have k2:w7.cell? ⟨tp,2,none⟩=some (.int .i64 ((rootL Z.now).length:Int)):=z2k hb7 2 rfl
      have k3:w7.cell? ⟨tp,3,none⟩=some (.int .i64 (rootD Z.now:Int)):=z2k hb7 3 rfl
      have k4:w7.cell? ⟨tp,4,none⟩=some lr:=z2k hb7 4 rfl
      have k5:w7.cell? ⟨tp,5,none⟩=some (.int .i64 ((rootL Z.last).length:Int)):=z2k hb7 5 rfl
      have k6:w7.cell? ⟨tp,6,none⟩=some (.int .i64 (rootD Z.last:Int)):=z2k hb7 6 rfl
      have z4:=z2i 4 hb7
      have z5:=z2i 5 hb7
      have z6:=z2i 6 hb7
      clear hb7 k8 z8
      go_wp2
      go_ret
      have f7:=(F67.out.trans ((((Fr.refl (fun b=>b=tp) w7).setCell (p:=⟨tp,4,none⟩) (.inr rfl) (Value.nilIface)).setCell (p:=⟨tp,5,none⟩) (.inr rfl) (.int .i64 ((rootL Z.now).length:Int))).setCell (p:=⟨tp,6,none⟩) (.inr rfl) (.int .i64 (rootD Z.now:Int))) (fun _ _ e=>e))
      obtain⟨c',o2,new2,S2,D2,R2,rv2,ba2,ke2,e1,e2,e3⟩:=HEND.out _ f7 (z2j (i:=6) (z2j (i:=5) (z2j (i:=4) HB7.out (Value.nilIface)) (.int .i64 ((rootL Z.now).length:Int))) (.int .i64 (rootD Z.now:Int)))
      exact⟨0,rfl,zhd ⟨⟨e2.os,e2.output,e2.size,e2.block⟩,.inl ⟨rfl,c',o2,new2,S2,D2,R2,rv2,ba2,ke2,e1,e3⟩⟩⟩
 · go_enter Tryz.func123,Tryz.ntmps123
   go_wp2_with fail
   refine HDEAD.out.mono ?_
   rintro e w0 ⟨rfl,rfl⟩
   go_wp2_with fail
   refine(HLAY.out _ (Fr.refl C0 w).drew).mono ?_
   rintro e w1 (⟨rfl,c1,o',new,S1,D1,R,rv,RL0⟩|hno)
   case inr=>
    obtain⟨rfl,f9,hfell⟩:=hno
    have HE:Hid (TComR c r rn rm w tp st lm km (.slice oA ks oc) Z ks sn 20 w1):=zhd ⟨(Fr.refl _ w).drew.trans (f9.mono fun b _ e=>by
     rcases e with e|e|e
     · exact .inl e.1
     · exact .inr (.inl e)
     · exact .inr (.inr (by rw[e];exact HH.out.lmo))) (fun _ _ h=>h),.inr ⟨rfl,hfell.later (Ag.refl _ _) (Nat.le_refl _) (fun h=>h) rfl (fun _ h=>.inl h)⟩⟩
    clear f9 hfell HDEAD HLAY
    go_wp2
    go_ret
    exact⟨20,rfl,HE⟩
   have RL:=zhd RL0
   have HHD:=zhd (HH.out.fr (Fr.refl C0 w).drew (fun _ e=>e.elim) (fun _ e=>e.elim) (fun _ e=>e.elim) (fun _ e=>e.elim))
   clear RL0 HDEAD HLAY
   have hb1:w1.heap[tp]?=some (.cells (TreeCells st (.iface tx y) ((rootL Z.now).length:Int) (rootD Z.now:Int) lr ((rootL Z.last).length:Int) (rootD Z.last:Int) lm (.slice GA Z.gone.length gcp) (.slice oA ks oc) km) 139 (0,0)):=by
    obtain⟨d,t,lf⟩:=RL.out.lfr
    rw[lf.blk tp (Array.getElem?_eq_some_iff.1 HH.out.blk).1 (fun _=>List.mem_cons_self) (fun e=>HO.out.nr (e.symm.trans HH.out.hd.own)) (fun e=>HO.out.mr (by rw[←HH.out.hd.own,e];exact HH.out.lmo.symm))]
    exact HH.out.blk
   have HB1:=zhd hb1
   have k1:w1.cell? ⟨tp,1,none⟩=some (.iface tx y):=z2k hb1 1 rfl
   have z1:=z2i 1 hb1
   have k8:w1.cell? ⟨tp,8,none⟩=some (.slice GA Z.gone.length gcp):=z2k hb1 8 rfl
   clear hb1
   obtain⟨-,hnum2,hR2,hR5,rfl,hrc⟩:(∃tx' y',Value.iface tx y=.iface tx' y')∧Num w1 (.iface tx y) R∧2≤R∧R<5002∧rv=wPage R∧0<rcnt (.pg R) o':=by
    rcases RL.out.way with⟨h,_⟩|h
    · cases h
    · exact h
   have HNUM:=zhd (z76 hnum2)
   clear hnum2 hrc
   go_wp2_with fail
   refine HNUM.out.mono ?_
   rintro e w1' ⟨rfl,rfl⟩
   go_wp2
   have HB2:Hid ((w1.setCell ⟨tp,1,none⟩ (wPage R)).heap[tp]?=some (.cells (TreeCells st (wPage R) ((rootL Z.now).length:Int) (rootD Z.now:Int) lr ((rootL Z.last).length:Int) (rootD Z.last:Int) lm (.slice GA Z.gone.length gcp) (.slice oA ks oc) km) 139 (0,0))):=zhd (z2j (i:=1) HB1.out (wPage R))
   have F2:Hid (Fr (fun b=>b=tp) w1 (w1.setCell ⟨tp,1,none⟩ (wPage R))):=zhd ((Fr.refl (fun b=>b=tp) w1).setCell (p:=⟨tp,1,none⟩) (.inr rfl) _)
   generalize (w1.setCell ⟨tp,1,none⟩ (wPage R))=w2 at *
   clear k1 z1 k8
   have hgone:=HH.out.bk.gn
   have hst0:=ze1 HO.out HHD.out RL.out HB2.out F2.out
   have HREL0:=zhd hst0.1
   have HG2:=zhd hst0.2.1
   have HFW2:=zhd hst0.2.2
   have HGN:=zhd hgone
   clear hst0 hgone
   go_loopw [6,43] (fun _ i wr=>∃k:Nat,k≤Z.gone.length∧i=.int .i64 (k:Int)∧Hid (∃back kept,RelIn c1 r rm wr tp st lm km (.slice oA ks oc) (tp::ownL (.slice GA Z.gone.length gcp)) { S1 with state:=marks (Z.held++new) back } D1 (Z.held++new) back ((Z.live++new).filter fun j=>decide (j∉Z.gone.take k)) kept Z.snaps sn∧Gone Z (Z.gone.take k) back kept∧Fr (fun b=>(c1 b=r∧b∉tp::ownL (.slice GA Z.gone.length gcp))∨b=lm∨b=km) w2 wr)) (fun _ i _=>Z.gone.length-(intOf i).toNat)
   case atStart=>
    refine⟨0,Nat.zero_le _,rfl,zhd ⟨Z.back,Z.kept,?_,Gone.start HH.out.bk,Fr.refl _ _⟩⟩
    have h1:=HREL0.out
    have h2:({ S1 with state:=marks (Z.held++new) Z.back }:SSt)=S1:=by
     have:=h1.st
     cases S1;simp only[] at this⊢;rw[this]
    have h3:(Z.live++new).filter (fun j=>decide (j∉Z.gone.take 0))=Z.live++new:=List.filter_eq_self.2 (by simp)
    rw[h2,h3]
    exact h1
   case round=>
    obtain⟨k,hk,rfl,HL⟩:=hrel
    obtain⟨back,kept,hrel,hbk,hf⟩:=HL.out
    have HREL:=zhd hrel
    have HBK:=zhd hbk
    have HF:=zhd hf
    clear HL hrel hbk hf
    by_cases hlt:k<Z.gone.length
    · have hgv:wr.ownsRow 0 3 1 (.slice GA Z.gone.length gcp) Z.gone.length (Z.gone.map natV):=z0m HG2.out HF.out (fun b e h2=>by
       rcases h2 with h2|h2|h2
       · exact h2.2 (List.mem_cons_of_mem _ (zcv.2 e))
       · obtain⟨cur,h4⟩:=z4y HG2.out e
         obtain⟨es,kk,h5,_⟩:=HREL0.out.mp
         rw[h2,h5] at h4;injection h4 with h4;cases h4
       · obtain⟨cur,h4⟩:=z4y HG2.out e
         obtain⟨es,kk,h5,_⟩:=HREL0.out.kp
         rw[h2,h5] at h4;injection h4 with h4;cases h4)
      obtain⟨gg,go,hga,-,hgc⟩:=(Row.ofOwn hgv (F:=fun _=>True) (fun _ _=>trivial)).cells (show(Z.gone.map natV)[k]?=some (natV Z.gone[k]) by simp[hlt])
      have hcell:wr.cell? ⟨gg,go+k,none⟩=some (.int .i64 ((Z.gone[k]:Nat):Int)):=hgc k _ (by simp[hlt,natV])
      have hcL:=zhd (show Z.gone[k]∈Z.live from HGN.out.2 _ (List.getElem_mem hlt))
      have hck:=zhd (show Z.gone[k]∉Z.gone.take k by
       intro hm
       obtain⟨i,hi,he⟩:=List.getElem_of_mem hm
       have hi2:i<k:=by simp at hi;omega
       have:=(List.nodup_iff_pairwise_ne.1 HGN.out.1)
       rw[List.pairwise_iff_getElem] at this
       exact this i k (by omega) hlt hi2 (by simpa using he))
      have hct:=zhd (List.take_succ_eq_append_getElem hlt)
      generalize Z.gone[k]=idk at *
      have k7:=HREL.out.t7
      clear hgv hgc
      subst hga
      go_wp2_with (refine z26 rfl Tryz.underlying136 Tryz.underlying3 _ _ rfl (m:=lm) (k:=(idk:Int)) rfl rfl HREL.out.mp ?_;intro w4 n4 f4)
      rw[z97,List.filter_filter] at n4
      have hlv:(Z.live++new).filter (fun j=>decide (j≠idk) && decide (j∉Z.gone.take k))=(Z.live++new).filter (fun j=>decide (j∉Z.gone.take (k+1))):=by
       congr 1
       funext j
       rw[hct.out]
       simp[and_comm]
      rw[hlv] at n4
      have hap:=HREL.out.ap
      have hml:=HREL.out.ml
      have rel4:=HREL.out.turn HO.out.r0 HO.out.mr HO.out.m0 (f4.mono fun b _ e=>.inr (.inl e)) (HREL.out.hd.store.fr f4 (fun b e h=>HO.out.mr (by rw[←h,e];exact hml.symm)) (fun b e h=>HO.out.m0 (by rw[←h,e];exact hml.symm))) HREL.out.hd.alive n4 (HREL.out.kp.fr f4 HREL.out.lk.symm) HREL.out.st
      have HR4:=zhd (zcu (id:=idk) HO.out.r0 HO.out.m0 HO.out.mr rel4 (List.mem_append_left _ ((HH.out.bk.hl idk).2 (.inl hcL.out))) (fun e=>by
       rcases(HBK.out.bk idk).1 e with e|e
       · exact(HH.out.bk.kp.lk _ hcL.out).2 e
       · exact hck.out e.1))
      have F4:=zhd f4
      clear rel4 f4 n4 hlv hap hml k7
      refine HR4.out.mono ?_
      rintro e w5 ⟨rfl,R5⟩
      clear HR4
      go_wp2
      refine⟨⟨k+1,by omega,by go_num,zhd ?_⟩,?_⟩
      · have hfr:=(HF.out.trans F4.out (fun b _ e=>.inr (.inl e))).trans R5.out.1 (fun _ _ e=>e)
        rw[hct.out]
        rcases R5.out.2 with⟨hw,h1⟩|⟨hw,h1⟩
        · exact⟨back,addK idk kept,by rw[hct.out] at h1;exact h1,HBK.out.wants hw,hfr⟩
        · have h2:({ S1 with state:=marks (Z.held++new) back }:SSt).set idk 2={ S1 with state:=marks (Z.held++new) (idk::back) }:=by
           show SSt.mk _ _ _ _ _ _=_
           simp only[z95 HREL0.out.nd (List.mem_append_left _ ((HH.out.bk.hl idk).2 (.inl hcL.out)))]
          rw[h2] at h1
          exact⟨idk::back,_,by rw[hct.out] at h1;exact h1,HBK.out.free hw (HH.out.bk.kp.lk _ hcL.out).1,hfr⟩
      · simp[intOf];omega
    · obtain rfl:k=Z.gone.length:=by omega
      have hre:=HREL.out
      rw[List.take_length] at hre
      have hbe:=HBK.out
      rw[List.take_length] at hbe
      have HRE:=zhd hre
      have HBE:=zhd hbe
      have hmo:=RL.out.more HHD.out.bk hsm
      have HSC:=zhd (z8z (root:=R) (R:=(R:Int)) hre.hd.store hre.hd.alive HO.out.r0 hre.cl hre.ap hmo.1 rfl (by
       rcases hmo.2 with h|⟨h,h2,h3,h4⟩
       · exact .inl (by omega)
       · refine .inr ⟨by omega,?_⟩
         show(aget _ (marks (Z.held++new) back)).getD 0=1
         rw[z90,if_pos h2,if_neg (fun e=>((hbe.bk R).1 e).elim h4 (fun e=>h3 e.1))];rfl) (by omega) (by show S1.num<_;rw[RL.out.laid.st];show Z.S.num<_;omega))
      have t0:=hre.hd.cell
      clear hre hbe HREL HBK hmo
      go_wp2_with fail
      refine HSC.out.mono ?_
      rintro e w6 ⟨err6,rfl,HR6⟩
      obtain⟨f6,(⟨rfl,c6,ag6,cl6,s6⟩|⟨rfl,hfell⟩)⟩:=HR6.out
      case inr=>
       have hrid:=RL.out.rid (by have:=HHD.out.hd.alive.size;omega)
       have hS1:S1.num=Z.S.num∧S1.dk=Z.S.dk:=by rw[RL.out.laid.st];exact⟨rfl,rfl⟩
       have HE:Hid (TComR c r rn rm w tp st lm km (.slice oA ks oc) Z ks sn 20 w6):=zhd ⟨(Fr.refl _ w).drew.trans ((HFW2.out.trans HF.out (fun b hb e=>by
        rcases e with e|e|e
        · exact .inl ((RL.out.ag b hb).symm.trans e.1)
        · exact .inr (.inr (by rw[e];exact HH.out.lmo))
        · exact .inr (.inr (by rw[e];exact HH.out.kmo)))).trans f6 (fun b hb e=>.inl ((RL.out.ag b hb).symm.trans e.1))) (fun _ _ h=>h),.inr ⟨rfl,by
        have hf2:Fell c1 r wr w6 Z.S.dk D1 (ComQ D1 (S1.num+1) R):=by rw[←hS1.2];exact hfell
        exact hf2.later (fun b hb=>RL.out.ag b hb) (by have:=HFW2.out.size;have:=HF.out.size;have:w.drew.heap.size=w.heap.size:=rfl;omega) RL.out.laid.af RL.out.laid.blocks (fun D' hq=>.inr ⟨S1,D1,o',new,c1,rn,_,_,RL.out.laid,RL.out.inn.ok,RL.out.root,RL.out.page,RL.out.flat,RL.out.cnts,by rw[←hrid.1];exact hrid.2.1,by rw[←hrid.1];exact hrid.2.2,by rw[←hrid.1,←hS1.1];exact hq⟩)⟩⟩
       clear f6 hfell HR6 HSC t0 hrid hS1
       go_wp2
       go_ret
       exact⟨20,rfl,HE⟩
      clear HR6
      have hb6:=f6.blk (HF.out.blk HB2.out (fun e=>by
       rcases e with e|e|e
       · exact e.2 List.mem_cons_self
       · exact HO.out.mr (by rw[←HREL0.out.ml,←e];exact HREL0.out.hd.own)
       · exact HO.out.mr (by rw[←HREL0.out.mo,←e];exact HREL0.out.hd.own))) (fun e=>e.2 List.mem_cons_self)
      have HB6:=zhd hb6
      have k8:w6.cell? ⟨tp,8,none⟩=some (.slice GA Z.gone.length gcp):=z2k hb6 8 rfl
      have z8:=z2i 8 hb6
      have hb7:=z2j (i:=8) hb6 (.slice none 0 0)
      have HEND:=zhd (fun w7 f7 hb7=>ze4 (w5:=w7) HO.out HHD.out hnum RL.out HFW2.out HRE.out rfl HBE.out HF.out ag6 cl6 s6 f6 f7 ⟨_,hb6⟩ hb7)
      have F67:=zhd ((Fr.refl (fun b=>b=tp) w6).setCell (p:=⟨tp,8,none⟩) (.inr rfl) (.slice none 0 0))
      clear hb6 ag6 cl6 s6 f6 HSC
      go_upto_region 20 with fail
      generalize w6.setCell ⟨tp,8,none⟩ (.slice none 0 0)=w7 at *
      have HB7:=zhd hb7
      have k1:w7.cell? ⟨tp,1,none⟩=some (wPage R):=z2k hb7 1 rfl
      have k2:w7.cell? ⟨tp,2,none⟩=some (.int .i64 ((rootL Z.now).length:Int)):=z2k hb7 2 rfl
      have k3:w7.cell? ⟨tp,3,none⟩=some (.int .i64 (rootD Z.now:Int)):=z2k hb7 3 rfl
      have k4:w7.cell? ⟨tp,4,none⟩=some lr:=z2k hb7 4 rfl
      have k5:w7.cell? ⟨tp,5,none⟩=some (.int .i64 ((rootL Z.last).length:Int)):=z2k hb7 5 rfl
      have k6:w7.cell? ⟨tp,6,none⟩=some (.int .i64 (rootD Z.last:Int)):=z2k hb7 6 rfl
      have z4:=z2i 4 hb7
      have z5:=z2i 5 hb7
      have z6:=z2i 6 hb7
      clear hb7 k8 z8
      go_wp2
      go_ret
      have f7:=(F67.out.trans ((((Fr.refl (fun b=>b=tp) w7).setCell (p:=⟨tp,4,none⟩) (.inr rfl) (wPage R)).setCell (p:=⟨tp,5,none⟩) (.inr rfl) (.int .i64 ((rootL Z.now).length:Int))).setCell (p:=⟨tp,6,none⟩) (.inr rfl) (.int .i64 (rootD Z.now:Int))) (fun _ _ e=>e))
      obtain⟨c',o2,new2,S2,D2,R2,rv2,ba2,ke2,e1,e2,e3⟩:=HEND.out _ f7 (z2j (i:=6) (z2j (i:=5) (z2j (i:=4) HB7.out (wPage R)) (.int .i64 ((rootL Z.now).length:Int))) (.int .i64 (rootD Z.now:Int)))
      exact⟨0,rfl,zhd ⟨⟨e2.os,e2.output,e2.size,e2.block⟩,.inl ⟨rfl,c',o2,new2,S2,D2,R2,rv2,ba2,ke2,e1,e3⟩⟩⟩
end
section
def BoundV (F:Nat→Prop) (w:World) (v:Value) (o:Bs):Prop:=(o=[]∧v=.slice none 0 0)∨(o≠[]∧BytesAt F w v o)
@[go_sem] theorem ze6 (n c : Nat) (w : World) : (binOp .neq 40 (.slice none n c) (.slice none 0 0)).run Tryz.prog w = .ok (.bool false) w := by kernel_rfl
@[go_sem] theorem ze7 (a : Addr) (n c : Nat) (w : World) : (binOp .neq 40 (.slice (some a) n c) (.slice none 0 0)).run Tryz.prog w = .ok (.bool true) w := by kernel_rfl
end
section
theorem ze8:∀{l:List KV} {fs:List (List KV)},fs.length=l.length→(interT l fs).length=l.length+sumN (fs.map List.length)
 |[],[],_=>rfl
 | x :: l, f :: fs, h => by
   have:=ze8 (l:=l) (fs:=fs) (by simpa using h)
   simp[interT,sumN,this];omega
theorem ze9 {l:List KV} {fs:List (List KV)} (h:fs.length=l.length+1):(inter l fs).length=l.length+sumN (fs.map List.length):=by
 cases fs with
 |nil=>simp at h
 | cons f fs =>
   have:=ze8 (l:=l) (fs:=fs) (by simpa using h)
   simp[inter,sumN,this];omega
structure WalkIn (c:Nat→Nat) (r rn:Nat) (w:World) (tp st wb sm:Nat) (S:SSt) (D:DSt) (seen:List Nat):Prop where
 hd:Hd c r w tp st S D
 cl:Cl w c
 box:w.heap[wb]?=some (.cells #[.pointer (some ⟨tp,0,none⟩),.map (some sm)] 156 (0,0))
 mp:MapIs w sm (vmap (ones seen))
 m0:c sm≠0
 mr:c sm≠r
 mn:c sm≠rn
def WalkRes (rn:Nat) (w:World) (sm:Nat) (X:Prop) (d:Nat) (t:T) (seen:List Nat) (e:Ending) (w':World):Prop:=
 Fr (fun b=>b=sm) w w'∧((X∧e=corrupt)∨(e=.returned (.tuple #[.int .i64 ((flat d t).length:Int),.int .i64 (d:Int)])∧∃seen',MapIs w' sm (vmap (ones seen'))∧∀x,x∈seen'↔x∈seen∨0<cnt d (.pg x) t))
def WalkResS (rn:Nat) (pg:Nat→Option Bs) (w:World) (sm:Nat) (X:Prop) (d:Nat) (t:T) (seen:List Nat) (e:Ending) (w':World):Prop:=
 WalkRes rn w sm X d t seen e w'∧(e≠corrupt→∀x,0<cnt d (.pg x) t→pg x≠none)
def Within (lo hi:Bs) (l:List KV):Prop:=(∀x∈l,lo=[]∨bcmp lo x.1<0)∧∀x∈l,hi=[]∨bcmp x.1 hi<0
def WalkIH (c:Nat→Nat) (r rn tp st wb sm:Nat) (S:SSt) (D:DSt) (X:Prop) (d:Nat):Prop:=
 ∀ (w : World) (m : Nat) (t : T) (v lov hiv : Value) (root : Bool) (lo hi : Bs) (seen : List Nat), WalkIn c r rn w tp st wb sm S D seen → Rep c rn w (pgs D) D.blocks X d t v → Shape d m t → 1 ≤ m → (root = true ∨ 2 ≤ m) → Sorted (flat d t) → Within lo hi (flat d t) → BoundV (Dt c) w lov lo → BoundV (Dt c) w hiv hi → (∀ id, 0 < cnt d (.pg id) t → id ∉ seen) → (∀ id, cnt d (.pg id) t ≤ 1) → (flat d t).length ≤ 100000 →
   Calls Tryz.prog 87 #[.pointer (some ⟨wb,0,none⟩),v,.bool root,lov,hiv] w (WalkResS rn (pgs D) w sm X d t seen)
end
section
end
end Go.Proofs.YtidalepbkljkpaaGreat
