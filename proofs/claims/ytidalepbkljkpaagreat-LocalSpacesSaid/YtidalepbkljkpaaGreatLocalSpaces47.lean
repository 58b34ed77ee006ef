import Derived.Test.YtidalepbkljkpaaGreatLocalSpaces46
import Derived.Test.YtidalepbkljkpaaGreatLocalSpaces32
import Derived.Test.YtidalepbkljkpaaGreatLocalSpaces43
import Derived.Deep.CutRange
import Derived.Deep.CutBlock
import Derived.Deep.DeepCutAuto
import Derived.Test.YtidalepbkljkpaaGreatLocalSpaces09
import Derived.Test.YtidalepbkljkpaaGreatLocalSpaces03
import Derived.Test.YtidalepbkljkpaaGreatLocalSpaces16
import Derived.Maps.RangeRun
set_option linter.all false
namespace Go.Proofs.YtidalepbkljkpaaGreat
open Go.RowKit Go.H
set_option maxRecDepth 100000
section
set_option maxHeartbeats 2000000
def cutC (x:Chg):Chg:=⟨x.space,x.key.take 62,x.value.take 100,x.gone⟩
theorem zj3 {F G:Nat→Prop} {w:World} {lv:Value} {l:List Chg} (hl:ChgR F G w lv l) :
 Calls Tryz.prog 27 #[lv] w fun e w'=>∃ov,e=.returned ov∧Hid (Fr C0 w w'∧OutC w.heap.size w' ov ((l.take 8).map cutC)):=by
 have HL:=zhd hl
 obtain⟨A,cp,rfl,hlc,hcm⟩:=hl.form
 unfold maxLen at hcm
 clear hl
 go_enter Tryz.func27,Tryz.ntmps27
 go_wp2_with fail
 go_loopw [4,3] (fun i o wr=>∃k:Nat,k≤l.length∧k≤8∧i=.int .i64 (k:Int)∧Hid (Fr C0 w wr)∧Hid (OutC w.heap.size wr o ((l.take k).map cutC))) (fun i _ _=>l.length-(intOf i).toNat)
 case atStart=>exact⟨0,Nat.zero_le _,Nat.zero_le _,rfl,zhd (Fr.refl _ _),zhd OutC.nil⟩
 case round=>
  obtain⟨k,hk,hk8,rfl,HF,HO⟩:=hrel
  by_cases hlt:k<l.length
  · by_cases hl8:k<8
    · have hl8i:(k:Int)<8:=by omega
      obtain⟨g,o,kv,vv,rfl,hg,a0,a1,a2,a3,a4,a5⟩:=(HL.out.fr0 HF.out).at_ k hlt
      have htk:(l.take (k+1)).map cutC=(l.take k).map cutC++[cutC l[k]]:=by rw[List.take_succ_eq_append_getElem hlt,List.map_append];rfl
      generalize l[k]=x at *
      obtain⟨xs,xk,xv,xg⟩:=x
      dsimp only at a0 a1 a2 a3 a4 a5
      have HTK:=zhd htk
      obtain⟨KA,kc,rfl,hk1,hk2⟩:=a4.form
      obtain⟨VA,vc,rfl,hv1,hv2⟩:=a5.form
      unfold maxLen at hk2 hv2
      have lk:(xk.take 62).length≤xk.length:=by rw[List.length_take];omega
      have lv:(xv.take 100).length≤xv.length:=by rw[List.length_take];omega
      have hkk:=a4.take lk
      have hvv:=a5.take lv
      rw[zhz] at hkk hvv
      obtain⟨n1,hn1,e1⟩:∃n1,n1=(xk.take 62).length∧((n1=62∧(62:Int)<(xk.length:Int))∨(n1=xk.length∧¬(62:Int)<(xk.length:Int))):=⟨_,rfl,by rw[List.length_take];omega⟩
      obtain⟨n2,hn2,e2⟩:∃n2,n2=(xv.take 100).length∧((n2=100∧(100:Int)<(xv.length:Int))∨(n2=xv.length∧¬(100:Int)<(xv.length:Int))):=⟨_,rfl,by rw[List.length_take];omega⟩
      rw[←hn1] at hkk
      rw[←hn2] at hvv
      have mk:min (xk.length:Int) 62=(n1:Int):=by omega
      have mv:min (xv.length:Int) 100=(n2:Int):=by omega
      have hc:cutC ⟨xs,xk,xv,xg⟩=⟨xs,xk.take 62,xv.take 100,xg⟩:=rfl
      rw[hc] at HTK
      have lk62:(xk.take 62).length≤62:=by rw[List.length_take];omega
      have lv62:(xv.take 100).length≤100:=by rw[List.length_take];omega
      generalize xk.take 62=yk at *
      generalize xv.take 100=yv at *
      obtain⟨W1,hW1⟩:∃W1,W1=wr.alloc (.cells #[.int .i64 xs,.slice KA xk.length kc,.slice VA xv.length vc,.bool xg] 57):=⟨_,rfl⟩
      have f1:Fr C0 wr W1:=by rw[hW1];exact(Fr.refl C0 wr).alloc _
      have hb1:W1.heap[wr.heap.size]?=some (.cells #[.int .i64 xs,.slice KA xk.length kc,.slice VA xv.length vc,.bool xg] 57 (0,0)):=by rw[hW1];exact heap_alloc_new wr _
      have HS1:Hid (W1.heap.size=wr.heap.size+1):=zhd (by rw[hW1];simp)
      have HC1:=zhd (zej (hkk.fr0 f1) (by omega))
      have HV1:=zhd ((hvv.mono (F':=fun b=>b<wr.heap.size) (fun b _ h=>h)).fr0 f1)
      have HB1:=zhd hb1
      have q1:=z2k hb1 1 rfl
      rw[hW1] at q1
      have HW1:=zhd hW1
      have F1:=zhd f1
      have hsw:=HF.out.size
      obtain⟨ys,ho,hcs⟩:=HO.out
      obtain⟨A3,p3,rfl,-⟩:=z0o ho
      have HOW:=zhd ho
      have HCS:=zhd hcs
      clear hW1 hb1 f1 hkk hvv a4 a5 htk hc hn1 hn2 ho hcs
      have hms:((l.take k).map cutC).length≤8:=by rw[List.length_map,List.length_take];omega
      generalize (l.take k).map cutC=M at *
      rcases e1 with⟨rfl,h6⟩|⟨rfl,h6⟩
      · rcases e2 with⟨rfl,h7⟩|⟨rfl,h7⟩
        · go_wp2_with fail
          rw[←HW1.out]
          clear q1
          refine HC1.out.mono ?_
          rintro e w2 ⟨u2,rfl,f2,o2⟩
          have B2:=zhd (BytesAt.ofOwn (F:=fun b=>W1.heap.size≤b) o2 (fun b e=>(o2.lt b e).1))
          obtain⟨A2,p2,rfl,-⟩:=z0o o2
          have hb2:=f2.blk HB1.out (fun e=>e)
          have z1:=z2i 1 hb2
          have y1:=z2k hb2 1 rfl
          have y2a:=z2k hb2 2 rfl
          have FA2:=zhd (F1.out.trans0 f2)
          have hs12:=f2.size
          have fs:=(Fr.refl (fun b=>b=wr.heap.size) w2).setCell (p:=⟨wr.heap.size,1,none⟩) (.inr rfl) (.slice A2 yk.length p2)
          have hb3:=z2j (i:=1) hb2 (.slice A2 yk.length p2)
          have HB3:=zhd hb3
          have y2b:=z2k hb3 2 rfl
          have HS1o:=HS1.out
          have B3:=zhd (B2.out.fr fs (fun b hb e=>by have e2:b=wr.heap.size:=e;omega))
          have V3:=zhd ((HV1.out.fr0 f2).fr fs (fun b hb e=>by have e2:b=wr.heap.size:=e;omega))
          have F3:=zhd ((FA2.out.mono (C2:=fun b=>b=wr.heap.size) (fun _ _ e=>e.elim)).trans fs (fun _ _ e=>e))
          have F30:Hid (Fr C0 wr (w2.setCell ⟨wr.heap.size,1,none⟩ (.slice A2 yk.length p2))):=zhd (FA2.out.setCell (p:=⟨wr.heap.size,1,none⟩) (.inl (Nat.le_refl _)) _)
          have HC2:=zhd (zej V3.out (by omega))
          have HS2:Hid ((w2.setCell ⟨wr.heap.size,1,none⟩ (.slice A2 yk.length p2)).heap.size=w2.heap.size):=zhd (by simp[World.setCell])
          have HS12:=zhd hs12
          clear f2 o2 fs hb2 hb3 HC1 HW1
          go_wp2_with fail
          refine HC2.out.mono ?_
          rintro e w4 ⟨u4,rfl,f4,o4⟩
          have hs2o:=HS2.out
          have hs12o:=HS12.out
          have B4:=zhd (BytesAt.ofOwn (F:=fun b=>W1.heap.size≤b) o4 (fun b e=>by have:=(o4.lt b e).1;omega))
          obtain⟨A4,p4,rfl,-⟩:=z0o o4
          have hb4:=f4.blk HB3.out (fun e=>e)
          have z2:=z2i 2 hb4
          have y2:=z2k hb4 2 rfl
          have fs4:=(Fr.refl (fun b=>b=wr.heap.size) w4).setCell (p:=⟨wr.heap.size,2,none⟩) (.inr rfl) (.slice A4 yv.length p4)
          have hb5:=z2j (i:=2) hb4 (.slice A4 yv.length p4)
          have hHS:=HS1.out
          have F5:=zhd ((F3.out.trans0 f4).trans fs4 (fun _ _ e=>e))
          have K5:=zhd ((B3.out.fr0 f4).fr fs4 (fun b hb e=>by have e2:b=wr.heap.size:=e;omega))
          have V5:=zhd (B4.out.fr fs4 (fun b hb e=>by have e2:b=wr.heap.size:=e;omega))
          have FN:Hid (Fr C0 w (w4.setCell ⟨wr.heap.size,2,none⟩ (.slice A4 yv.length p4))):=zhd ((HF.out.trans0 (F30.out.trans0 f4)).setCell (p:=⟨wr.heap.size,2,none⟩) (.inl hsw) _)
          have u0:=z2k hb5 0 rfl
          have u1:=z2k hb5 1 rfl
          have u2:=z2k hb5 2 rfl
          have u3:=z2k hb5 3 rfl
          clear f4 o4 fs4 hb4 hb5 HC2 z1 y1 y2a y2b
          go_upto_region 8 with fail
          generalize w4.setCell ⟨wr.heap.size,2,none⟩ (.slice A4 yv.length p4)=W5 at *
          have hs5:=FN.out.size
          have HO5:=zhd (z0m HOW.out F5.out (fun b e e2=>by have e3:b=wr.heap.size:=e2;have:=(HOW.out.lt b e).2;omega))
          have hown:∀b,W1.heap.size≤b→w.heap.size≤b∧¬(Value.slice A3 M.length p3).ownBlock=some b:=fun b hb=>⟨by omega,fun e=>by have:=(HOW.out.lt b e).2;omega⟩
          have HC5:=zhd (((HCS.out.mono (F':=fun b=>(w.heap.size≤b∧¬(Value.slice A3 M.length p3).ownBlock=some b)∧b<wr.heap.size) (fun b hb hl=>⟨hb,hl⟩)).fr F5.out (fun b hb e=>by have e3:b=wr.heap.size:=e;omega)).mono (fun b hb _=>hb.1))
          have KK5:=zhd (K5.out.mono (fun b hb _=>hown b hb))
          have VV5:=zhd (V5.out.mono (fun b hb _=>hown b hb))
          clear hown
          have hszA:∀o:Obj,W5.heap.size≤(W5.alloc o).heap.size:=fun o=>by simp
          have HSZA:=zhd hszA
          clear hszA
          go_wp2_with (at_builtin;go_must (refine z0l zhv rfl _ _ rfl (v:=.slice A3 M.length p3) (xv:=.slice (some ⟨W5.heap.size,0,none⟩) 1 1) rfl rfl (B:=w.heap.size) (z0m HO5.out ((Fr.refl C0 W5).alloc (.cells #[.int .i64 xs,.slice A2 yk.length p2,.slice A4 yv.length p4,.bool xg] 57)) (fun _ _ h=>h)) (Row.ofBlock (F:=fun _=>True) (heap_alloc_new W5 _) trivial (by unfold maxLen;omega) rfl) (by simp[Value.oneCell']) (by unfold maxLen;omega) (by omega) (Nat.le_trans hs5 (HSZA.out _)) ?_);intro v7 w7 o7 f7 k7 nil7)
          go_roundw
          case rel=>
           refine⟨k+1,by omega,by omega,by go_num,zhd ((FN.out.alloc _).transO f7 (fun b e=>(HO5.out.lt b e).1)),zhd ?_⟩
           rw[HTK.out]
           exact OutC.add HO5.out HC5.out ((Fr.refl C0 W5).alloc _) KK5.out VV5.out f7 o7 k7
          case measure=>simp[intOf];omega
        · go_wp2_with fail
          rw[←HW1.out]
          clear q1
          refine HC1.out.mono ?_
          rintro e w2 ⟨u2,rfl,f2,o2⟩
          have B2:=zhd (BytesAt.ofOwn (F:=fun b=>W1.heap.size≤b) o2 (fun b e=>(o2.lt b e).1))
          obtain⟨A2,p2,rfl,-⟩:=z0o o2
          have hb2:=f2.blk HB1.out (fun e=>e)
          have z1:=z2i 1 hb2
          have y1:=z2k hb2 1 rfl
          have y2a:=z2k hb2 2 rfl
          have FA2:=zhd (F1.out.trans0 f2)
          have hs12:=f2.size
          have fs:=(Fr.refl (fun b=>b=wr.heap.size) w2).setCell (p:=⟨wr.heap.size,1,none⟩) (.inr rfl) (.slice A2 yk.length p2)
          have hb3:=z2j (i:=1) hb2 (.slice A2 yk.length p2)
          have HB3:=zhd hb3
          have y2b:=z2k hb3 2 rfl
          have HS1o:=HS1.out
          have B3:=zhd (B2.out.fr fs (fun b hb e=>by have e2:b=wr.heap.size:=e;omega))
          have V3:=zhd ((HV1.out.fr0 f2).fr fs (fun b hb e=>by have e2:b=wr.heap.size:=e;omega))
          have F3:=zhd ((FA2.out.mono (C2:=fun b=>b=wr.heap.size) (fun _ _ e=>e.elim)).trans fs (fun _ _ e=>e))
          have F30:Hid (Fr C0 wr (w2.setCell ⟨wr.heap.size,1,none⟩ (.slice A2 yk.length p2))):=zhd (FA2.out.setCell (p:=⟨wr.heap.size,1,none⟩) (.inl (Nat.le_refl _)) _)
          have HC2:=zhd (zej V3.out (by omega))
          have HS2:Hid ((w2.setCell ⟨wr.heap.size,1,none⟩ (.slice A2 yk.length p2)).heap.size=w2.heap.size):=zhd (by simp[World.setCell])
          have HS12:=zhd hs12
          clear f2 o2 fs hb2 hb3 HC1 HW1
          go_wp2_with fail
          refine HC2.out.mono ?_
          rintro e w4 ⟨u4,rfl,f4,o4⟩
          have hs2o:=HS2.out
          have hs12o:=HS12.out
          have B4:=zhd (BytesAt.ofOwn (F:=fun b=>W1.heap.size≤b) o4 (fun b e=>by have:=(o4.lt b e).1;omega))
          obtain⟨A4,p4,rfl,-⟩:=z0o o4
          have hb4:=f4.blk HB3.out (fun e=>e)
          have z2:=z2i 2 hb4
          have y2:=z2k hb4 2 rfl
          have fs4:=(Fr.refl (fun b=>b=wr.heap.size) w4).setCell (p:=⟨wr.heap.size,2,none⟩) (.inr rfl) (.slice A4 yv.length p4)
          have hb5:=z2j (i:=2) hb4 (.slice A4 yv.length p4)
          have hHS:=HS1.out
          have F5:=zhd ((F3.out.trans0 f4).trans fs4 (fun _ _ e=>e))
          have K5:=zhd ((B3.out.fr0 f4).fr fs4 (fun b hb e=>by have e2:b=wr.heap.size:=e;omega))
          have V5:=zhd (B4.out.fr fs4 (fun b hb e=>by have e2:b=wr.heap.size:=e;omega))
          have FN:Hid (Fr C0 w (w4.setCell ⟨wr.heap.size,2,none⟩ (.slice A4 yv.length p4))):=zhd ((HF.out.trans0 (F30.out.trans0 f4)).setCell (p:=⟨wr.heap.size,2,none⟩) (.inl hsw) _)
          have u0:=z2k hb5 0 rfl
          have u1:=z2k hb5 1 rfl
          have u2:=z2k hb5 2 rfl
          have u3:=z2k hb5 3 rfl
          clear f4 o4 fs4 hb4 hb5 HC2 z1 y1 y2a y2b
          go_upto_region 8 with fail
          generalize w4.setCell ⟨wr.heap.size,2,none⟩ (.slice A4 yv.length p4)=W5 at *
          have hs5:=FN.out.size
          have HO5:=zhd (z0m HOW.out F5.out (fun b e e2=>by have e3:b=wr.heap.size:=e2;have:=(HOW.out.lt b e).2;omega))
          have hown:∀b,W1.heap.size≤b→w.heap.size≤b∧¬(Value.slice A3 M.length p3).ownBlock=some b:=fun b hb=>⟨by omega,fun e=>by have:=(HOW.out.lt b e).2;omega⟩
          have HC5:=zhd (((HCS.out.mono (F':=fun b=>(w.heap.size≤b∧¬(Value.slice A3 M.length p3).ownBlock=some b)∧b<wr.heap.size) (fun b hb hl=>⟨hb,hl⟩)).fr F5.out (fun b hb e=>by have e3:b=wr.heap.size:=e;omega)).mono (fun b hb _=>hb.1))
          have KK5:=zhd (K5.out.mono (fun b hb _=>hown b hb))
          have VV5:=zhd (V5.out.mono (fun b hb _=>hown b hb))
          clear hown
          have hszA:∀o:Obj,W5.heap.size≤(W5.alloc o).heap.size:=fun o=>by simp
          have HSZA:=zhd hszA
          clear hszA
          go_wp2_with (at_builtin;go_must (refine z0l zhv rfl _ _ rfl (v:=.slice A3 M.length p3) (xv:=.slice (some ⟨W5.heap.size,0,none⟩) 1 1) rfl rfl (B:=w.heap.size) (z0m HO5.out ((Fr.refl C0 W5).alloc (.cells #[.int .i64 xs,.slice A2 yk.length p2,.slice A4 yv.length p4,.bool xg] 57)) (fun _ _ h=>h)) (Row.ofBlock (F:=fun _=>True) (heap_alloc_new W5 _) trivial (by unfold maxLen;omega) rfl) (by simp[Value.oneCell']) (by unfold maxLen;omega) (by omega) (Nat.le_trans hs5 (HSZA.out _)) ?_);intro v7 w7 o7 f7 k7 nil7)
          go_roundw
          case rel=>
           refine⟨k+1,by omega,by omega,by go_num,zhd ((FN.out.alloc _).transO f7 (fun b e=>(HO5.out.lt b e).1)),zhd ?_⟩
           rw[HTK.out]
           exact OutC.add HO5.out HC5.out ((Fr.refl C0 W5).alloc _) KK5.out VV5.out f7 o7 k7
          case measure=>simp[intOf];omega
      · rcases e2 with⟨rfl,h7⟩|⟨rfl,h7⟩
        · go_wp2_with fail
          rw[←HW1.out]
          clear q1
          refine HC1.out.mono ?_
          rintro e w2 ⟨u2,rfl,f2,o2⟩
          have B2:=zhd (BytesAt.ofOwn (F:=fun b=>W1.heap.size≤b) o2 (fun b e=>(o2.lt b e).1))
          obtain⟨A2,p2,rfl,-⟩:=z0o o2
          have hb2:=f2.blk HB1.out (fun e=>e)
          have z1:=z2i 1 hb2
          have y1:=z2k hb2 1 rfl
          have y2a:=z2k hb2 2 rfl
          have FA2:=zhd (F1.out.trans0 f2)
          have hs12:=f2.size
          have fs:=(Fr.refl (fun b=>b=wr.heap.size) w2).setCell (p:=⟨wr.heap.size,1,none⟩) (.inr rfl) (.slice A2 yk.length p2)
          have hb3:=z2j (i:=1) hb2 (.slice A2 yk.length p2)
          have HB3:=zhd hb3
          have y2b:=z2k hb3 2 rfl
          have HS1o:=HS1.out
          have B3:=zhd (B2.out.fr fs (fun b hb e=>by have e2:b=wr.heap.size:=e;omega))
          have V3:=zhd ((HV1.out.fr0 f2).fr fs (fun b hb e=>by have e2:b=wr.heap.size:=e;omega))
          have F3:=zhd ((FA2.out.mono (C2:=fun b=>b=wr.heap.size) (fun _ _ e=>e.elim)).trans fs (fun _ _ e=>e))
          have F30:Hid (Fr C0 wr (w2.setCell ⟨wr.heap.size,1,none⟩ (.slice A2 yk.length p2))):=zhd (FA2.out.setCell (p:=⟨wr.heap.size,1,none⟩) (.inl (Nat.le_refl _)) _)
          have HC2:=zhd (zej V3.out (by omega))
          have HS2:Hid ((w2.setCell ⟨wr.heap.size,1,none⟩ (.slice A2 yk.length p2)).heap.size=w2.heap.size):=zhd (by simp[World.setCell])
          have HS12:=zhd hs12
          clear f2 o2 fs hb2 hb3 HC1 HW1
          go_wp2_with fail
          refine HC2.out.mono ?_
          rintro e w4 ⟨u4,rfl,f4,o4⟩
          have hs2o:=HS2.out
          have hs12o:=HS12.out
          have B4:=zhd (BytesAt.ofOwn (F:=fun b=>W1.heap.size≤b) o4 (fun b e=>by have:=(o4.lt b e).1;omega))
          obtain⟨A4,p4,rfl,-⟩:=z0o o4
          have hb4:=f4.blk HB3.out (fun e=>e)
          have z2:=z2i 2 hb4
          have y2:=z2k hb4 2 rfl
          have fs4:=(Fr.refl (fun b=>b=wr.heap.size) w4).setCell (p:=⟨wr.heap.size,2,none⟩) (.inr rfl) (.slice A4 yv.length p4)
          have hb5:=z2j (i:=2) hb4 (.slice A4 yv.length p4)
          have hHS:=HS1.out
          have F5:=zhd ((F3.out.trans0 f4).trans fs4 (fun _ _ e=>e))
          have K5:=zhd ((B3.out.fr0 f4).fr fs4 (fun b hb e=>by have e2:b=wr.heap.size:=e;omega))
          have V5:=zhd (B4.out.fr fs4 (fun b hb e=>by have e2:b=wr.heap.size:=e;omega))
          have FN:Hid (Fr C0 w (w4.setCell ⟨wr.heap.size,2,none⟩ (.slice A4 yv.length p4))):=zhd ((HF.out.trans0 (F30.out.trans0 f4)).setCell (p:=⟨wr.heap.size,2,none⟩) (.inl hsw) _)
          have u0:=z2k hb5 0 rfl
          have u1:=z2k hb5 1 rfl
          have u2:=z2k hb5 2 rfl
          have u3:=z2k hb5 3 rfl
          clear f4 o4 fs4 hb4 hb5 HC2 z1 y1 y2a y2b
          go_upto_region 8 with fail
          generalize w4.setCell ⟨wr.heap.size,2,none⟩ (.slice A4 yv.length p4)=W5 at *
          have hs5:=FN.out.size
          have HO5:=zhd (z0m HOW.out F5.out (fun b e e2=>by have e3:b=wr.heap.size:=e2;have:=(HOW.out.lt b e).2;omega))
          have hown:∀b,W1.heap.size≤b→w.heap.size≤b∧¬(Value.slice A3 M.length p3).ownBlock=some b:=fun b hb=>⟨by omega,fun e=>by have:=(HOW.out.lt b e).2;omega⟩
          have HC5:=zhd (((HCS.out.mono (F':=fun b=>(w.heap.size≤b∧¬(Value.slice A3 M.length p3).ownBlock=some b)∧b<wr.heap.size) (fun b hb hl=>⟨hb,hl⟩)).fr F5.out (fun b hb e=>by have e3:b=wr.heap.size:=e;omega)).mono (fun b hb _=>hb.1))
          have KK5:=zhd (K5.out.mono (fun b hb _=>hown b hb))
          have VV5:=zhd (V5.out.mono (fun b hb _=>hown b hb))
          clear hown
          have hszA:∀o:Obj,W5.heap.size≤(W5.alloc o).heap.size:=fun o=>by simp
          have HSZA:=zhd hszA
          clear hszA
          go_wp2_with (at_builtin;go_must (refine z0l zhv rfl _ _ rfl (v:=.slice A3 M.length p3) (xv:=.slice (some ⟨W5.heap.size,0,none⟩) 1 1) rfl rfl (B:=w.heap.size) (z0m HO5.out ((Fr.refl C0 W5).alloc (.cells #[.int .i64 xs,.slice A2 yk.length p2,.slice A4 yv.length p4,.bool xg] 57)) (fun _ _ h=>h)) (Row.ofBlock (F:=fun _=>True) (heap_alloc_new W5 _) trivial (by unfold maxLen;omega) rfl) (by simp[Value.oneCell']) (by unfold maxLen;omega) (by omega) (Nat.le_trans hs5 (HSZA.out _)) ?_);intro v7 w7 o7 f7 k7 nil7)
          go_roundw
          case rel=>
           refine⟨k+1,by omega,by omega,by go_num,zhd ((FN.out.alloc _).transO f7 (fun b e=>(HO5.out.lt b e).1)),zhd ?_⟩
           rw[HTK.out]
           exact OutC.add HO5.out HC5.out ((Fr.refl C0 W5).alloc _) KK5.out VV5.out f7 o7 k7
          case measure=>simp[intOf];omega
        · go_wp2_with fail
          rw[←HW1.out]
          clear q1
          refine HC1.out.mono ?_
          rintro e w2 ⟨u2,rfl,f2,o2⟩
          have B2:=zhd (BytesAt.ofOwn (F:=fun b=>W1.heap.size≤b) o2 (fun b e=>(o2.lt b e).1))
          obtain⟨A2,p2,rfl,-⟩:=z0o o2
          have hb2:=f2.blk HB1.out (fun e=>e)
          have z1:=z2i 1 hb2
          have y1:=z2k hb2 1 rfl
          have y2a:=z2k hb2 2 rfl
          have FA2:=zhd (F1.out.trans0 f2)
          have hs12:=f2.size
          have fs:=(Fr.refl (fun b=>b=wr.heap.size) w2).setCell (p:=⟨wr.heap.size,1,none⟩) (.inr rfl) (.slice A2 yk.length p2)
          have hb3:=z2j (i:=1) hb2 (.slice A2 yk.length p2)
          have HB3:=zhd hb3
          have y2b:=z2k hb3 2 rfl
          have HS1o:=HS1.out
          have B3:=zhd (B2.out.fr fs (fun b hb e=>by have e2:b=wr.heap.size:=e;omega))
          have V3:=zhd ((HV1.out.fr0 f2).fr fs (fun b hb e=>by have e2:b=wr.heap.size:=e;omega))
          have F3:=zhd ((FA2.out.mono (C2:=fun b=>b=wr.heap.size) (fun _ _ e=>e.elim)).trans fs (fun _ _ e=>e))
          have F30:Hid (Fr C0 wr (w2.setCell ⟨wr.heap.size,1,none⟩ (.slice A2 yk.length p2))):=zhd (FA2.out.setCell (p:=⟨wr.heap.size,1,none⟩) (.inl (Nat.le_refl _)) _)
          have HC2:=zhd (zej V3.out (by omega))
          have HS2:Hid ((w2.setCell ⟨wr.heap.size,1,none⟩ (.slice A2 yk.length p2)).heap.size=w2.heap.size):=zhd (by simp[World.setCell])
          have HS12:=zhd hs12
          clear f2 o2 fs hb2 hb3 HC1 HW1
          go_wp2_with fail
          refine HC2.out.mono ?_
          rintro e w4 ⟨u4,rfl,f4,o4⟩
          have hs2o:=HS2.out
          have hs12o:=HS12.out
          have B4:=zhd (BytesAt.ofOwn (F:=fun b=>W1.heap.size≤b) o4 (fun b e=>by have:=(o4.lt b e).1;omega))
          obtain⟨A4,p4,rfl,-⟩:=z0o o4
          have hb4:=f4.blk HB3.out (fun e=>e)
          have z2:=z2i 2 hb4
          have y2:=z2k hb4 2 rfl
          have fs4:=(Fr.refl (fun b=>b=wr.heap.size) w4).setCell (p:=⟨wr.heap.size,2,none⟩) (.inr rfl) (.slice A4 yv.length p4)
          have hb5:=z2j (i:=2) hb4 (.slice A4 yv.length p4)
          have hHS:=HS1.out
          have F5:=zhd ((F3.out.trans0 f4).trans fs4 (fun _ _ e=>e))
          have K5:=zhd ((B3.out.fr0 f4).fr fs4 (fun b hb e=>by have e2:b=wr.heap.size:=e;omega))
          have V5:=zhd (B4.out.fr fs4 (fun b hb e=>by have e2:b=wr.heap.size:=e;omega))
          have FN:Hid (Fr C0 w (w4.setCell ⟨wr.heap.size,2,none⟩ (.slice A4 yv.length p4))):=zhd ((HF.out.trans0 (F30.out.trans0 f4)).setCell (p:=⟨wr.heap.size,2,none⟩) (.inl hsw) _)
          have u0:=z2k hb5 0 rfl
          have u1:=z2k hb5 1 rfl
          have u2:=z2k hb5 2 rfl
          have u3:=z2k hb5 3 rfl
          clear f4 o4 fs4 hb4 hb5 HC2 z1 y1 y2a y2b
          go_upto_region 8 with fail
          generalize w4.setCell ⟨wr.heap.size,2,none⟩ (.slice A4 yv.length p4)=W5 at *
          have hs5:=FN.out.size
          have HO5:=zhd (z0m HOW.out F5.out (fun b e e2=>by have e3:b=wr.heap.size:=e2;have:=(HOW.out.lt b e).2;omega))
          have hown:∀b,W1.heap.size≤b→w.heap.size≤b∧¬(Value.slice A3 M.length p3).ownBlock=some b:=fun b hb=>⟨by omega,fun e=>by have:=(HOW.out.lt b e).2;omega⟩
          have HC5:=zhd (((HCS.out.mono (F':=fun b=>(w.heap.size≤b∧¬(Value.slice A3 M.length p3).ownBlock=some b)∧b<wr.heap.size) (fun b hb hl=>⟨hb,hl⟩)).fr F5.out (fun b hb e=>by have e3:b=wr.heap.size:=e;omega)).mono (fun b hb _=>hb.1))
          have KK5:=zhd (K5.out.mono (fun b hb _=>hown b hb))
          have VV5:=zhd (V5.out.mono (fun b hb _=>hown b hb))
          clear hown
          have hszA:∀o:Obj,W5.heap.size≤(W5.alloc o).heap.size:=fun o=>by simp
          have HSZA:=zhd hszA
          clear hszA
          go_wp2_with (at_builtin;go_must (refine z0l zhv rfl _ _ rfl (v:=.slice A3 M.length p3) (xv:=.slice (some ⟨W5.heap.size,0,none⟩) 1 1) rfl rfl (B:=w.heap.size) (z0m HO5.out ((Fr.refl C0 W5).alloc (.cells #[.int .i64 xs,.slice A2 yk.length p2,.slice A4 yv.length p4,.bool xg] 57)) (fun _ _ h=>h)) (Row.ofBlock (F:=fun _=>True) (heap_alloc_new W5 _) trivial (by unfold maxLen;omega) rfl) (by simp[Value.oneCell']) (by unfold maxLen;omega) (by omega) (Nat.le_trans hs5 (HSZA.out _)) ?_);intro v7 w7 o7 f7 k7 nil7)
          go_roundw
          case rel=>
           refine⟨k+1,by omega,by omega,by go_num,zhd ((FN.out.alloc _).transO f7 (fun b e=>(HO5.out.lt b e).1)),zhd ?_⟩
           rw[HTK.out]
           exact OutC.add HO5.out HC5.out ((Fr.refl C0 W5).alloc _) KK5.out VV5.out f7 o7 k7
          case measure=>simp[intOf];omega
    · obtain rfl:k=8:=by omega
      go_wp2_with fail
      go_ret
      exact⟨_,rfl,zhd ⟨HF.out,HO.out⟩⟩
  · obtain rfl:k=l.length:=by omega
    have hO2:=HO.out
    rw[List.take_length] at hO2
    have HO2:=zhd hO2
    clear hO2
    go_wp2_with fail
    go_ret
    exact⟨_,rfl,zhd ⟨HF.out,by rw[List.take_of_length_le hk8];exact HO2.out⟩⟩
end
section
set_option maxHeartbeats 1000000
def leftAt (w:World) (lm r:Nat):Nat:=match w.heap[lm]? with
 |some (.map es _)=>(leftOf es (w.iterSeen r)).size
 |_=>0
end
end Go.Proofs.YtidalepbkljkpaaGreat
