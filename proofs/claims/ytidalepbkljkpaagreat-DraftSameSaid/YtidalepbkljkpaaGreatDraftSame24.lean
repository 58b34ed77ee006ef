/- DraftSame returns true for every input, and leaves what came in as it was. No condition. -/
import Derived.Test.YtidalepbkljkpaaGreatDraftSame23
import Derived.Laws.Concat
import Derived.Test.YtidalepbkljkpaaGreatDraftSame18
set_option linter.all false
namespace Go.Proofs.YtidalepbkljkpaaGreat
section
open Go.RowKit Go.H
set_option maxHeartbeats 2000000
set_option maxRecDepth 100000
theorem zcd {w:World} {N n1 n2:Nat} {u v:Value} {xs ys:List Value} (h1:w.ownsRow N 9 1 u n1 xs) (h2:w.ownsRow N 45 5 v n2 ys):∀b,u.ownBlock=some b→¬v.ownBlock=some b:=fun b e1 e2=>by
 rcases h1.2 with⟨rfl,-⟩|⟨g,cap,cur,rfl,-,hg,-⟩
 · simp[Value.ownBlock] at e1
 · rcases h2.2 with⟨rfl,-⟩|⟨g',cap',cur',rfl,-,hg',-⟩
   · simp[Value.ownBlock] at e2
   · simp[Value.ownBlock] at e1 e2
     subst e1 e2
     rw[hg] at hg'
     injection hg' with hg'
     injection hg' with h4 h5
     exact absurd h5 (by decide)
theorem zce (x:Int):Value.int .u8 (x % 256)=bv (UInt8.ofNat (x % 256).toNat):=by
 unfold bv
 congr 1
 have h2:(UInt8.ofNat (x % 256).toNat).toNat=(x % 256).toNat % 2 ^ 8:=UInt8.toNat_ofNat'
 rw[h2]
 omega
theorem zcf {w:World} {v:Value} {l:List Act13} (h1:ActsS (fun _=>True) w v l) :
 Calls Tryz.prog 4 #[v] w fun e w'=>e=.returned (.bool true)∧Fr C0 w w':=by
 have HN:=zhd (zbk (w:=w) (c:=fun _=>0) (fun _ _=>rfl))
 have HA1:=zhd (h1.mono (F':=fun b=>b<w.heap.size) (fun b _ h=>h))
 obtain⟨B1,p1,rfl,hlp,hpm⟩:=h1.form
 unfold maxLen at hpm
 clear h1
 go_enter Tryz.func4,Tryz.ntmps4
 go_wp2_with fail
 refine HN.out.mono ?_
 rintro e w1 ⟨dpa,spa,rfl,H1⟩
 obtain⟨f1,tpa,Za,ca1,ag1,d1⟩:=H1.out
 have HN2:=zhd (zbk (w:=w1) (c:=fun n=>if ca1 n=0 then 0 else 9) (fun n hn=>if_pos (d1.cl n hn)))
 have F1:=zhd f1
 have A1:=zhd ag1
 have D1:=zhd d1
 clear HN H1 f1 ag1 d1
 go_wp2_with fail
 refine HN2.out.mono ?_
 rintro e w2 ⟨dpb,spb,rfl,H2⟩
 obtain⟨f2,tpb,Zb,cb,ag2,d2⟩:=H2.out
 obtain⟨ca,aga,T2⟩:=TwoD.new (p:=⟨dpa,spa,tpa,Za⟩) (q:=⟨dpb,spb,tpb,Zb⟩) D1.out f2 ag2 d2
 have TT2:=zhd T2
 have F2:=zhd (F1.out.trans0 f2)
 have ZA:Hid (∀n,n<w.heap.size→ca n=0∧cb n=0):=zhd (fun n hn=>by
  have hn1:=Nat.lt_of_lt_of_le hn F1.out.size
  have e1:ca1 n=0:=A1.out n hn
  exact⟨(aga n hn1).trans e1,(ag2 n hn1).trans (if_pos e1)⟩)
 clear HN2 H2 f2 ag2 d2 aga T2 F1 A1 D1
 go_wp2_with fail
 go_loopw [9,7,8] (fun i kv lv wr=>∃(k:Nat) (K:List Act13),k≤l.length∧k≤25∧i=.int .i64 (k:Int)∧Hid (K.Pairwise fun x y=>keyS x≠keyS y)∧Hid (K.length≤k)∧Hid (Fr C0 w2 wr)∧Hid (wr.ownsRow w2.heap.size 9 1 kv K.length (K.map fun x=>.string (kbS x)))∧Hid (∃ys,wr.ownsRow w2.heap.size 45 5 lv K.length ys∧ActCells (fun b=>b<w.heap.size) wr ys K)) (fun i _ _ _=>l.length-(intOf i).toNat)
 case atStart=>exact⟨0,[],Nat.zero_le _,Nat.zero_le _,rfl,zhd .nil,zhd (Nat.le_refl _),zhd (Fr.refl _ _),zhd (World.ownsRow_nil _ _ _ _),zhd ⟨[],World.ownsRow_nil _ _ _ _,.nil⟩⟩
 case round=>
  obtain⟨k,K,hk,hk25,rfl,HPW,HKL,HF,HKR,HLR⟩:=hrel
  have hkl:=HKL.out
  go_upto_region 8 with fail
  go_cut [36] (fun b wx=>b=.bool (decide (k<l.length) && decide (k<25))∧wx=wr)
  case first=>
   by_cases hlt:k<l.length
   · by_cases hl25:k<25
     · have hl25i:(k:Int)<25:=by omega
       go_wp2_with fail
       go_meet
       case rel=>exact⟨by simp[hlt,hl25],rfl⟩
     · obtain rfl:k=25:=by omega
       go_wp2_with fail
       go_meet
       case rel=>exact⟨by simp,rfl⟩
   · obtain rfl:k=l.length:=by omega
     go_wp2_with fail
     go_meet
     case rel=>exact⟨by simp,rfl⟩
  case rest=>
   obtain⟨rfl,rfl⟩:=hcut
   by_cases hgo:k<l.length∧k<25
   · obtain⟨hlt,hl25⟩:=hgo
     have hb:(decide (k<l.length) && decide (k<25))=true:=by simp[hlt,hl25]
     rw[hb]
     clear hb
     obtain⟨g,o,kv,vv,rfl,hFg,ha⟩:=zc8 ((HA1.out.fr F2.out (fun _ _ e=>e)).fr HF.out (fun _ _ e=>e)) k hlt
     generalize l[k]=x at ha
     have a0:=ha.c0
     have a1:=ha.c1
     have a2:=ha.c2
     have a3:=ha.c3
     have a4:=ha.c4
     have HK:=zhd ha.key
     have HV:=zhd ha.value
     have HP:=zhd (z9l (s:=x.space) ha.key ha.value)
     obtain⟨KA,kc,rfl,-⟩:=ha.key.form
     obtain⟨VA,vc,rfl,-⟩:=ha.value.form
     clear ha
     go_wp2_with fail
     refine HP.out.mono ?_
     rintro e w4 ⟨KA2,km2,kc2,VA2,vm2,vc2,rfl,H4⟩
     obtain⟨f4,bk4,-⟩:=H4.out
     have f5:=f4.alloc (.cells #[.int .i64 x.space,.slice KA2 km2 kc2,.slice VA2 vm2 vc2] 42)
     have hb5:=heap_alloc_new w4 (.cells #[.int .i64 x.space,.slice KA2 km2 kc2,.slice VA2 vm2 vc2] 42)
     have bk5:=bk4.fr0 ((Fr.refl C0 w4).alloc (.cells #[.int .i64 x.space,.slice KA2 km2 kc2,.slice VA2 vm2 vc2] 42))
     obtain⟨W5,hW5⟩:∃W5,W5=w4.alloc (.cells #[.int .i64 x.space,.slice KA2 km2 kc2,.slice VA2 vm2 vc2] 42):=⟨_,rfl⟩
     have HW5:=zhd hW5
     have q0:=z1u hb5 0 rfl
     rw[←hW5] at f5 hb5 bk5
     have f6:=f5.alloc (.cells #[.int .u8 (x.space % 256)] 5)
     have g6:=(Fr.refl C0 W5).alloc (.cells #[.int .u8 (x.space % 256)] 5)
     have hb6:=heap_alloc_new W5 (.cells #[.int .u8 (x.space % 256)] 5)
     have hb6c:(W5.alloc (.cells #[.int .u8 (x.space % 256)] 5)).heap[W5.heap.size]?=some (.cells #[bv (UInt8.ofNat (x.space % 256).toNat)] 5 (0,0)):=by rw[hb6,zce]
     have bb6:BytesAt (fun _=>True) (W5.alloc (.cells #[.int .u8 (x.space % 256)] 5)) (.slice (some ⟨W5.heap.size,0,none⟩) 1 1) [UInt8.ofNat (x.space % 256).toNat]:=z0h.2 (Row.ofBlock (n:=1) (size:=1) hb6c trivial (by unfold maxLen;omega) rfl)
     have hkl2:(x.key.take 62).length≤62:=by rw[List.length_take];omega
     obtain⟨s1,s2,hs1,hs2,hadd⟩:∃s1 s2:ByteArray,(convert 40 9 (.slice (some ⟨W5.heap.size,0,none⟩) 1 1)).run Tryz.prog (W5.alloc (.cells #[.int .u8 (x.space % 256)] 5))=.ok (.string s1) (W5.alloc (.cells #[.int .u8 (x.space % 256)] 5))∧(convert 40 9 (.slice KA2 km2 kc2)).run Tryz.prog (W5.alloc (.cells #[.int .u8 (x.space % 256)] 5))=.ok (.string s2) (W5.alloc (.cells #[.int .u8 (x.space % 256)] 5))∧(Op.stringOp .add s1 s2).run Tryz.prog (W5.alloc (.cells #[.int .u8 (x.space % 256)] 5))=.ok (.string (kbS x)) (W5.alloc (.cells #[.int .u8 (x.space % 256)] 5)):=
      ⟨_, _, z23 bb6, z23 (bk5.fr0 g6), by
       have:=run_string_add_lists (P:=Tryz.prog) (W5.alloc (.cells #[.int .u8 (x.space % 256)] 5)) [UInt8.ofNat (x.space % 256).toNat] (x.key.take 62) (by simp) (by omega)
       exact this⟩
     have q06:=g6.cell0 (z1u hb5 0 rfl)
     have q16:=g6.cell0 (z1u hb5 1 rfl)
     have hsz5:W5.heap.size=w4.heap.size+1:=by rw[hW5];simp
     rw[hsz5] at hs1
     rw[hW5] at hs1 hs2 hadd q06 q16
     have HSZ5:=zhd hsz5
     clear hsz5
     have HB6:=zhd hb6
     have F6:=zhd f6
     clear hb5 bk5 f4 f5 hb6 hb6c bb6 bk4 g6 H4 HP hW5
     go_wp2_with fail
     rw[←HW5.out]
     generalize hW6:W5.alloc (.cells #[.int .u8 (x.space % 256)] 5)=W6 at *
     clear hs1 hs2 hadd q06 q16 hW6 q0
     obtain⟨wo,rfl⟩:∃wo:World,wo=wc:=⟨_,rfl⟩
     obtain⟨BK,ck,rfl,-⟩:=z0n HKR.out
     have HKW:=zhd ((Row.ofOwn HKR.out (F:=fun _=>True) (fun _ _=>trivial)).fr0 F6.out)
     go_loopw [12,13] (fun sn j wr=>∃m:Nat,m≤K.length∧sn=.bool ((K.take m).any fun y=>eqB (kbS y) (kbS x))∧j=.int .i64 (m:Int)∧W6=wr) (fun sn j _=>K.length-(intOf j).toNat)
     case atStart=>exact⟨0,Nat.zero_le _,rfl,rfl,rfl⟩
     case round=>
      obtain⟨m,hm,rfl,rfl,rfl⟩:=hrel
      by_cases hlm:m<K.length
      · obtain⟨g2,o2,rfl,-,hcell⟩:=HKW.out.cells (i:=m) (u:=.string (kbS K[m])) (by simp[hlm])
        have hc2:=hcell m (.string (kbS K[m])) (by simp[hlm])
        have HTK:Hid ((K.take (m+1)).any (fun y=>eqB (kbS y) (kbS x))=((K.take m).any (fun y=>eqB (kbS y) (kbS x)) || eqB (kbS K[m]) (kbS x))):=zhd (by rw[List.take_succ_eq_append_getElem hlm,List.any_append];simp)
        have HEQ:Hid (∀a b:ByteArray,(a.toList == b.toList)=eqB a b):=zhd (fun _ _=>rfl)
        clear hcell
        generalize K[m]=y at *
        cases hany:(K.take m).any fun y=>eqB (kbS y) (kbS x) with
        | true =>
          go_wp2_with fail
          go_roundw
          case rel=>exact⟨m+1,by omega,by rw[HTK.out,hany];rfl,by go_num,by first|rfl|trivial⟩
          case measure=>simp[intOf];omega
        | false =>
          go_wp2_with fail
          go_roundw
          case rel=>exact⟨m+1,by omega,by rw[HTK.out,hany];rfl,by go_num,by first|rfl|trivial⟩
          case measure=>simp[intOf];omega
      · obtain rfl:m=K.length:=by omega
        rw[List.take_length]
        cases hany:K.any fun y=>eqB (kbS y) (kbS x) with
        | true =>
          clear hany
          go_wp2_with fail
          go_roundw
          case rel=>exact⟨k+1,K,by omega,by omega,by go_num,HPW,zhd (by omega),zhd (HF.out.trans0 F6.out),zhd (z0l HKR.out F6.out (fun _ _ e=>e)),zhd (by
           obtain⟨ys,a,b⟩:=HLR.out
           exact⟨ys,z0l a F6.out (fun _ _ e=>e),zc3 F6.out (fun _ _ e=>e) b⟩)⟩
          case measure=>simp[intOf];omega
        | false =>
          have HNEW:Hid (∀y∈K,keyS y≠keyS x):=zhd (fun y hy=>by
           have:=(List.any_eq_false.1 hany) y hy
           rw[zc2] at this
           simpa using this)
          obtain⟨ys,hl,hc⟩:=HLR.out
          obtain⟨BL,cl,rfl,-⟩:=z0n hl
          have hnk:∀b,(Value.slice BK K.length ck).ownBlock=some b→w2.heap.size≤b∧b<wo.heap.size:=fun b e=>HKR.out.lt b e
          have hnl:∀b,(Value.slice BL K.length cl).ownBlock=some b→w2.heap.size≤b∧b<wo.heap.size:=fun b e=>hl.lt b e
          have hap:=zcd HKR.out hl
          have hs2:=F2.out.size
          have hs3:=HF.out.size
          have hs6:=F6.out.size
          have HNK:=zhd hnk
          have HNL:=zhd hnl
          have HAP:=zhd hap
          have HL6:=zhd (z0l hl F6.out (fun _ _ e=>e))
          have HC6:=zhd (zc3 F6.out (fun _ _ e=>e) hc)
          have HK6:=zhd (z0l HKR.out F6.out (fun _ _ e=>e))
          have FX:=zhd (HF.out.trans0 F6.out)
          have b0:=F6.out.cell0 a0
          have b1:=F6.out.cell0 a1
          have b2:=F6.out.cell0 a2
          have b3:=F6.out.cell0 a3
          have b4:=F6.out.cell0 a4
          have K6:=zhd (HK.out.fr0 F6.out)
          have V6:=zhd (HV.out.fr0 F6.out)
          have HFAR:Hid (∀b,b<w.heap.size→¬(Value.slice BK K.length ck).ownBlock=some b):=zhd (fun b hb e=>by have:=HNK.out b e;omega)
          have F7:=zhd ((Fr.refl C0 W6).alloc (.cells #[.string (kbS x)] 9))
          clear hl hc hany hnk hnl hap a0 a1 a2 a3 a4 HKW
          go_wp2_with (first|(at_builtin;(refine z0k zca rfl _ _ rfl (v:=.slice BK K.length ck) (xv:=.slice (some ⟨W6.heap.size,0,none⟩) 1 1) rfl rfl (B:=w2.heap.size) (z0l HK6.out ((Fr.refl C0 W6).alloc _) (fun _ _ h=>h)) (Row.ofBlock (F:=fun _=>True) (heap_alloc_new W6 _) trivial (by unfold maxLen;omega) rfl) (by simp[Value.oneCell']) (by unfold maxLen;omega) (by omega) (by have:=((Fr.refl C0 W6).alloc (.cells #[.string (kbS x)] 9)).size;omega) ?_);intro v8 w8 o8 f8 k8 nil8;have F8:=zhd ((F7.out.mono (C2:=fun b=>(Value.slice BK K.length ck).ownBlock=some b) (fun _ _ e=>e.elim)).trans f8 (fun _ _ e=>e));have e0:=F8.out.cell b0 (HFAR.out g hFg);have e1:=F8.out.cell b1 (HFAR.out g hFg);have e2:=F8.out.cell b2 (HFAR.out g hFg);have e3:=F8.out.cell b3 (HFAR.out g hFg);have e4:=F8.out.cell b4 (HFAR.out g hFg);clear b0 b1 b2 b3 b4;have K8:=zhd (K6.out.fr F8.out HFAR.out);have V8:=zhd (V6.out.fr F8.out HFAR.out);have HK8:=zhd o8;have HL8:=zhd (z0l HL6.out F8.out (fun b e e2=>HAP.out b e2 e));have HC8:=zhd (zc3 F8.out HFAR.out HC6.out);have FX8:=zhd (FX.out.trans F8.out (fun b hb e=>by have:=HNK.out b e;omega));have KN8:=zhd k8;have hs8:=F8.out.size;clear f8 o8 k8 nil8 K6 V6)|(at_builtin;go_must (refine z0k zc9 rfl _ _ rfl (v:=.slice BL K.length cl) (xv:=.slice (some ⟨w8.heap.size,0,none⟩) 1 1) rfl rfl (B:=w2.heap.size) (z0l HL8.out ((Fr.refl C0 w8).alloc _) (fun _ _ h=>h)) (Row.ofBlock (F:=fun _=>True) (heap_alloc_new w8 _) trivial (by unfold maxLen;omega) rfl) (by simp[Value.oneCell']) (by unfold maxLen;omega) (by omega) (by have:=((Fr.refl C0 w8).alloc (.cells #[.int .i64 x.kind,.int .i64 x.n,.int .i64 x.space,.slice KA x.key.length kc,.slice VA x.value.length vc] 45)).size;omega) ?_);intro v9 w9 o9 f9 k9 nil9))
          have F9:=zhd ((Fr.refl C0 w8).alloc (.cells #[.int .i64 x.kind,.int .i64 x.n,.int .i64 x.space,.slice KA x.key.length kc,.slice VA x.value.length vc] 45))
          have hfar9:∀b,b<w.heap.size→¬(Value.slice BL K.length cl).ownBlock=some b:=fun b hb e=>by have:=HNL.out b e;omega
          have F89:=zhd ((F9.out.mono (C2:=fun b=>(Value.slice BL K.length cl).ownBlock=some b) (fun _ _ e=>e.elim)).trans f9 (fun _ _ e=>e))
          have HC9:=zhd (zc4 (x:=x) (K8.out.fr F89.out hfar9) (V8.out.fr F89.out hfar9) (zc3 F89.out hfar9 HC8.out))
          have HK9:=zhd (z0l HK8.out F89.out (fun b e e2=>by
           rcases KN8.out b e with e3|e3
           · exact HAP.out b e3 e2
           · have h1:=HNL.out b e2
             have h2:=F7.out.size
             omega))
          have FX9:=zhd (FX8.out.trans F89.out (fun b hb e=>by have:=HNL.out b e;omega))
          have HO9:=zhd o9
          clear f9 o9 k9 nil9
          go_wp2_with fail
          go_roundw
          case rel=>exact⟨k+1,K++[x],by omega,by omega,by go_num,zhd (List.pairwise_append.2 ⟨HPW.out,List.pairwise_singleton _ _,fun a ha b hb=>by rw[List.mem_singleton] at hb;rw[hb];exact HNEW.out a ha⟩),zhd (by rw[List.length_append,List.length_singleton];omega),FX9,zhd (by rw[List.length_append,List.map_append];exact HK9.out),zhd ⟨_,by rw[List.length_append];exact HO9.out,HC9.out⟩⟩
          case measure=>simp[intOf];omega
   · have hb:(decide (k<l.length) && decide (k<25))=false:=by simpa using hgo
     rw[hb]
     clear hb
     clear hgo HA1
     obtain⟨ys,hl,hc⟩:=HLR.out
     obtain⟨BL,cl,rfl,hBL⟩:=z0n hl
     have TW:=zhd (TT2.out.fr0 HF.out)
     have ca0:=TT2.out.a.cl
     have cb0:=TT2.out.b.cl
     have hs2:=F2.out.size
     have hs3:=HF.out.size
     have HACT:Hid (ActsS (fun n=>n<wc.heap.size∧ca n≠7∧cb n≠7) wc (.slice BL K.length cl) K):=zhd (zc6 (Row.ofOwn hl (fun b e=>by
      have h:=hl.lt b e
      rw[ca0 b h.1,cb0 b h.1]
      exact⟨h.2,by decide,by decide⟩)) hc (fun n hn=>by
      have h:=ZA.out n hn
      rw[h.1,h.2]
      exact⟨by omega,by decide,by decide⟩))
     have hclK:K.length≤cl:=by
      obtain⟨A',c',e,h1,h2⟩:=HACT.out.form
      injection e with e1 e2 e3
      omega
     have HBL:=zhd hBL
     have FW:=zhd (F2.out.trans0 HF.out)
     have Z7:Hid (∀n,n<w.heap.size→¬(ca n=7∨cb n=7)):=zhd (fun n hn e=>by
      have h:=ZA.out n hn
      rw[h.1,h.2] at e
      rcases e with e|e<;>cases e)
     have hK25:K.length≤25:=by omega
     clear hl hc ca0 cb0 hBL HKR HLR TT2 F2 HF ZA hs2 hs3 HKL hkl hk hk25
     go_wp2_with fail
     refine(z9m (most:=25) TW.out.a (HACT.out.mono (fun b hb _=>⟨hb.1,hb.2.1⟩)) (by omega) (by simp)).mono ?_
     rintro e w3 ⟨rfl,H3⟩
     obtain⟨ca3,la3,ag3,f3,d3⟩:=H3.out
     rw[List.nil_append,List.take_of_length_le hK25] at d3
     obtain⟨cb3,agb3,t3⟩:=TW.out.step ag3 f3 d3
     have T3:Hid (∃ca' cb' lb,Ag wc.heap.size ca ca'∧Ag wc.heap.size cb cb'∧Fr (fun n=>ca n=7∨cb n=7) wc w3∧TwoD ca' cb' w3 ⟨dpa,spa,tpa,Za⟩ ⟨dpb,spb,tpb,Zb⟩ la3 lb (K.flatMap chg13) ((K.drop K.length).reverse.flatMap chg13)):=zhd ⟨ca3,cb3,_,ag3,agb3,f3.mono (fun _ _ e=>.inl e),by rw[List.drop_length];exact t3⟩
     clear H3 ag3 f3 d3 agb3 t3 TW
     go_wp2_with fail
     go_loopw [14] (fun i wr=>∃m:Nat,m≤K.length∧i=.int .i64 ((m:Int)-1)∧Hid (∃ca' cb' lb,Ag wc.heap.size ca ca'∧Ag wc.heap.size cb cb'∧Fr (fun n=>ca n=7∨cb n=7) wc wr∧TwoD ca' cb' wr ⟨dpa,spa,tpa,Za⟩ ⟨dpb,spb,tpb,Zb⟩ la3 lb (K.flatMap chg13) ((K.drop m).reverse.flatMap chg13))) (fun i _=>(intOf i+1).toNat)
     case atStart=>exact⟨K.length,Nat.le_refl _,by first|rfl|go_num,T3⟩
     case round=>
      obtain⟨m,hm,rfl,HT⟩:=hrel
      cases m with
      | zero =>
        obtain⟨ca4,cb4,lb4,aga4,agb4,f4,t4⟩:=HT.out
        have hU:=zcc HPW.out
        rw[List.drop_zero,zc0 z9f] at t4
        have hLl:=z9g K
        generalize K.flatMap chg13=LA at *
        have T4:=zhd t4
        have F4:=zhd (FW.out.trans f4 (fun n hn e=>Z7.out n hn e))
        have HU:=zhd hU
        have hLA:LA.length≤100:=by omega
        have hLB:LA.reverse.length≤100:=by rw[List.length_reverse];exact hLA
        clear aga4 agb4 f4 t4 HT hU hLl T3 HACT HPW
        go_wp2_with fail
        refine(zbx wr).mono ?_
        rintro e w5 ⟨rfl,f5⟩
        have T5:=zhd (T4.out.fr0 f5)
        have F5:=zhd (F4.out.trans0 f5)
        clear f5 T4 F4
        go_wp2_with fail
        refine(zbv T5.out.a (by omega)).mono ?_
        rintro e w6 ⟨ov6,rfl,H6⟩
        obtain⟨f6,M6,hp6,hs6,o6⟩:=H6.out
        have T6:=zhd (T5.out.fr0 f6)
        have F6:=zhd (F5.out.trans0 f6)
        have HP6:=zhd hp6
        have HS6:=zhd hs6
        have O6:=zhd o6.chgs
        obtain⟨A6,p6,rfl⟩:=o6.form
        clear f6 hp6 hs6 o6 H6 T5 F5
        go_wp2_with fail
        refine(zbv T6.out.b (by omega)).mono ?_
        rintro e w7 ⟨ov7,rfl,H7⟩
        obtain⟨f7,M7,hp7,hs7,o7⟩:=H7.out
        have hM:M6=M7:=z8e HS6.out hs7 (by
         have h1:=HP6.out
         have h2:=hp7
         rw[z8c HU.out] at h1
         rw[z8c (z88 HU.out)] at h2
         exact h1.trans ((List.reverse_perm LA).symm.trans h2.symm))
        subst hM
        have T7:=zhd (T6.out.fr0 f7)
        have F7:=zhd (F6.out.trans0 f7)
        have HS7:=zhd (zbz (O6.out.fr0 f7) o7.chgs)
        obtain⟨A7,p7,rfl⟩:=o7.form
        clear f7 hp7 hs7 o7 H7 T6 F6 HP6 HS6 O6
        go_wp2_with fail
        refine HS7.out.mono ?_
        rintro e w8 ⟨rfl,f8⟩
        have T8:=zhd (T7.out.fr0 f8)
        have F8:=zhd (F7.out.trans0 f8)
        clear f8 T7 F7 HS7
        go_wp2_with fail
        refine(zbg T8.out.a (by omega)).mono ?_
        rintro e w9 ⟨ov9,rfl,H9⟩
        obtain⟨f9,M9,m9,o9⟩:=H9.out
        have T9:=zhd (T8.out.fr0 f9)
        have F9:=zhd (F8.out.trans0 f9)
        have HM9:=zhd m9
        have O9:=zhd o9.pairs
        obtain⟨A9,p9,rfl⟩:=o9.form
        clear f9 m9 o9 H9 T8 F8
        go_wp2_with fail
        refine(zbg T9.out.b (by omega)).mono ?_
        rintro e w10 ⟨ov10,rfl,H10⟩
        obtain⟨f10,M10,m10,o10⟩:=H10.out
        have hM:M9=M10:=zbe (fun s=>(z89 HU.out).symm) HM9.out m10
        subst hM
        have T10:=zhd (T9.out.fr0 f10)
        have F10:=zhd (F9.out.trans0 f10)
        have HS10:=zhd (z9w (O9.out.fr0 f10) o10.pairs)
        obtain⟨A10,p10,rfl⟩:=o10.form
        clear f10 m10 o10 H10 T9 F9 HM9 O9
        go_wp2_with fail
        refine HS10.out.mono ?_
        rintro e w11 ⟨rfl,f11⟩
        have T11:=zhd (T10.out.fr0 f11)
        have F11:=zhd (F10.out.trans0 f11)
        clear f11 T10 F10 HS10
        go_wp2_with fail
        refine(z8y T11.out.a).mono ?_
        rintro e w12 ⟨rfl,rfl⟩
        go_wp2_with fail
        refine(z8y T11.out.b).mono ?_
        rintro e w12 ⟨rfl,rfl⟩
        rw[List.length_reverse]
        go_wp2_with fail
        go_ret
        exact⟨by simp,F11.out⟩
      | succ j =>
        rw[show(((j+1:Nat):Int)-1)=(j:Int) by omega]
        obtain⟨ca4,cb4,lb4,aga4,agb4,f4,t4⟩:=HT.out
        have hj:j<K.length:=by omega
        have ha4:=HACT.out.fr f4 (fun b hb e=>by rcases e with e|e;exact hb.2.1 e;exact hb.2.2 e)
        obtain⟨g,o,kv,vv,rfl,-,-⟩:=zc8 ha4 j hj
        obtain⟨g',e⟩:=HBL.out _ rfl
        injection e with e1 e2
        subst e1 e2
        have h1:=zc7 ha4 hj
        have h2:ActsS (fun b=>b<wr.heap.size∧cb4 b≠7) wr (.slice (some ⟨g,j*5,none⟩) 1 (cl-j)) [K[j]]:=h1.mono (fun b hb _=>⟨by have:=f4.size;omega,by rw[agb4 b hb.1];exact hb.2.2⟩)
        have hstep:((K.drop j).reverse.flatMap chg13)=((K.drop (j+1)).reverse.flatMap chg13)++chg13 K[j]:=by
         rw[←List.getElem_cons_drop hj,List.reverse_cons,List.flatMap_append]
         simp
        have hlen:((K.drop (j+1)).reverse.flatMap chg13).length≤90000:=by
         have:=z9g (K.drop (j+1)).reverse
         rw[List.length_reverse,List.length_drop] at this
         omega
        have HR:=zhd (z9m (most:=1) t4.b h2 (by omega) hlen)
        have HT4:=zhd t4
        have HA4:=zhd aga4
        have HB4:=zhd agb4
        have HF4:=zhd f4
        have HSTEP:=zhd hstep
        have hne:¬cl=j:=by omega
        have hjc:j+1≤cl:=by omega
        clear HT aga4 agb4 f4 t4 ha4 h1 h2 hstep hlen
        go_wp2_with fail
        refine HR.out.mono ?_
        rintro e w5 ⟨rfl,H5⟩
        obtain⟨cb5,lb5,agb5,f5,d5⟩:=H5.out
        rw[show([K[j]]:List Act13).take 1=[K[j]] from rfl,List.flatMap_cons,List.flatMap_nil,List.append_nil,←HSTEP.out] at d5
        obtain⟨ca5,aga5,t5⟩:=HT4.out.swap.step agb5 f5 d5
        have hsz:=HF4.out.size
        have HT5:Hid (∃ca' cb' lb,Ag wc.heap.size ca ca'∧Ag wc.heap.size cb cb'∧Fr (fun n=>ca n=7∨cb n=7) wc w5∧TwoD ca' cb' w5 ⟨dpa,spa,tpa,Za⟩ ⟨dpb,spb,tpb,Zb⟩ la3 lb (K.flatMap chg13) ((K.drop j).reverse.flatMap chg13)):=zhd ⟨ca5,cb5,lb5,fun b hb=>(aga5 b (by omega)).trans (HA4.out b hb),fun b hb=>(agb5 b (by omega)).trans (HB4.out b hb),HF4.out.trans f5 (fun n hn e=>.inr (by rw[←HB4.out n hn];exact e)),t5.swap⟩
        clear H5 agb5 f5 d5 aga5 t5
        go_wp2_with fail
        go_roundw
        case rel=>exact⟨j,by omega,rfl,HT5⟩
        case measure=>simp[intOf]
end
section
open Go.RowKit Go.H Go.ChangeShapes Go.WideShapes Go.ChangeAt Go.Deep
set_option maxRecDepth 100000 in
theorem zcg (os:Os) (started:os.Started) (H:Type) (enc:TypeId×Value→H) :
 ReturnsInHanded {} Tryz.checked os 4 .any (Rows.draftSameSpec.pre6 enc Tryz.prog Tryz.f4 Rows.draftSameRow.domain false) (Rows.draftSameSpec.post enc Tryz.prog Tryz.f4 false true false false):=by
 refine returnsInHanded_of_change (C:=Tryz.checked) z7u started (by kernel_rfl) Tryz.func4
  (ChangeSpec.witness6 (enc:=enc) (C:=Tryz.checked) false ⟨#[],#[.slice none 0 0],[]⟩ 8 (by kernel_rfl) (by kernel_rfl) (by kernel_rfl) (by kernel_rfl)) ?_
 intro W base args ds gs before hval0 hW hcnd _
 have hval:∀(j:Nat) t v,(Tryz.f4).params[j]?=some t→args[j]?=some v→Value.okWide Tryz.prog W .any base t v:=hval0
 have hW':=hW
 obtain⟨p,q,hA0,hV,rfl,hfz,hnd⟩:=hW
 have hA:DataW.TrodAll enc Tryz.prog W 0 (fun _=>true) true (Tryz.f4).params.toList args.toList ds p:=hA0
 rw[Tryz.params4] at hA hval
 obtain⟨v0,vs0,d0,ds0,p0,q0,hargs,rfl,rfl,h0,r0⟩:=trodAll_cons hA
 obtain⟨rfl,rfl,rfl⟩:=trodAll_nil r0
 obtain rfl:args=#[v0]:=by cases args;simp_all
 obtain⟨rfl,rfl⟩:=trodVars_none hV
 obtain⟨acts,hk⟩:=z9v (hval 0 22 v0 rfl rfl) h0
 refine(zcf hk).mono fun e W' ⟨he,hf⟩=>?_
 subst he
 exact⟨_,rfl,z01 z7v (by decide +kernel) rfl rfl Tryz.underlying4 hW' rfl hf⟩
theorem zch:Rows.draftSameRow.holds Tryz.pinned (OpenSpec.ofChange Rows.draftSameSpec):=
 OpenClaim.holds_of_wide 4 Tryz.f4 rfl rfl rfl rfl rfl rfl rfl ⟨rfl,rfl,rfl,rfl,rfl⟩ rfl rfl rfl rfl rfl (by kernel_rfl) Tryz.func4 (by kernel_rfl)
  (of_decide_eq_true (by kernel_rfl)) (by unfold Func.isWrapper;first|(rw[if_pos (by decide +kernel)];kernel_rfl)|(rw[if_neg (by decide +kernel)];exact⟨rfl,rfl⟩))
  (fun os started H enc _=>zcg os started H enc)
theorem draft_same:Rows.DraftSameSaid:=zch
end
end Go.Proofs.YtidalepbkljkpaaGreat
