import Derived.Test.YtcmicdcikechkaaGreatPlays36
import Derived.Test.YtcmicdcikechkaaGreatPlays46
import Derived.Test.YtcmicdcikechkaaGreatPlays35
import Derived.Test.YtcmicdcikechkaaGreatPlays16
import Derived.Test.YtcmicdcikechkaaGreatPlays38
import Derived.Test.YtcmicdcikechkaaGreatPlays37
import Derived.Test.YtcmicdcikechkaaGreatPlays05
set_option linter.all false
set_option autoImplicit true
set_option relaxedAutoImplicit true
namespace Go.Proofs.YtcmicdcikechkaaGreat
open Go.RowKit Go.H
set_option maxHeartbeats 2000000
set_option maxRecDepth 100000
section
theorem str3 (ha:BytesAt F w u a) (hb:BytesAt G w v b):∃x y:ByteArray,Hid (∀w_,Fr C0 w w_→(convert 30 9 u).run Tryz.prog w_=.ok (.string x) w_)∧Hid (∀w_,Fr C0 w w_→(convert 30 9 v).run Tryz.prog w_=.ok (.string y) w_)∧Hid ((x.toList == y.toList)=decide (a=b))∧Hid (Op.bytesLess x.toList y.toList=decide (bcmp a b<0)):=
 ⟨_,_,zhd fun w_ hf=>z2u (ha.fr0 hf),zhd fun w_ hf=>z2u (hb.fr0 hf),zhd (by rw[ByteArray.toList_eq,ByteArray.toList_eq];simp[z2z]),zhd (by rw[ByteArray.toList_eq,ByteArray.toList_eq,←zim])⟩
theorem zin (hl:PairsAt F w u l) (hk:BytesAt G w v key):
 Calls Tryz.prog 33 #[u,v] w fun e w'=>e=.returned (.tuple #[.int .i64 (atN key l:Int),.bool (atB key l)])∧Fr C0 w w':=by
 have HA:=zhd hl
 have HB:=zhd hk
 obtain⟨A,ca,rfl,ha1,ha2⟩:=hl.form
 obtain⟨B,cb,rfl,-⟩:=hk.form
 clear hl hk
 unfold maxLen at ha2
 go_enter Tryz.func33,Tryz.ntmps33
 go_wp2
 go_loopw [6] (fun i wr=>∃k:Nat,k≤l.length∧i=.int .i64 (k:Int)∧Fr C0 w wr∧Hid (atN key l=k+atN key (l.drop k)∧atB key l=atB key (l.drop k))) (fun i _=>l.length-(intOf i).toNat)
 case atStart=>exact⟨0,Nat.zero_le _,rfl,Fr.refl _ _,zhd ⟨by simp,by simp⟩⟩
 case round=>
  obtain⟨k,hk,rfl,hf,HI⟩:=hrel
  have HF:=zhd hf
  clear hf
  by_cases hlt:k<l.length
  · obtain⟨ga,oa,kva,vva,rfl,a0,a1,a2,a3,a4⟩:=(HA.out.fr0 HF.out).at_ k hlt
    obtain⟨x1,y1,sa3,sb3,E1,E2⟩:=str3 a3 (HB.out.fr0 HF.out)
    obtain⟨_,_,rfl,-⟩:=a3.form
    clear a3 a4
    by_cases hb:bcmp l[k].1 key<0
    · have e2:=E2.out;rw[decide_eq_true hb] at e2
      have HBL:=zhd hb
      clear hb
      go_wp2_with fail
      refine z1r (Fr C0 wr) [] (by kernel_rfl) ?_
      have hSw0:(Fr C0 wr) _:=(Fr.refl C0 wr).drew
      refine tk 0 hSw0 ?_
      refine tk 1 hSw0 ?_
      refine tk 2 hSw0 ?_
      refine tk 3 hSw0 ?_
      refine tk 4 hSw0 ?_ (hy:=by intro w_ hS_;have c0:=hS_.cell0 a0;have c1:=hS_.cell0 a1;have c2:=hS_.cell0 a2;first|(go_simp;done)|(go_simp;with_reducible rfl))
      refine tk 5 hSw0 ?_ (hy:=by intro w_ hS_;have k3:=sa3.out _ hS_;have l3:=sb3.out _ hS_;first|(go_simp;done)|(go_simp;with_reducible rfl))
      refine tk 6 hSw0 ?_
      refine tk 7 hSw0 ?_ (hy:=by intro w_ hS_;have k3:=sa3.out _ hS_;have l3:=sb3.out _ hS_;first|(go_simp;done)|(go_simp;with_reducible rfl))
      refine tk 8 hSw0 ?_
      refine z1q (by kernel_rfl) ?_ _
      go_wp2
      go_roundw
      case rel=>exact⟨k+1,by omega,by go_num,HF.out.drew,zhd ⟨zii hlt HI.out.1 HBL.out,zij hlt HI.out.2 HBL.out⟩⟩
      case measure=>simp[intOf];omega
    · have e2:=E2.out;rw[decide_eq_false hb] at e2
      have HBL:=zhd (zik hlt HI.out.1 HI.out.2 hb)
      clear hb
      go_wp2_with fail
      refine z1r (Fr C0 wr) [] (by kernel_rfl) ?_
      have hSw0:(Fr C0 wr) _:=(Fr.refl C0 wr).drew
      refine tk 0 hSw0 ?_
      refine tk 1 hSw0 ?_
      refine tk 2 hSw0 ?_
      refine tk 3 hSw0 ?_
      refine tk 4 hSw0 ?_ (hy:=by intro w_ hS_;have c0:=hS_.cell0 a0;have c1:=hS_.cell0 a1;have c2:=hS_.cell0 a2;first|(go_simp;done)|(go_simp;with_reducible rfl))
      refine tk 5 hSw0 ?_ (hy:=by intro w_ hS_;have k3:=sa3.out _ hS_;have l3:=sb3.out _ hS_;first|(go_simp;done)|(go_simp;with_reducible rfl))
      refine tk 6 hSw0 ?_
      refine tk 7 hSw0 ?_ (hy:=by intro w_ hS_;have k3:=sa3.out _ hS_;have l3:=sb3.out _ hS_;first|(go_simp;done)|(go_simp;with_reducible rfl))
      refine tk 8 hSw0 ?_
      refine z1q (by kernel_rfl) ?_ _
      go_wp2_with fail
      refine z1r (Fr C0 wr) [] (by kernel_rfl) ?_
      have hSw0:(Fr C0 wr) _:=(Fr.refl C0 wr).drew.drew
      refine tk 0 hSw0 ?_
      refine tk 1 hSw0 ?_
      refine tk 2 hSw0 ?_
      refine tk 3 hSw0 ?_
      refine tk 4 hSw0 ?_
      refine tk 5 hSw0 ?_ (hy:=by intro w_ hS_;have c0:=hS_.cell0 a0;have c1:=hS_.cell0 a1;have c2:=hS_.cell0 a2;first|(go_simp;done)|(go_simp;with_reducible rfl))
      refine tk 6 hSw0 ?_ (hy:=by intro w_ hS_;have k3:=sa3.out _ hS_;have l3:=sb3.out _ hS_;first|(go_simp;done)|(go_simp;with_reducible rfl))
      refine tk 7 hSw0 ?_
      refine tk 8 hSw0 ?_ (hy:=by intro w_ hS_;have k3:=sa3.out _ hS_;have l3:=sb3.out _ hS_;first|(go_simp;done)|(go_simp;with_reducible rfl))
      refine tk 9 hSw0 ?_
      refine tk 10 hSw0 ?_
      refine tk 11 hSw0 ?_
      refine z1q (by kernel_rfl) ?_ _
      go_wp2
      go_ret2
      refine⟨?_,HF.out.drew.drew⟩
      rw[HBL.out.1,HBL.out.2,E1.out]
      rfl
  · obtain rfl:k=l.length:=by omega
    have HE:=zhd (zil HI.out.1 HI.out.2)
    go_wp2
    go_ret2
    refine⟨?_,HF.out⟩
    rw[HE.out.1,HE.out.2]
    rfl
theorem PairCells.take_:∀{xs:List Value} {l:List KV} (n:Nat),PairCells F w xs l→PairCells F w (xs.take (n*3)) (l.take n)
 |_,_,n,.nil=>by simp;exact .nil
 |_,_,0,.cons h1 h2 h3=>by simp;exact .nil
 | _, _, n + 1, .cons h1 h2 h3 => by
   rw[show(n+1)*3=n*3+1+1+1 by omega]
   simp only[List.take_succ_cons]
   exact .cons h1 h2 (take_ n h3)
theorem PairCells.drop_:∀{xs:List Value} {l:List KV} (n:Nat),PairCells F w xs l→PairCells F w (xs.drop (n*3)) (l.drop n)
 |_,_,n,.nil=>by simp;exact .nil
 |_,_,0,.cons h1 h2 h3=>by simp;exact .cons h1 h2 h3
 | _, _, n + 1, .cons h1 h2 h3 => by
   rw[show(n+1)*3=n*3+1+1+1 by omega]
   simp only[List.drop_succ_cons]
   exact drop_ n h3
theorem zio {F:Nat→Prop} {w w2 w4 w5 w6:World} {v2 v3 v4 v5 v6:Value} {xs:List Value} {l:List KV} {x:KV} {N m i:Nat} (hc:PairCells F w xs l) (h2:w.heap.size≤w2.heap.size) (f4:Fr C0 w w4)
 (b3:BytesAt (fun b=>w2.heap.size≤b∧b<w4.heap.size) w4 v3 x.1) (b4:BytesAt (fun b=>w2.heap.size≤b∧b<w4.heap.size) w4 v4 x.2) (hv2:∀b,v2.ownBlock=some b→w.heap.size≤b∧b<w2.heap.size)
 (f5:Fr (fun b=>v2.ownBlock=some b) w4 w5) (k5:∀b,v5.ownBlock=some b→v2.ownBlock=some b∨w4.heap.size<b) (f6:Fr (fun b=>v5.ownBlock=some b) w5 w6) (o6:w6.ownsRow w.heap.size 119 3 v6 m (xs.take (N*3)++[.int .i64 0,v3,v4]++xs.drop (i*3)))
 (hm:m=(putL x l).length) (hp:putL x l=l.take N++x::l.drop i):Fr C0 w w6∧PairsAt (fun b=>F b∨w.heap.size≤b) w6 v6 (putL x l):=by
 have s5:=f5.size
 have s4:=f4.size
 have k6:∀b,v5.ownBlock=some b→w.heap.size≤b∧(b<w2.heap.size∨w4.heap.size<b):=fun b e=>by
  rcases k5 b e with e|e
  · exact⟨(hv2 b e).1,.inl (hv2 b e).2⟩
  · exact⟨by omega,.inr e⟩
 have F6:Fr C0 w w6:=(f4.trans f5 (fun b hb e=>by have:=(hv2 b e).1;omega)).trans f6 (fun b hb e=>by have:=(k6 b e).1;omega)
 refine⟨F6,xs.take (N*3)++[.int .i64 0,v3,v4]++xs.drop (i*3),by rw[←hm];exact Row.ofOwn o6 (fun b e=>.inr (o6.lt b e).1),?_⟩
 rw[hp,List.append_assoc]
 have old:PairCells (fun b=>F b∨w.heap.size≤b) w6 xs l:=(hc.fr F6 (fun _ _ k=>k)).mono (fun b h _=>.inl h)
 have nw:∀{v:Value} {y:Bs},BytesAt (fun b=>w2.heap.size≤b∧b<w4.heap.size) w4 v y→BytesAt (fun b=>F b∨w.heap.size≤b) w6 v y:=fun h=>
  ((h.fr f5 (fun b hb e=>by have:=(hv2 b e).2;omega)).fr f6 (fun b hb e=>by have:=(k6 b e).2;omega)).mono (fun b hb _=>.inr (by omega))
 exact(PairCells.append (.cons (nw b3) (nw b4) (PairCells.drop_ i old))) (PairCells.take_ N old)
theorem zip (hl:PairsAt F w lv l) (hk:BytesAt F w kv x.1) (hv:BytesAt F w vv x.2) (h1:x.1.length≤100000) (h2:x.2.length≤100000) (hb:l.length≤100000):
 Calls Tryz.prog 25 #[lv,kv,vv] w fun e w'=>∃A c,e=.returned (.slice A (putL x l).length c)∧Hid (Fr C0 w w'∧PairsAt (fun b=>F b∨w.heap.size≤b) w' (.slice A (putL x l).length c) (putL x l)):=by
 have HP:=zhd (zih x l)
 have HL:=zhd hl
 have HK:=zhd hk
 have HV:=zhd hv
 have HAT:=zhd (zin hl hk)
 obtain⟨A,ca,rfl,ha1,ha2⟩:=hl.form
 obtain⟨B,cb,rfl,-⟩:=hk.form
 obtain⟨D,cd,rfl,-⟩:=hv.form
 obtain⟨xs,hr,hc⟩:=hl
 have HR:=zhd (hr.mono (F':=fun b=>b<w.heap.size) (fun _ _ h=>h))
 have HC:=zhd hc
 have H1:=zhd (zfn hc)
 have hN:=zif x.1 l
 have HLT:=zhd (zig x.1 l)
 unfold maxLen at ha2
 have HA2:=zhd ha1
 clear hk hv hr hc
 generalize hn:atN x.1 l=N at *
 clear hn
 cases hbb:atB x.1 l
 · skip
   have hi:N≤l.length:=by first|exact hN|exact HLT.out hbb
   rw[hbb] at HP HAT
   have HPE:Hid (putL x l=l.take N++x::l.drop N):=zhd HP.out
   have HPL:Hid ((putL x l).length=N+1+(l.length-N)):=zhd (by rw[HPE.out];simp;omega)
   clear hbb HP HLT
   go_enter Tryz.func25,Tryz.ntmps25
   go_wp2_with fail
   refine HAT.out.mono ?_
   rintro e w1 ⟨rfl,f1⟩
   have F1:=zhd f1
   have hs1:=f1.size
   clear f1
   go_wp2_with (at_builtin;go_must (refine z0l z2o rfl _ _ rfl (v:=.slice none 0 0) (xv:=.slice A N ca) rfl rfl (B:=w.heap.size) (World.ownsRow_nil _ _ _ _) ((HR.out.take hN).fr0 F1.out) (z0p H1.out) (by unfold maxLen;omega) (by omega) (by omega) ?_);intro v2 w2 o2 f2 k2 nil2;rw[Nat.zero_add] at o2;obtain⟨A2,c2,rfl,-⟩:=z0o o2)
   have F2:Hid (Fr C0 w w2):=zhd (F1.out.trans f2 (fun b _ h=>by simp[Value.ownBlock] at h))
   have O2:=zhd o2
   have hs2:=F2.out.size
   clear o2 f2 k2 nil2
   refine(zez (HK.out.fr0 F2.out) h1).mono ?_
   rintro e w3 ⟨v3,rfl,f3,o3⟩
   have F3:=zhd (F2.out.trans0 f3)
   have O3:=zhd o3
   have O23:=zhd (z0m O2.out f3 (fun _ _ h=>h))
   obtain⟨A3,c3,rfl,-⟩:=z0o o3
   have hs3:=f3.size
   clear o3 f3
   go_wp2_with fail
   refine(zez (HV.out.fr0 F3.out) h2).mono ?_
   rintro e w4 ⟨v4,rfl,f4,o4⟩
   have F4:=zhd (F3.out.trans0 f4)
   have hs4:=f4.size
   have O24:=zhd (z0m O23.out f4 (fun _ _ h=>h))
   have B3:=zhd ((BytesAt.ofOwn O3.out (F:=fun b=>w2.heap.size≤b) (fun b e=>(O3.out.lt b e).1)).fr0 f4)
   have B4:=zhd (BytesAt.ofOwn o4 (F:=fun b=>w2.heap.size≤b) (fun b e=>by have:=(o4.lt b e).1;omega))
   obtain⟨A4,c4,rfl,-⟩:=z0o o4
   clear o4 f4
   go_wp2_with (at_builtin;first
    | (refine z0l z2o rfl _ _ rfl (v := .slice A2 N c2) (xv := .slice (some ⟨w4.heap.size, 0, none⟩) 1 1) rfl rfl (B := w.heap.size) (z0m O24.out ((Fr.refl C0 w4).alloc _) (fun _ _ h => h)) (Row.ofBlock (F := fun _ => True) (heap_alloc_new _ _) trivial (by unfold maxLen; omega) rfl) (by simp [Value.oneCell']) (by unfold maxLen; omega) (by omega) (Nat.le_trans (show w.heap.size ≤ w4.heap.size by omega) ((Fr.refl C0 w4).alloc _).size) ?_
       intro v5 w5 o5 f5 k5 nil5
       obtain⟨A5,c5,rfl,-⟩:=z0o o5
       have O5:=zhd o5
       have K5:=zhd k5
       have F5:=zhd (((Fr.refl (fun b=>(Value.slice A2 N c2).ownBlock=some b) w4).alloc (.cells #[.int .i64 0,.slice A3 x.1.length c3,.slice A4 x.2.length c4] 119)).trans f5 (fun b _ h=>h))
       have F05:=zhd (F4.out.transO F5.out (fun b e=>(O24.out.lt b e).1))
       have hs5:=F05.out.size
       clear o5 f5 k5 nil5)
    | (refine z0l z2o rfl _ _ rfl (v := .slice A5 (N + 1) c5) (xv := .slice (if ca = N then A else A.map (·.add (N * 3))) (l.length - N) (ca - N)) rfl rfl (B := w.heap.size) O5.out ((HR.out.drop hi).fr0 F05.out) (z0q H1.out) (by unfold maxLen; omega) (by omega) hs5 ?_
       intro v6 w6 o6 f6 k6 nil6
       obtain⟨A6,c6,rfl,-⟩:=z0o o6))
   all_goals
    have J:=zio HC.out hs2 F4.out (B3.out.mono (fun b h hl=>⟨h,hl⟩)) (B4.out.mono (fun b h hl=>⟨h,hl⟩)) (fun b e=>O2.out.lt b e) F5.out (fun b e=>(K5.out b e).imp id (fun h=>by simp at h;omega)) f6 o6 HPL.out.symm HPE.out
    rw[HPL.out]
    go_ret
    refine⟨A6,c6,?_,zhd J⟩
    first
     |rfl
     |(rw[show N+1+(l.length-(N+1))=l.length by omega];rfl)
 · skip
   have hi:(N+1)≤l.length:=by first|exact hN|exact HLT.out hbb
   rw[hbb] at HP HAT
   have HPE:Hid (putL x l=l.take N++x::l.drop (N+1)):=zhd HP.out
   have HPL:Hid ((putL x l).length=N+1+(l.length-(N+1))):=zhd (by rw[HPE.out];simp;omega)
   clear hbb HP HLT
   go_enter Tryz.func25,Tryz.ntmps25
   go_wp2_with fail
   refine HAT.out.mono ?_
   rintro e w1 ⟨rfl,f1⟩
   have F1:=zhd f1
   have hs1:=f1.size
   clear f1
   go_wp2_with (at_builtin;go_must (refine z0l z2o rfl _ _ rfl (v:=.slice none 0 0) (xv:=.slice A N ca) rfl rfl (B:=w.heap.size) (World.ownsRow_nil _ _ _ _) ((HR.out.take hN).fr0 F1.out) (z0p H1.out) (by unfold maxLen;omega) (by omega) (by omega) ?_);intro v2 w2 o2 f2 k2 nil2;rw[Nat.zero_add] at o2;obtain⟨A2,c2,rfl,-⟩:=z0o o2)
   have F2:Hid (Fr C0 w w2):=zhd (F1.out.trans f2 (fun b _ h=>by simp[Value.ownBlock] at h))
   have O2:=zhd o2
   have hs2:=F2.out.size
   clear o2 f2 k2 nil2
   refine(zez (HK.out.fr0 F2.out) h1).mono ?_
   rintro e w3 ⟨v3,rfl,f3,o3⟩
   have F3:=zhd (F2.out.trans0 f3)
   have O3:=zhd o3
   have O23:=zhd (z0m O2.out f3 (fun _ _ h=>h))
   obtain⟨A3,c3,rfl,-⟩:=z0o o3
   have hs3:=f3.size
   clear o3 f3
   go_wp2_with fail
   refine(zez (HV.out.fr0 F3.out) h2).mono ?_
   rintro e w4 ⟨v4,rfl,f4,o4⟩
   have F4:=zhd (F3.out.trans0 f4)
   have hs4:=f4.size
   have O24:=zhd (z0m O23.out f4 (fun _ _ h=>h))
   have B3:=zhd ((BytesAt.ofOwn O3.out (F:=fun b=>w2.heap.size≤b) (fun b e=>(O3.out.lt b e).1)).fr0 f4)
   have B4:=zhd (BytesAt.ofOwn o4 (F:=fun b=>w2.heap.size≤b) (fun b e=>by have:=(o4.lt b e).1;omega))
   obtain⟨A4,c4,rfl,-⟩:=z0o o4
   clear o4 f4
   go_wp2_with (at_builtin;first
    | (refine z0l z2o rfl _ _ rfl (v := .slice A2 N c2) (xv := .slice (some ⟨w4.heap.size, 0, none⟩) 1 1) rfl rfl (B := w.heap.size) (z0m O24.out ((Fr.refl C0 w4).alloc _) (fun _ _ h => h)) (Row.ofBlock (F := fun _ => True) (heap_alloc_new _ _) trivial (by unfold maxLen; omega) rfl) (by simp [Value.oneCell']) (by unfold maxLen; omega) (by omega) (Nat.le_trans (show w.heap.size ≤ w4.heap.size by omega) ((Fr.refl C0 w4).alloc _).size) ?_
       intro v5 w5 o5 f5 k5 nil5
       obtain⟨A5,c5,rfl,-⟩:=z0o o5
       have O5:=zhd o5
       have K5:=zhd k5
       have F5:=zhd (((Fr.refl (fun b=>(Value.slice A2 N c2).ownBlock=some b) w4).alloc (.cells #[.int .i64 0,.slice A3 x.1.length c3,.slice A4 x.2.length c4] 119)).trans f5 (fun b _ h=>h))
       have F05:=zhd (F4.out.transO F5.out (fun b e=>(O24.out.lt b e).1))
       have hs5:=F05.out.size
       clear o5 f5 k5 nil5)
    | (refine z0l z2o rfl _ _ rfl (v := .slice A5 (N + 1) c5) (xv := .slice (if ca = (N + 1) then A else A.map (·.add ((N + 1) * 3))) (l.length - (N + 1)) (ca - (N + 1))) rfl rfl (B := w.heap.size) O5.out ((HR.out.drop hi).fr0 F05.out) (z0q H1.out) (by unfold maxLen; omega) (by omega) hs5 ?_
       intro v6 w6 o6 f6 k6 nil6
       obtain⟨A6,c6,rfl,-⟩:=z0o o6))
   all_goals
    have J:=zio HC.out hs2 F4.out (B3.out.mono (fun b h hl=>⟨h,hl⟩)) (B4.out.mono (fun b h hl=>⟨h,hl⟩)) (fun b e=>O2.out.lt b e) F5.out (fun b e=>(K5.out b e).imp id (fun h=>by simp at h;omega)) f6 o6 HPL.out.symm HPE.out
    rw[HPL.out]
    go_ret
    refine⟨A6,c6,?_,zhd J⟩
    first
     |rfl
     |(rw[show N+1+(l.length-(N+1))=l.length by omega];rfl)
end
section
end
end Go.Proofs.YtcmicdcikechkaaGreat
namespace Go.H
section
theorem ziq (l:List KV):rangeL [] [] l=l:=List.filter_eq_self.2 fun x _=>by simp[inR]
end
section
def ordL (x:List UInt8) (l:List KV):List KV:=if x=[] then l else putL (x,x) l
def foldO (ks:List (List UInt8)):List KV:=ks.foldl (fun l x=>ordL x l) []
end
end Go.H
namespace Go.Proofs.YtcmicdcikechkaaGreat
open Go.RowKit Go.H
set_option maxRecDepth 100000
section
set_option maxHeartbeats 1000000
structure LooseIn (c:Nat→Nat) (r rn:Nat) (w:World) (d m:Nat) (ov:Value) (D:DSt) (X:Prop) (num:Nat) (o:Root):Prop where
 cl:Cl w c
 disk:DiskA (Dt c) w d m ov D
 od:c d=r
 om:c m=r
 oov:∀b,ov.ownBlock=some b→c b=r
 dm:d≠m
 ovm:∀b,ov.ownBlock=some b→b≠m
 opn:D.opn=[]
 ok:DOk D
 after:D.after<1
 b1:3≤D.blocks
 b2:D.blocks≤4096
 nle:num≤1000000
 head:HeadsOk D.read num (rootId o)
 root:RootAt c rn w (pgs D) D.blocks X o (wRoot o)
 page:rootPage o
 so:Sorted (rootL o)
 one:∀id,rcnt (.pg id) o≤1
 ln:(rootL o).length≤90000
theorem Rep.wpage {c:Nat→Nat} {rn:Nat} {w:World} {pg:Nat→Option Bs} {N:Nat} {X:Prop}:∀{d:Nat} {t:T} {v:Value},t.isPage→Rep c rn w pg N X d t v→v=wPage t.id
 |0,_,_,_,h=>h.elim
 |d+1,.node (.page i) l ks,v,_,h=>h.1
 |d+1,.node (.mem n g o) l ks,v,hp,_=>hp.elim
theorem RootAt.wroot {c:Nat→Nat} {rn:Nat} {w:World} {pg:Nat→Option Bs} {N:Nat} {X:Prop} {o:Root} {v:Value} (hp:rootPage o) (h:RootAt c rn w pg N X o v):RootAt c rn w pg N X o (wRoot o):=by
 cases o with
 |none=>exact rfl
 |some p=>exact⟨by have:=Rep.wpage hp h.1;subst this;exact h.1,h.2⟩
theorem TreeIn.loose {r rn rm:Nat} {tp st lm km sm d m:Nat} {k:Nat} (h:TreeIn c r rn rm w tp st lm km nr lr gv ov Z k sn) (haf:Z.D.after<1) (s:StoreIn c r w st sm d m ov' Z.S Z.D) (h1:1≤Z.S.pages) (h2:Z.S.pages≤4000):LooseIn c r rn w d m ov' Z.D False Z.S.num Z.last:=by
 have ha:=h.hd.alive
 refine⟨h.cl,s.disk,s.od,s.om,s.oov,s.d_m,s.ov_m,h.bk.opn,h.bk.ok,haf,by have:=ha.size;omega,by have:=ha.size;omega,h.bk.num,h.bk.head,RootAt.wroot h.bk.lp h.last,h.bk.lp,h.bk.sl,fun id=>?_,h.bk.bl⟩
 rw[h.bk.b2];split<;>omega
theorem zir {D D':DSt} (ho:D.opn=[]) (ho':D'.opn=[]) (hk:D'.kept=D.kept) (j:Nat):D'.read j=D.read j:=by
 unfold DSt.read DSt.good
 rw[ho,ho',hk]
theorem LooseIn.like {r rn:Nat} {d m:Nat} {num:Nat} (h:LooseIn c r rn w d m ov D X num o) (hd:DiskA (Dt c') w' d m ov' D') (hc:Cl w' c') (od:c' d=r) (om:c' m=r) (oov:∀b,ov'.ownBlock=some b→c' b=r) (ovm:∀b,ov'.ownBlock=some b→b≠m) (ho':D'.opn=[]) (hk:D'.kept=D.kept) (hb:D'.blocks=D.blocks) (haf:D'.after<1):LooseIn c' r rn w' d m ov' D' X num o:=by
 have hr:∀j,D'.read j=D.read j:=zir h.opn ho' hk
 have hp:pgs D'=pgs D:=by funext j;unfold pgs;rw[hr]
 have hg:∀j,D'.good j=D.good j:=fun j=>by unfold DSt.good;rw[hk]
 refine⟨hc,hd,od,om,oov,h.dm,ovm,ho',⟨fun j=>by rw[hg];exact h.ok.good j,by rw[ho'];simp⟩,haf,by rw[hb];exact h.b1,by rw[hb];exact h.b2,h.nle,?_,?_,h.page,h.so,h.one,h.ln⟩
 · exact zdi h.head (hr 0) (hr 1)
 · rw[hp,hb]
   exact RootAt.pageW h.page h.root
theorem LooseIn.open_ {r rn rm:Nat} {d m:Nat} {num:Nat} (h:LooseIn c r rn w d m ov D X num o) (ho:Owners r rn rm) (hdn:D.down=false):
 Calls Tryz.prog 28 #[.pointer (some ⟨d,0,none⟩)] w fun e w'=>Fr (fun b=>c b=r) w w'∧((X∧e=.returned (.tuple #[.pointer none,.int .i64 22]))∨∃tp c' Z,e=.returned (.tuple #[.pointer (some ⟨tp,0,none⟩),.int .i64 0])∧Ag w.heap.size c c'∧TreeAt c' r rn rm w' tp Z 0∧(Z.D=D∧Z.back=[])∧Z.now=o∧Z.last=o∧Z.S.num=num∧Z.S.pages=D.blocks-2∧Z.S.dk=d):=by
 have h0:=h.root
 have hp:=h.page
 have hhd:=h.head
 have hso:=h.so
 have hone:=h.one
 have hln:=h.ln
 have hbl:∀k,(D.read k).length=8192:=fun k=>by
  have h1:D.read k=D.good k:=by unfold DSt.read;rw[h.opn];rfl
  rw[h1];exact h.disk.good_length k
 cases o with
 | none =>
   refine(zep (rm:=rm) ho h.disk h.od h.om h.oov h.cl hdn h.b1 h.b2 hbl h.opn h.ok h.nle hhd).mono ?_
   rintro e w' ⟨f,tp,c',rfl,ag,-,t⟩
   exact⟨f.mono fun _ _ e=>e.elim,.inr ⟨tp,c',_,rfl,ag,t,⟨rfl,rfl⟩,rfl,rfl,rfl,rfl,rfl⟩⟩
 | some p =>
   obtain⟨dd,t⟩:=p
   refine(zgc (rm:=rm) ho h.disk h.od h.om h.oov h.cl hdn h.b1 h.b2 hbl h.opn h.ok h.nle hhd h0.1 h0.2 hp hso hone hln).mono ?_
   rintro e w' ⟨f,(⟨hx,rfl⟩|⟨tp,c',live,held,rfl,ag,-,hs,t⟩)⟩
   · exact⟨f,.inl ⟨hx,rfl⟩⟩
   · exact⟨f,.inr ⟨tp,c',_,rfl,ag,t,⟨rfl,rfl⟩,rfl,rfl,rfl,rfl,rfl⟩⟩
end
section
set_option maxHeartbeats 2000000
theorem TreeAt.moveC {r rn rm:Nat} {tp:Nat} {k:Nat} (h:TreeAt c r rn rm w tp Z k) (hf:Fr C w w') (ha:Ag w.heap.size c c') (hc:Cl w' c') (h0:∀b,C b→c' b≠0) (h1:∀b,C b→c' b≠r) (h2:∀b,C b→c' b≠rn) (h3:∀b,C b→c' b≠rm):TreeAt c' r rn rm w' tp Z k:=by
 obtain⟨st,lm,km,nr,lr,gv,ov,sn,h⟩:=h
 have hgo:∀b,gv.ownBlock=some b→c' b=r:=fun b hb=>(ha b (h.gr.lt b hb).2).trans (h.go b hb)
 have hoo:∀b,ov.ownBlock=some b→c' b=rm:=fun b hb=>(ha b (h.orow.lt b hb).2).trans (h.oo b hb)
 have hlm:c' lm=rm:=(ha _ h.live.lt).trans h.lmo
 have hkm:c' km=rm:=(ha _ h.kept.lt).trans h.kmo
 have hhd:=h.hd.ag ha
 exact⟨st,lm,km,nr,lr,gv,ov,sn,hhd.fr hf h1 h0,hc,hf.blk h.blk (fun e=>h1 _ e hhd.own),z0m h.gr hf (fun b hb e=>h1 b e (hgo b hb)),hgo,z0m h.orow hf (fun b hb e=>h3 b e (hoo b hb)),hoo,h.live.fr hf (fun e=>h3 _ e hlm),hlm,h.kept.fr hf (fun e=>h3 _ e hkm),hkm,h.lk,(h.now.ag ha).fr hf h2 h0,(h.last.ag ha).fr hf h2 h0,zdm h.sns h.bk.kp hf ha (fun b hb e h9=>h3 b e ((ha b hb).trans h9)) (fun b hb e h9=>h0 b e ((ha b hb).trans h9)),h.bk⟩
def OX (r r':Nat):Prop:=1≤r∧1≤r'∧(r+3≤r'∨r'+3≤r)
end
section
set_option maxHeartbeats 1000000
theorem zis {r rn rm:Nat} (ho:Owners r rn rm) (h:PairsAt (Dt c) w v L) (hf:Fr (fun b=>c b=r∨c b=rn∨c b=rm) w w') (ha:Ag w.heap.size c c'):PairsAt (Dt c') w' v L:=
 ((h.mono (F':=fun b=>c b=0∧b<w.heap.size) (fun b hb hl=>⟨hb,hl⟩)).fr hf (fun b hb e=>by rcases e with e|e|e;exact ho.r0 (e.symm.trans hb.1);exact ho.n0 (e.symm.trans hb.1);exact ho.m0 (e.symm.trans hb.1))).mono (fun b hb _=>(ha b hb.2).trans hb.1)
theorem zit (hc:Cl w c) (h:PairsAt (fun b=>Dt c b∨w.heap.size≤b) w' v L):PairsAt (Dt c) w' v L:=
 h.mono (fun b hb _=>hb.elim id (fun g=>hc b g))
theorem ziu {r:Nat} (h:1≤r):Owners r (r+1) (r+2):=⟨by omega,by omega,by omega,by omega,by omega,by omega⟩
theorem ziv:Owners 1 2 3:=ziu (by omega)
theorem no123':∀b:Nat,(fun _=>0:Nat→Nat) b≠1∧(fun _=>0:Nat→Nat) b≠2∧(fun _=>0:Nat→Nat) b≠3:=fun b=>by simp
structure FitsR (pn d N k:Nat) (Z:TSt):Prop where
 num:Z.S.num=N
 now:(rootL Z.now).length≤k
 last:(rootL Z.last).length≤k
 pages:Z.S.pages=pn
 dk:Z.S.dk=d
 nk:N≤k
 af:Z.D.after<1
 bk:Z.back=[]
structure At1 (w0:World) (pn r d tp:Nat) (La Ll:List KV) (N k:Nat) (c:Nat→Nat) (w:World):Prop where
 ex:∃Z,Stg (fun _=>0) w0 r (r+1) (r+2) c w tp Z 0∧rootL Z.now=La∧rootL Z.last=Ll∧FitsR pn d N k Z
abbrev OwnR (r:Nat) (c:Nat→Nat):Nat→Prop:=fun b=>c b=r∨c b=r+1∨c b=r+2
variable {w0 w w' : World} {pn r d tp N k : Nat} {La Ll : List KV} {c c' : Nat → Nat}
theorem ziw {n:Nat} (hr:1≤r) (h1:3≤n) (h2:n≤4096) (hf:Fr C0 w0 w) (ha:Ag w0.heap.size (fun _=>0) c) (hc:Cl w c) :
 Calls Tryz.prog 8 #[.int .i64 (n:Int)] w fun e w'=>∃tp,e=.returned (.tuple #[.pointer (some ⟨w.heap.size+1,0,none⟩),.pointer (some ⟨tp,0,none⟩)])∧Hid (Fr C0 w w'∧∃c',Ag w.heap.size c c'∧At1 w0 (n-2) r (w.heap.size+1) tp [] [] 0 0 c' w'):=by
 refine(zfh (ziu hr) hc h1 h2).mono ?_
 rintro e w' ⟨tp,rfl,f,c',ag,t⟩
 have hs:=hf.size
 exact⟨tp,rfl,zhd ⟨f,c',ag,_,⟨hf.trans0 f,fun b hb=>(ag b (by omega)).trans (ha b hb),t⟩,rfl,rfl,rfl,Nat.le_refl _,Nat.le_refl _,rfl,rfl,Nat.le_refl _,by show(0:Int)<1;omega,rfl⟩⟩
structure Off1 (w0:World) (pn r d:Nat) (X:Prop) (dn:Bool) (Ll:List KV) (N k:Nat) (c:Nat→Nat) (w:World):Prop where
 fr:Fr C0 w0 w
 ag:Ag w0.heap.size (fun _=>0) c
 ex:∃m ov D o,LooseIn c r (r+1) w d m ov D X N o∧D.down=dn∧D.blocks=pn+2∧rootL o=Ll∧N≤k∧Ll.length≤k
end
section
set_option maxHeartbeats 2000000
theorem zix {r:Nat} {tp st sm d m:Nat} (hs:StoreIn c r w st sm d m ov S D) (c0:w.cell? ⟨tp,0,none⟩=some (.pointer (some ⟨st,0,none⟩))) (hd:D.down=true):
 Calls Tryz.prog 45 #[.pointer (some ⟨tp,0,none⟩)] w fun e w'=>e=.returned (.bool true)∧w'=w.drew:=by
 have H:=zhd (z4w hs)
 rw[hd,Bool.true_or] at H
 clear hs
 go_enter Tryz.func45,Tryz.ntmps45
 go_wp2_with fail
 refine H.out.mono ?_
 rintro e w1 ⟨rfl,rfl⟩
 go_wp2
 go_ret
 exact⟨rfl,rfl⟩
theorem ziy {tp A n cp B m cq:Nat} (HD:Hid (Calls Tryz.prog 45 #[.pointer (some ⟨tp,0,none⟩)] w fun e w'=>e=.returned (.bool true)∧w'=w.drew)):
 Calls Tryz.prog 40 #[.pointer (some ⟨tp,0,none⟩),u,v] w fun e w'=>e=.returned (.int .i64 20)∧w'=w.drew:=by
 go_enter Tryz.func40,Tryz.ntmps40
 go_wp2_with fail
 refine HD.out.mono ?_
 rintro e w1 ⟨rfl,rfl⟩
 go_wp2
 go_ret
 exact⟨rfl,rfl⟩
theorem ziz {r:Nat} {tp st sm d m:Nat} (hs:StoreIn c r w st sm d m ov S D) (c0:w.cell? ⟨tp,0,none⟩=some (.pointer (some ⟨st,0,none⟩))) (hd:D.down=true):
 Calls Tryz.prog 13 #[.pointer (some ⟨tp,0,none⟩),u] w fun e w'=>e=.returned (.tuple #[.slice none 0 0,.bool false,.int .i64 20])∧Fr C0 w w':=by
 have F0:=zhd ((Fr.refl C0 w).alloc (.cells #[.int .i64 0] 28))
 have HM:=zhd (fun (w_:World) (hf:Fr C0 w w_)=>ziy (A:=0) (n:=0) (cp:=0) (B:=0) (m:=0) (cq:=0) (u:=u) (v:=.slice none 0 0) (zhd (zix (hs.fr0 hf) (hf.cell0 c0) hd)))
 clear hs c0
 go_enter_defers Tryz.func13,Tryz.ntmps13
 go_wp2_with fail
 refine(HM.out _ F0.out).mono ?_
 rintro e w1 ⟨rfl,rfl⟩
 have e0:=z2g (heap_alloc_new w (.cells #[.int .i64 0] 28)) 0 rfl
 have ze:=z2e 0 (heap_alloc_new w (.cells #[.int .i64 0] 28))
 go_wp2_with fail
 simp[bodyPostD,Leaves,settle,results,Tryz.results13,go_sem]
 exact((Fr.refl C0 w).alloc _).drew
theorem zj0 {d m:Nat} (h:DiskA F w d m ov s) (hdm:d≠m) (hdF:¬F d) (hov:∀b,ov.ownBlock=some b→b≠d):
 Calls Tryz.prog 27 #[.pointer (some ⟨d,0,none⟩)] w fun e w'=>e=.returned (.tuple #[])∧DiskA F w' d m ov { s with down:=false }∧Fr (fun b=>b=d) w w':=by
 have HD:=zhd h
 have z:=z2e 3 h.blk
 have c3:=z2g h.blk 3 rfl
 clear h
 go_enter Tryz.func27,Tryz.ntmps27
 go_wp2
 go_end0
 have FS:Fr (fun b=>b=d) w (w.setCell ⟨d,3,none⟩ (.bool false)):=(Fr.refl (fun b=>b=d) w).setCell (.inr rfl) _
 have hb:=z2f (i:=3) HD.out.blk (.bool false)
 refine⟨rfl,⟨hb,HD.out.kept.fr FS (fun h=>hdm h.symm) (fun b hb h=>hdF (h▸hb)),?_,HD.out.small⟩,FS⟩
 obtain⟨xs,o1,o2⟩:=HD.out.opn
 exact⟨xs,z0m o1 FS hov,o2.fr FS (fun b hb h=>hdF (h▸hb))⟩
theorem zj1 (h:D.opn=[]):cutF D f={ D with opn:=[],after:=0,keep:=0,torn:=0,cut:=0,down:=true,life:=wrap64 (D.life+1) }:=by
 unfold cutF
 rw[h];rfl
structure FitsQ (pn d N k:Nat) (Z:TSt):Prop where
 num:Z.S.num=N
 last:(rootL Z.last).length≤k
 pages:Z.S.pages=pn
 dk:Z.S.dk=d
 nk:N≤k
 af:Z.D.after<1
theorem zj2 {pn r d tp N k j:Nat} {a kp tn ct:Int} (hr1:1≤r) (g:Stg (fun _=>0) w0 r (r+1) (r+2) c w tp Z j) (i:FitsQ pn d N k Z) (h1:1≤pn) (h2:pn≤4000):
 Calls Tryz.prog 19 #[.pointer (some ⟨d,0,none⟩),.pointer (some ⟨tp,0,none⟩),.agg #[.int .i64 a,.int .u64 kp,.int .i64 tn,.int .i64 ct]] w fun e w'=>∃tp',e=.returned (.pointer (some ⟨tp',0,none⟩))∧Hid (∃c',At1 w0 pn r d tp' (rootL Z.last) (rootL Z.last) N k c' w'∧Fr (OwnR r c) w w'∧Ag w.heap.size c c'):=by
 have G:=zhd g
 have I:=zhd i
 obtain⟨st,lm,km,nr,lr,gv,ov,sn,t⟩:=g.tr
 obtain⟨sm,d',m,ov',s⟩:=t.hd.store
 have hd:=s.dk.trans i.dk
 subst hd
 have L:=zhd (t.loose i.af s (by rw[i.pages];exact h1) (by rw[i.pages];exact h2))
 have S:=zhd s
 have hopn:=t.bk.opn
 have hdown:=t.hd.alive.down
 have halive:=t.hd.alive.size
 have hcl:=t.cl
 have c0:=t.hd.cell
 have htd:tp≠d':=fun e=>by have h1:=t.blk;rw[e,s.disk.blk] at h1;simp[TreeCells] at h1
 have htm:tp≠m:=fun e=>by have h1:=t.blk;obtain⟨M,⟨es,k,h2,_⟩,_⟩:=s.disk.kept;rw[e,h2] at h1;simp at h1
 have hsd:st≠d':=s.st_d
 have hstm:st≠m:=s.st_m
 have hr0:r≠0:=by omega
 have F0:=zhd ((Fr.refl C0 w).alloc (.cells #[.int .i64 a,.int .u64 kp,.int .i64 tn,.int .i64 ct] 41))
 have HCUT:=zhd (fun (w_:World) (hf:Fr C0 w w_)=>z3l (a:=a) (kp:=kp) (tn:=tn) (ct:=ct) (s.disk.fr0 hf) hdown (fun b hb=>hcl b (by have:=hf.size;omega)) (fun e=>hr0 (s.om.symm.trans e)) (fun e=>hr0 (s.od.symm.trans e)) s.d_m s.ov_m s.ov_d)
 have C0':=zhd c0
 have HCL:=zhd hcl
 clear t s i g c0 hcl
 go_enter Tryz.func19,Tryz.ntmps19
 go_wp2_with fail
 refine(HCUT.out _ F0.out).mono ?_
 rintro e w1 ⟨rfl,H1⟩
 obtain⟨f,-,d1,f1⟩:=H1.out
 rw[zj1 hopn] at d1
 have F1:=zhd ((F0.out.mono (C2:=fun b=>b=m∨b=d') (fun _ _ h=>h.elim)).trans f1 (fun _ _ h=>h))
 have CL1:=zhd (HCL.out.mono F1.out.size)
 have L1:=zhd (L.out.like d1 CL1.out S.out.od S.out.om (fun b e=>by simp[Value.ownBlock] at e) (fun b e=>by simp[Value.ownBlock] at e) rfl rfl rfl (by show(0:Int)<1;omega))
 have S1:Hid (StoreIn c r w1 st sm d' m (.slice none 0 0) Z.S _):=zhd ⟨F1.out.blk S.out.blk (fun e=>by rcases e with e|e;exact hstm e;exact hsd e),S.out.map.fr F1.out (fun e=>by rcases e with e|e;exact S.out.ne e;exact S.out.d_sm e.symm),d1,S.out.ost,S.out.osm,S.out.od,S.out.om,fun b e=>by simp[Value.ownBlock] at e,S.out.ne,S.out.dk⟩
 have c1:=F1.out.cell C0'.out (fun e=>by rcases e with e|e;exact htm e;exact htd e)
 have HGET:=zhd (fun (w_:World) (u:Value) (hf:Fr C0 w1 w_)=>ziz (u:=u) (S1.out.fr0 hf) (hf.cell0 c1) rfl)
 have HDD:=zhd (fun (w_:World) (hf:Fr C0 w1 w_)=>zix (S1.out.fr0 hf) (hf.cell0 c1) rfl)
 have HRS:=zhd (fun (w_:World) (hf:Fr C0 w1 w_)=>zj0 (d1.fr0 hf) L.out.dm (fun e=>hr0 (S.out.od.symm.trans e)) (fun b e=>by simp[Value.ownBlock] at e))
 have hcv:=Go.Joins.run_convert_bytes_const_at (P:=Tryz.prog) w1 30 5 #[.int .u8 107] 1 1 w1.heap.size rfl Tryz.underlying30 Tryz.underlying5
 clear H1 d1 f1 c1 HCUT S1
 go_wp2_with fail
 refine(HGET.out _ _ ((Fr.refl C0 w1).alloc _)).mono ?_
 rintro e w2 ⟨rfl,f2⟩
 have F2:=zhd (((Fr.refl C0 w1).alloc (.cells #[.int .u8 107] 5 (1,2))).trans0 f2)
 clear f2 HGET hcv
 go_wp2_with fail
 refine(HDD.out _ F2.out).mono ?_
 rintro e w3 ⟨rfl,rfl⟩
 have F3:=zhd F2.out.drew
 clear F2 HDD
 go_wp2_with fail
 refine(HRS.out _ F3.out).mono ?_
 rintro e w4 ⟨rfl,d4,f4⟩
 have L4:=zhd (L1.out.like d4 ((CL1.out.mono F3.out.size).mono f4.size) S.out.od S.out.om (fun b e=>by simp[Value.ownBlock] at e) (fun b e=>by simp[Value.ownBlock] at e) rfl rfl rfl (by show(0:Int)<1;omega))
 have HOP:=zhd (L4.out.open_ (ziu hr1) rfl)
 have F4:=zhd (((F1.out.trans F3.out (fun _ _ h=>h.elim)).trans f4 (fun b _ e=>.inr e)).mono (C2:=OwnR r c) (fun b _ e=>by rcases e with e|e;exact .inl (by rw[e];exact S.out.om);exact .inl (by rw[e];exact S.out.od)))
 clear d4 f4 HRS L1 F1 F3 CL1
 go_wp2_with fail
 refine HOP.out.mono ?_
 rintro e w5 ⟨f5,(⟨hx,_⟩|⟨tp',c5,Z5,rfl,ag5,t5,e1,e2,e3,e4,e5,e6⟩)⟩
 · exact hx.elim
 have F5:=zhd (F4.out.trans f5 (fun b _ e=>.inl e))
 have hag:Ag w.heap.size c c5:=fun b hb=>ag5 b (by have:=F4.out.size;omega)
 have HEND:Hid (∃c',At1 w0 pn r d' tp' (rootL Z.last) (rootL Z.last) N k c' w5∧Fr (OwnR r c) w w5∧Ag w.heap.size c c'):=zhd ⟨c5,⟨Z5,⟨G.out.fr.trans F5.out (fun b hb e=>?_),fun b hb=>(hag b (by have:=G.out.fr.size;omega)).trans (G.out.ag b hb),t5⟩,by rw[e2],by rw[e3],⟨e4.trans I.out.num,by rw[e2];exact I.out.last,by rw[e3];exact I.out.last,?_,e6,I.out.nk,by rw[e1.1];show(0:Int)<1;omega,e1.2⟩⟩,F5.out,hag⟩
 · clear f5 ag5 t5 e1 e2 e3 e4 e5 e6 HOP L4 F4 hag
   go_wp2
   go_ret
   exact⟨tp',rfl,HEND⟩
 · have h1:c b=0:=G.out.ag b hb
   have e':c b=r∨c b=r+1∨c b=r+2:=e
   omega
 · rw[e5]
   have h1:=I.out.pages
   have h2:=halive
   show Z.D.blocks-2=pn
   omega
end
end Go.Proofs.YtcmicdcikechkaaGreat
